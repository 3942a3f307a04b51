/- Blocks that stay; where what is appended lies. -/
import Derived.Test.YtdgimcmappmjdaaGreatDoorRRowM
set_option linter.unusedSimpArgs false
set_option linter.unusedVariables false
set_option maxRecDepth 100000
namespace Go.Proofs.YtdgimcmappmjdaaGreatDoor
open Go.RowKit Go.Num Go.Flow
set_option maxHeartbeats 4000000

/-- Blocks that stay. -/
def Keep (P : Nat → Prop) (w w' : World) : Prop := w.heap.size ≤ w'.heap.size ∧ ∀ b, P b → b < w.heap.size → w'.heap[b]? = w.heap[b]?
theorem Keep.of_below {P : Nat → Prop} {w w' : World} (h : Below w.heap.size w w') : Keep P w w' := ⟨h.size, fun b _ hl => h.block b hl⟩
theorem Keep.of_but {b : Nat} {w w' : World} (h : But b w w') : Keep (fun g => g ≠ b) w w' := ⟨h.size, fun g hg hl => h.block g hg hl⟩
theorem Keep.of_grown {r : Option Nat} {w w' : World} (h : w.grownBy w' r) : Keep (fun g => r ≠ some g) w w' := ⟨h.size, fun g hg hl => h.block g hl fun e => hg e.symm⟩
theorem cell_keep {w w' : World} {g o : Nat} {u : Value} (h : w'.heap[g]? = w.heap[g]?) (hc : w.cell? ⟨g, o, none⟩ = some u) : w'.cell? ⟨g, o, none⟩ = some u := (World.cell?_of_block (a := ⟨g, o, none⟩) h).trans hc
/-- What is appended lies in the old row, or in a new block. -/
theorem run_append_at {P : Program} {w : World} (base : Nat) (t ty e : TypeId) (i : TypeInfo) (z : Value) (size bytes : Nat) (ht : P.underlying t = some (.slice e)) (hi : P.info? e = some i) (hz : i.zero = some z)
  (hsize : i.size = size) (hby : i.bytes = bytes) (hzs : z.cells.size = size) (hsz : 0 < size)
  (v : Value) (n : Nat) (xs : List Value) (hown : w.ownsRow base e size v n xs)
  (a : Addr) (m c : Nat) (news : List Value) (hl : news.length = m * size) (hnews : ∀ j u, news[j]? = some u → w.cell? (a.add j) = some u) (h1 : ∀ u ∈ news, u.oneCell' = true)
  (hm : 0 < m) (h63 : n + m ≤ maxLen) (hbytes : (n + m) * bytes ≤ 140737488355328) (hbase : base ≤ w.heap.size) :
  ∃ v' w', (Builtin.append_ #[t, t] ty #[v, .slice (some a) m c]).run P w = .ok v' w' ∧ w'.ownsRow base e size v' (n + m) (xs ++ news) ∧ w.grownBy w' v.ownBlock ∧ (v'.ownBlock = v.ownBlock ∨ v'.ownBlock = some w.heap.size) := by
 obtain ⟨v', w', hr, h2, h3, -⟩ := run_append_own (P := P) (w := w) base t ty e i z size bytes ht hi hz hsize hby hzs hsz v n xs hown a m c news hl hnews h1 h63 hbytes hbase
 refine ⟨v', w', hr, h2, h3, ?_⟩
 subst hsize
 subst hby
 have hsmall : n + m ≤ 9223372036854775807 := by simp only [maxLen] at h63; omega
 have hxs := hown.1
 rcases hown.2 with ⟨rfl, rfl⟩ | ⟨g, cap, cur, rfl, hbg, hg, hnc, hcm, hcs, htake⟩
 ·have hr2 := run_append_nil (P := P) w t ty e i z ht hi hz a m c news hl hnews hm (by omega) (by have hb := hbytes; simp only [Nat.zero_add] at hb; omega)
  rw [hr2] at hr
  simp only [Result.ok.injEq] at hr
  obtain ⟨rfl, rfl⟩ := hr
  exact .inr rfl
 ·by_cases hroom : n + m ≤ cap
  ·have hfit : n * i.size + news.length ≤ cur.size := by rw [hl, hcs, ← Nat.add_mul]; exact Nat.mul_le_mul_right _ hroom
   have hr2 := run_append_room (P := P) w t ty e i ht hi g n cap cur hg a m c news hl hnews h1 hroom hfit
   rw [hr2] at hr
   simp only [Result.ok.injEq] at hr
   obtain ⟨rfl, rfl⟩ := hr
   exact .inl rfl
  ·have holds : ∀ j u, xs[j]? = some u → w.cell? ((⟨g, 0, none⟩ : Addr).add j) = some u := hown.cells (g := g) rfl
   have hr2 := run_append_grow (P := P) w t ty e i z ht hi hz ⟨g, 0, none⟩ n cap xs hxs holds a m c news hl hnews (by omega) (by omega) (growslice_fits (by omega) hbytes)
   rw [hr2] at hr
   simp only [Result.ok.injEq] at hr
   obtain ⟨rfl, rfl⟩ := hr
   exact .inr rfl
theorem row_keep {w w' : World} {B : Nat} {t : TypeId} {k n : Nat} {v : Value} {l : List Value} (h : w.ownsRow B t k v n l) (hk : Keep (fun b => v.ownBlock = some b) w w') : w'.ownsRow B t k v n l := by
 refine ⟨h.1, ?_⟩
 rcases h.2 with h1 | ⟨g, cap, cur, h1, h2, h3, h4⟩
 ·exact .inl h1
 ·exact .inr ⟨g, cap, cur, h1, h2, (hk.2 g (by rw [h1]; rfl) (ZL h3)).trans h3, h4⟩
end Go.Proofs.YtdgimcmappmjdaaGreatDoor
