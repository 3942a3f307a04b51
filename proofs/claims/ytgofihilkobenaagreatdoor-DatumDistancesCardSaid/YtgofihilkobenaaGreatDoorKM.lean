/- Worlds in which all cells stay as they are, though maps may turn. -/
import Derived.Test.YtgofihilkobenaaGreatDoorKH
import Derived.Test.YtgofihilkobenaaGreatDoorFlow2M
import Derived.Test.YtgofihilkobenaaGreatDoorKI
import Derived.Test.YtgofihilkobenaaGreatDoorKK
import Derived.Deep.CutRange
set_option maxRecDepth 100000
namespace Go.Proofs.YtgofihilkobenaaGreatDoor
open Go.RowKit Go.Num Go.Flow Go.Maps Go.WideMaps
set_option maxHeartbeats 4000000

structure Stays (w w' : World) : Prop where
 size : w.heap.size ≤ w'.heap.size
 block : ∀ (k : Nat) (cs : Array Value) (t : TypeId) (r : Nat × Nat), w.heap[k]? = some (Obj.cells cs t r) → w'.heap[k]? = some (Obj.cells cs t r)
theorem Stays.refl (w : World) : Stays w w := ⟨Nat.le_refl _, fun _ _ _ _ h => h⟩
theorem Stays.trans {a b c : World} (h : Stays a b) (k : Stays b c) : Stays a c := ⟨Nat.le_trans h.size k.size, fun i cs t r e => k.block i cs t r (h.block i cs t r e)⟩
theorem Stays.of_below {w w' : World} (h : Below w.heap.size w w') : Stays w w' := ⟨h.size, fun k cs t r e => (h.block k (by
 rcases Nat.lt_or_ge k w.heap.size with h1 | h1
 ·exact h1
 ·rw [Array.getElem?_eq_none h1] at e; cases e)).trans e⟩
theorem Stays.of_map {w w' : World} {b : Nat} {es : Array MapEntry} {clock : Nat} (hm : w.heap[b]? = some (.map es clock)) (h : w.grownBy w' (some b)) : Stays w w' := ⟨h.size, fun k cs t r e => by
 have hlt : k < w.heap.size := by
  rcases Nat.lt_or_ge k w.heap.size with h1 | h1
  ·exact h1
  ·rw [Array.getElem?_eq_none h1] at e; cases e
 refine (h.block k hlt fun e2 => ?_).trans e
 have e3 : k = b := Option.some.inj e2
 rw [e3, hm] at e
 cases e⟩
theorem Stays.cell {w w' : World} (h : Stays w w') {p : Addr} {v : Value} (hc : w.cell? p = some v) : w'.cell? p = some v := by
 cases hb : w.heap[p.block]? with
 | none => unfold World.cell? at hc; rw [hb] at hc; cases hc
 | some o =>
  cases o with
  | cells cs t r =>
   have h1 := h.block _ _ _ _ hb
   unfold World.cell? at *
   rw [hb] at hc
   rw [h1]
   exact hc
  | _ => unfold World.cell? at hc; rw [hb] at hc; cases hc
theorem MagIn.stays {w w' : World} {v : Value} {l : List Nat} (h : MagIn w v l) (hs : Stays w w') : MagIn w' v l := by
 obtain ⟨ao, c, e, h1, h2, h3, h4⟩ := h
 refine ⟨ao, c, e, h1, h2, h3, fun h0 => ?_⟩
 obtain ⟨b, off, e2, hlt, hc⟩ := h4 h0
 exact ⟨b, off, e2, Nat.lt_of_lt_of_le hlt hs.size, fun j hj => hs.cell (hc j hj)⟩
theorem IntIn.stays {w w' : World} {v : Value} {z : Int} {k : Nat} (h : IntIn w v z k) (hs : Stays w w') : IntIn w' v z k := by
 obtain ⟨neg, ms, l, e, h1, h2⟩ := h
 exact ⟨neg, ms, l, e, h1.stays hs, h2⟩
theorem RatIn.stays {w w' : World} {v : Value} {p q : Int} {k : Nat} (h : RatIn w v p q k) (hs : Stays w w') : RatIn w' v p q k := by
 obtain ⟨n1, m1, n2, m2, e, h1, h2, h3⟩ := h
 exact ⟨n1, m1, n2, m2, e, h1.stays hs, h2.stays hs, h3⟩
theorem RtIn.stays {w w' : World} {v : Value} {r : Rat} {k : Nat} (h : RtIn w v r k) (hs : Stays w w') : RtIn w' v r k := by
 obtain ⟨q, h1, h2⟩ := h
 exact ⟨q, h1.stays hs, h2⟩
theorem Glob.stays {w w' : World} (h : Glob w) (hs : Stays w w') : Glob w' := by
 have ht := h.tab
 refine ⟨?_, ?_⟩
 ·unfold Lib.TabIs World.var? at *
  cases hg : Tryz.prog.globalNamed "internal/strconv.uint64pow10" with
  | none => rw [hg] at ht; cases ht
  | some g =>
   rw [hg] at ht
   simp only [Option.bind_some] at ht ⊢
   cases hb : w.heap[g]? with
   | none => rw [hb] at ht; cases ht
   | some o =>
    cases o with
    | cells cs t r => rw [hs.block _ _ _ _ hb]; rw [hb] at ht; exact ht
    | _ => rw [hb] at ht; cases ht
 ·obtain ⟨m, hm⟩ := h.maxl
  exact ⟨m, hs.cell hm⟩
theorem ownsRow_stays {w w' : World} {B : Nat} {t : TypeId} {k n : Nat} {v : Value} {l : List Value} (h : w.ownsRow B t k v n l) (hs : Stays w w') : w'.ownsRow B t k v n l := by
 rcases h.2 with h1 | ⟨g, cap, cur, h1, h2, h3, h4⟩
 ·exact ⟨h.1, .inl h1⟩
 ·exact ⟨h.1, .inr ⟨g, cap, cur, h1, h2, hs.block _ _ _ _ h3, h4⟩⟩
theorem RMapIn.isMap {w : World} {b n K : Nat} {m : Int → Option Rat} (h : RMapIn w b n K m) : ∃ es clock, w.heap[b]? = some (.map es clock) := by
 obtain ⟨D, ⟨es, clock, h1, -⟩, -⟩ := h
 exact ⟨es, clock, h1⟩
theorem RMapIn.lt {w : World} {b n K : Nat} {m : Int → Option Rat} (h : RMapIn w b n K m) : b < w.heap.size := by
 obtain ⟨es, clock, h1⟩ := h.isMap
 rcases Nat.lt_or_ge b w.heap.size with h | h
 ·exact h
 ·rw [Array.getElem?_eq_none h] at h1; cases h1
theorem RMapIn.more {w : World} {b n K K' : Nat} {m : Int → Option Rat} (h : RMapIn w b n K m) (hK : K ≤ K') : RMapIn w b n K' m := by
 obtain ⟨D, h1, h2⟩ := h
 refine ⟨D, h1, fun i => ?_⟩
 have h3 := h2 i
 cases hm : m i with
 | none => rw [hm] at h3; exact h3
 | some r =>
  rw [hm] at h3
  obtain ⟨h4, v, h5, h6⟩ := h3
  exact ⟨h4, v, h5, h6.more hK⟩
theorem RMapIn.mono {w : World} {b n n' K : Nat} {m : Int → Option Rat} (h : RMapIn w b n K m) (hn : n ≤ n') : RMapIn w b n' K m := by
 obtain ⟨D, h1, h2⟩ := h
 exact ⟨D, h1.mono hn, h2⟩
/-- What a look-up without 'ok' yields. -/
theorem RMapIn.look {w : World} {b n K : Nat} {m : Int → Option Rat} (h : RMapIn w b n K m) {i : Int} (h0 : -9223372036854775808 ≤ i) (h1 : i ≤ 9223372036854775807) :
  ∃ v, (Instr.lookup 100 (.map (some b)) (.int .i64 i) false).run Tryz.prog w = .ok v w ∧ RtIn w v ((m i).getD 0) K := by
 obtain ⟨D, hown, hD⟩ := h
 obtain ⟨v, ps, hrun, hv⟩ := World.ownsMap.lookup hown (int_keyed Tryz.underlying3) Tryz.underlying100 (z := zeroRat) (zeroRat_run _) (zd := .held zeroRat) (zp := []) rfl (key_int h0 h1)
 refine ⟨v, hrun, ?_⟩
 unfold asIs at hv
 simp only [Option.some.injEq, Prod.mk.injEq] at hv
 have h := hD i
 have h2 := hv.1
 cases hm : m i with
 | none =>
  rw [hm] at h
  rw [Maps.atKey_of_not_has h] at h2
  cases h2
  exact zero_rt w K
 | some r =>
  rw [hm] at h
  obtain ⟨h3, u, h4, h5⟩ := h
  rw [h4] at h2
  cases h2
  exact h5
/-- What a store does. -/
theorem RMapIn.store {w : World} {b n K : Nat} {m : Int → Option Rat} (h : RMapIn w b n K m) (hn : n < maxLen) {i : Int} (h0 : -9223372036854775808 ≤ i) (h1 : i ≤ 9223372036854775807) {v : Value} {r : Rat} (hv : RtIn w v r K) :
  ∃ w', (Instr.mapUpdate 100 (.map (some b)) (.int .i64 i) v).run Tryz.prog w = .ok () w' ∧ RMapIn w' b (n + 1) K (fun j => if j = i then some r else m j) ∧ w.grownBy w' (some b) ∧ Stays w w' := by
 obtain ⟨es, clock, hmap⟩ := h.isMap
 obtain ⟨D, hown, hD⟩ := id h
 obtain ⟨w', hrun, hown', hturn⟩ := World.ownsMap.store hown (int_keyed Tryz.underlying3) Tryz.underlying100 hn (key_int h0 h1) (show asIs v = some (.held v, []) from rfl)
 have hg := hturn.grown
 have hs := Stays.of_map hmap hg
 refine ⟨w', hrun, ?_, hg, hs⟩
 have hm2 := World.ownsMap.isMap hown
 refine ⟨D.put (.int .i64 i) (.held v), hown', fun j => ?_⟩
 have hk : WideAt.IsKeyLit (.int .i64 i) := by trivial
 by_cases hj : j = i
 ·subst hj
  simp only [if_pos]
  exact ⟨Maps.has_put_same hm2 hk _, v, fun z => Maps.atKey_put_same hm2 hk _ z, hv.stays hs⟩
 ·simp only [if_neg hj]
  have hne : (Lit.int .i64 j) ≠ .int .i64 i := fun h => hj (by cases h; rfl)
  have h3 := hD j
  cases hmj : m j with
  | none =>
   rw [hmj] at h3
   exact (Maps.has_put_other hne _).trans h3
  | some s =>
   rw [hmj] at h3
   obtain ⟨h4, u, h5, h6⟩ := h3
   exact ⟨(Maps.has_put_other hne _).trans h4, u, fun z => (Maps.atKey_put_other hne _ z).trans (h5 z), h6.stays hs⟩
theorem row1_reads {w : World} {B : Nat} {t : TypeId} {v : Value} {l : List Value} {n : Nat} (h : w.ownsRow B t 1 v n l) : ∃ ao c, v = .slice ao n c ∧ n ≤ c ∧ c ≤ maxLen ∧ n = l.length ∧ (0 < n → ∃ g, ao = some ⟨g, 0, none⟩ ∧ g < w.heap.size ∧ ∀ j u, l[j]? = some u → w.cell? ⟨g, j, none⟩ = some u) := by
 have hl : l.length = n := by have := h.1; omega
 rcases h.2 with ⟨rfl, h0⟩ | ⟨g, cap, cur, rfl, hb, hg, hc1, hc2, hcz, hct⟩
 ·exact ⟨none, 0, by rw [h0], by omega, by unfold maxLen; omega, hl.symm, fun h1 => by omega⟩
 ·refine ⟨_, _, rfl, hc1, hc2, hl.symm, fun _ => ⟨g, rfl, ZL hg, fun j u hu => ?_⟩⟩
  rw [← hct, List.getElem?_take] at hu
  split at hu
  ·rw [ZI hg, ← hu, Array.getElem?_toList]
  ·cases hu
theorem grown_below {w a b : World} {r : Option Nat} (h : w.grownBy a r) (hb : Below a.heap.size a b) : w.grownBy b r :=
 ⟨hb.os.trans h.os, hb.tape.trans h.tape, hb.output.trans h.output, Nat.le_trans h.size hb.size, fun k hk hne => (hb.block k (Nat.lt_of_lt_of_le hk h.size)).trans (h.block k hk hne)⟩
theorem grown_refl (w : World) (r : Option Nat) : w.grownBy w r := ⟨rfl, rfl, rfl, Nat.le_refl _, fun _ _ _ => rfl⟩
/-- What stands between a world and a later one in which only map b has turned. -/
def Turned (b : Nat) (w w' : World) : Prop := w.grownBy w' (some b) ∧ Stays w w'
theorem Turned.refl (b : Nat) (w : World) : Turned b w w := ⟨grown_refl _ _, Stays.refl _⟩
theorem Turned.below {b : Nat} {w a c : World} (h : Turned b w a) (hb : Below a.heap.size a c) : Turned b w c := ⟨grown_below h.1 hb, h.2.trans (Stays.of_below hb)⟩
theorem Turned.turn {b : Nat} {w a c : World} (h : Turned b w a) (k : Turned b a c) : Turned b w c := ⟨h.1.trans k.1, h.2.trans k.2⟩
end Go.Proofs.YtgofihilkobenaaGreatDoor
/- Rows of a call's own, of whatever elements. -/
set_option maxRecDepth 100000
namespace Go.Proofs.YtgofihilkobenaaGreatDoor
open Go.RowKit Go.Num Go.Flow
set_option maxHeartbeats 4000000

theorem row_below {w w' : World} {B : Nat} {t : TypeId} {k n : Nat} {v : Value} {l : List Value} (h : w.ownsRow B t k v n l) (hb : Below w.heap.size w w') : w'.ownsRow B t k v n l := ownsRow_stays h (Stays.of_below hb)
theorem row_off {w : World} {B : Nat} {t : TypeId} {k n : Nat} {v : Value} {l : List Value} (h : w.ownsRow B t k v n l) {b : Nat} {cs : Array Value} {t' : TypeId} (hk : w.heap[b]? = some (.cells cs t' (0, 0))) (ht : t' ≠ t) : ∀ g, v.ownBlock = some g → g ≠ b := fun g e => by
 rcases h.2 with ⟨h1, -⟩ | ⟨g', cap, cur, h1, -, h3, -⟩
 ·rw [h1] at e; simp [Value.ownBlock] at e
 ·rw [h1] at e
  simp [Value.ownBlock] at e
  subst e
  rintro rfl
  rw [hk] at h3
  simp at h3
  exact ht h3.2
theorem row_shape {w : World} {B : Nat} {t : TypeId} {k n : Nat} {v : Value} {l : List Value} (h : w.ownsRow B t k v n l) : ∃ ao c, v = .slice ao n c ∧ n ≤ c ∧ c ≤ maxLen := by
 rcases h.2 with ⟨h1, h0⟩ | ⟨g, cap, cur, h1, -, -, h4, h5, -⟩
 ·exact ⟨none, 0, by rw [h0]; exact h1, by omega, by unfold maxLen; omega⟩
 ·exact ⟨_, _, h1, h4, h5⟩
/-- A row's cells, one by one. -/
theorem row_cells {w : World} {B : Nat} {t : TypeId} {k n : Nat} {v : Value} {l : List Value} (h : w.ownsRow B t k v n l) : ∃ ao c, v = .slice ao n c ∧ n ≤ c ∧ c ≤ maxLen ∧ (0 < n → ∃ g, ao = some ⟨g, 0, none⟩ ∧ g < w.heap.size ∧ ∀ j u, l[j]? = some u → w.cell? ⟨g, j, none⟩ = some u) := by
 rcases h.2 with ⟨rfl, h0⟩ | ⟨g, cap, cur, rfl, hb, hg, hc1, hc2, hcz, hct⟩
 ·exact ⟨none, 0, by rw [h0], by omega, by unfold maxLen; omega, fun h1 => by omega⟩
 ·refine ⟨_, _, rfl, hc1, hc2, fun _ => ⟨g, rfl, ZL hg, fun j u hu => ?_⟩⟩
  rw [← hct, List.getElem?_take] at hu
  split at hu
  ·rw [ZI hg, ← hu, Array.getElem?_toList]
  ·cases hu
theorem row_lt {w : World} {B : Nat} {t : TypeId} {k n : Nat} {v : Value} {l : List Value} (h : w.ownsRow B t k v n l) : ∀ q, v.ownBlock = some q → B ≤ q ∧ q < w.heap.size := fun q e => World.ownsRow.lt h q e
theorem flat_at {α : Type} (f : α → List Value) (k : Nat) (hf : ∀ a, (f a).length = k) : ∀ (l : List α) (j : Nat) (hj : j < l.length) (r : Nat), r < k → (l.flatMap f)[j * k + r]? = (f l[j])[r]?
 | [], j, hj, _, _ => by simp at hj
 | a :: l, 0, hj, r, hr => by
  rw [List.flatMap_cons, Nat.zero_mul, Nat.zero_add, List.getElem?_append_left (by rw [hf]; exact hr)]
  rfl
 | a :: l, j + 1, hj, r, hr => by
  rw [List.flatMap_cons, List.getElem?_append_right (by rw [hf, Nat.add_mul, Nat.one_mul]; omega), hf]
  have := flat_at f k hf l j (by simpa using hj) r hr
  rw [show (j + 1) * k + r - k = j * k + r by rw [Nat.add_mul, Nat.one_mul]; omega]
  exact this
end Go.Proofs.YtgofihilkobenaaGreatDoor
/- Terms and forms in memory. -/
set_option maxRecDepth 100000
namespace Go.Proofs.YtgofihilkobenaaGreatDoor
open Go.RowKit Go.Num Go.Flow Go.Maps Go.WideMaps
set_option maxHeartbeats 4000000

/-- The terms of the first k keys. -/
def sumTerms (m : Int → Option Rat) : Nat → List (Nat × List UInt8)
 | 0 => []
 | k + 1 => sumTerms m k ++ (match m k with | some r => if r.num = 0 then [] else [(k, numText r)] | none => [])
def termCells (l : List (Nat × List UInt8)) : List Value := l.flatMap fun p => [.int .i64 (p.1 : Int), .string ⟨p.2.toArray⟩]
/-- A row of terms. -/
def TermRow (w : World) (B : Nat) (v : Value) (l : List (Nat × List UInt8)) : Prop := w.ownsRow B 146 2 v l.length (termCells l)
theorem TermRow.below {w w' : World} {B : Nat} {v : Value} {l : List (Nat × List UInt8)} (h : TermRow w B v l) (hb : Below w.heap.size w w') : TermRow w' B v l := by
 rcases h.2 with h1 | ⟨g, cap, cur, h1, h2, h3, h4⟩
 ·exact ⟨h.1, .inl h1⟩
 ·exact ⟨h.1, .inr ⟨g, cap, cur, h1, h2, (hb.block g (ZL h3)).trans h3, h4⟩⟩
theorem TermRow.snoc {w : World} {B : Nat} {v : Value} {l : List (Nat × List UInt8)} {k : Nat} {s : List UInt8} (h : w.ownsRow B 146 2 v (l.length + 1) (termCells l ++ [.int .i64 (k : Int), .string ⟨s.toArray⟩])) : TermRow w B v (l ++ [(k, s)]) := by
 unfold TermRow termCells
 rw [List.length_append, List.flatMap_append]
 exact h
theorem TermRow.set {w : World} {B : Nat} {v : Value} {l : List (Nat × List UInt8)} (h : TermRow w B v l) {b : Nat} (hb : b < B) (i : Nat) (u : Value) : TermRow (w.setCell ⟨b, i, none⟩ u) B v l := by
 rcases h.2 with h1 | ⟨g, cap, cur, h1, h2, h3, h4⟩
 ·exact ⟨h.1, .inl h1⟩
 ·exact ⟨h.1, .inr ⟨g, cap, cur, h1, h2, (Below.heap_setCell _ _ _ _ (show g ≠ b by omega)).trans h3, h4⟩⟩
theorem TermRow.off {w : World} {B : Nat} {v : Value} {l : List (Nat × List UInt8)} (h : TermRow w B v l) {b : Nat} {cs : Array Value} {t : TypeId} (hk : w.heap[b]? = some (.cells cs t (0, 0))) (ht : t ≠ 146) : ∀ g, v.ownBlock = some g → g ≠ b := fun g e => by
 rcases h.2 with ⟨h1, -⟩ | ⟨g', cap, cur, h1, -, h3, -⟩
 ·rw [h1] at e; simp [Value.ownBlock] at e
 ·rw [h1] at e
  simp [Value.ownBlock] at e
  subst e
  rintro rfl
  rw [hk] at h3
  simp at h3
  exact ht h3.2
theorem TermRow.setNe {w : World} {B : Nat} {v : Value} {l : List (Nat × List UInt8)} (h : TermRow w B v l) {b : Nat} (hb : ∀ g, v.ownBlock = some g → g ≠ b) (i : Nat) (u : Value) : TermRow (w.setCell ⟨b, i, none⟩ u) B v l := by
 rcases h.2 with h1 | ⟨g, cap, cur, h1, h2, h3, h4⟩
 ·exact ⟨h.1, .inl h1⟩
 ·exact ⟨h.1, .inr ⟨g, cap, cur, h1, h2, (Below.heap_setCell _ _ _ _ (hb g (by rw [h1]; rfl))).trans h3, h4⟩⟩
theorem two_set1 {w : World} {b : Nat} {x y : Value} {t : TypeId} (h : w.heap[b]? = some (.cells #[x, y] t (0, 0))) (u : Value) : (w.setCell ⟨b, 1, none⟩ u).heap[b]? = some (.cells #[x, u] t (0, 0)) := by
 have hlt := ZL h
 have h2 : w.heap[b] = .cells #[x, y] t (0, 0) := by
  rw [Array.getElem?_eq_getElem hlt] at h
  exact Option.some.inj h
 simp [World.setCell, Array.getElem?_modify, h]
theorem TermRow.shape {w : World} {B : Nat} {v : Value} {l : List (Nat × List UInt8)} (h : TermRow w B v l) : ∃ ao n c, v = .slice ao n c := by
 rcases h.2 with ⟨h1, -⟩ | ⟨g, cap, cur, h1, -⟩
 ·exact ⟨_, _, _, h1⟩
 ·exact ⟨_, _, _, h1⟩
theorem terms_len (m : Int → Option Rat) : ∀ k, (sumTerms m k).length ≤ k
 | 0 => Nat.le_refl _
 | k + 1 => by
  have h := terms_len m k
  rw [sumTerms, List.length_append]
  split
  ·split <;> simp <;> omega
  ·simp; omega
theorem infoTerm : (Tryz.prog.info? 146).map (fun i => (i.zero, i.size, i.bytes)) = some (some (.agg #[.int .i64 0, .string ⟨#[]⟩]), 2, 24) := by kernel_rfl
/-- A form in memory: its constant and its terms, in new memory. -/
def FormIn (w : World) (B : Nat) (v : Value) (c : List UInt8) (l : List (Nat × List UInt8)) : Prop := ∃ tv, v = .agg #[.string ⟨c.toArray⟩, tv] ∧ TermRow w B tv l
def zeroForm : Value := .agg #[.string ⟨#[]⟩, .slice none 0 0]
theorem zero_form (w : World) (B : Nat) : FormIn w B zeroForm [] [] := ⟨_, rfl, World.ownsRow_nil _ _ _ _⟩
/-- A slice of terms, to be read. -/
def TermsIn (w : World) (v : Value) (l : List (Nat × List UInt8)) : Prop := ∃ ao c, v = .slice ao l.length c ∧ l.length ≤ c ∧ c ≤ maxLen ∧ (0 < l.length → ∃ g o, ao = some ⟨g, o, none⟩ ∧ g < w.heap.size ∧ ∀ j, j < l.length → w.cell? ⟨g, o + j * 2, none⟩ = some (.int .i64 ((l.getD j (0, [])).1 : Int)) ∧ w.cell? ⟨g, o + j * 2 + 1, none⟩ = some (.string ⟨(l.getD j (0, [])).2.toArray⟩))
theorem TermsIn.below {w w' : World} {v : Value} {l : List (Nat × List UInt8)} (h : TermsIn w v l) (hb : Below w.heap.size w w') : TermsIn w' v l := by
 obtain ⟨ao, c, e, h1, h2, h3⟩ := h
 refine ⟨ao, c, e, h1, h2, fun h0 => ?_⟩
 obtain ⟨g, o, e, hl, hc⟩ := h3 h0
 exact ⟨g, o, e, Nat.lt_of_lt_of_le hl hb.size, fun j hj => ⟨ZJ hb (hc j hj).1, ZJ hb (hc j hj).2⟩⟩
theorem TermRow.reads {w : World} {B : Nat} {v : Value} {l : List (Nat × List UInt8)} (h : TermRow w B v l) : TermsIn w v l := by
 obtain ⟨ao, c, e, h1, h2, h3⟩ := row_cells h
 refine ⟨ao, c, e, h1, h2, fun h0 => ?_⟩
 obtain ⟨g, rfl, hg, hc⟩ := h3 h0
 refine ⟨g, 0, rfl, hg, fun j hj => ?_⟩
 have k := fun r (hr : r < 2) => flat_at (fun p : Nat × List UInt8 => [.int .i64 (p.1 : Int), .string ⟨p.2.toArray⟩]) 2 (fun _ => rfl) l j hj r hr
 have e1 : l.getD j (0, []) = l[j] := by rw [List.getD_eq_getElem?_getD, List.getElem?_eq_getElem hj]; rfl
 rw [e1, Nat.zero_add]
 exact ⟨hc _ _ (k 0 (by omega)), hc _ _ (k 1 (by omega))⟩
theorem terms_none (w : World) : TermsIn w (.slice none 0 0) [] := ⟨none, 0, rfl, Nat.le_refl _, by unfold maxLen; omega, fun h => absurd h (by simp)⟩
theorem toArray_list (l : List UInt8) : (⟨l.toArray⟩ : ByteArray).toList = l := by
 rw [ByteArray.toList_eq]
/-- A form, to be read. -/
def FormAt (w : World) (v : Value) (c : List UInt8) (l : List (Nat × List UInt8)) : Prop := ∃ tv, v = .agg #[.string ⟨c.toArray⟩, tv] ∧ TermsIn w tv l
theorem FormIn.reads {w : World} {B : Nat} {v : Value} {c : List UInt8} {l : List (Nat × List UInt8)} (h : FormIn w B v c l) : FormAt w v c l := by
 obtain ⟨tv, e, ht⟩ := h
 exact ⟨tv, e, ht.reads⟩
theorem FormAt.below {w w' : World} {v : Value} {c : List UInt8} {l : List (Nat × List UInt8)} (h : FormAt w v c l) (hb : Below w.heap.size w w') : FormAt w' v c l := by
 obtain ⟨tv, e, ht⟩ := h
 exact ⟨tv, e, ht.below hb⟩
theorem form_zero (w : World) : FormAt w zeroForm [] [] := ⟨_, rfl, terms_none w⟩
/-- A factor more. -/
def addTo (m : Int → Option Rat) (i : Int) (q : Rat) : Int → Option Rat := fun j => if j = i then some ((m i).getD 0 + q) else m j
def noMap : Int → Option Rat := fun _ => none
end Go.Proofs.YtgofihilkobenaaGreatDoor
/- What is read of a scheme stays though maps turn. -/
set_option maxRecDepth 100000
namespace Go.Proofs.YtgofihilkobenaaGreatDoor
open Go.RowKit Go.Num Go.Flow Go.Maps Go.WideMaps Go.Dtm
set_option maxHeartbeats 4000000

theorem FeatAt.stays {w w' : World} {b o : Nat} {f : Feat} (h : FeatAt w b o f) (hs : Stays w w') : FeatAt w' b o f :=
 ⟨hs.cell h.1, hs.cell h.2.1, hs.cell h.2.2.1, hs.cell h.2.2.2.1, hs.cell h.2.2.2.2.1, hs.cell h.2.2.2.2.2⟩
theorem ZoneAt.stays {w w' : World} {b o : Nat} {z : Zn} (h : ZoneAt w b o z) (hs : Stays w w') : ZoneAt w' b o z :=
 ⟨hs.cell h.1, hs.cell h.2.1, hs.cell h.2.2.1, hs.cell h.2.2.2.1, hs.cell h.2.2.2.2⟩
theorem SchemeIn.stays {w w' : World} {af : Option Addr} {cf : Nat} {az : Option Addr} {cz : Nat} {fs : List Feat} {zs : List Zn} (h : SchemeIn w af cf az cz fs zs) (hs : Stays w w') : SchemeIn w' af cf az cz fs zs := by
 refine ⟨⟨h.feats.1, h.feats.2.1, fun h0 => ?_⟩, ⟨h.zones.1, h.zones.2.1, fun h0 => ?_⟩⟩
 ·obtain ⟨b, o, e, hl, hc⟩ := h.feats.2.2 h0
  exact ⟨b, o, e, Nat.lt_of_lt_of_le hl hs.size, fun j hj => (hc j hj).stays hs⟩
 ·obtain ⟨b, o, e, hl, hc⟩ := h.zones.2.2 h0
  exact ⟨b, o, e, Nat.lt_of_lt_of_le hl hs.size, fun j hj => (hc j hj).stays hs⟩
end Go.Proofs.YtgofihilkobenaaGreatDoor
/- sum. -/
set_option maxRecDepth 100000
namespace Go.Proofs.YtgofihilkobenaaGreatDoor
open List renaming setIfInBounds_toArray → zLa, set_cons_zero → zLb, set_cons_succ → zLc
open FlowR renaming putSel → zFp
open Act renaming put → zAp
open Nat renaming zero_add → zNz
open Flow.Steps renaming cons → zSc, nil → zSn
open FlowR.Step renaming of → zSo
open Go.RowKit Go.Num Go.Flow Go.Maps Go.WideMaps Go.Dtm
set_option maxHeartbeats 8000000

theorem sum_any {w : World} (hg : Glob w) {c : Int} (h0 : -9223372036854775808 ≤ c) (h1 : c ≤ 9223372036854775807) {b n K : Nat} {m : Int → Option Rat} (hm : RMapIn w b n K m) (hK : K ≤ 900000) :
  Calls Tryz.prog 80 #[.int .i64 c, .map (some b)] w fun e w' => ∃ v, e = .returned v ∧ FormIn w' w.heap.size v (numText (c : Rat)) (sumTerms m 48) ∧ Below w.heap.size w w' := by
 obtain ⟨wa, hwa⟩ : ∃ wa, wa = w.alloc (.cells #[.string ⟨#[]⟩, .slice none 0 0] 78) := ⟨_, rfl⟩
 obtain ⟨bc, hbc⟩ : ∃ b, b = w.heap.size := ⟨_, rfl⟩
 have hal : Below w.heap.size w wa := by rw [hwa]; exact (ZR _ w).alloc (Nat.le_refl _) _
 have k0 : wa.heap[bc]? = some (.cells #[.string ⟨#[]⟩, .slice none 0 0] 78 (0, 0)) := by rw [hwa, hbc]; exact ZW w _
 have HGbc := ZH (show w.heap.size ≤ bc by omega)
 have HFR := ZH (ratFrom_any (w := wa) h0 h1)
 have HAL := ZH hal
 have HK0 := ZH k0
 have HM := ZH (hm.below hal)
 have HG := ZH (hg.below hal)
 have HW := ZH (ZN hwa hbc)
 clear hal hwa hbc k0 hm hg
 go_enter Tryz.func80, Tryz.ntmps80
 go_upto_region 1 with fail
 rw [← HW.out.1, ← HW.out.2]
 clear HW
 go_wp2_with fail
 refine HFR.out.mono ?_
 rintro e w1 ⟨v1, rfl, hr1, hb1⟩
 have HNM := ZH (Number_any hr1 (by omega) (HG.out.below hb1))
 have HB1 := ZH hb1
 clear hr1 hb1
 go_wp2_with fail
 refine HNM.out.mono ?_
 rintro e w2 ⟨rfl, hb2⟩
 have HB2 := ZH (HB1.out.trans (hb2.mono HB1.out.size))
 clear hb2
 go_upto_region 2 with fail
 obtain ⟨S, hS⟩ : ∃ S : ByteArray, S = ⟨(numText (c : Rat)).toArray⟩ := ⟨_, rfl⟩
 rw [← hS]
 obtain ⟨w3, hw3⟩ : ∃ x, x = w2.alloc (.cells #[.string S, .slice none 0 0] 78) := ⟨_, rfl⟩
 obtain ⟨bf, hbf⟩ : ∃ b, b = w2.heap.size := ⟨_, rfl⟩
 rw [← hw3, ← hbf]
 have hl3 : Below w2.heap.size w2 w3 := by rw [hw3]; exact (ZR _ w2).alloc (Nat.le_refl _) _
 have HGF := ZH (show wa.heap.size ≤ bf by rw [hbf]; exact HB2.out.size)
 have kf : w3.heap[bf]? = some (.cells #[.string S, .slice none 0 0] 78 (0, 0)) := by rw [hw3, hbf]; exact ZW w2 _
 have HB3 := ZH (HB2.out.trans (hl3.mono HB2.out.size))
 have HKF := ZH kf
 have HS := ZH hS
 clear hw3 hl3 kf hS hbf
 go_wp2_with fail
 go_loopg [13] 48 (fun gk x wr => ∃ (k : Nat) (tv : Value), k + gk = 48 ∧ x = .int .i64 k ∧ Hid (wr.heap[bf]? = some (.cells #[.string S, tv] 78 (0, 0)) ∧ TermRow wr wa.heap.size tv (sumTerms m k)) ∧ Hid (Below wa.heap.size wa wr))
 case atStart => exact ⟨0, _, rfl, rfl, ZH ⟨HKF.out, World.ownsRow_nil _ _ _ _⟩, HB3⟩
 case round =>
  obtain ⟨k, tv, hk, rfl, hkf, hbw⟩ := hrel
  by_cases hlt : k < 48
  ·have e1 : ((k : Int) < 48) = True := eq_true (by omega)
   have hmr := HM.out.below hbw.out
   obtain ⟨D, hown, hD⟩ := hmr
   have HOWN := ZH hown
   have HD := ZH (hD (k : Int))
   clear hown hD
   go_wp2_with (at_lookup; refine wpList_lookup_own_ok _ rfl _ _ 100 rfl 3 65 (int_keyed Tryz.underlying3) Tryz.underlying100 asIs (z := zeroRat) ?hz (.held zeroRat) [] rfl b n D rfl HOWN.out _ (.int .i64 (k : Int)) rfl (key_int (by omega) (by omega)) ?_)
   case hz => exact zeroRat_run _
   intro v ps hv
   obtain ⟨q, hq⟩ : ∃ q, q = (m (k : Int)).getD 0 := ⟨_, rfl⟩
   have hvv : Maps.has D (.int .i64 (k : Int)) = (m (k : Int)).isSome ∧ RtIn wr v q K := by
    have h := HD.out
    unfold asIs at hv
    simp only [Option.some.injEq, Prod.mk.injEq] at hv
    cases hm : m (k : Int) with
    | none =>
     rw [hm] at h
     have h2 := hv.1
     rw [Maps.atKey_of_not_has h] at h2
     cases h2
     rw [hq, hm]
     exact ⟨by rw [h]; rfl, zero_rt wr K⟩
    | some r =>
     rw [hm] at h
     obtain ⟨h3, u, h4, h5⟩ := h
     have h2 := hv.1
     rw [h4] at h2
     cases h2
     rw [hq, hm]
     exact ⟨by rw [h3]; rfl, h5⟩
   obtain ⟨s1, a1, c1, l1, s2, a2, c2, l2, rfl⟩ := rt_shape hvv.2
   obtain ⟨ok, hok⟩ : ∃ b, b = (m (k : Int)).isSome := ⟨_, rfl⟩
   rw [← hok] at hvv
   rw [hvv.1]
   have HR := ZH hvv.2
   have HQ := ZH (ZN hq hok)
   clear hv hvv hq hok
   go_upto_region 6 with fail
   obtain ⟨w4, hw4⟩ : ∃ x, x = wr.alloc (.cells #[.bool s1, .slice a1 c1 l1, .bool s2, .slice a2 c2 l2] 65) := ⟨_, rfl⟩
   obtain ⟨bq, hbq⟩ : ∃ b, b = wr.heap.size := ⟨_, rfl⟩
   rw [← hw4, ← hbq]
   have hl4 : Below wr.heap.size wr w4 := by rw [hw4]; exact (ZR _ wr).alloc (Nat.le_refl _) _
   have kq : w4.heap[bq]? = some (.cells #[.bool s1, .slice a1 c1 l1, .bool s2, .slice a2 c2 l2] 65 (0, 0)) := by rw [hw4, hbq]; exact ZW wr _
   have hkf4 := (hl4.block bf (ZL hkf.out.1)).trans hkf.out.1
   have HT4 := ZH (hkf.out.2.below hl4)
   have HB4 := ZH (hbw.out.trans (hl4.mono hbw.out.size))
   have HR4 := ZH (HR.out.below hl4)
   have HQ4 := ZH kq
   have HF4 := ZH hkf4
   clear hw4 hbq hl4 kq hkf4 hkf hbw HR
   go_cut [27, 13] from 13 to 37 (fun d x wx => d = .bool (ok && decide (q.num ≠ 0)) ∧ x = .int .i64 (k : Int) ∧ Below w4.heap.size w4 wx)
   case first =>
    cases ok with
    | false =>
     go_wp2_with fail
     go_meet
     exact ⟨rfl, rfl, ZR _ _⟩
    | true =>
     have z0 := ZI HQ4.out 0
     have z1 := ZI HQ4.out 1
     have z2 := ZI HQ4.out 2
     have z3 := ZI HQ4.out 3
     simp at z0 z1 z2 z3
     have HSG := ZH (ratSign_any HR4.out)
     go_wp2_with fail
     refine HSG.out.mono ?_
     rintro e w5 ⟨rfl, hb5⟩
     have HB5 := ZH hb5
     clear hb5
     go_wp2_with fail
     go_meet
     exact ⟨congrArg Value.bool (by rw [Bool.true_and]; exact cmp_nez), rfl, HB5.out⟩
   case rest =>
    obtain ⟨rfl, rfl, hb5⟩ := hcut
    have HB5 := ZH hb5
    clear hb5
    have HT5 := ZH (HT4.out.below HB5.out)
    have hkf5 := (HB5.out.block bf (ZL HF4.out)).trans HF4.out
    have HF5 := ZH hkf5
    have HBF := ZH (HB4.out.trans (HB5.out.mono HB4.out.size))
    clear hkf5
    have HLT := ZH hlt
    clear hlt
    cases hfl : (ok && decide (q.num ≠ 0)) with
    | true =>
     obtain ⟨ao, tn, tc, rfl⟩ := HT5.out.shape
     have hkq := (HB5.out.block bq (ZL HQ4.out)).trans HQ4.out
     have HKQ := ZH hkq
     have HRQ := ZH (HR4.out.below HB5.out)
     obtain ⟨NT, hNT⟩ : ∃ S : ByteArray, S = ⟨(numText q).toArray⟩ := ⟨_, rfl⟩
     have HNT := ZH hNT
     have HTS := ZH (show sumTerms m (k + 1) = sumTerms m k ++ [(k, numText q)] by
      have h := hfl
      rw [HQ.out.1, HQ.out.2] at h
      rw [sumTerms, HQ.out.1]
      cases hm : m (k : Int) with
      | none => rw [hm] at h; simp at h
      | some r =>
       rw [hm] at h
       have h0 : r.num ≠ 0 := by simpa using h
       simp only [if_neg h0]
       rfl)
     obtain ⟨i0, hi, hz0, hz1, hz2⟩ := info_parts infoTerm
     have HI := ZH (ZN hi (ZN hz0 (ZN hz1 hz2)))
     have HTL := ZH (terms_len m k)
     have HOB := ZH (HT5.out.off HF5.out (by decide))
     have HWC := ZH (ZR wc.heap.size wc)
     have hK900 := hK
     clear hi hz0 hz1 hz2 hkq hNT hfl
     go_upto_region 7 with fail
     refine FlowR.wp_region_sel (fun a b => Below a.heap.size a b) (fun a => ZR _ a) (fun _ _ _ h k => h.trans (k.mono h.size)) [0, 1, 2, 3, 4, 5, 6] [false, false, false, false, false, false, false, false, false, false] [true, true, true, true, true, true, true, false, false, false] (fun i v w' => match i with
      | 0 => v = .pointer (some ⟨bf, 1, none⟩)
      | 1 => v = .slice ao tn tc
      | 2 => v = .int .i64 (k : Int)
      | 3 => v = .agg #[.bool s1, .slice a1 c1 l1, .bool s2, .slice a2 c2 l2]
      | 4 => v = .string NT
      | 5 => v = .agg #[.int .i64 (k : Int), .string NT]
      | _ => ∃ b, v = .slice (some ⟨b, 0, none⟩) 1 1 ∧ w'.heap[b]? = some (.cells #[.int .i64 (k : Int), .string NT] 146 (0, 0)) ∧ wc.heap.size ≤ b) rfl rfl (by kernel_rfl) (by kernel_rfl) (by kernel_rfl) (by kernel_rfl) ?st ?steps ?fin
     case st =>
      intro i v w1 w2 h hb
      match i with
      | 0 | 1 | 2 | 3 | 4 | 5 => exact h
      | 6 | _ + 7 => exact by obtain ⟨b, e, hk, hl⟩ := (show ∃ b, v = .slice (some ⟨b, 0, none⟩) 1 1 ∧ w1.heap[b]? = some (.cells #[.int .i64 (k : Int), .string NT] 146 (0, 0)) ∧ wc.heap.size ≤ b from h); exact ⟨b, e, (hb.block b (ZL hk)).trans hk, hl⟩
     case steps =>
      refine zSc (zSo rfl ?s0) (zSc (zSo rfl ?s1) (zSc (zSo rfl ?s2) (zSc (zSo rfl ?s3) (zSc (zSo rfl ?s4) (zSc (zSo rfl ?s5) (zSc (zSo rfl ?s6) zSn))))))
      case s0 | s2 =>
       intro xs w' hb hT K hK
       clear hT
       simp only [zFp, zAp, zLa, zLb, zLc, Nat.reduceAdd, zNz] at hK ⊢
       have hw := Flow.hwD HWC.out hb
       go_simp
       exact hK _ _ (ZR _ _) rfl
      case s1 =>
       intro xs w' hb hT K hK
       have h0 : (xs 0) = .pointer (some ⟨bf, 1, none⟩) := hT 0 (by kernel_rfl)
       clear hT
       simp only [zFp, zAp, zLa, zLb, zLc, Nat.reduceAdd, zNz] at hK ⊢
       have hw := Flow.hwD HWC.out hb
       have kb := (hw.block bf (ZL HF5.out)).trans HF5.out
       have y0 := ZI kb 1
       clear kb
       simp at y0
       (try simp only [h0] at hK)
       go_simp
       exact hK _ _ (ZR _ _) rfl
      case s3 =>
       intro xs w' hb hT K hK
       clear hT
       simp only [zFp, zAp, zLa, zLb, zLc, Nat.reduceAdd, zNz] at hK ⊢
       have hw := Flow.hwD HWC.out hb
       have kb := (hw.block bq (ZL HKQ.out)).trans HKQ.out
       have y0 := ZI kb 0
       have y1 := ZI kb 1
       have y2 := ZI kb 2
       have y3 := ZI kb 3
       clear kb
       simp at y0 y1 y2 y3
       go_simp
       exact hK _ _ (ZR _ _) rfl
      case s4 =>
       intro xs w' hb hT K hK
       have h3 : (xs 3) = .agg #[.bool s1, .slice a1 c1 l1, .bool s2, .slice a2 c2 l2] := hT 3 (by kernel_rfl)
       clear hT
       simp only [zFp, zAp, zLa, zLb, zLc, Nat.reduceAdd, zNz] at hK ⊢
       have hw := Flow.hwD HWC.out hb
       (try simp only [h3] at hK)
       go_simp
       go_at_call 27
       refine (Number_any (HRQ.out.below hw) hK900 (HG.out.below (HBF.out.trans (hw.mono HBF.out.size)))).mono ?_
       rintro e w3 ⟨rfl, hb3⟩
       exact hK _ _ hb3 (by rw [HNT.out])
      case s5 =>
       intro xs w' hb hT K hK
       have h2 : (xs 2) = .int .i64 (k : Int) := hT 2 (by kernel_rfl)
       have h4 : (xs 4) = .string NT := hT 4 (by kernel_rfl)
       clear hT
       simp only [zFp, zAp, zLa, zLb, zLc, Nat.reduceAdd, zNz] at hK ⊢
       have hw := Flow.hwD HWC.out hb
       (try simp only [h2] at hK)
       (try simp only [h4] at hK)
       go_simp
       exact hK _ _ (ZR _ _) rfl
      case s6 =>
       intro xs w' hb hT K hK
       have h5 : (xs 5) = .agg #[.int .i64 (k : Int), .string NT] := hT 5 (by kernel_rfl)
       clear hT
       simp only [zFp, zAp, zLa, zLb, zLc, Nat.reduceAdd, zNz] at hK ⊢
       have hw := Flow.hwD HWC.out hb
       (try simp only [h5] at hK)
       go_simp
       exact hK _ _ ((ZR _ _).alloc (Nat.le_refl _) _) ⟨_, rfl, ZW _ _, by have h1 := (ZR wc.heap.size wc).drew.size; have h2 := hw.size; omega⟩
     case fin =>
      intro xs w' hb hT
      have hw := Flow.hwD HWC.out hb
      have h1 : (xs 1) = .slice ao tn tc := hT 1 (by rfl)
      have h6 : ∃ b, (xs 6) = .slice (some ⟨b, 0, none⟩) 1 1 ∧ w'.heap[b]? = some (.cells #[.int .i64 (k : Int), .string NT] 146 (0, 0)) ∧ wc.heap.size ≤ b := hT 6 (by rfl)
      clear hT
      simp only [zFp, zAp, zLa, zLb, zLc, Nat.reduceAdd, zNz, FlowR.restL, FlowR.orM, Bool.false_or]
      obtain ⟨b6, e6, k6, hl6⟩ := h6
      simp only [h1, e6]
      clear h1 e6 hb
      have kf7 := (hw.block bf (ZL HF5.out)).trans HF5.out
      have TT := ZH (HT5.out.below hw)
      have HW7 := ZH hw
      have HKF7 := ZH kf7
      have HK6 := ZH (ZN k6 hl6)
      clear hw kf7 k6 hl6
      refine wpList_append_own _ rfl _ _ 76 rfl wa.heap.size 146 i0 _ 2 24 Tryz.underlying76 HI.out.1 HI.out.2.1 HI.out.2.2.1 HI.out.2.2.2 rfl (by decide) _ _ _ rfl TT.out ⟨b6, 0, none⟩ 1 1 [.int .i64 (k : Int), .string NT] rfl rfl ?c1 ?c2 ?c3 ?c4 ?c5 ?_
      case c1 => exact World.news_of_block HK6.out.1
      case c2 => simp [Value.oneCell']
      case c3 => have := HTL.out; have := HLT.out; unfold maxLen; omega
      case c4 => have := HTL.out; have := HLT.out; omega
      case c5 => have h1 := HBF.out.size; have h2 := HW7.out.size; omega
      intro v7 w7 hown7 hg7 _
      have k7 := (hg7.block bf (by have h1 := ZL HF5.out; have h2 := HW7.out.size; omega) (fun e => HOB.out bf e.symm rfl)).trans HKF7.out
      have y1 := ZI k7 1
      have g1 := ZF k7 1
      simp at y1
      have hb7 := (HBF.out.trans (HW7.out.mono HBF.out.size)).grown hg7 (by have h1 := HBF.out.size; have h2 := HW7.out.size; omega) (fun q e => (World.ownsRow.lt TT.out q e).1)
      have hr7 : TermRow w7 wa.heap.size v7 (sumTerms m (k + 1)) := by
       rw [HTS.out]
       rw [HNT.out] at hown7
       exact TermRow.snoc hown7
      obtain ⟨a7, n7, c7, rfl⟩ := hr7.shape
      have HO7 := ZH (hr7.off k7 (by decide))
      have HR7 := ZH hr7
      clear hr7
      have H7 := ZH (ZN hown7 (ZN k7 hb7))
      clear hown7 hg7 k7 hb7
      go_wp2_with fail
      go_roundg (48 - (k + 1))
      case measure => have := HLT.out; omega
      case rel => exact ⟨k + 1, _, by have := HLT.out; omega, by congr 1, ZH ⟨two_set1 H7.out.2.1 _, TermRow.setNe HR7.out HO7.out 1 _⟩, ZH (H7.out.2.2.setCell (p := ⟨bf, 1, none⟩) HGF.out _)⟩
    | false =>
     have HTE := ZH (show sumTerms m (k + 1) = sumTerms m k by
      have h := hfl
      rw [HQ.out.1, HQ.out.2] at h
      rw [sumTerms]
      cases hm : m (k : Int) with
      | none => exact List.append_nil _
      | some r =>
       rw [hm] at h
       have h0 : r.num = 0 := by simpa using h
       simp only [h0, if_pos]
       exact List.append_nil _)
     clear hfl
     go_wp2_with fail
     go_roundg (48 - (k + 1))
     case measure => have := HLT.out; omega
     case rel => exact ⟨k + 1, tv, by have := HLT.out; omega, by congr 1, ZH ⟨HF5.out, by rw [HTE.out]; exact HT5.out⟩, HBF⟩
  ·have e1 : ((k : Int) < 48) = False := eq_false (by omega)
   obtain rfl : k = 48 := by omega
   obtain ⟨ao, tn, tc, rfl⟩ := hkf.out.2.shape
   have y0 := ZI hkf.out.1 0
   have y1 := ZI hkf.out.1 1
   simp at y0 y1
   have hkc := (hbw.out.block bc (ZL HK0.out)).trans HK0.out
   have z0 := ZI hkc 0
   have z1 := ZI hkc 1
   have f0 := ZF hkc 0
   have f1 := ZF hkc 1
   simp at z0 z1
   have hr := (hkf.out.2.set (ZL HK0.out) 0 (.string S)).set (ZL HK0.out) 1 (.slice ao tn tc)
   have hb := ((HAL.out.trans (hbw.out.mono HAL.out.size)).setCell (p := ⟨bc, 0, none⟩) HGbc.out (.string S)).setCell (p := ⟨bc, 1, none⟩) HGbc.out (.slice ao tn tc)
   have HF := ZH (ZN hr hb)
   clear hr hb hkc hkf
   go_wp2_with fail
   refine bodyPost_ret (v := .agg #[.string S, .slice ao tn tc]) (by simp [results, Tryz.results80, go_sem, z0, z1]) rfl ⟨_, rfl, ⟨_, by rw [HS.out], ?_⟩, HF.out.2⟩
   exact World.ownsRow.mono HF.out.1 HAL.out.size
end Go.Proofs.YtgofihilkobenaaGreatDoor
