/- Several things that lie apart, in any order; a row of numbers; what many acts do to a plain disk. -/
import Derived.Test.YtlhnjdoicolkkaaAgr
import Derived.Test.YtlhnjdoicolkkaaCalls
set_option maxRecDepth 100000
namespace Go.Proofs.Ytlhnjdoicolkkaa
open Go.RowKit Go.Dsk Go.Maps Go.WideMaps
set_option maxHeartbeats 400000

/-- Many things that share no block. -/
abbrev Stars : List SP → SP
  | [] => Nil
  | P :: l => Star P (Stars l)
theorem Star.inner {P Q Q' : SP} {U : Nat → Prop} {w : World} (h : Star P Q U w) (hi : ∀ T, Q T w → Q' T w) : Star P Q' U w := by
  obtain ⟨S, T, hu, hd, h1, h2⟩ := h
  exact ⟨S, T, hu, hd, h1, hi T h2⟩
theorem stars_perm {l l' : List SP} (hp : l.Perm l') : ∀ {U : Nat → Prop} {w : World}, Stars l U w → Stars l' U w := by
  induction hp with
  | nil => exact id
  | cons x _ ih => exact fun h => h.inner (fun _ => ih)
  | swap x y l => exact fun h => h.left
  | trans _ _ i1 i2 => exact fun h => i2 (i1 h)
theorem Has.perm {w0 w : World} {l l' : List SP} (h : Has w0 w (Stars l)) (hp : l.Perm l') : Has w0 w (Stars l') := h.imp fun _ => stars_perm hp
theorem perm_a (a b c d : SP) : [a, b, c, d].Perm [d, c, a, b] := (List.reverse_perm [a, b, c, d]).symm.trans (List.Perm.cons _ (List.Perm.cons _ (List.Perm.swap _ _ _)))
theorem perm_b (a b c d : SP) : [a, b, c, d].Perm [c, a, b, d] := (List.Perm.cons _ (List.Perm.swap _ _ _)).trans (List.Perm.swap _ _ _)
theorem perm_c (a b c d : SP) : [a, b, c, d].Perm [d, b, c, a] := (List.reverse_perm [a, b, c, d]).symm.trans (List.Perm.cons _ (List.Perm.swap _ _ _))
theorem nice_stars : ∀ {l : List SP}, (∀ P ∈ l, Nice P) → Nice (Stars l)
  | [], _ => Nice.nil
  | P :: l, h => Nice.star (h P (by simp)) (nice_stars fun Q hq => h Q (by simp [hq]))
/-- A step upon one thing: the other ones stay. -/
theorem Has.turn {w0 w w' : World} {P P' R : SP} (hR : Nice R) (h : Has w0 w (Star P R)) (hc : ∀ S, P S w → Does S w P' w') : Has w0 w' (Star P' R) := by
  obtain ⟨hb0, U, hU, S, T, hu, hd, h1, h2⟩ := h
  obtain ⟨S', hS', hq, hf⟩ := hc S h1
  refine ⟨hb0.trans (hf.toBelow hb0.size (fun i hi => hU i ((hu i).2 (.inl hi)))), fun i => S' i ∨ T i, ?_, S', T, fun i => Iff.rfl, ?_, hq, hR.keep h2 hf (fun i hi hs => hd i hs hi)⟩
  · rintro i (hi | hi)
    · rcases hS' i hi with h | h
      · exact hU i ((hu i).2 (.inl h))
      · exact Nat.le_trans hb0.size h
    · exact hU i ((hu i).2 (.inr hi))
  · intro i hi ht
    rcases hS' i hi with h | h
    · exact hd i h ht
    · have := hR.lt h2 i ht; omega

/-- A slice of numbers of its own. -/
def NumP (v : Value) (xs : List Int) : SP := fun S w => (∀ i, S i ↔ v.ownBlock = some i) ∧ w.ownsRow 0 26 1 v xs.length (xs.map fun n => .int .i64 n)
theorem nice_num (v : Value) (xs : List Int) : Nice (NumP v xs) where
  lt h i hi := (h.2.lt i ((h.1 i).1 hi)).2
  keep h hf hd := ⟨h.1, row_same h.2 fun j hj => hf.block j (h.2.lt j hj).2 (.inl (hd j ((h.1 j).2 hj)))⟩
theorem num_new {w0 w : World} {R : SP} (hR : Nice R) (h : Has w0 w R) : Has w0 w (Star (NumP (.slice none 0 0) []) R) :=
  h.new hR (Below.refl _ _) (S := fun _ => False) (fun _ => False.elim) ⟨fun i => by simp [Value.ownBlock], World.ownsRow_nil _ _ _ _⟩
theorem num_row {w0 w : World} {v : Value} {xs : List Int} {R : SP} (h : Has w0 w (Star (NumP v xs) R)) : w.ownsRow 0 26 1 v xs.length (xs.map fun n => .int .i64 n) := h.quiet fun _ h => h.2
theorem num_at {w0 w : World} {v : Value} {xs : List Int} {R : SP} (h : Has w0 w (Star (NumP v xs) R)) {k : Nat} (hk : k < xs.length) : ∃ g cap, v = .slice (some ⟨g, 0, none⟩) xs.length cap ∧ xs.length ≤ cap ∧ cap ≤ maxLen ∧ g < w.heap.size ∧ w.cell? ⟨g, k, none⟩ = some (.int .i64 (xs.getD k 0)) := by
  obtain ⟨h1, ⟨rfl, h2⟩ | ⟨g, cap, cur, rfl, hg, hh, h3, h4, h5, h6⟩⟩ := num_row h
  · omega
  · refine ⟨g, cap, rfl, h3, h4, lt_of_block hh, ?_⟩
    have e : cur[k]? = some (.int .i64 (xs.getD k 0)) := by
      have e1 : (cur.toList.take (xs.length * 1))[k]? = (xs.map fun n => Value.int .i64 n)[k]? := by rw [h6]
      rw [List.getElem?_take_of_lt (by omega)] at e1
      rw [← Array.getElem?_toList, e1]
      simp [List.getD_eq_getElem?_getD, List.getElem?_eq_getElem hk]
    rw [block_cell hh]
    exact e
theorem num_grown {w0 w w' : World} {v : Value} {xs : List Int} {r : Int} {R : SP} (hR : Nice R) (h : Has w0 w (Star (NumP v xs) R)) {g cap : Nat} (hr : w'.ownsRow 0 26 1 (.slice (some ⟨g, 0, none⟩) (xs.length + 1) cap) (xs.length + 1) ((xs.map fun n => .int .i64 n) ++ [.int .i64 r]))
    (hg : w.grownBy w' v.ownBlock) (hat : v.ownBlock = some g ∨ g = w.heap.size) : Has w0 w' (Star (NumP (.slice (some ⟨g, 0, none⟩) (xs.length + 1) cap) (xs ++ [r])) R) := by
  refine h.turn hR fun S hS => ⟨fun i => i = g, ?_, ⟨fun i => by simp [Value.ownBlock, eq_comm], by simpa using hr⟩, ?_⟩
  · rintro i rfl
    rcases hat with h | h
    · exact .inl ((hS.1 _).2 h)
    · exact .inr (by omega)
  · exact ⟨hg.os, hg.tape, hg.output, hg.size, fun i hi hn => hg.block i hi (fun e => by
      rcases hn with hn | ⟨s, hn⟩
      · exact hn ((hS.1 i).2 e.symm)
      · obtain ⟨cur, hc⟩ := row_block hS.2 e.symm
        rw [hn] at hc
        simp at hc)⟩

theorem infoErr : (Try.prog.info? 26).map (fun i => (i.zero, i.size, i.bytes)) = some (some (.int .i64 0), 1, 8) := by kernel_rfl
/-- An act upon a plain disk. -/
def actV (m : M) (x : ActV) : Int × M := m.actOn x.kind x.name.data.toList x.to.data.toList x.number x.sc
def upto (m : M) (l : List ActV) (k : Nat) : M := (l.take k).foldl (fun m x => (actV m x).2) m
def errs (m : M) (l : List ActV) : Nat → List Int
  | 0 => []
  | k + 1 => errs m l k ++ [(actV (upto m l k) (l.getD k ActV.none)).1]
theorem upto_succ {m : M} {l : List ActV} {k : Nat} (h : k < l.length) : upto m l (k + 1) = (actV (upto m l k) (l.getD k ActV.none)).2 := by
  unfold upto
  rw [List.take_succ_eq_append_getElem h, List.foldl_append, List.getD_eq_getElem?_getD, List.getElem?_eq_getElem h]
  rfl
theorem errs_length (m : M) (l : List ActV) : ∀ k, (errs m l k).length = k
  | 0 => rfl
  | k + 1 => by simp [errs, errs_length m l k]
theorem errs_get (m : M) (l : List ActV) : ∀ {k i : Nat}, i < k → (errs m l k).getD i 0 = (actV (upto m l i) (l.getD i ActV.none)).1
  | k + 1, i, h => by
    unfold errs
    rw [List.getD_eq_getElem?_getD]
    by_cases e : i = k
    · subst e
      rw [List.getElem?_append_right (by rw [errs_length]; omega), errs_length]
      simp
    · rw [List.getElem?_append_left (by rw [errs_length]; omega), ← List.getD_eq_getElem?_getD]
      exact errs_get m l (by omega)
theorem sim_upto {a b : M} {l : List ActV} {k : Nat} (hk : k < l.length) (h : SimE (upto a l k) (upto b l k)) (ha : (upto a l k).Ok) : (actV (upto b l k) (l.getD k ActV.none)).1 = (actV (upto a l k) (l.getD k ActV.none)).1 ∧ SimE (upto a l (k + 1)) (upto b l (k + 1)) := by
  rw [upto_succ hk, upto_succ hk]
  exact sim_actOn h ha _ _ _ _ _
end Go.Proofs.Ytlhnjdoicolkkaa
