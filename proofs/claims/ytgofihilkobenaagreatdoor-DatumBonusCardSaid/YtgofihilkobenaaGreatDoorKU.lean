/- What the model's definitions say of a right scheme, beside the program's. No walk stands here. -/
import Derived.Test.YtgofihilkobenaaGreatDoorDVariablesM
import Derived.Test.YtgofihilkobenaaGreatDoorKS
import Derived.Test.YtgofihilkobenaaGreatDoorKQ
set_option maxRecDepth 100000
namespace Go.Proofs.YtgofihilkobenaaGreatDoor
open Go.RowKit Go.Num Go.Flow Go.Maps Go.WideMaps Go.Dtm
set_option maxHeartbeats 4000000

theorem sum_getD {m m' : Int → Option Rat} (h : ∀ i, (m i).getD 0 = (m' i).getD 0) : ∀ k, sumTerms m k = sumTerms m' k
 | 0 => rfl
 | k + 1 => by
  rw [sumTerms, sumTerms, sum_getD h k]
  congr 1
  have := h (k : Int)
  cases h1 : m (k : Int) with
  | none =>
   cases h2 : m' (k : Int) with
   | none => rfl
   | some r =>
    rw [h1, h2] at this
    have hr : (0 : Rat) = r := this
    rw [← hr]
    rfl
  | some q =>
   cases h2 : m' (k : Int) with
   | none =>
    rw [h1, h2] at this
    have hr : q = (0 : Rat) := this
    rw [hr]
    rfl
   | some r =>
    rw [h1, h2] at this
    have hr : q = r := this
    rw [hr]
theorem sum_more {m : Int → Option Rat} {n : Nat} (h : ∀ i : Nat, n ≤ i → (m (i : Int)).getD 0 = 0) : ∀ d, sumTerms m (n + d) = sumTerms m n
 | 0 => rfl
 | d + 1 => by
  rw [← Nat.add_assoc, sumTerms, sum_more h d]
  have := h (n + d) (by omega)
  cases h1 : m ((n + d : Nat) : Int) with
  | none => simp
  | some r =>
   rw [h1] at this
   have hr : r = 0 := this
   rw [hr]
   simp
/-- What is right of a zone's kind and bonus. -/
theorem zone_kinds {fs : List Feat} {zs : List Zn} (h : check fs zs = 0) {j : Nat} (hj : j < zs.length) : ((zs.getD j Zn.none).kind = 2 → (fs.getD (zs.getD j Zn.none).feature.toNat Feat.none).kind = 2) ∧ ((zs.getD j Zn.none).kind = 3 → (fs.getD (zs.getD j Zn.none).feature.toNat Feat.none).kind ≠ 2) ∧ ((zs.getD j Zn.none).bonus = true → (zs.getD j Zn.none).kind = 1 ∧ (fs.getD (zs.getD j Zn.none).feature.toNat Feat.none).kind = 2) := by
 have h1 := firstErr_zero (first_split h).2 j (Nat.zero_le _) (by omega)
 unfold zoneErr at h1
 simp only [] at h1
 split at h1
 ·cases h1
 ·split at h1
  ·cases h1
  ·split at h1
   ·cases h1
   ·next c =>
    simp only [not_or, not_and, Decidable.not_not] at c
    exact ⟨c.1, c.2.1, c.2.2⟩
theorem zoneAt_cases (zs : List Zn) (i k : Int) : (zoneAt zs i k = -1 ∧ ∀ j, j < zs.length → isZone i k (zs.getD j Zn.none) = false) ∨ ∃ j : Nat, zoneAt zs i k = j ∧ j < zs.length ∧ (zs.getD j Zn.none).feature = i ∧ (zs.getD j Zn.none).kind = k := by
 unfold zoneAt
 rcases pos_cases (fun j => isZone i k (zs.getD j Zn.none)) zs.length 0 with ⟨h, h2⟩ | ⟨j, h, -, h1, h2, -⟩
 ·exact .inl ⟨h, fun j hj => h2 j (Nat.zero_le _) (by omega)⟩
 ·refine .inr ⟨j, h, by omega, ?_⟩
  unfold isZone at h2
  rw [Bool.and_eq_true, decide_eq_true_iff, decide_eq_true_iff] at h2
  exact h2
theorem zoneOf_at {zs : List Zn} {i k : Int} {j : Nat} (h : zoneAt zs i k = j) : zoneOf zs i k = zs.getD j Zn.none := by
 unfold zoneOf
 rw [h, if_neg (by omega), Int.toNat_natCast]
theorem zone_form {fs : List Feat} {zs : List Zn} (h : check fs zs = 0) {i : Nat} (h0 : 0 ≤ zoneAt zs (i : Int) 3) : (fs.getD i Feat.none).kind ≠ 2 := by
 rcases zoneAt_cases zs (i : Int) 3 with ⟨a, -⟩ | ⟨j, a, hj, hf, hk⟩
 ·omega
 ·have := (zone_kinds h hj).2.1 hk
  rw [hf, Int.toNat_natCast] at this
  exact this
theorem zone_bonus {fs : List Feat} {zs : List Zn} (h : check fs zs = 0) {i k : Int} (hb : (zoneOf zs i k).bonus = true) : k = 1 := by
 rcases zoneAt_cases zs i k with ⟨a, -⟩ | ⟨j, a, hj, hf, hk⟩
 ·unfold zoneOf at hb
  rw [if_pos (by omega)] at hb
  cases hb
 ·rw [zoneOf_at a] at hb
  have := ((zone_kinds h hj).2.2 hb).1
  omega
theorem widen_not {fs : List Feat} {zs : List Zn} (h : check fs zs = 0) {i k : Int} (hk : k ≠ 1) : widen zs i k = 0 := by
 unfold widen
 rw [if_neg fun hb => hk (zone_bonus h hb)]
theorem mem_varsTo {fs : List Feat} {zs : List Zn} {i : Nat} {k : Int} : ∀ {n : Nat}, (i, k) ∈ varsTo fs zs n ↔ i < n ∧ (k = 1 ∨ (k = 2 ∧ (fs.getD i Feat.none).kind = 2) ∨ (k = 3 ∧ 0 ≤ zoneAt zs (i : Int) 3))
 | 0 => by simp [varsTo]
 | n + 1 => by
  rw [varsTo, List.mem_append, mem_varsTo (n := n)]
  unfold varsAt
  simp only [List.mem_append, List.mem_cons]
  constructor
  ·rintro (h | h)
   ·exact ⟨by omega, h.2⟩
   ·rcases h with (h | h) | h
    ·cases h
     exact ⟨by omega, .inl rfl⟩
    ·split at h
     ·next h2 =>
      simp only [List.mem_cons, List.not_mem_nil, or_false, Prod.mk.injEq] at h
      obtain ⟨rfl, rfl⟩ := h
      exact ⟨by omega, .inr (.inl ⟨rfl, h2⟩)⟩
     ·cases h
    ·split at h
     ·next h2 =>
      simp only [List.mem_cons, List.not_mem_nil, or_false, Prod.mk.injEq] at h
      obtain ⟨rfl, rfl⟩ := h
      exact ⟨by omega, .inr (.inr ⟨rfl, h2⟩)⟩
     ·cases h
  ·rintro ⟨h1, h2⟩
   by_cases hi : i < n
   ·exact .inl ⟨hi, h2⟩
   ·obtain rfl : i = n := by omega
    right
    rcases h2 with rfl | ⟨rfl, h3⟩ | ⟨rfl, h3⟩
    ·exact .inl (.inl rfl)
    ·exact .inl (.inr (by rw [if_pos h3]; simp))
    ·exact .inr (by rw [if_pos h3]; simp)
theorem varAt_mem {V : List (Nat × Int)} {i : Nat} {k : Int} : 0 ≤ varAt V (i : Int) k ↔ (i, k) ∈ V := by
 unfold varAt
 rcases pos_cases (fun j => isVar (i : Int) k (V.getD j (0, 0))) V.length 0 with ⟨h, h2⟩ | ⟨j, h, -, h1, h2, -⟩
 ·rw [h]
  constructor
  ·intro h; omega
  ·intro hm
   obtain ⟨j, hj, e⟩ := List.getElem_of_mem hm
   have := h2 j (Nat.zero_le _) (by omega)
   rw [List.getD_eq_getElem?_getD, List.getElem?_eq_getElem hj, e] at this
   simp [isVar] at this
 ·rw [h]
  constructor
  ·intro _
   unfold isVar at h2
   rw [Bool.and_eq_true, decide_eq_true_iff, decide_eq_true_iff, List.getD_eq_getElem?_getD, List.getElem?_eq_getElem (by omega)] at h2
   have e : V[j]'(by omega) = (i, k) := by
    have h3 : ((V[j]'(by omega)).1 : Int) = (i : Int) := h2.1
    have h4 : (V[j]'(by omega)).2 = k := h2.2
    exact Prod.ext (by omega) h4
   rw [← e]
   exact List.getElem_mem _
  ·intro _; omega
theorem vars_at {fs : List Feat} {zs : List Zn} (h : check fs zs = 0) (i : Nat) : varsAt fs zs i = (i, 1) :: (if (fs.getD i Feat.none).kind = 2 then [(i, 2)] else if 0 ≤ zoneAt zs (i : Int) 3 then [(i, 3)] else []) := by
 unfold varsAt
 by_cases h2 : (fs.getD i Feat.none).kind = 2
 ·rw [if_pos h2, if_pos h2, if_neg fun h3 => zone_form h h3 h2]
  simp
 ·rw [if_neg h2, if_neg h2]
  simp
end Go.Proofs.YtgofihilkobenaaGreatDoor
/- The model's places and forms, beside the program's. No walk stands here. -/
set_option maxRecDepth 100000
namespace Go.Proofs.YtgofihilkobenaaGreatDoor
open Go.RowKit Go.Num Go.Flow Go.Maps Go.WideMaps Go.Dtm
set_option maxHeartbeats 4000000

/-- Two maps hold the same factors. -/
def SameMap (m m' : Int → Option Rat) : Prop := ∀ i, (m i).getD 0 = (m' i).getD 0
theorem SameMap.refl (m : Int → Option Rat) : SameMap m m := fun _ => rfl
theorem addTo_getD (m : Int → Option Rat) (i : Int) (q : Rat) (j : Int) : (addTo m i q j).getD 0 = if j = i then (m i).getD 0 + q else (m j).getD 0 := by
 unfold addTo
 split <;> rfl
theorem SameMap.add {m m' : Int → Option Rat} (h : SameMap m m') (i : Int) (q : Rat) : SameMap (addTo m i q) (addTo m' i q) := fun j => by
 rw [addTo_getD, addTo_getD, h i, h j]
theorem SameMap.addZero {m m' : Int → Option Rat} (h : SameMap m m') (i : Int) : SameMap (addTo m i 0) m' := fun j => by
 rw [addTo_getD, ← h j]
 split
 ·next e => rw [e, Rat.add_zero]
 ·rfl
theorem addTo_far {m : Int → Option Rat} {i : Int} (q : Rat) {j : Int} (h : j ≠ i) : (addTo m i q j).getD 0 = (m j).getD 0 := by
 rw [addTo_getD, if_neg h]
def qaddChain (V : List (Nat × Int)) (tm : Int) (C : List Int) (m : Int → Option Rat) : Int → Option Rat := C.foldl (fun m i => addTo m (varAt V i 1) (tm : Rat)) m
theorem qaddChain_snoc {V : List (Nat × Int)} {tm : Int} {C : List Int} {m : Int → Option Rat} {k : Nat} {i : Int} (h : C[k]? = some i) : qaddChain V tm (C.take (k + 1)) m = addTo (qaddChain V tm (C.take k) m) (varAt V i 1) (tm : Rat) := by
 unfold qaddChain
 rw [List.take_add_one, h, List.foldl_append]
 rfl
def qplaceTo (V : List (Nat × Int)) (C : List Int) (f side tm : Int) (slot : Bool) (m : Int → Option Rat) : Int → Option Rat :=
 let m1 := qaddChain V tm C m
 let m2 := if slot = true ∧ side ≠ 0 then addTo m1 (varAt V f 2) (((side * tm : Int) : Rat) / ((2 : Int) : Rat)) else m1
 if slot = false ∧ 0 ≤ varAt V f 3 then addTo m2 (varAt V f 3) (tm : Rat) else m2
theorem chain_same (V : List (Nat × Int)) (sg : Int) : ∀ (C : List Int) {m m' : Int → Option Rat}, SameMap m m' → SameMap (addChain V sg C m) (qaddChain V sg C m')
 | [], _, _, h => h
 | i :: C, m, m', h => by
  have e : ((1 : Int) : Rat) * (sg : Rat) = (sg : Rat) := by rw [show ((1 : Int) : Rat) = 1 from rfl, Rat.one_mul]
  unfold addChain qaddChain
  rw [List.foldl_cons, List.foldl_cons, e]
  have := chain_same V sg C (h.add (varAt V i 1) (sg : Rat))
  unfold addChain qaddChain at this
  simp only [e] at this ⊢
  exact this
theorem half_mul (side sg : Int) : (side : Rat) / ((2 : Int) : Rat) * (sg : Rat) = ((side * sg : Int) : Rat) / ((2 : Int) : Rat) := by
 rw [Rat.div_def, Rat.div_def, Rat.intCast_mul]
 grind
theorem place_same {fs : List Feat} {zs : List Zn} (h : check fs zs = 0) {f side sg : Int} (hf0 : 0 ≤ f) (hf1 : f < (fs.length : Int)) (hs : (fs.getD f.toNat Feat.none).kind ≠ 2 → side = 0) {C : List Int} {m m' : Int → Option Rat} (hm : SameMap m m') :
  SameMap (placeTo (varsTo fs zs fs.length) C f side sg m) (qplaceTo (varsTo fs zs fs.length) C f side sg (decide ((fs.getD f.toNat Feat.none).kind = 2)) m') := by
 obtain ⟨i, rfl⟩ : ∃ i : Nat, f = i := ⟨f.toNat, by omega⟩
 rw [Int.toNat_natCast] at hs ⊢
 have hc := chain_same (varsTo fs zs fs.length) sg C hm
 have h2 : 0 ≤ varAt (varsTo fs zs fs.length) (i : Int) 2 ↔ (fs.getD i Feat.none).kind = 2 := by
  rw [varAt_mem, mem_varsTo]
  constructor
  ·rintro ⟨-, a | a | a⟩
   ·cases a
   ·exact a.2
   ·cases a.1
  ·intro a
   exact ⟨by omega, .inr (.inl ⟨rfl, a⟩)⟩
 have h3 : 0 ≤ varAt (varsTo fs zs fs.length) (i : Int) 3 → (fs.getD i Feat.none).kind ≠ 2 := by
  rw [varAt_mem, mem_varsTo]
  rintro ⟨-, a | a | a⟩
  ·cases a
  ·cases a.1
  ·exact zone_form h a.2
 have e : ((1 : Int) : Rat) * (sg : Rat) = (sg : Rat) := by rw [show ((1 : Int) : Rat) = 1 from rfl, Rat.one_mul]
 unfold placeTo qplaceTo
 try simp only []
 rw [e, half_mul]
 by_cases hk : (fs.getD i Feat.none).kind = 2
 ·rw [if_pos (h2.2 hk), if_neg (fun a => h3 a hk), if_neg (c := decide _ = false ∧ _) (by simp only [decide_eq_false_iff_not]; exact fun a => a.1 hk)]
  by_cases h0 : side = 0
  ·rw [if_neg (fun a => a.2 h0), h0, Int.zero_mul]
   have : ((0 : Int) : Rat) / ((2 : Int) : Rat) = 0 := by rw [show ((0 : Int) : Rat) = 0 from rfl, Rat.div_def, Rat.zero_mul]
   rw [this]
   exact hc.addZero _
  ·rw [if_pos ⟨decide_eq_true hk, h0⟩]
   exact hc.add _ _
 ·rw [if_neg (fun a => hk (h2.1 a)), if_neg (c := decide _ = true ∧ _) (by simp only [decide_eq_true_eq]; exact fun a => hk a.1)]
  by_cases h4 : 0 ≤ varAt (varsTo fs zs fs.length) (i : Int) 3
  ·rw [if_pos h4, if_pos ⟨decide_eq_false hk, h4⟩]
   exact hc.add _ _
  ·rw [if_neg h4, if_neg (fun a => h4 a.2)]
   exact hc
theorem addChain_far (V : List (Nat × Int)) (sg : Int) {j : Int} (hj : (V.length : Int) ≤ j) : ∀ (C : List Int) (m : Int → Option Rat), (addChain V sg C m j).getD 0 = (m j).getD 0
 | [], m => rfl
 | i :: C, m => by
  have h1 := addChain_far V sg hj C (addTo m (varAt V i 1) (((1 : Int) : Rat) * (sg : Rat)))
  have h2 := pos_le (p := fun j => isVar i 1 (V.getD j (0, 0))) (n := V.length) (k := 0)
  have h3 : varAt V i 1 < ((0 + V.length : Nat) : Int) := h2
  rw [addTo_far _ (by omega)] at h1
  exact h1
theorem place_far (V : List (Nat × Int)) (C : List Int) (f side sg : Int) (m : Int → Option Rat) {j : Int} (hj : (V.length : Int) ≤ j) : (placeTo V C f side sg m j).getD 0 = (m j).getD 0 := by
 have h2 : varAt V f 2 < ((0 + V.length : Nat) : Int) := pos_le (p := fun j => isVar f 2 (V.getD j (0, 0))) (n := V.length) (k := 0)
 have h3 : varAt V f 3 < ((0 + V.length : Nat) : Int) := pos_le (p := fun j => isVar f 3 (V.getD j (0, 0))) (n := V.length) (k := 0)
 unfold placeTo
 try simp only []
 split <;> split
 ·rw [addTo_far _ (by omega), addTo_far _ (by omega), addChain_far V sg hj]
 ·rw [addTo_far _ (by omega), addChain_far V sg hj]
 ·rw [addTo_far _ (by omega), addChain_far V sg hj]
 ·rw [addChain_far V sg hj]
end Go.Proofs.YtgofihilkobenaaGreatDoor
/- variables' add. -/
set_option maxRecDepth 100000
namespace Go.Proofs.YtgofihilkobenaaGreatDoor
open Go.RowKit Go.Num Go.Flow Go.Dtm
set_option maxHeartbeats 8000000
set_option linter.unusedVariables false

theorem row_turns {w w' : World} {B : Nat} {t t2 : TypeId} {k n k2 n2 : Nat} {v v2 : Value} {l l2 : List Value} (h : w.ownsRow B t k v n l) (hg : w.grownBy w' v2.ownBlock) (h2 : w.ownsRow B t2 k2 v2 n2 l2) (ht : t ≠ t2) : w'.ownsRow B t k v n l := by
 rcases h.2 with h1 | ⟨g, cap, cur, h1, hB, h3, h4⟩
 ·exact ⟨h.1, .inl h1⟩
 ·refine ⟨h.1, .inr ⟨g, cap, cur, h1, hB, (hg.block g (lt_of_block h3) fun e => ?_).trans h3, h4⟩⟩
  exact row_off h2 h3 ht g e.symm rfl
theorem row_setNe {w : World} {B : Nat} {t : TypeId} {k n : Nat} {v : Value} {l : List Value} (h : w.ownsRow B t k v n l) {b : Nat} (hb : ∀ g, v.ownBlock = some g → g ≠ b) (i : Nat) (u : Value) : (w.setCell ⟨b, i, none⟩ u).ownsRow B t k v n l := by
 rcases h.2 with h1 | ⟨g, cap, cur, h1, h2, h3, h4⟩
 ·exact ⟨h.1, .inl h1⟩
 ·exact ⟨h.1, .inr ⟨g, cap, cur, h1, h2, (Below.heap_setCell _ _ _ _ (hb g (by rw [h1]; rfl))).trans h3, h4⟩⟩
theorem one_set {w : World} {b : Nat} {x : Value} {t : TypeId} (h : w.heap[b]? = some (.cells #[x] t (0, 0))) (u : Value) : (w.setCell ⟨b, 0, none⟩ u).heap[b]? = some (.cells #[u] t (0, 0)) := by
 simp [World.setCell, Array.getElem?_modify, h]
/-- The blocks of other types have not turned. -/
def KeepTy (S : List TypeId) (w w' : World) : Prop := ∀ (b : Nat) (cs : Array Value) (t : TypeId), w.heap[b]? = some (.cells cs t (0, 0)) → t ∉ S → w'.heap[b]? = some (.cells cs t (0, 0))
theorem KeepTy.refl (S : List TypeId) (w : World) : KeepTy S w w := fun _ _ _ h _ => h
theorem KeepTy.trans {S : List TypeId} {a b c : World} (h : KeepTy S a b) (k : KeepTy S b c) : KeepTy S a c := fun g cs t e n => k g cs t (h g cs t e n) n
theorem KeepTy.below {S : List TypeId} {a b : World} (h : Below a.heap.size a b) : KeepTy S a b := fun g cs t e _ => (h.block g (lt_of_block e)).trans e
theorem KeepTy.set {S : List TypeId} {w : World} {b : Nat} {cs : Array Value} {t : TypeId} (h : w.heap[b]? = some (.cells cs t (0, 0))) (ht : t ∈ S) (i : Nat) (u : Value) : KeepTy S w (w.setCell ⟨b, i, none⟩ u) := fun g cs' t' e n => by
 refine (Below.heap_setCell _ _ _ _ ?_).trans e
 rintro rfl
 have e2 := h.symm.trans e
 simp at e2
 exact n (e2.2 ▸ ht)
theorem KeepTy.grown {S : List TypeId} {w w' : World} {B : Nat} {t : TypeId} {k n : Nat} {v : Value} {l : List Value} (hr : w.ownsRow B t k v n l) (hg : w.grownBy w' v.ownBlock) (ht : t ∈ S) : KeepTy S w w' := fun g cs t' e m => by
 refine (hg.block g (lt_of_block e) fun e2 => ?_).trans e
 exact row_off hr e (fun e3 => m (e3 ▸ ht)) g e2.symm rfl
theorem dmCells_snoc (l : List Dm) (d : Dm) : dmCells (l ++ [d]) = dmCells l ++ [.string d.name, .int .i64 d.nominal, .int .i64 d.lower, .int .i64 d.upper] := by
 unfold dmCells
 rw [List.flatMap_append]
 rfl
theorem infoKey : (Tryz.prog.info? 88).map (fun i => (i.zero, i.size, i.bytes)) = some (some (.agg #[.int .i64 0, .int .i64 0]), 2, 16) := by kernel_rfl
abbrev vTys : List TypeId := [31, 45, 60, 88]
/-- The two lists that variables makes, in their boxes. -/
def TwoIn (w : World) (B bo bk : Nat) (L : List Dm) (M : List (Nat × Int)) : Prop := ∃ vo vk, w.heap[bo]? = some (.cells #[vo] 31 (0, 0)) ∧ w.heap[bk]? = some (.cells #[vk] 45 (0, 0)) ∧ w.ownsRow B 60 4 vo L.length (dmCells L) ∧ w.ownsRow B 88 2 vk M.length (varCells M)
theorem TwoIn.below {w w' : World} {B bo bk : Nat} {L : List Dm} {M : List (Nat × Int)} (h : TwoIn w B bo bk L M) (hb : Below w.heap.size w w') : TwoIn w' B bo bk L M := by
 obtain ⟨vo, vk, h1, h2, h3, h4⟩ := h
 exact ⟨vo, vk, (hb.block _ (lt_of_block h1)).trans h1, (hb.block _ (lt_of_block h2)).trans h2, row_below h3 hb, row_below h4 hb⟩
theorem qadd_any {w : World} {B bo bk : Nat} {L : List Dm} {M : List (Nat × Int)} (hT : TwoIn w B bo bk L M) (hB1 : B ≤ bo) (hB2 : B ≤ bk) (hL : L.length ≤ 1000) (hM : M.length ≤ 1000) (i : Nat) (k : Int) (nm : ByteArray) (no lo up : Int) :
  Calls Tryz.prog 65 #[.int .i64 (i : Int), .int .i64 k, .string nm, .int .i64 no, .int .i64 lo, .int .i64 up, .pointer (some ⟨bo, 0, none⟩), .pointer (some ⟨bk, 0, none⟩)] w fun e w' => e = .returned (.tuple #[]) ∧ TwoIn w' B bo bk (L ++ [⟨nm, no, lo, up⟩]) (M ++ [(i, k)]) ∧ Below B w w' ∧ KeepTy vTys w w' := by
 obtain ⟨vo, vk, ko, kk, ro, rk⟩ := hT
 have hbo := lt_of_block ko
 have hbk := lt_of_block kk
 obtain ⟨i0, hi, hz0, hz1, hz2⟩ := info_parts infoDim
 have HI := Lib.hid (And.intro hi (And.intro hz0 (And.intro hz1 hz2)))
 obtain ⟨i1, hj, hy0, hy1, hy2⟩ := info_parts infoKey
 have HJ := Lib.hid (And.intro hj (And.intro hy0 (And.intro hy1 hy2)))
 have s0 := block_cell ko 0
 simp at s0
 have RO := Lib.hid ro
 have RK := Lib.hid rk
 have KO := Lib.hid ko
 have KK := Lib.hid kk
 have HB := Lib.hid (And.intro hB1 (And.intro hB2 (And.intro hbo (And.intro hbk (And.intro hL hM)))))
 clear hi hz0 hz1 hz2 hj hy0 hy1 hy2 ro rk ko kk hB1 hB2 hbo hbk hL hM
 go_enter Tryz.func65, Tryz.ntmps65
 go_wp2_with (at_builtin; refine wpList_append_own _ rfl _ _ 31 rfl B 60 i0 _ 4 40 Tryz.underlying31 HI.out.1 HI.out.2.1 HI.out.2.2.1 HI.out.2.2.2 rfl (by decide) _ _ _ rfl (World.ownsRow.alloc RO.out _) ⟨w.heap.size, 0, none⟩ 1 1 [.string nm, .int .i64 no, .int .i64 lo, .int .i64 up] rfl rfl ?c1 ?c2 ?c3 ?c4 ?c5 ?_)
 case c1 => exact World.news_of_block (heap_alloc_new w _)
 case c2 => simp [Value.oneCell']
 case c3 => have := HB.out; unfold maxLen; omega
 case c4 => have := HB.out; omega
 case c5 => have := HB.out; simp; omega
 intro v2 w2 hown2 hg2 _
 obtain ⟨a2, c2, rfl, -, -⟩ := row_shape hown2
 obtain ⟨v2, hv2⟩ : ∃ x, x = Value.slice a2 (L.length + 1) c2 := ⟨_, rfl⟩
 rw [← hv2] at hown2
 obtain ⟨W1, hW1⟩ : ∃ x, x = w.alloc (.cells #[.string nm, .int .i64 no, .int .i64 lo, .int .i64 up] 60) := ⟨_, rfl⟩
 have hl1 : Below w.heap.size w W1 := by rw [hW1]; exact (Below.refl _ w).alloc (Nat.le_refl _) _
 rw [← hW1] at hg2
 have ro1 := row_below RO.out hl1
 have kt1 : KeepTy vTys w W1 := KeepTy.below hl1
 have hne : ∀ g, vo.ownBlock = some g → g ≠ bo := row_off RO.out KO.out (by decide)
 have hne2 : ∀ g, vo.ownBlock = some g → g ≠ bk := row_off RO.out KK.out (by decide)
 have ko2 : w2.heap[bo]? = some (.cells #[vo] 31 (0, 0)) := (hg2.block bo (Nat.lt_of_lt_of_le HB.out.2.2.1 hl1.size) (fun e => hne bo e.symm rfl)).trans ((hl1.block bo HB.out.2.2.1).trans KO.out)
 have kk2 : w2.heap[bk]? = some (.cells #[vk] 45 (0, 0)) := (hg2.block bk (Nat.lt_of_lt_of_le HB.out.2.2.2.1 hl1.size) (fun e => hne2 bk e.symm rfl)).trans ((hl1.block bk HB.out.2.2.2.1).trans KK.out)
 have rk2 : w2.ownsRow B 88 2 vk M.length (varCells M) := row_turns (row_below RK.out hl1) hg2 ro1 (by decide)
 have kt2 := kt1.trans (KeepTy.grown (S := vTys) ro1 hg2 (by decide))
 have hb2 : Below B w w2 := ((Below.refl B w).trans (hl1.mono (by have := HB.out; omega))).grown hg2 (by have := HB.out; have := hl1.size; omega) (fun q e => (row_lt RO.out q e).1)
 have sz2 : w.heap.size ≤ w2.heap.size := hb2.size
 have t0 := block_cell ko2 0
 have f0 := block_free ko2 0
 simp at t0
 have hne3 : ∀ g, v2.ownBlock = some g → g ≠ bo := row_off hown2 ko2 (by decide)
 have hbk0 : bk ≠ bo := fun e => by subst e; have e2 := kk2.symm.trans ko2; simp at e2
 have ko3 := one_set ko2 v2
 have kk3 : (w2.setCell ⟨bo, 0, none⟩ v2).heap[bk]? = some (.cells #[vk] 45 (0, 0)) := (Below.heap_setCell _ _ _ _ hbk0).trans kk2
 have ro3 := row_setNe hown2 hne3 0 v2
 have rk3 := row_setNe rk2 (row_off rk2 ko2 (by decide)) 0 v2
 have kt3 := kt2.trans (KeepTy.set (S := vTys) ko2 (by decide) 0 v2)
 have hb3 := hb2.setCell (p := ⟨bo, 0, none⟩) HB.out.1 v2
 have sz3 : w.heap.size ≤ (w2.setCell ⟨bo, 0, none⟩ v2).heap.size := hb3.size
 obtain ⟨w3, hw3⟩ : ∃ x, x = w2.setCell ⟨bo, 0, none⟩ v2 := ⟨_, rfl⟩
 rw [← hw3] at ko3 kk3 ro3 rk3 kt3 hb3 sz3
 have u1 := block_cell kk3 0
 simp at u1
 have RO := Lib.hid ro3
 have RK := Lib.hid rk3
 have KO := Lib.hid ko3
 have KK := Lib.hid kk3
 have KT := Lib.hid kt3
 have BB := Lib.hid hb3
 have SZ := Lib.hid sz3
 rw [hv2] at hw3
 have HW3 := Lib.hid hw3
 clear hW1 hl1 ro1 kt1 hne hne2 ko2 kk2 rk2 kt2 hb2 sz2 hne3 hbk0 ko3 kk3 ro3 rk3 kt3 hb3 sz3 hown2 hg2 hw3 s0 hv2
 go_upto_region 1 with fail
 rw [← HW3.out]
 clear HW3 f0
 go_wp2_with (at_builtin; refine wpList_append_own _ rfl _ _ 45 rfl B 88 i1 _ 2 16 Tryz.underlying45 HJ.out.1 HJ.out.2.1 HJ.out.2.2.1 HJ.out.2.2.2 rfl (by decide) _ _ _ rfl (World.ownsRow.alloc RK.out _) ⟨w3.heap.size, 0, none⟩ 1 1 [.int .i64 (i : Int), .int .i64 k] rfl rfl ?c1 ?c2 ?c3 ?c4 ?c5 ?_)
 case c1 => exact World.news_of_block (heap_alloc_new w3 _)
 case c2 => simp [Value.oneCell']
 case c3 => have := HB.out; unfold maxLen; omega
 case c4 => have := HB.out; omega
 case c5 => have := HB.out; have := SZ.out; simp; omega
 intro v4 w4 hown4 hg4 _
 obtain ⟨a4, c4, rfl, -, -⟩ := row_shape hown4
 obtain ⟨v4, hv4⟩ : ∃ x, x = Value.slice a4 (M.length + 1) c4 := ⟨_, rfl⟩
 rw [← hv4] at hown4
 obtain ⟨W1, hW1⟩ : ∃ x, x = w3.alloc (.cells #[.int .i64 (i : Int), .int .i64 k] 88) := ⟨_, rfl⟩
 have hl1 : Below w3.heap.size w3 W1 := by rw [hW1]; exact (Below.refl _ w3).alloc (Nat.le_refl _) _
 rw [← hW1] at hg4
 have rk1 := row_below RK.out hl1
 have lo3 := lt_of_block KO.out
 have lk3 := lt_of_block KK.out
 have kt1 : KeepTy vTys w W1 := KT.out.trans (KeepTy.below hl1)
 have hne : ∀ g, vk.ownBlock = some g → g ≠ bo := row_off RK.out KO.out (by decide)
 have hne2 : ∀ g, vk.ownBlock = some g → g ≠ bk := row_off RK.out KK.out (by decide)
 have ko4 : w4.heap[bo]? = some (.cells #[v2] 31 (0, 0)) := (hg4.block bo (Nat.lt_of_lt_of_le lo3 hl1.size) (fun e => hne bo e.symm rfl)).trans ((hl1.block bo lo3).trans KO.out)
 have kk4 : w4.heap[bk]? = some (.cells #[vk] 45 (0, 0)) := (hg4.block bk (Nat.lt_of_lt_of_le lk3 hl1.size) (fun e => hne2 bk e.symm rfl)).trans ((hl1.block bk lk3).trans KK.out)
 have ro4 : w4.ownsRow B 60 4 v2 (L.length + 1) (dmCells L ++ [.string nm, .int .i64 no, .int .i64 lo, .int .i64 up]) := row_turns (row_below RO.out hl1) hg4 rk1 (by decide)
 have kt4 := kt1.trans (KeepTy.grown (S := vTys) rk1 hg4 (by decide))
 have hb4 : Below B w w4 := (BB.out.trans (hl1.mono (by have := HB.out; have := SZ.out; omega))).grown hg4 (by have := HB.out; have := SZ.out; have := hl1.size; omega) (fun q e => (row_lt RK.out q e).1)
 have t1 := block_cell kk4 0
 have f1 := block_free kk4 0
 simp at t1
 have hbk0 : bo ≠ bk := fun e => by subst e; have e2 := ko4.symm.trans kk4; simp at e2
 have F1 := (show TwoIn (w4.setCell ⟨bk, 0, none⟩ v4) B bo bk (L ++ [⟨nm, no, lo, up⟩]) (M ++ [(i, k)]) from ⟨v2, v4, (Below.heap_setCell _ _ _ _ hbk0).trans ko4, one_set kk4 v4, by
  rw [dmCells_snoc, List.length_append]
  exact row_setNe ro4 (row_off ro4 kk4 (by decide)) 0 v4, by
  rw [varCells_snoc, List.length_append]
  exact row_setNe hown4 (row_off hown4 kk4 (by decide)) 0 v4⟩)
 have F2 := (hb4.setCell (p := ⟨bk, 0, none⟩) HB.out.2.1 v4)
 have F3 := (kt4.trans (KeepTy.set (S := vTys) kk4 (by decide) 0 v4))
 rw [hv4] at F1 F2 F3
 replace F1 := Lib.hid F1
 replace F2 := Lib.hid F2
 replace F3 := Lib.hid F3
 clear hW1 hl1 rk1 lo3 lk3 kt1 hne hne2 ko4 kk4 ro4 kt4 hb4 hbk0 hown4 hg4 u1 hv4
 go_wp2_with fail
 go_end0
 exact ⟨rfl, F1.out, F2.out, F3.out⟩
end Go.Proofs.YtgofihilkobenaaGreatDoor
/- The model's variables. -/
set_option maxRecDepth 100000
namespace Go.Proofs.YtgofihilkobenaaGreatDoor
open Go.RowKit Go.Num Go.Flow Go.Dtm
set_option maxHeartbeats 8000000
set_option linter.unusedVariables false

theorem append_none (s : ByteArray) : s ++ (⟨#[]⟩ : ByteArray) = s := by
  apply ByteArray.ext
  simp
theorem dim_pos {fs : List Feat} {zs : List Zn} (i : Nat) : dimOf fs zs (i, 1) = ⟨(fs.getD i Feat.none).name, (fs.getD i Feat.none).place, (zoneOf zs i 1).lower - widen zs i 1, (zoneOf zs i 1).upper + widen zs i 1⟩ := by
  unfold dimOf
  rw [show suffix (1 : Int).toNat = ⟨#[]⟩ from rfl, append_none]
  rfl
theorem dim_size {fs : List Feat} {zs : List Zn} (h : check fs zs = 0) (i : Nat) : dimOf fs zs (i, 2) = ⟨(fs.getD i Feat.none).name ++ (⟨#[46, 115, 105, 122, 101]⟩ : ByteArray), (fs.getD i Feat.none).wide, (zoneOf zs i 2).lower, (zoneOf zs i 2).upper⟩ := by
  unfold dimOf
  simp only []
  rw [widen_not h (by decide)]
  congr 1 <;> simp
theorem dim_form {fs : List Feat} {zs : List Zn} (h : check fs zs = 0) (i : Nat) : dimOf fs zs (i, 3) = ⟨(fs.getD i Feat.none).name ++ (⟨#[46, 102, 111, 114, 109]⟩ : ByteArray), 0, (zoneOf zs i 3).lower, (zoneOf zs i 3).upper⟩ := by
  unfold dimOf
  simp only []
  rw [widen_not h (by decide)]
  congr 1 <;> simp
theorem TwoIn.start {w : World} {t1 t2 : TypeId} (h1 : t1 = 31) (h2 : t2 = 45) : TwoIn ((w.alloc (.cells #[.slice none 0 0] t1)).alloc (.cells #[.slice none 0 0] t2)) w.heap.size w.heap.size (w.heap.size + 1) [] [] := by
  subst h1 h2
  obtain ⟨k0, k1⟩ := two_made w #[.slice none 0 0] #[.slice none 0 0] 31 45
  exact ⟨.slice none 0 0, .slice none 0 0, k0, k1, World.ownsRow_nil _ _ _ _, World.ownsRow_nil _ _ _ _⟩
theorem qvariables_any {w : World} {af : Option Addr} {cf : Nat} {az : Option Addr} {cz : Nat} {fs : List Feat} {zs : List Zn} (h : SchemeIn w af cf az cz fs zs) (hck : check fs zs = 0) :
    Calls Tryz.prog 21 #[.agg #[.slice af fs.length cf, .slice az zs.length cz]] w fun e w' => ∃ vo vk, e = .returned (.tuple #[vo, vk]) ∧ w'.ownsRow w.heap.size 60 4 vo (dimsTo fs zs).length (dmCells (dimsTo fs zs)) ∧ w'.ownsRow w.heap.size 88 2 vk (varsTo fs zs fs.length).length (varCells (varsTo fs zs fs.length)) ∧ Below w.heap.size w w' := by
  have hsm := check_small hck
  obtain ⟨n, hn⟩ : ∃ n, n = fs.length := ⟨_, rfl⟩
  obtain ⟨nz, hnz⟩ : ∃ n, n = zs.length := ⟨_, rfl⟩
  obtain ⟨wa, hwa⟩ : ∃ wa, wa = w.alloc (.cells #[.slice af n cf, .slice az nz cz] 26) := ⟨_, rfl⟩
  obtain ⟨ba, hba⟩ : ∃ b, b = w.heap.size := ⟨_, rfl⟩
  obtain ⟨bo, hbo⟩ : ∃ b, b = wa.heap.size := ⟨_, rfl⟩
  obtain ⟨bk, hbk⟩ : ∃ b, b = bo + 1 := ⟨_, rfl⟩
  have hal : Below w.heap.size w wa := by rw [hwa]; exact (Below.refl _ w).alloc (Nat.le_refl _) _
  have k0 : wa.heap[ba]? = some (.cells #[.slice af n cf, .slice az nz cz] 26 (0, 0)) := by rw [hwa, hba]; exact heap_alloc_new w _
  have s0 := block_cell k0 0
  have s1 := block_cell k0 1
  simp at s0 s1
  have hlm := fun (W : World) (hW : SchemeIn W af cf az cz fs zs) (i k : Int) => qlimits_any hW (by omega) i k
  have hzo := fun (W : World) (hW : SchemeIn W af cf az cz fs zs) (i k : Int) => qzone_any hW (by omega) i k
  simp only [← hn, ← hnz] at hlm hzo
  have hcap : n ≤ cf ∧ cf ≤ 9223372036854775807 := by rw [hn]; exact ⟨h.feats.1, h.feats.2.1⟩
  have hcap2 : nz ≤ cz ∧ cz ≤ 9223372036854775807 := by rw [hnz]; exact ⟨h.zones.1, h.zones.2.1⟩
  have HCAP2 := Lib.hid hcap2
  obtain ⟨w0, hw0⟩ : ∃ x, x = (wa.alloc (.cells #[.slice none 0 0] 31)).alloc (.cells #[.slice none 0 0] 45) := ⟨_, rfl⟩
  have ht0 : TwoIn w0 wa.heap.size bo bk [] [] := by rw [hw0, hbk, hbo]; exact TwoIn.start rfl rfl
  have hb0 : Below wa.heap.size wa w0 := by rw [hw0]; exact ((Below.refl _ wa).alloc (Nat.le_refl _) _).alloc (by simp) _
  have HLM := Lib.hid hlm
  have HZO := Lib.hid hzo
  have HS := Lib.hid (h.below hal)
  have HAL := Lib.hid hal
  have HSC := Lib.hid (And.intro s0 s1)
  have HN := Lib.hid (And.intro hn (And.intro hnz hsm))
  have HCK := Lib.hid hck
  have HT0 := Lib.hid ht0
  have HB0 := Lib.hid hb0
  have HOK := Lib.hid (show wa.heap.size ≤ bo ∧ wa.heap.size ≤ bk by omega)
  have HW := Lib.hid (And.intro hwa hba)
  have HW0 := Lib.hid (And.intro hw0 (And.intro hbo hbk))
  rw [← hn, ← hnz]
  clear hal hwa hba hbo hbk k0 h hsm hn hnz hck hlm hzo hcap2 hw0 ht0 hb0
  go_enter Tryz.func21, Tryz.ntmps21
  go_upto_region 1 with fail
  rw [← HW.out.1, ← HW.out.2]
  clear HW
  go_upto_region 3 with fail
  rw [← HW0.out.1, ← HW0.out.2.1, ← HW0.out.2.2]
  clear HW0
  have s0 := cell_below HB0.out HSC.out.1
  have s1 := cell_below HB0.out HSC.out.2
  go_wp2_with fail
  clear s0 s1
  go_loopg [20] n (fun gk i wr => ∃ k : Nat, k + gk = n ∧ i = .int .i64 k ∧ Hid (TwoIn wr wa.heap.size bo bk ((varsTo fs zs k).map (dimOf fs zs)) (varsTo fs zs k)) ∧ Hid (Below wa.heap.size wa wr))
  case atStart => exact ⟨0, by omega, rfl, Lib.hid HT0.out, Lib.hid HB0.out⟩
  case round =>
    obtain ⟨k, hkn, rfl, htw, hbw⟩ := hrel
    have s0 := cell_below hbw.out HSC.out.1
    have s1 := cell_below hbw.out HSC.out.2
    by_cases hlt : k < n
    · have e1 : ((k : Int) < (n : Int)) = True := eq_true (by omega)
      obtain ⟨f, hf⟩ : ∃ f, f = fs.getD k Feat.none := ⟨_, rfl⟩
      obtain ⟨b, o, rfl, -, hc⟩ := (HS.out.feats.below hbw.out).2.2 (by rw [← HN.out.1]; omega)
      have HX := hc k (by rw [← HN.out.1]; exact hlt)
      rw [← hf] at HX
      obtain ⟨x0, x1, x2, x3, x4, x5⟩ := HX
      have hi0 : (0 : Int) ≤ (k : Int) := by omega
      have hi1 : (k : Int) < (n : Int) := by omega
      have HLT := Lib.hid hlt
      have HF := Lib.hid hf
      clear hc hlt hf
      go_upto_region 7 with fail
      obtain ⟨w1, hw1⟩ : ∃ x, x = wr.alloc (.cells #[.string f.name, .int .i64 f.kind, .int .i64 f.axis, .int .i64 f.datum, .int .i64 f.place, .int .i64 f.wide] 28) := ⟨_, rfl⟩
      obtain ⟨bf, hbf⟩ : ∃ b, b = wr.heap.size := ⟨_, rfl⟩
      rw [← hw1, ← hbf]
      have hl1 : Below wr.heap.size wr w1 := by rw [hw1]; exact (Below.refl _ wr).alloc (Nat.le_refl _) _
      have kf : w1.heap[bf]? = some (.cells #[.string f.name, .int .i64 f.kind, .int .i64 f.axis, .int .i64 f.datum, .int .i64 f.place, .int .i64 f.wide] 28 (0, 0)) := by rw [hw1, hbf]; exact heap_alloc_new wr _
      have HKF := Lib.hid kf
      have HT1 := Lib.hid (htw.out.below hl1)
      have HB1 := Lib.hid (hbw.out.trans (hl1.mono hbw.out.size))
      clear x0 x1 x2 x3 x4 x5 s0 s1 hw1 hbf hl1 kf htw hbw e1
      have s0 := cell_below HB1.out HSC.out.1
      have s1 := cell_below HB1.out HSC.out.2
      have HCAP := Lib.hid hcap
      go_wp2_with fail
      refine (HLM.out w1 (HS.out.below HB1.out) (k : Int) 1).mono ?_
      rintro e w2 ⟨rfl, hb2⟩
      have HT2 := Lib.hid (HT1.out.below hb2)
      have HB2 := Lib.hid (HB1.out.trans (hb2.mono HB1.out.size))
      have HKF2 := Lib.hid ((hb2.block bf (lt_of_block HKF.out)).trans HKF.out)
      clear hb2 HT1 HB1 HKF
      have s0 := cell_below HB2.out HSC.out.1
      have s1 := cell_below HB2.out HSC.out.2
      go_wp2_with fail
      refine (HLM.out w2 (HS.out.below HB2.out) (k : Int) 2).mono ?_
      rintro e w3 ⟨rfl, hb3⟩
      have HT3 := Lib.hid (HT2.out.below hb3)
      have HB3 := Lib.hid (HB2.out.trans (hb3.mono HB2.out.size))
      have HKF3 := Lib.hid ((hb3.block bf (lt_of_block HKF2.out)).trans HKF2.out)
      clear hb3 HT2 HB2 HKF2
      have s0 := cell_below HB3.out HSC.out.1
      have s1 := cell_below HB3.out HSC.out.2
      go_wp2_with fail
      refine (HZO.out w3 (HS.out.below HB3.out) (k : Int) 1).mono ?_
      rintro e w4 ⟨rfl, hb4⟩
      have HT4 := Lib.hid (HT3.out.below hb4)
      have HB4 := Lib.hid (HB3.out.trans (hb4.mono HB3.out.size))
      have HKF4 := Lib.hid ((hb4.block bf (lt_of_block HKF3.out)).trans HKF3.out)
      clear hb4 HT3 HB3 HKF3
      have s0 := cell_below HB4.out HSC.out.1
      have s1 := cell_below HB4.out HSC.out.2
      obtain ⟨zb, hzb⟩ : ∃ x, x = (zoneOf zs (k : Int) 1).bonus := ⟨_, rfl⟩
      obtain ⟨l1, hl1⟩ : ∃ x, x = (zoneOf zs (k : Int) 1).lower := ⟨_, rfl⟩
      obtain ⟨u1, hu1⟩ : ∃ x, x = (zoneOf zs (k : Int) 1).upper := ⟨_, rfl⟩
      obtain ⟨l2, hl2⟩ : ∃ x, x = (zoneOf zs (k : Int) 2).lower := ⟨_, rfl⟩
      obtain ⟨u2, hu2⟩ : ∃ x, x = (zoneOf zs (k : Int) 2).upper := ⟨_, rfl⟩
      have hbz1 := zoneOf_bound HCK.out (k : Int) 1
      have hbz2 := zoneOf_bound HCK.out (k : Int) 2
      rw [← hl1, ← hu1] at hbz1
      rw [← hl2, ← hu2] at hbz2
      have HWD := Lib.hid (show widen zs (k : Int) 1 = if zb = true then u2 - l2 else 0 by unfold widen; rw [← hzb, ← hl2, ← hu2])
      have HBZ := Lib.hid (And.intro hbz1 hbz2)
      rw [← hl1, ← hu1, ← hl2, ← hu2]
      have HL12 := Lib.hid (And.intro hl1 (And.intro hu1 (And.intro hl2 hu2)))
      have HZBN := Lib.hid hzb
      clear hbz1 hbz2 hl1 hu1 hl2 hu2 hzb
      go_upto_region 10 with fail
      go_cut [13, 20, 49] from 20 to 100 (fun _ i c wx => i = .int .i64 (k : Int) ∧ c = .bool zb ∧ wx = w4)
      case first =>
        rcases zoneAt_cases zs (k : Int) 1 with ⟨ha, -⟩ | ⟨j, ha, hj, -⟩
        · have hzf : zb = false := by
            rw [HZBN.out]
            unfold zoneOf
            rw [ha, if_pos (by decide)]
            rfl
          rw [ha]
          have HZF := Lib.hid hzf
          clear ha hzf
          go_wp2_with fail
          go_meet
          exact ⟨rfl, by rw [HZF.out], rfl⟩
        · obtain ⟨b, o, rfl, -, hc⟩ := (HS.out.zones.below HB4.out).2.2 (by omega)
          have hx4 := (hc j hj).2.2.2.2
          have hzj : (zs.getD j Zn.none).bonus = zb := by rw [HZBN.out, zoneOf_at ha]
          rw [hzj] at hx4
          rw [ha]
          have e0 : ((0 : Int) ≤ (j : Int)) = True := eq_true (by omega)
          have hj0 : (0 : Int) ≤ (j : Int) := by omega
          have hj1 : (j : Int) < (nz : Int) := by have := HN.out.2.1; omega
          have hcap2 := HCAP2.out
          clear hc ha hzj
          go_wp2_with fail
          go_meet
          exact ⟨rfl, rfl, rfl⟩
      case rest =>
       obtain ⟨rfl, rfl, rfl⟩ := hcut
       go_upto_if 49 with fail
       go_cut [9, 10, 20] from 20 to 100 (fun lo up i wx => i = .int .i64 (k : Int) ∧ lo = .int .i64 (l1 - widen zs (k : Int) 1) ∧ up = .int .i64 (u1 + widen zs (k : Int) 1) ∧ wx = wc)
       case first =>
        cases zb with
        | true =>
          have w1 : wrap64 (u2 - l2) = u2 - l2 := IntWalk.wrap64_in _ (by have := HBZ.out; omega)
          have w2 : wrap64 (l1 - (u2 - l2)) = l1 - (u2 - l2) := IntWalk.wrap64_in _ (by have := HBZ.out; omega)
          have w3 : wrap64 (u1 + (u2 - l2)) = u1 + (u2 - l2) := IntWalk.wrap64_in _ (by have := HBZ.out; omega)
          go_wp2_with fail
          go_meet
          rw [HWD.out, if_pos trivial]
          exact ⟨rfl, rfl, rfl, rfl⟩
        | false =>
          go_wp2_with fail
          go_meet
          rw [HWD.out, if_neg (by decide)]
          exact ⟨rfl, by congr 1; omega, by congr 1; omega, rfl⟩
       case rest =>
        obtain ⟨rfl, rfl, rfl, rfl⟩ := hcut
        obtain ⟨L, hL⟩ : ∃ x, x = (varsTo fs zs k).map (dimOf fs zs) := ⟨_, rfl⟩
        obtain ⟨M, hM⟩ : ∃ x, x = varsTo fs zs k := ⟨_, rfl⟩
        have hln := vars_len fs zs k
        have hll : L.length ≤ 48 := by rw [hL, List.length_map]; have := HN.out.2.2; have := HN.out.1; have := HLT.out; omega
        have hml : M.length ≤ 48 := by rw [hM]; have := HN.out.2.2; have := HN.out.1; have := HLT.out; omega
        rw [← hL, ← hM] at HT4
        have HLM2 := Lib.hid (And.intro hL (And.intro hM (And.intro hll hml)))
        have hfr := (feat_right HCK.out (show k < fs.length by have := HN.out.1; have := HLT.out; omega)).1
        rw [← HF.out] at hfr
        have HNS := Lib.hid hfr
        obtain ⟨d1, hd1⟩ : ∃ x, x = dimOf fs zs (k, 1) := ⟨_, rfl⟩
        have hd1' : d1 = ⟨f.name, f.place, l1 - widen zs (k : Int) 1, u1 + widen zs (k : Int) 1⟩ := by rw [hd1, dim_pos, ← HF.out, ← HL12.out.1, ← HL12.out.2.1]
        have HD1 := Lib.hid (And.intro hd1 hd1')
        obtain ⟨lo, hlo⟩ : ∃ x, x = l1 - widen zs (k : Int) 1 := ⟨_, rfl⟩
        obtain ⟨up, hup⟩ : ∃ x, x = u1 + widen zs (k : Int) 1 := ⟨_, rfl⟩
        rw [← hlo, ← hup] at HD1
        rw [← hlo, ← hup]
        have kz := HKF4.out
        have x0 := block_cell kz 0
        have x1 := block_cell kz 1
        have x4 := block_cell kz 4
        have x5 := block_cell kz 5
        simp at x0 x1 x4 x5
        clear hL hM hln hll hml hfr hd1 hd1' kz hlo hup HBZ HWD HZBN s0 s1
        go_wp2_with fail
        refine (qadd_any HT4.out HOK.out.1 HOK.out.2 (by have := HLM2.out; omega) (by have := HLM2.out; omega) k 1 f.name f.place lo up).mono ?_
        rintro e w5 ⟨rfl, ht5, hb5, hk5⟩
        rw [← HD1.out.2] at ht5
        have HT5 := Lib.hid ht5
        have HB5 := Lib.hid (HB4.out.trans hb5)
        have HKF5 := Lib.hid (hk5 _ _ _ HKF4.out (by decide))
        clear ht5 hb5 hk5 x0 x1 x4 x5 HT4
        have s0 := cell_below HB5.out HSC.out.1
        have s1 := cell_below HB5.out HSC.out.2
        have kz := HKF5.out
        have x0 := block_cell kz 0
        have x1 := block_cell kz 1
        have x4 := block_cell kz 4
        have x5 := block_cell kz 5
        simp at x0 x1 x4 x5
        clear kz
        have hns := HNS.out
        by_cases hk2 : f.kind = 2
        · have e2 : (f.kind == 2) = true := by rw [hk2]; rfl
          have HVA := Lib.hid (show varsAt fs zs k = [(k, 1), (k, 2)] by rw [vars_at HCK.out, ← HF.out, if_pos hk2])
          have hd2 : dimOf fs zs (k, 2) = ⟨f.name ++ (⟨#[46, 115, 105, 122, 101]⟩ : ByteArray), f.wide, l2, u2⟩ := by rw [dim_size HCK.out, ← HF.out, ← HL12.out.2.2.1, ← HL12.out.2.2.2]
          have HD2 := Lib.hid hd2
          clear hk2 hd2
          go_wp2_with fail
          refine (qadd_any HT5.out HOK.out.1 HOK.out.2 (by have := HLM2.out; simp; omega) (by have := HLM2.out; simp; omega) k 2 (f.name ++ (⟨#[46, 115, 105, 122, 101]⟩ : ByteArray)) f.wide l2 u2).mono ?_
          rintro e w6 ⟨rfl, ht6, hb6, -⟩
          rw [← HD2.out] at ht6
          have HT6 := Lib.hid ht6
          have HB6 := Lib.hid (HB5.out.trans hb6)
          clear ht6 hb6 x0 x1 x4 x5 s0 s1
          go_wp2_with fail
          go_roundg (n - (k + 1))
          case measure => have := HLT.out; omega
          case rel =>
            refine ⟨k + 1, by have := HLT.out; omega, by congr 1, Lib.hid ?_, HB6⟩
            have h6 := HT6.out
            rw [HLM2.out.1, HLM2.out.2.1, HD1.out.1, List.append_assoc, List.append_assoc] at h6
            rw [varsTo, HVA.out, List.map_append]
            exact h6
        · have e2 : (f.kind == 2) = false := beq_eq_false_iff_ne.2 hk2
          have hva := vars_at HCK.out k
          rw [← HF.out, if_neg hk2] at hva
          have HVA := Lib.hid hva
          clear hk2 hva
          go_wp2_with fail
          refine (HZO.out w5 (HS.out.below HB5.out) (k : Int) 3).mono ?_
          rintro e w6 ⟨rfl, hb6⟩
          have HT6 := Lib.hid (HT5.out.below hb6)
          have HB6 := Lib.hid (HB5.out.trans (hb6.mono HB5.out.size))
          have HKF6 := Lib.hid ((hb6.block bf (lt_of_block HKF5.out)).trans HKF5.out)
          obtain ⟨z3, hz3⟩ : ∃ x, x = zoneAt zs (k : Int) 3 := ⟨_, rfl⟩
          rw [← hz3] at HVA ⊢
          clear hb6 HT5 HB5 HKF5 x0 x1 x4 x5 hz3
          have s0 := cell_below HB6.out HSC.out.1
          have s1 := cell_below HB6.out HSC.out.2
          by_cases h3 : 0 ≤ z3
          · have e3 : ((0 : Int) ≤ z3) = True := eq_true h3
            rw [if_pos h3] at HVA
            clear h3
            go_wp2_with fail
            refine (HLM.out w6 (HS.out.below HB6.out) (k : Int) 3).mono ?_
            rintro e w7 ⟨rfl, hb7⟩
            have HT7 := Lib.hid (HT6.out.below hb7)
            have HB7 := Lib.hid (HB6.out.trans (hb7.mono HB6.out.size))
            have HKF7 := Lib.hid ((hb7.block bf (lt_of_block HKF6.out)).trans HKF6.out)
            clear hb7 HT6 HB6 HKF6
            obtain ⟨l3, hl3⟩ : ∃ x, x = (zoneOf zs (k : Int) 3).lower := ⟨_, rfl⟩
            obtain ⟨u3, hu3⟩ : ∃ x, x = (zoneOf zs (k : Int) 3).upper := ⟨_, rfl⟩
            rw [← hl3, ← hu3]
            have hd3 : dimOf fs zs (k, 3) = ⟨f.name ++ (⟨#[46, 102, 111, 114, 109]⟩ : ByteArray), 0, l3, u3⟩ := by rw [dim_form HCK.out, ← HF.out, ← hl3, ← hu3]
            have HD3 := Lib.hid hd3
            clear hd3 hl3 hu3
            have kz := HKF7.out
            have x0 := block_cell kz 0
            simp at x0
            clear kz
            go_wp2_with fail
            refine (qadd_any HT7.out HOK.out.1 HOK.out.2 (by have := HLM2.out; simp; omega) (by have := HLM2.out; simp; omega) k 3 (f.name ++ (⟨#[46, 102, 111, 114, 109]⟩ : ByteArray)) 0 l3 u3).mono ?_
            rintro e w8 ⟨rfl, ht8, hb8, -⟩
            rw [← HD3.out] at ht8
            have HT8 := Lib.hid ht8
            have HB8 := Lib.hid (HB7.out.trans hb8)
            clear ht8 hb8 x0 s0 s1
            go_wp2_with fail
            go_roundg (n - (k + 1))
            case measure => have := HLT.out; omega
            case rel =>
              refine ⟨k + 1, by have := HLT.out; omega, by congr 1, Lib.hid ?_, HB8⟩
              have h6 := HT8.out
              rw [HLM2.out.1, HLM2.out.2.1, HD1.out.1, List.append_assoc, List.append_assoc] at h6
              rw [varsTo, HVA.out, List.map_append]
              exact h6
          · have e3 : ((0 : Int) ≤ z3) = False := eq_false h3
            rw [if_neg h3] at HVA
            clear h3 s0 s1
            go_wp2_with fail
            go_roundg (n - (k + 1))
            case measure => have := HLT.out; omega
            case rel =>
              refine ⟨k + 1, by have := HLT.out; omega, by congr 1, Lib.hid ?_, HB6⟩
              have h6 := HT6.out
              rw [HLM2.out.1, HLM2.out.2.1, HD1.out.1] at h6
              rw [varsTo, HVA.out, List.map_append]
              exact h6
    · have e1 : ((k : Int) < (n : Int)) = False := eq_false (by omega)
      obtain rfl : k = n := by omega
      obtain ⟨vo, vk, ho, hk, ro, rk⟩ := htw.out
      have o0 := block_cell ho 0
      have o1 := block_cell hk 0
      simp at o0 o1
      have HRO := Lib.hid ro
      have HRK := Lib.hid rk
      clear ho hk ro rk htw s0 s1
      go_upto_region 19 with fail
      go_quiet (fail)
      go_wp2_with fail
      go_ret2
      refine ⟨vo, vk, rfl, ?_, ?_, HAL.out.trans ((hbw.out.trans ((below_drawn wr _).mono hbw.out.size)).mono HAL.out.size)⟩
      · unfold dimsTo
        rw [← HN.out.1]
        exact World.ownsRow.mono (row_below HRO.out (below_drawn wr _)) HAL.out.size
      · exact World.ownsRow.mono (row_below HRK.out (below_drawn wr _)) HAL.out.size
end Go.Proofs.YtgofihilkobenaaGreatDoor
/- The model's at: the index of a variable. -/
set_option maxRecDepth 100000
namespace Go.Proofs.YtgofihilkobenaaGreatDoor
open Go.RowKit Go.Num Go.Flow Go.Dtm
set_option maxHeartbeats 8000000
set_option linter.unusedVariables false

theorem keys_read {w : World} {B : Nat} {v : Value} {l : List (Nat × Int)} (h : w.ownsRow B 88 2 v l.length (varCells l)) : ∃ ao c, v = .slice ao l.length c ∧ VarsIn w ao c l := by
 obtain ⟨ao, c, e, h1, h2, h3⟩ := row_cells h
 refine ⟨ao, c, e, h1, h2, fun h0 => ?_⟩
 obtain ⟨g, rfl, hg, hc⟩ := h3 h0
 refine ⟨g, 0, rfl, hg, fun j hj => ?_⟩
 have hv := varCells_at l j hj
 rw [Nat.zero_add]
 exact ⟨hc _ _ hv.1, hc _ _ hv.2⟩
theorem qat_any {w : World} {af : Option Addr} {cf : Nat} {az : Option Addr} {cz : Nat} {fs : List Feat} {zs : List Zn} (h : SchemeIn w af cf az cz fs zs) (hck : check fs zs = 0) (i k : Int) :
  Calls Tryz.prog 69 #[.agg #[.slice af fs.length cf, .slice az zs.length cz], .int .i64 i, .int .i64 k] w fun e w' => e = .returned (.int .i64 (varAt (varsTo fs zs fs.length) i k)) ∧ Below w.heap.size w w' := by
 have hvl := vars_len fs zs fs.length
 have hsm := check_small hck
 obtain ⟨nf, hnf⟩ : ∃ n, n = fs.length := ⟨_, rfl⟩
 obtain ⟨nz, hnz⟩ : ∃ n, n = zs.length := ⟨_, rfl⟩
 obtain ⟨wa, hwa⟩ : ∃ wa, wa = w.alloc (.cells #[.slice af nf cf, .slice az nz cz] 26) := ⟨_, rfl⟩
 obtain ⟨ba, hba⟩ : ∃ b, b = w.heap.size := ⟨_, rfl⟩
 have hal : Below w.heap.size w wa := by rw [hwa]; exact (Below.refl _ w).alloc (Nat.le_refl _) _
 have k0 : wa.heap[ba]? = some (.cells #[.slice af nf cf, .slice az nz cz] 26 (0, 0)) := by rw [hwa, hba]; exact heap_alloc_new w _
 have s0 := block_cell k0 0
 have s1 := block_cell k0 1
 simp at s0 s1
 have hv := qvariables_any (h.below hal) hck
 obtain ⟨l, hl⟩ : ∃ l, l = varsTo fs zs fs.length := ⟨_, rfl⟩
 rw [← hl] at hvl
 have hl48 : l.length ≤ 48 := by omega
 rw [← hl]
 simp only [← hl] at hv
 rw [← hnf, ← hnz] at hv ⊢
 have HV := Lib.hid hv
 have HAL := Lib.hid hal
 have HW := Lib.hid (And.intro hwa hba)
 have HVR := Lib.hid (show varAt l i k = pos (fun j => isVar i k (l.getD j (0, 0))) l.length 0 from rfl)
 clear hv hal hl hnf hnz hvl hsm hwa hba k0 h hck
 go_enter Tryz.func69, Tryz.ntmps69
 go_upto_region 1 with fail
 rw [← HW.out.1, ← HW.out.2]
 clear HW
 go_wp2_with fail
 refine HV.out.mono ?_
 rintro e w1 ⟨vo, vk, rfl, -, hk1, hb1⟩
 obtain ⟨ao, c, rfl, h1, h2, h3⟩ := keys_read hk1
 unfold maxLen at h2
 have HB1 := Lib.hid (HAL.out.trans (hb1.mono HAL.out.size))
 clear hb1 hk1 s0 s1 HV
 obtain ⟨p, hp⟩ : ∃ p, p = fun j => isVar i k (l.getD j (0, 0)) := ⟨_, rfl⟩
 rw [← hp] at HVR
 obtain ⟨n, hn⟩ : ∃ n, n = l.length := ⟨_, rfl⟩
 rw [← hn] at h1 h3 HVR hl48 ⊢
 have H3 := Lib.hid h3
 have HP := Lib.hid hp
 clear hn h3 hp
 go_wp2_with fail
 go_loopw [18] (fun x wr => ∃ m : Nat, m ≤ n ∧ x = .int .i64 m ∧ Hid (∀ j, j < m → p j = false) ∧ Hid (Below w1.heap.size w1 wr)) (fun x _ => n - (intOf x).toNat)
 case atStart => exact ⟨0, Nat.zero_le _, rfl, Lib.hid (fun j hj => absurd hj (by omega)), Lib.hid (Below.refl _ _)⟩
 case round =>
  obtain ⟨m, hmn, rfl, hno, hbw⟩ := hrel
  by_cases hlt : m < n
  ·have e1 : ((m : Int) < (n : Int)) = True := eq_true (by omega)
   obtain ⟨b, o, rfl, hl, hc⟩ := H3.out (by omega)
   have hx := hc m hlt
   obtain ⟨q, hq⟩ : ∃ q, q = l.getD m (0, 0) := ⟨_, rfl⟩
   rw [← hq] at hx
   have x0 := cell_below hbw.out hx.1
   have x1 := cell_below hbw.out hx.2
   have hi0 : (0 : Int) ≤ (m : Int) := by omega
   have hi1 : (m : Int) < (n : Int) := by omega
   have HPM := Lib.hid (show p m = isVar i k q by rw [HP.out, hq])
   clear hx hc hq
   go_upto_region 5 with fail
   obtain ⟨w2, hw2⟩ : ∃ x, x = wr.alloc (.cells #[.int .i64 (q.1 : Int), .int .i64 q.2] 88) := ⟨_, rfl⟩
   obtain ⟨bq, hbq⟩ : ∃ b, b = wr.heap.size := ⟨_, rfl⟩
   rw [← hw2, ← hbq]
   have hl2 : Below wr.heap.size wr w2 := by rw [hw2]; exact (Below.refl _ wr).alloc (Nat.le_refl _) _
   have kq : w2.heap[bq]? = some (.cells #[.int .i64 (q.1 : Int), .int .i64 q.2] 88 (0, 0)) := by rw [hw2, hbq]; exact heap_alloc_new wr _
   have y0 := block_cell kq 0
   have y1 := block_cell kq 1
   simp at y0 y1
   have HB2 := Lib.hid (hbw.out.trans (hl2.mono hbw.out.size))
   clear hw2 hbq hl2 kq x0 x1 hbw
   have hev := eq_key (q.1 : Int) q.2 i k
   have hvg := key_guard
   cases hpm : isVar i k q with
   | true =>
    have e3 : ((q.1 : Int) == i && q.2 == k) = true := by
     unfold isVar at hpm
     rw [Bool.and_eq_true, decide_eq_true_iff, decide_eq_true_iff] at hpm
     rw [hpm.1, hpm.2]
     simp
    rw [e3] at hev
    have HQ := Lib.hid (pos_some (p := p) (n := n) (k := 0) (i := m) (Nat.zero_le _) (by omega) (fun j _ h => hno.out j h) (by rw [HPM.out, hpm]))
    clear hno
    go_wp2_with fail
    go_ret
    exact ⟨by rw [HVR.out, HQ.out]; rfl, HB1.out.trans (HB2.out.mono HB1.out.size)⟩
   | false =>
    have e3 : ((q.1 : Int) == i && q.2 == k) = false := by
     unfold isVar at hpm
     cases h1 : (q.1 : Int) == i with
     | false => rfl
     | true =>
      cases h2 : q.2 == k with
      | false => rfl
      | true =>
       rw [beq_iff_eq] at h1 h2
       rw [h1, h2] at hpm
       simp at hpm
    rw [e3] at hev
    go_wp2_with fail
    refine ⟨⟨m + 1, hlt, by congr 1, Lib.hid fun j hj => ?_, Lib.hid HB2.out⟩, by simp [intOf]; omega⟩
    by_cases h : j < m
    ·exact hno.out j h
    ·obtain rfl : j = m := by omega
     rw [HPM.out, hpm]
  ·have e1 : ((m : Int) < (n : Int)) = False := eq_false (by omega)
   obtain rfl : m = n := by omega
   have HN := Lib.hid (pos_none (p := p) (n := m) (k := 0) (fun j _ h => hno.out j (by omega)))
   go_wp2_with fail
   go_ret
   exact ⟨by rw [HVR.out, HN.out]; rfl, HB1.out.trans (hbw.out.mono HB1.out.size)⟩
end Go.Proofs.YtgofihilkobenaaGreatDoor
