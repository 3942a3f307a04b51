/- DatumBonus, the plain law: the texts of the values, and the zones with one bonus more. -/
import Derived.Test.YtgofihilkobenaaGreatDoorKP
import Derived.Test.YtgofihilkobenaaGreatDoorVTextM
import Derived.Test.YtgofihilkobenaaGreatDoorQValuesM
set_option maxRecDepth 100000
namespace Go.Proofs.YtgofihilkobenaaGreatDoor
open Go.RowKit Go.Num Go.Flow Go.Dtm
set_option maxHeartbeats 4000000

theorem dims_getD {fs : List Feat} {zs : List Zn} {j : Nat} (hj : j < (dimsTo fs zs).length) : ∃ i k, (varsTo fs zs fs.length).getD j (0, 0) = (i, k) ∧ i < fs.length ∧ (dimsTo fs zs).getD j Dm.none = dimOf fs zs (i, k) := by
 obtain ⟨V, hV⟩ : ∃ V, V = varsTo fs zs fs.length := ⟨_, rfl⟩
 have hl : j < V.length := by rw [hV]; unfold dimsTo at hj; rwa [List.length_map] at hj
 obtain ⟨⟨i, k⟩, hp⟩ : ∃ p, p = V.getD j (0, 0) := ⟨_, rfl⟩
 have hm : (i, k) ∈ V := by rw [hp, List.getD_eq_getElem?_getD, List.getElem?_eq_getElem hl]; exact List.getElem_mem hl
 rw [hV] at hm
 refine ⟨i, k, by rw [← hV, ← hp], (mem_varsTo.1 hm).1, ?_⟩
 rw [hp]
 unfold dimsTo
 rw [← hV, List.getD_eq_getElem?_getD, List.getElem?_map, List.getElem?_eq_getElem hl, List.getD_eq_getElem?_getD, List.getElem?_eq_getElem hl]
 rfl
theorem dims_bound {fs : List Feat} {zs : List Zn} (hc : check fs zs = 0) (j : Nat) (hj : j < (dimsTo fs zs).length) : (-1000000000 ≤ ((dimsTo fs zs).getD j Dm.none).nominal ∧ ((dimsTo fs zs).getD j Dm.none).nominal ≤ 1000000000) ∧ (-1000000000 ≤ ((dimsTo fs zs).getD j Dm.none).lower ∧ ((dimsTo fs zs).getD j Dm.none).lower ≤ 1000000000) ∧ (-1000000000 ≤ ((dimsTo fs zs).getD j Dm.none).upper ∧ ((dimsTo fs zs).getD j Dm.none).upper ≤ 1000000000) := by
 obtain ⟨i, k, -, hi, e⟩ := dims_getD hj
 rw [e]
 have h1 := nominal_bound hc hi k
 have h2 := zoneOf_bound hc (i : Int) k
 have h3 := zoneOf_bound hc (i : Int) 2
 have h4 : 0 ≤ widen zs i k ∧ widen zs i k ≤ 536870912 := by unfold widen; split <;> omega
 unfold dimOf
 simp only []
 omega
theorem valTexts_eq (D : List Dm) (P : List Int) (mv : Int) (k : Nat) : valTexts D P mv k = numTexts ((List.range k).map (valAt D P mv)) := by
 unfold valTexts numTexts
 rw [List.map_map]
 rfl
theorem vals_ok {D : List Dm} (hD : ∀ j, j < D.length → (-1000000000 ≤ (D.getD j Dm.none).nominal ∧ (D.getD j Dm.none).nominal ≤ 1000000000) ∧ (-1000000000 ≤ (D.getD j Dm.none).lower ∧ (D.getD j Dm.none).lower ≤ 1000000000) ∧ (-1000000000 ≤ (D.getD j Dm.none).upper ∧ (D.getD j Dm.none).upper ≤ 1000000000)) (P : List Int) {mv : Int} (h0 : -128 ≤ mv) (h1 : mv ≤ 127) : readsErr (valTexts D P mv D.length) = 0 ∧ ∀ s, s ∈ valTexts D P mv D.length → s.size ≤ 100 := by
 rw [valTexts_eq]
 refine texts_ok fun q hq => ?_
 rw [List.mem_map] at hq
 obtain ⟨j, hj, rfl⟩ := hq
 have hb := hD j (List.mem_range.1 hj)
 unfold valAt partAt
 split
 ·obtain ⟨r, hr⟩ : ∃ r, r = P.getD j 0 % 101 := ⟨_, rfl⟩
  obtain ⟨a, ha⟩ : ∃ a, a = (D.getD j Dm.none).nominal + (D.getD j Dm.none).upper - ((D.getD j Dm.none).nominal + (D.getD j Dm.none).lower) := ⟨_, rfl⟩
  have hr2 : 0 ≤ r ∧ r ≤ 100 := by omega
  have ha2 : -4000000000 ≤ a ∧ a ≤ 4000000000 := by omega
  rw [← hr, ← ha]
  have h3 : -400000000000 ≤ r * a ∧ r * a ≤ 400000000000 := by
   constructor
   ·have := Int.mul_le_mul_of_nonneg_left (c := r) ha2.1 hr2.1; have := Int.mul_le_mul_of_nonneg_right (c := 4000000000) hr2.2 (by decide); omega
   ·have := Int.mul_le_mul_of_nonneg_left (c := r) ha2.2 hr2.1; have := Int.mul_le_mul_of_nonneg_right (c := 4000000000) hr2.2 (by decide); omega
  exact frac_len (by omega) (by omega) (by omega) (by omega)
 ·exact zero_len (by omega) (by omega)
def nomTexts (D : List Dm) (k : Nat) : List ByteArray := numTexts ((List.range k).map fun j => ((D.getD j Dm.none).nominal : Rat))
theorem nomTexts_succ (D : List Dm) (k : Nat) : nomTexts D (k + 1) = nomTexts D k ++ [⟨(numText ((D.getD k Dm.none).nominal : Rat)).toArray⟩] := by unfold nomTexts numTexts; rw [List.range_succ, List.map_append, List.map_append]; rfl
theorem nomTexts_len (D : List Dm) (k : Nat) : (nomTexts D k).length = k := by unfold nomTexts numTexts; rw [List.length_map, List.length_map, List.length_range]
theorem noms_ok {D : List Dm} (hD : ∀ j, j < D.length → -1000000000 ≤ (D.getD j Dm.none).nominal ∧ (D.getD j Dm.none).nominal ≤ 1000000000) : readsErr (nomTexts D D.length) = 0 ∧ ∀ s, s ∈ nomTexts D D.length → s.size ≤ 100 := by
 refine texts_ok fun q hq => ?_
 rw [List.mem_map] at hq
 obtain ⟨j, hj, rfl⟩ := hq
 have hb := hD j (List.mem_range.1 hj)
 exact whole_len (by omega) (by omega)
theorem noms_val {D : List Dm} {j : Nat} (hj : j < D.length) : (readsVal (nomTexts D D.length)).getD j 0 = ((D.getD j Dm.none).nominal : Rat) := by
 unfold nomTexts
 rw [texts_val, List.getD_eq_getElem?_getD, List.getElem?_map, List.getElem?_eq_getElem (by rw [List.length_range]; exact hj), List.getElem_range]
 rfl
theorem ans_of {fs : List Feat} {zs : List Zn} {vals : List ByteArray} (hc : check fs zs = 0) (hl : vals.length = (varsTo fs zs fs.length).length) (hr : readsErr vals = 0) : holdsErr fs zs vals = 0 ∧ holdsAns fs zs vals = holdsQ fs zs (readsVal vals) := by
 have h : holdsErr fs zs vals = 0 := by
  unfold holdsErr
  rw [if_neg (fun h => h hc), if_neg (fun h => h hl)]
  exact hr
 refine ⟨h, ?_⟩
 unfold holdsAns
 rw [if_neg (fun h2 => h2 h)]
def moreZ (fs : List Feat) (zs : List Zn) (j : Nat) : List Zn := zs.set j { zs.getD j Zn.none with bonus := (zs.getD j Zn.none).kind == 1 && (fs.getD (zs.getD j Zn.none).feature.toNat Feat.none).kind == 2 }
theorem more_getD (fs : List Feat) (zs : List Zn) {j : Nat} (hj : j < zs.length) (i : Nat) : (moreZ fs zs j).getD i Zn.none = if i = j then { zs.getD j Zn.none with bonus := (zs.getD j Zn.none).kind == 1 && (fs.getD (zs.getD j Zn.none).feature.toNat Feat.none).kind == 2 } else zs.getD i Zn.none := by
 unfold moreZ
 rw [List.getD_eq_getElem?_getD (l := zs.set _ _)]
 by_cases e : i = j
 ·subst e
  rw [List.getElem?_set_self hj, if_pos rfl]
  rfl
 ·rw [List.getElem?_set_ne (fun h => e h.symm), if_neg e, ← List.getD_eq_getElem?_getD]
theorem more_same (fs : List Feat) (zs : List Zn) {j : Nat} (hj : j < zs.length) : SameZ zs (moreZ fs zs j) := by
 refine ⟨List.length_set, fun i => ?_⟩
 rw [more_getD fs zs hj i]
 split
 ·next e => subst e; exact ⟨rfl, rfl, rfl, rfl⟩
 ·exact ⟨rfl, rfl, rfl, rfl⟩
theorem more_set {fs : List Feat} {zs : List Zn} (hc : check fs zs = 0) {j : Nat} (hj : j < zs.length) (i : Nat) (hi : i < zs.length) : (((moreZ fs zs j).getD i Zn.none).bonus = true → (zs.getD i Zn.none).kind = 1 ∧ (fs.getD (zs.getD i Zn.none).feature.toNat Feat.none).kind = 2) ∧ ((zs.getD i Zn.none).bonus = true → ((moreZ fs zs j).getD i Zn.none).bonus = true) := by
 have hk := (zone_kinds hc hi).2.2
 rw [more_getD fs zs hj i]
 split
 ·next e =>
  subst e
  simp only [Bool.and_eq_true, beq_iff_eq]
  exact ⟨id, hk⟩
 ·exact ⟨hk, id⟩
theorem more_right {fs : List Feat} {zs : List Zn} (hc : check fs zs = 0) {j : Nat} (hj : j < zs.length) : check fs (moreZ fs zs j) = 0 := (more_same fs zs hj).right hc fun i hi => (more_set hc hj i hi).1
theorem more_ans {fs : List Feat} {zs : List Zn} (hc : check fs zs = 0) {j : Nat} (hj : j < zs.length) {vals : List ByteArray} (hl : vals.length = (varsTo fs zs fs.length).length) (hr : readsErr vals = 0) : holdsErr fs (moreZ fs zs j) vals = 0 ∧ ((holdsAns fs zs vals).1 = true → (holdsAns fs (moreZ fs zs j) vals).1 = true) := by
 have h1 := ans_of hc hl hr
 have h2 := ans_of (more_right hc hj) (by rw [(more_same fs zs hj).vars]; exact hl) hr
 refine ⟨h2.1, fun h => ?_⟩
 rw [h1.2] at h
 rw [h2.2]
 exact bonus_keeps (more_same fs zs hj) hc (fun i hi => (more_set hc hj i hi).1) (fun i hi => (more_set hc hj i hi).2) h
def offZero (z : Zn) : Bool := decide (0 < z.lower) || decide (z.upper < 0)
theorem nominal_ans {fs : List Feat} {zs : List Zn} (hc : check fs zs = 0) (h0 : zs.any offZero = false) : (holdsAns fs zs (nomTexts (dimsTo fs zs) (dimsTo fs zs).length)).1 = true := by
 have hdl : (dimsTo fs zs).length = (varsTo fs zs fs.length).length := by unfold dimsTo; rw [List.length_map]
 rw [(ans_of hc (by rw [nomTexts_len]; exact hdl) (noms_ok fun j hj => (dims_bound hc j hj).1).1).2]
 refine nominal_keeps hc (fun j hj => ?_) fun j hj => ?_
 ·have h1 := List.any_eq_false.1 h0 _ (List.getElem_mem hj)
  unfold offZero at h1
  rw [Bool.or_eq_true, decide_eq_true_eq, decide_eq_true_eq] at h1
  rw [List.getD_eq_getElem?_getD, List.getElem?_eq_getElem hj]
  simp only [Option.getD_some]
  omega
 ·rw [← hdl] at hj
  obtain ⟨i, k, h1, -, h2⟩ := dims_getD hj
  rw [noms_val hj, h1, h2]
  rfl
end Go.Proofs.YtgofihilkobenaaGreatDoor
