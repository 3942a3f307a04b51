/- DatumConstrains, the plain law: values keep all zones exactly if they lie within the deviations and fulfil the constraints. -/
import Derived.Test.YtgofihilkobenaaGreatDoorKP
import Derived.Test.YtgofihilkobenaaGreatDoorDWithinM
import Derived.Test.YtgofihilkobenaaGreatDoorBTextsM
import Derived.Test.YtgofihilkobenaaGreatDoorKX
import Derived.Test.YtgofihilkobenaaGreatDoorRRoundM
import Derived.Test.YtgofihilkobenaaGreatDoorQSameM
import Derived.Test.YtgofihilkobenaaGreatDoorKO
import Derived.Test.YtgofihilkobenaaGreatDoorVTextM
set_option maxRecDepth 100000
namespace Go.Proofs.YtgofihilkobenaaGreatDoor
set_option linter.unusedVariables false
set_option linter.unusedSimpArgs false
open Go.RowKit Go.Num Go.Flow Go.Dtm
set_option maxHeartbeats 4000000

/-- What the two constraints of a zone say. -/
def conSays (fs : List Feat) (zs : List Zn) (rs : List Rat) (z : Zn) : Prop :=
 (conA fs zs z : Rat) + rs.getD (varAt (varsTo fs zs fs.length) z.feature 1).toNat 0 - rs.getD (varAt (varsTo fs zs fs.length) z.feature 2).toNat 0 ≤ 0 ∧
 (conB fs zs z : Rat) - rs.getD (varAt (varsTo fs zs fs.length) z.feature 1).toNat 0 - rs.getD (varAt (varsTo fs zs fs.length) z.feature 2).toNat 0 ≤ 0
theorem cmpq_lt {a b : Rat} : cmpQ a b < 0 ↔ a < b := by
 have h := cmpq_ge (a := a) (b := b)
 constructor
 ·intro h1; exact Rat.not_le.1 fun h2 => by have := h.2 h2; omega
 ·intro h1
  rcases Int.lt_or_le (cmpQ a b) 0 with h2 | h2
  ·exact h2
  ·exact absurd h1 (Rat.not_lt.2 (h.1 h2))
theorem cmpq_gt {a b : Rat} : 0 < cmpQ a b ↔ b < a := by
 have h := cmpq_le (a := a) (b := b)
 constructor
 ·intro h1; exact Rat.not_le.1 fun h2 => by have := h.2 h2; omega
 ·intro h1
  rcases Int.lt_or_le 0 (cmpQ a b) with h2 | h2
  ·exact h2
  ·exact absurd h1 (Rat.not_lt.2 (h.1 h2))
theorem outAt_iff {D : List Dm} {rs : List Rat} {j : Nat} : outAt D rs j = false ↔ ((((D.getD j Dm.none).nominal + (D.getD j Dm.none).lower : Int) : Rat) ≤ rs.getD j 0 ∧ rs.getD j 0 ≤ (((D.getD j Dm.none).nominal + (D.getD j Dm.none).upper : Int) : Rat)) := by
 unfold outAt
 rw [Bool.or_eq_false_iff, decide_eq_false_iff_not, decide_eq_false_iff_not, cmpq_lt, cmpq_gt, Rat.not_lt, Rat.not_lt]
theorem withinQ_iff {D : List Dm} {rs : List Rat} (hl : rs.length = D.length) : withinQ D rs = true ↔ ∀ j, j < D.length → outAt D rs j = false := by
 unfold withinQ
 rw [decide_eq_true hl, Bool.true_and, decide_eq_true_eq]
 constructor
 ·intro h j hj
  cases ho : outAt D rs j with
  | false => rfl
  | true => have := pos_mem hj ho; omega
 ·intro h
  rw [pos_none (p := outAt D rs) (fun j _ hj => h j (by omega))]
  omega
theorem vars_nodup (fs : List Feat) (zs : List Zn) : ∀ n, (varsTo fs zs n).Nodup
 | 0 => List.nodup_nil
 | n + 1 => by
  unfold varsTo
  rw [List.nodup_append]
  refine ⟨vars_nodup fs zs n, ?_, ?_⟩
  ·unfold varsAt; split <;> split <;> simp
  ·rintro ⟨i, k⟩ h1 ⟨i', k'⟩ h2 e
   have h3 := (mem_varsTo.1 h1).1
   have h4 : i' = n := by
    unfold varsAt at h2
    split at h2 <;> split at h2 <;> simp at h2 <;> omega
   cases e
   omega
theorem var_index {V : List (Nat × Int)} (hn : V.Nodup) {j i : Nat} {k : Int} (hj : j < V.length) (h : V.getD j (0, 0) = (i, k)) : varAt V (i : Int) k = j := by
 unfold varAt
 refine pos_some (Nat.zero_le _) (by omega) (fun m _ hm => ?_) (by rw [h]; unfold isVar; simp)
 cases hb : isVar (i : Int) k (V.getD m (0, 0)) with
 | false => rfl
 | true =>
  unfold isVar at hb
  rw [Bool.and_eq_true, decide_eq_true_eq, decide_eq_true_eq] at hb
  have e : V.getD m (0, 0) = V.getD j (0, 0) := by rw [h]; exact Prod.ext (by have := hb.1; omega) hb.2
  rw [List.getD_eq_getElem?_getD, List.getElem?_eq_getElem (by omega), List.getD_eq_getElem?_getD, List.getElem?_eq_getElem hj] at e
  simp only [Option.getD_some] at e
  exact absurd e (List.pairwise_iff_getElem.1 hn m j (by omega) hj hm)
theorem zone_unique {fs : List Feat} {zs : List Zn} (hc : check fs zs = 0) {j : Nat} (hj : j < zs.length) : zoneAt zs (zs.getD j Zn.none).feature (zs.getD j Zn.none).kind = j := by
 have h1 := firstErr_zero (first_split hc).2 j (Nat.zero_le _) (by omega)
 unfold zoneErr at h1
 simp only [] at h1
 split at h1
 ·cases h1
 ·split at h1
  ·cases h1
  ·split at h1
   ·cases h1
   ·split at h1
    ·cases h1
    ·split at h1
     ·cases h1
     ·split at h1
      ·cases h1
      ·next c =>
       unfold zoneAt
       refine pos_some (Nat.zero_le _) (by omega) (fun m _ hm => ?_) (by unfold isZone; simp)
       rw [Bool.not_eq_true, List.any_eq_false] at c
       have h2 := c (zs.getD m Zn.none) (by
        rw [List.getD_eq_getElem?_getD, List.getElem?_eq_getElem (by omega), Option.getD_some]
        exact List.mem_take_iff_getElem.2 ⟨m, by omega, rfl⟩)
       unfold isZone
       rw [Bool.and_eq_true, decide_eq_true_eq, decide_eq_true_eq] at h2
       cases hb : (decide ((zs.getD m Zn.none).feature = (zs.getD j Zn.none).feature) && decide ((zs.getD m Zn.none).kind = (zs.getD j Zn.none).kind)) with
       | false => rfl
       | true =>
        rw [Bool.and_eq_true, decide_eq_true_eq, decide_eq_true_eq] at hb
        exact absurd ⟨hb.2, hb.1⟩ h2
theorem more_le {fs : List Feat} {zs : List Zn} (hc : check fs zs = 0) {rs : List Rat} (h : (holdsQ fs zs rs).1 = true) {f : Nat} (hf : f < fs.length) (hk : (fs.getD f Feat.none).kind = 2) :
  rs.getD (varAt (varsTo fs zs fs.length) (f : Int) 2).toNat 0 - (((fs.getD f Feat.none).wide + (zoneOf zs (f : Int) 2).lower : Int) : Rat) ≤ (((zoneOf zs (f : Int) 2).upper - (zoneOf zs (f : Int) 2).lower : Int) : Rat) := by
 obtain ⟨h1, h2⟩ := holdsQ_iff.1 h
 obtain ⟨V, hV⟩ : ∃ V, V = varsTo fs zs fs.length := ⟨_, rfl⟩
 have hm : 0 ≤ varAt V (f : Int) 2 := by rw [hV]; exact varAt_mem.2 (mem_varsTo.2 ⟨hf, .inr (.inl ⟨rfl, hk⟩)⟩)
 rw [← hV] at h1 h2 ⊢
 have hlt := varAt_lt V (f : Int) 2 hm
 rw [Rat.intCast_add, Rat.intCast_sub]
 rcases zoneAt_cases zs (f : Int) 2 with ⟨h3, -⟩ | ⟨j, h3, h4, h5, h6⟩
 ·have h7 := not_bad (h2 _ (by omega)) hm h3
  have h8 : (zoneOf zs (f : Int) 2).lower = 0 ∧ (zoneOf zs (f : Int) 2).upper = 0 := by unfold zoneOf; rw [h3]; exact ⟨rfl, rfl⟩
  rw [h7, h8.1, h8.2, show nominalOf fs f 2 = (fs.getD f Feat.none).wide from rfl]
  grind
 ·have h7 := (keeps_iff.1 (h1 j h4)).2
  have hb : (zs.getD j Zn.none).bonus = false := by
   cases hb : (zs.getD j Zn.none).bonus with
   | false => rfl
   | true => have := ((zone_kinds hc h4).2.2 hb).1; omega
  rw [show moreOf fs zs V rs (zs.getD j Zn.none) = 0 by unfold moreOf; rw [hb]; rfl] at h7
  unfold devOf at h7
  rw [h5, h6, Int.toNat_natCast, show nominalOf fs f 2 = (fs.getD f Feat.none).wide from rfl] at h7
  rw [zoneOf_at h3]
  grind
/-- The law of the constraints, for any values. -/
theorem constrains_law {fs : List Feat} {zs : List Zn} (hc : check fs zs = 0) {rs : List Rat} (hl : rs.length = (varsTo fs zs fs.length).length) :
  (holdsQ fs zs rs).1 = true ↔ (withinQ (dimsTo fs zs) rs = true ∧ ∀ j, j < zs.length → (zs.getD j Zn.none).bonus = true → conSays fs zs rs (zs.getD j Zn.none)) := by
 have hdl : (dimsTo fs zs).length = (varsTo fs zs fs.length).length := by unfold dimsTo; rw [List.length_map]
 rw [withinQ_iff (hl.trans hdl.symm)]
 have hcon : ∀ j, j < zs.length → (zs.getD j Zn.none).bonus = true → (conSays fs zs rs (zs.getD j Zn.none) ↔ keepsZ fs zs (varsTo fs zs fs.length) rs (zs.getD j Zn.none) = true) := fun j hj hb => by
  obtain ⟨hk, -⟩ := (zone_kinds hc hj).2.2 hb
  rw [keeps_iff]
  unfold conSays conA conB devOf moreOf
  rw [if_pos hb, hk, show nominalOf fs (zs.getD j Zn.none).feature.toNat 1 = (fs.getD (zs.getD j Zn.none).feature.toNat Feat.none).place from rfl]
  simp only [Rat.intCast_add, Rat.intCast_sub]
  grind
 constructor
 ·intro h
  obtain ⟨h1, h2⟩ := holdsQ_iff.1 h
  refine ⟨fun j hj => ?_, fun j hj hb => (hcon j hj hb).2 (h1 j hj)⟩
  obtain ⟨i, k, hg, hi, hd⟩ := dims_getD hj
  rw [hdl] at hj
  have hix := var_index (vars_nodup fs zs fs.length) hj hg
  rw [outAt_iff, hd]
  simp only [dimOf]
  rcases zoneAt_cases zs (i : Int) k with ⟨h3, -⟩ | ⟨m, h3, h4, h5, h6⟩
  ·have h7 : rs.getD j 0 = (nominalOf fs i k : Rat) := by
    have := not_bad (i := i) (k := k) (by rw [hix, Int.toNat_natCast]; exact h2 j hj) (by rw [hix]; omega) h3
    rwa [hix, Int.toNat_natCast] at this
   have h8 : zoneOf zs (i : Int) k = Zn.none := by unfold zoneOf; rw [h3]; rfl
   have h9 : widen zs (i : Int) k = 0 := by unfold widen; rw [h8]; rfl
   rw [h7, h8, h9, show Zn.none.lower = 0 from rfl, show Zn.none.upper = 0 from rfl]
   simp only [Rat.intCast_add, Rat.intCast_sub]
   constructor <;> grind
  ·have hkp := keeps_iff.1 (h1 m h4)
   unfold devOf at hkp
   rw [h5, h6, hix, Int.toNat_natCast, Int.toNat_natCast] at hkp
   rw [zoneOf_at h3]
   simp only [Rat.intCast_add, Rat.intCast_sub]
   cases hb : (zs.getD m Zn.none).bonus with
   | false =>
    rw [show moreOf fs zs (varsTo fs zs fs.length) rs (zs.getD m Zn.none) = 0 by unfold moreOf; rw [hb]; rfl] at hkp
    rw [show widen zs (i : Int) k = 0 by unfold widen; rw [zoneOf_at h3, hb]; rfl]
    constructor <;> grind
   | true =>
    obtain ⟨-, hs⟩ := (zone_kinds hc h4).2.2 hb
    rw [h5, Int.toNat_natCast] at hs
    have hm1 := more_nonneg hc h hi hs
    have hm2 := more_le hc h hi hs
    rw [show moreOf fs zs (varsTo fs zs fs.length) rs (zs.getD m Zn.none) = rs.getD (varAt (varsTo fs zs fs.length) (i : Int) 2).toNat 0 - (((fs.getD i Feat.none).wide + (zoneOf zs (i : Int) 2).lower : Int) : Rat) by unfold moreOf; rw [if_pos hb, h5, Int.toNat_natCast]] at hkp
    rw [show widen zs (i : Int) k = (zoneOf zs (i : Int) 2).upper - (zoneOf zs (i : Int) 2).lower by unfold widen; rw [zoneOf_at h3, if_pos hb]]
    simp only [Rat.intCast_sub] at hm2 ⊢
    constructor <;> grind
 ·rintro ⟨h1, h2⟩
  refine holdsQ_iff.2 ⟨fun j hj => ?_, fun j hj => ?_⟩
  ·cases hb : (zs.getD j Zn.none).bonus with
   | true => exact (hcon j hj hb).1 (h2 j hj hb)
   | false =>
    have hv := (zone_vars hc hj).1
    have hu := zone_unique hc hj
    have hr := (zone_right hc hj).2.1
    obtain ⟨f, hfe⟩ : ∃ f : Nat, (zs.getD j Zn.none).feature = (f : Int) := ⟨(zs.getD j Zn.none).feature.toNat, by omega⟩
    rw [hfe] at hv hu
    have hlt := varAt_lt _ _ _ hv
    have hjd : (varAt (varsTo fs zs fs.length) (f : Int) (zs.getD j Zn.none).kind).toNat < (dimsTo fs zs).length := by rw [hdl]; omega
    have ho := outAt_iff.1 (h1 _ hjd)
    obtain ⟨i, k, hg, -, hd⟩ := dims_getD hjd
    rw [var_getD hv] at hg
    obtain ⟨rfl, rfl⟩ := Prod.mk.inj hg
    rw [hd] at ho
    simp only [dimOf] at ho
    rw [zoneOf_at hu, show widen zs (f : Int) (zs.getD j Zn.none).kind = 0 by unfold widen; rw [zoneOf_at hu, hb]; rfl] at ho
    rw [keeps_iff]
    rw [show moreOf fs zs (varsTo fs zs fs.length) rs (zs.getD j Zn.none) = 0 by unfold moreOf; rw [hb]; rfl]
    unfold devOf
    rw [hfe, Int.toNat_natCast]
    simp only [Rat.intCast_add, Rat.intCast_sub] at ho
    constructor <;> grind
  ·have hjd : j < (dimsTo fs zs).length := by rw [hdl]; exact hj
   have ho := outAt_iff.1 (h1 j hjd)
   obtain ⟨i, k, hg, -, hd⟩ := dims_getD hjd
   unfold badVar
   rw [hg]
   rcases zoneAt_cases zs (i : Int) k with ⟨h3, -⟩ | ⟨m, h3, -, -, -⟩
   ·rw [hd] at ho
    simp only [dimOf] at ho
    have h8 : zoneOf zs (i : Int) k = Zn.none := by unfold zoneOf; rw [h3]; rfl
    have h9 : widen zs (i : Int) k = 0 := by unfold widen; rw [h8]; rfl
    rw [h8, h9, show Zn.none.lower = 0 from rfl, show Zn.none.upper = 0 from rfl] at ho
    simp only [Rat.intCast_add, Rat.intCast_sub] at ho
    rw [cmpq_eq.2 (show rs.getD j 0 = (nominalOf fs i k : Rat) by grind)]
    simp
   ·simp only [h3]
    rw [decide_eq_true (show (0 : Int) ≤ (m : Int) by omega)]
    rfl
end Go.Proofs.YtgofihilkobenaaGreatDoor
/- DatumConstrains, plain: what a constraint's form is worth. -/
set_option maxRecDepth 100000
namespace Go.Proofs.YtgofihilkobenaaGreatDoor
set_option linter.unusedVariables false
set_option linter.unusedSimpArgs false
open Go.RowKit Go.Num Go.Flow Go.Dtm
set_option maxHeartbeats 4000000

def sumTo (m : Int → Option Rat) (rs : List Rat) : Nat → Rat
 | 0 => 0
 | k + 1 => sumTo m rs k + (m k).getD 0 * rs.getD k 0
theorem fold_sum (m : Int → Option Rat) (rs : List Rat) (A : Rat) : ∀ k, (sumTerms m k).foldl (fun a p => a + readVal p.2 * rs.getD p.1 0) A = A + sumTo m rs k
 | 0 => by simp [sumTerms, sumTo, Rat.add_zero]
 | k + 1 => by
  unfold sumTerms sumTo
  rw [List.foldl_append, fold_sum m rs A k]
  cases h : m k with
  | none => simp only [List.foldl_nil, Option.getD_none]; grind
  | some r =>
   by_cases h0 : r.num = 0
   ·simp only [h0, if_true, List.foldl_nil, Option.getD_some]
    rw [Rat.num_eq_zero.1 h0]
    grind
   ·simp only [h0, if_false, List.foldl_cons, List.foldl_nil, Option.getD_some, read_num]
    grind
theorem value_sum (q : Rat) (m : Int → Option Rat) (rs : List Rat) (K : Nat) : valueTo (numText q) (sumTerms m K) rs (sumTerms m K).length = q + sumTo m rs K := by
 unfold valueTo
 rw [List.take_length, read_num, fold_sum]
theorem sum_two {m : Int → Option Rat} {p w : Nat} {a b : Rat} (hpw : p ≠ w) (hp : (m p).getD 0 = a) (hw : (m w).getD 0 = b) (h0 : ∀ k : Nat, k ≠ p → k ≠ w → (m k).getD 0 = 0) (rs : List Rat) : ∀ K, sumTo m rs K = (if p < K then a * rs.getD p 0 else 0) + (if w < K then b * rs.getD w 0 else 0)
 | 0 => by simp [sumTo, Rat.add_zero]
 | k + 1 => by
  unfold sumTo
  rw [sum_two hpw hp hw h0 rs k]
  by_cases h1 : k = p
  ·subst h1
   rw [hp, if_neg (Nat.lt_irrefl k), if_pos (Nat.lt_succ_self k)]
   by_cases h2 : w < k
   ·rw [if_pos h2, if_pos (by omega)]; grind
   ·rw [if_neg h2, if_neg (by omega)]; grind
  ·by_cases h2 : k = w
   ·subst h2
    rw [hw, if_neg (Nat.lt_irrefl k), if_pos (Nat.lt_succ_self k)]
    by_cases h3 : p < k
    ·rw [if_pos h3, if_pos (by omega)]; grind
    ·rw [if_neg h3, if_neg (by omega)]; grind
   ·rw [h0 k h1 h2]
    have e1 : (p < k + 1) = (p < k) := propext ⟨fun h => by omega, fun h => by omega⟩
    have e2 : (w < k + 1) = (w < k) := propext ⟨fun h => by omega, fun h => by omega⟩
    simp only [e1, e2]
    grind
/-- The values of the two constraints of a zone with a bonus. -/
theorem con_value {fs : List Feat} {zs : List Zn} (hc : check fs zs = 0) {j : Nat} (hj : j < zs.length) (hb : (zs.getD j Zn.none).bonus = true) (q a : Rat) (rs : List Rat) :
  valueTo (numText q) (sumTerms (conMap fs zs (zs.getD j Zn.none) a) 48) rs (sumTerms (conMap fs zs (zs.getD j Zn.none) a) 48).length = q + a * rs.getD (varAt (varsTo fs zs fs.length) (zs.getD j Zn.none).feature 1).toNat 0 - rs.getD (varAt (varsTo fs zs fs.length) (zs.getD j Zn.none).feature 2).toNat 0 := by
 rw [value_sum]
 have hv := zone_vars hc hj
 have hk := ((zone_kinds hc hj).2.2 hb).1
 rw [hk] at hv
 have hr := (zone_right hc hj).2.1
 obtain ⟨f, hfe⟩ : ∃ f : Nat, (zs.getD j Zn.none).feature = (f : Int) := ⟨(zs.getD j Zn.none).feature.toNat, by omega⟩
 unfold conMap
 rw [hfe] at hv ⊢
 have h1 := hv.1
 have h2 := hv.2 hb
 have l1 := varAt_lt _ _ _ h1
 have l2 := varAt_lt _ _ _ h2
 have hl := vars_len fs zs fs.length
 have hs := (check_small hc).1
 have g1 := var_getD h1
 have g2 := var_getD h2
 obtain ⟨p, hp⟩ : ∃ p : Nat, varAt (varsTo fs zs fs.length) (f : Int) 1 = (p : Int) := ⟨_, (Int.toNat_of_nonneg h1).symm⟩
 obtain ⟨w, hw⟩ : ∃ p : Nat, varAt (varsTo fs zs fs.length) (f : Int) 2 = (p : Int) := ⟨_, (Int.toNat_of_nonneg h2).symm⟩
 rw [hp] at g1 l1 ⊢
 rw [hw] at g2 l2 ⊢
 rw [Int.toNat_natCast] at g1 g2
 have hpw : p ≠ w := fun e => by rw [e, g2] at g1; cases g1
 rw [sum_two (m := mm true true (p : Int) a (w : Int) (-1)) hpw (a := a) (b := -1) (by unfold mm; rw [if_neg (fun h => hpw (Int.ofNat.inj h.2)), if_pos ⟨rfl, rfl⟩]; rfl) (by unfold mm; rw [if_pos ⟨rfl, rfl⟩]; rfl) (fun k h3 h4 => by unfold mm; rw [if_neg (fun h => h4 (Int.ofNat.inj h.2)), if_neg (fun h => h3 (Int.ofNat.inj h.2))]; rfl) rs 48, if_pos (by omega), if_pos (by omega), Int.toNat_natCast, Int.toNat_natCast]
 grind
end Go.Proofs.YtgofihilkobenaaGreatDoor
/- dimension.CheckForm at forms without error. -/
set_option maxRecDepth 100000
namespace Go.Proofs.YtgofihilkobenaaGreatDoor
open Go.RowKit Go.Num Go.Flow Go.Dtm
set_option maxHeartbeats 8000000
set_option linter.unusedVariables false

/-- A term that a valid form may have. -/
def goodTerm (nv : Nat) (L : List (Nat × List UInt8)) (j : Nat) : Prop := (L.getD j (0, [])).1 < nv ∧ (0 < j → (L.getD (j - 1) (0, [])).1 < (L.getD j (0, [])).1) ∧ readErr (L.getD j (0, [])).2 400 = 0 ∧ readVal (L.getD j (0, [])).2 ≠ 0 ∧ (L.getD j (0, [])).2.length ≤ 60000
theorem mCheckForm_ok {w : World} (hg : Glob w) {v : Value} {c : List UInt8} {L : List (Nat × List UInt8)} (hf : FormAt w v c L) (hL : L.length ≤ 64) {nv : Nat} (hnv : nv ≤ 64) (hc : c.length ≤ 60000) (hc0 : readErr c 400 = 0) (ht : ∀ j, j < L.length → goodTerm nv L j) :
  Calls Tryz.prog 47 #[v, .int .i64 (nv : Int)] w fun e w' => e = .returned (.int .i64 0) ∧ Below w.heap.size w w' := by
 obtain ⟨tv, rfl, ao, ca, rfl, hta, htb, htc⟩ := hf
 obtain ⟨n, hn⟩ : ∃ n, n = L.length := ⟨_, rfl⟩
 obtain ⟨s, hs⟩ : ∃ s : ByteArray, s = ⟨c.toArray⟩ := ⟨_, rfl⟩
 obtain ⟨wa, hwa⟩ : ∃ wa, wa = w.alloc (.cells #[.string s, .slice ao n ca] 78) := ⟨_, rfl⟩
 obtain ⟨bf, hbf⟩ : ∃ b, b = w.heap.size := ⟨_, rfl⟩
 have hal : Below w.heap.size w wa := by rw [hwa]; exact (Below.refl _ w).alloc (Nat.le_refl _) _
 have k0 : wa.heap[bf]? = some (.cells #[.string s, .slice ao n ca] 78 (0, 0)) := by rw [hwa, hbf]; exact heap_alloc_new w _
 have hcap : n ≤ ca ∧ ca ≤ 9223372036854775807 := by rw [hn]; exact ⟨hta, htb⟩
 have hnum := number_any s (by
  have h1 : s.size = c.length := by rw [hs]; simp [ByteArray.size]
  omega) (hg.below hal)
 unfold ReadPost at hnum
 rw [show s.data.toList = c by rw [hs], hc0] at hnum
 have HNUM := Lib.hid hnum
 have HG := Lib.hid (hg.below hal)
 have HTC := Lib.hid htc
 have HT := Lib.hid ht
 have HAL := Lib.hid hal
 have HK0 := Lib.hid k0
 have HN := Lib.hid (And.intro hn (And.intro hL hnv))
 have HW := Lib.hid (And.intro hwa hbf)
 have s0 := block_cell k0 0
 have s1 := block_cell k0 1
 simp at s0 s1
 rw [← hn, ← hs]
 have e1 : ((nv : Int) < 0) = False := eq_false (by omega)
 have e2 : ((64 : Int) < (nv : Int)) = False := eq_false (by omega)
 have e3 : ((64 : Int) < (n : Int)) = False := eq_false (by omega)
 have hn64 : n ≤ 64 := by omega
 clear hwa hbf hal k0 hg hta htb htc ht hL hc hc0 hs hnum hn hnv
 go_enter Tryz.func47, Tryz.ntmps47
 go_upto_region 1 with fail
 rw [← HW.out.1, ← HW.out.2]
 clear HW
 go_wp2_with fail
 refine HNUM.out.mono ?_
 rintro e w1 ⟨v1, rfl, hr1, -, hb1⟩
 obtain ⟨p1, g1, f1, n1, p2, g2, f2, n2, rfl⟩ := rt_shape (hr1 (by first | trivial | rfl))
 have HB1 := Lib.hid hb1
 clear hr1 hb1 s0 s1
 go_upto_region 4 with fail
 obtain ⟨w2, hw2⟩ : ∃ x, x = w1.alloc (.cells #[.bool p1, .slice g1 f1 n1, .bool p2, .slice g2 f2 n2] 65) := ⟨_, rfl⟩
 rw [← hw2]
 have HB2 := Lib.hid (HB1.out.trans (show Below wa.heap.size w1 w2 from by rw [hw2]; exact (Below.refl _ w1).alloc HB1.out.size _))
 have hkf := (HB2.out.block bf (lt_of_block HK0.out)).trans HK0.out
 have s0 := block_cell hkf 0
 have s1 := block_cell hkf 1
 simp at s0 s1
 clear hw2 hkf
 go_wp2_with fail
 clear s0 s1
 go_loopg [33] n (fun gk x wr => ∃ k : Nat, k + gk = n ∧ x = .int .i64 k ∧ Hid (Below wa.heap.size wa wr))
 case atStart => exact ⟨0, by omega, rfl, HB2⟩
 case round =>
  obtain ⟨k, hk, rfl, hbw⟩ := hrel
  by_cases hlt : k < n
  ·have e4 : ((k : Int) < (n : Int)) = True := eq_true (by omega)
   obtain ⟨g, o, rfl, -, hcc⟩ := HTC.out (by have := HN.out.1; omega)
   have hx := hcc k (by have := HN.out.1; omega)
   have htk := HT.out k (by have := HN.out.1; omega)
   unfold goodTerm at htk
   have hbw0 := HAL.out.trans (hbw.out.mono HAL.out.size)
   obtain ⟨tp, htp⟩ : ∃ x, x = (L.getD (k - 1) (0, [])).1 := ⟨_, rfl⟩
   have hpx : 0 < k → wa.cell? ⟨g, o + (k - 1) * 2, none⟩ = some (.int .i64 (tp : Int)) := fun h0 => by
    rw [htp]
    exact cell_below HAL.out (hcc (k - 1) (by have := HN.out.1; omega)).1
   rw [← htp] at htk
   obtain ⟨⟨ti, tl⟩, htt⟩ : ∃ x, x = L.getD k (0, []) := ⟨_, rfl⟩
   rw [← htt] at hx htk
   simp only [] at hx htk
   obtain ⟨tt, htx⟩ : ∃ s : ByteArray, s = ⟨tl.toArray⟩ := ⟨_, rfl⟩
   rw [← htx] at hx
   have x0 := cell_below hbw0 hx.1
   have x1 := cell_below hbw0 hx.2
   have hnum := fun (W : World) (hgW : Glob W) => number_any tt (by
    have h1 : tt.size = tl.length := by rw [htx]; simp [ByteArray.size]
    have h2 := htk.2.2.2.2
    omega) hgW
   unfold ReadPost at hnum
   rw [show tt.data.toList = tl by rw [htx], htk.2.2.1] at hnum
   have HNUM2 := Lib.hid hnum
   have HTL := Lib.hid (show tt.data.toList = tl by rw [htx])
   have HPX := Lib.hid hpx
   have HLT := Lib.hid (And.intro hlt (And.intro htk.1 (And.intro htk.2.1 (And.intro htk.2.2.2.1 htk.2.2.2.2))))
   have hk0 : (0 : Int) ≤ (k : Int) := by omega
   have hk1 : (k : Int) < (n : Int) := by omega
   have e5 : ((ti : Int) < 0) = False := eq_false (by omega)
   have e6 : ((nv : Int) ≤ (ti : Int)) = False := eq_false (by have := htk.1; omega)
   clear hcc hx htk hbw0 htp hpx htt htx hnum hlt
   go_upto_region 11 with fail
   obtain ⟨w3, hw3⟩ : ∃ x, x = wr.alloc (.cells #[.int .i64 (ti : Int), .string tt] 146) := ⟨_, rfl⟩
   obtain ⟨bt, hbt⟩ : ∃ b, b = wr.heap.size := ⟨_, rfl⟩
   rw [← hw3, ← hbt]
   have hl3 : Below wr.heap.size wr w3 := by rw [hw3]; exact (Below.refl _ wr).alloc (Nat.le_refl _) _
   have kt : w3.heap[bt]? = some (.cells #[.int .i64 (ti : Int), .string tt] 146 (0, 0)) := by rw [hw3, hbt]; exact heap_alloc_new wr _
   have HKT := Lib.hid kt
   have HB3 := Lib.hid (hbw.out.trans (hl3.mono hbw.out.size))
   have y0 := block_cell kt 0
   have y1 := block_cell kt 1
   have kf := (HB3.out.block bf (lt_of_block HK0.out)).trans HK0.out
   have s0 := block_cell kf 0
   have s1 := block_cell kf 1
   simp at y0 y1 s0 s1
   clear hw3 hbt hl3 kt kf x0 x1 hbw
   go_upto_region 13 with fail
   rcases Nat.eq_zero_or_pos k with hkz | hkz
   ·have e7 : ((0 : Int) < (k : Int)) = False := eq_false (by omega)
    go_quiet (fail)
    obtain ⟨w4, hw4⟩ : ∃ x, x = w3.drewN nq := ⟨_, rfl⟩
    rw [← hw4]
    have hb34 : Below w3.heap.size w3 w4 := by rw [hw4]; exact below_drawn w3 nq
    have HB4 := Lib.hid (HB3.out.trans (hb34.mono HB3.out.size))
    have kt := (hb34.block bt (lt_of_block HKT.out)).trans HKT.out
    have y0 := block_cell kt 0
    have y1 := block_cell kt 1
    simp at y0 y1
    clear hw4 hb34 kt s0 s1
    go_wp2_with fail
    refine (HNUM2.out w4 (HG.out.below HB4.out)).mono ?_
    rintro e w5 ⟨v5, rfl, hr5, -, hb5⟩
    have hr5 := hr5 (by first | trivial | rfl)
    obtain ⟨t1, b1, d1, m1, t2, b2, d2, m2, rfl⟩ := rt_shape hr5
    have HR5 := Lib.hid hr5
    have HB5 := Lib.hid (HB4.out.trans (hb5.mono HB4.out.size))
    clear hr5 hb5 y0 y1
    go_upto_region 16 with fail
    obtain ⟨w6, hw6⟩ : ∃ x, x = w5.alloc (.cells #[.bool t1, .slice b1 d1 m1, .bool t2, .slice b2 d2 m2] 65) := ⟨_, rfl⟩
    obtain ⟨bq, hbq⟩ : ∃ b, b = w5.heap.size := ⟨_, rfl⟩
    rw [← hw6, ← hbq]
    have hl6 : Below w5.heap.size w5 w6 := by rw [hw6]; exact (Below.refl _ w5).alloc (Nat.le_refl _) _
    have kq : w6.heap[bq]? = some (.cells #[.bool t1, .slice b1 d1 m1, .bool t2, .slice b2 d2 m2] 65 (0, 0)) := by rw [hw6, hbq]; exact heap_alloc_new w5 _
    have z0 := block_cell kq 0
    have z1 := block_cell kq 1
    have z2 := block_cell kq 2
    have z3 := block_cell kq 3
    simp at z0 z1 z2 z3
    have HB6 := Lib.hid (HB5.out.trans (hl6.mono HB5.out.size))
    have HR6 := Lib.hid (HR5.out.below hl6)
    clear hw6 hbq hl6 kq
    go_wp2_with fail
    refine (ratSign_any HR6.out).mono ?_
    rintro e w7 ⟨rfl, hb7⟩
    have HB7 := Lib.hid (HB6.out.trans (hb7.mono HB6.out.size))
    obtain ⟨sg, hsg⟩ : ∃ x, x = cmpI (readVal tl).num 0 := ⟨_, rfl⟩
    rw [← hsg]
    have hs0 : (sg == 0) = false := by
     rw [beq_eq_false_iff_ne, hsg]
     unfold cmpI
     have h1 : (readVal tl).num ≠ 0 := fun h => HLT.out.2.2.2.1 (Rat.num_eq_zero.1 h)
     split
     ·decide
     ·split
      ·decide
      ·omega
    clear hb7 z0 z1 z2 z3 hsg
    go_wp2_with fail
    go_roundg (n - (k + 1))
    case measure => have := HLT.out.1; omega
    case rel => exact ⟨k + 1, by have := HLT.out.1; omega, by first | (congr 1; done) | (subst hkz; rfl) | (congr 1; exact IntWalk.wrap64_in ((k : Int) + 1) (by have := HLT.out.1; omega)), HB7⟩
   ·have e7 : ((0 : Int) < (k : Int)) = True := eq_true (by omega)
    obtain ⟨m, hm⟩ : ∃ m, m = k - 1 := ⟨_, rfl⟩
    have hpx := HPX.out hkz
    rw [← hm] at hpx
    have x2 := cell_below HB3.out hpx
    have e8 : wrap64 ((k : Int) - 1) = (m : Int) := by rw [show (k : Int) - 1 = (m : Int) by omega]; exact IntWalk.wrap64_in _ (by omega)
    have e8' : IntKind.i64.wrap ((k : Int) - 1) = (m : Int) := by rw [show (k : Int) - 1 = (m : Int) by omega]; exact IntWalk.i64_in _ (by omega)
    have hm0 : (0 : Int) ≤ (m : Int) := by omega
    have hm1 : (m : Int) < (n : Int) := by omega
    have e9 : ((ti : Int) ≤ (tp : Int)) = False := eq_false (by have := HLT.out.2.2.1 hkz; omega)
    clear hpx hm
    go_quiet (fail)
    obtain ⟨w4, hw4⟩ : ∃ x, x = w3.drewN nq := ⟨_, rfl⟩
    rw [← hw4]
    have hb34 : Below w3.heap.size w3 w4 := by rw [hw4]; exact below_drawn w3 nq
    have HB4 := Lib.hid (HB3.out.trans (hb34.mono HB3.out.size))
    have kt := (hb34.block bt (lt_of_block HKT.out)).trans HKT.out
    have y0 := block_cell kt 0
    have y1 := block_cell kt 1
    simp at y0 y1
    clear hw4 hb34 kt s0 s1
    go_wp2_with fail
    refine (HNUM2.out w4 (HG.out.below HB4.out)).mono ?_
    rintro e w5 ⟨v5, rfl, hr5, -, hb5⟩
    have hr5 := hr5 (by first | trivial | rfl)
    obtain ⟨t1, b1, d1, m1, t2, b2, d2, m2, rfl⟩ := rt_shape hr5
    have HR5 := Lib.hid hr5
    have HB5 := Lib.hid (HB4.out.trans (hb5.mono HB4.out.size))
    clear hr5 hb5 y0 y1
    go_upto_region 16 with fail
    obtain ⟨w6, hw6⟩ : ∃ x, x = w5.alloc (.cells #[.bool t1, .slice b1 d1 m1, .bool t2, .slice b2 d2 m2] 65) := ⟨_, rfl⟩
    obtain ⟨bq, hbq⟩ : ∃ b, b = w5.heap.size := ⟨_, rfl⟩
    rw [← hw6, ← hbq]
    have hl6 : Below w5.heap.size w5 w6 := by rw [hw6]; exact (Below.refl _ w5).alloc (Nat.le_refl _) _
    have kq : w6.heap[bq]? = some (.cells #[.bool t1, .slice b1 d1 m1, .bool t2, .slice b2 d2 m2] 65 (0, 0)) := by rw [hw6, hbq]; exact heap_alloc_new w5 _
    have z0 := block_cell kq 0
    have z1 := block_cell kq 1
    have z2 := block_cell kq 2
    have z3 := block_cell kq 3
    simp at z0 z1 z2 z3
    have HB6 := Lib.hid (HB5.out.trans (hl6.mono HB5.out.size))
    have HR6 := Lib.hid (HR5.out.below hl6)
    clear hw6 hbq hl6 kq
    go_wp2_with fail
    refine (ratSign_any HR6.out).mono ?_
    rintro e w7 ⟨rfl, hb7⟩
    have HB7 := Lib.hid (HB6.out.trans (hb7.mono HB6.out.size))
    obtain ⟨sg, hsg⟩ : ∃ x, x = cmpI (readVal tl).num 0 := ⟨_, rfl⟩
    rw [← hsg]
    have hs0 : (sg == 0) = false := by
     rw [beq_eq_false_iff_ne, hsg]
     unfold cmpI
     have h1 : (readVal tl).num ≠ 0 := fun h => HLT.out.2.2.2.1 (Rat.num_eq_zero.1 h)
     split
     ·decide
     ·split
      ·decide
      ·omega
    clear hb7 z0 z1 z2 z3 hsg
    go_wp2_with fail
    go_roundg (n - (k + 1))
    case measure => have := HLT.out.1; omega
    case rel => exact ⟨k + 1, by have := HLT.out.1; omega, by first | (congr 1; done) | (subst hkz; rfl) | (congr 1; exact IntWalk.wrap64_in ((k : Int) + 1) (by have := HLT.out.1; omega)), HB7⟩
  ·have e4 : ((k : Int) < (n : Int)) = False := eq_false (by omega)
   obtain rfl : k = n := by omega
   go_wp2_with fail
   go_ret
   exact ⟨rfl, HAL.out.trans (hbw.out.mono HAL.out.size)⟩
end Go.Proofs.YtgofihilkobenaaGreatDoor
/- DatumConstrains, plain: the forms of constraints have no error. -/
set_option maxRecDepth 100000
namespace Go.Proofs.YtgofihilkobenaaGreatDoor
set_option linter.unusedVariables false
set_option linter.unusedSimpArgs false
open Go.RowKit Go.Num Go.Flow Go.Dtm
set_option maxHeartbeats 4000000

/-- The terms rise, and each is a factor's text. -/
theorem terms_rise (m : Int → Option Rat) : ∀ K, (∀ t, t ∈ sumTerms m K → t.1 < K ∧ ∃ r, m t.1 = some r ∧ r.num ≠ 0 ∧ t.2 = numText r) ∧ (sumTerms m K).Pairwise (fun a b => a.1 < b.1)
 | 0 => ⟨fun t h => by simp [sumTerms] at h, by simp [sumTerms]⟩
 | k + 1 => by
  obtain ⟨h1, h2⟩ := terms_rise m k
  unfold sumTerms
  have h3 : ∀ t, t ∈ (match m k with | some r => if r.num = 0 then [] else [(k, numText r)] | none => ([] : List (Nat × List UInt8))) → t.1 = k ∧ ∃ r, m t.1 = some r ∧ r.num ≠ 0 ∧ t.2 = numText r := fun t ht => by
   cases hm : m k with
   | none => rw [hm] at ht; cases ht
   | some r =>
    rw [hm] at ht
    by_cases h0 : r.num = 0
    ·simp only [h0, if_true] at ht; cases ht
    ·simp only [h0, if_false, List.mem_singleton] at ht
     subst ht
     exact ⟨rfl, r, hm, h0, rfl⟩
  refine ⟨fun t ht => ?_, ?_⟩
  ·rcases List.mem_append.1 ht with h | h
   ·have := h1 t h; exact ⟨by omega, this.2⟩
   ·have := h3 t h; exact ⟨by omega, this.2⟩
  ·rw [List.pairwise_append]
   refine ⟨h2, ?_, fun a ha b hb => ?_⟩
   ·cases hm : m k with
    | none => simp
    | some r => by_cases h0 : r.num = 0 <;> simp [h0]
   ·have := (h1 a ha).1
    have := (h3 b hb).1
    omega
theorem terms_good {m : Int → Option Rat} {nv : Nat} (hm : ∀ (i : Nat) r, m (i : Int) = some r → i < nv ∧ (numText r).length ≤ 100) (K : Nat) : ∀ j, j < (sumTerms m K).length → goodTerm nv (sumTerms m K) j := fun j hj => by
 obtain ⟨h1, h2⟩ := terms_rise m K
 have e : (sumTerms m K).getD j (0, []) = (sumTerms m K)[j] := by rw [List.getD_eq_getElem?_getD, List.getElem?_eq_getElem hj]; rfl
 obtain ⟨-, r, h4, h5, h6⟩ := h1 _ (List.getElem_mem hj)
 have h7 := hm _ _ h4
 unfold goodTerm
 rw [e]
 refine ⟨h7.1, fun h0 => ?_, ?_, ?_, ?_⟩
 ·rw [List.getD_eq_getElem?_getD, List.getElem?_eq_getElem (show j - 1 < (sumTerms m K).length by omega), Option.getD_some]
  exact List.pairwise_iff_getElem.1 h2 (j - 1) j (by omega) hj (by omega)
 ·rw [h6]; exact read_num_ok (by omega) (by omega)
 ·rw [h6, read_num]; exact fun h => h5 (by rw [h]; rfl)
 ·rw [h6]; omega
/-- The constraints of a scheme: each is one of the two of a zone with a bonus. -/
theorem con_mem {fs : List Feat} {zs : List Zn} {j : Nat} (hj : j < (consTo fs zs zs.length).length) : ∃ i, i < zs.length ∧ (zs.getD i Zn.none).bonus = true ∧ (consTo fs zs zs.length).getD j Cn.none ∈ conOf fs zs (zs.getD i Zn.none) := by
 obtain ⟨c, hc⟩ : ∃ c, c = (consTo fs zs zs.length).getD j Cn.none := ⟨_, rfl⟩
 have hm : c ∈ consTo fs zs zs.length := by
  rw [hc, List.getD_eq_getElem?_getD, List.getElem?_eq_getElem hj]
  exact List.getElem_mem hj
 rw [← hc]
 unfold consTo at hm
 rw [List.take_length, List.mem_flatMap] at hm
 obtain ⟨z, hz, hm⟩ := hm
 obtain ⟨i, hi, e⟩ := List.mem_iff_getElem.1 hz
 have e2 : zs.getD i Zn.none = z := by rw [List.getD_eq_getElem?_getD, List.getElem?_eq_getElem hi]; exact e
 split at hm
 ·next hb => exact ⟨i, hi, by rw [e2]; exact hb, by rw [e2]; exact hm⟩
 ·cases hm
theorem mem_con {fs : List Feat} {zs : List Zn} {i : Nat} (hi : i < zs.length) (hb : (zs.getD i Zn.none).bonus = true) {c : Cn} (hc : c ∈ conOf fs zs (zs.getD i Zn.none)) : ∃ j, j < (consTo fs zs zs.length).length ∧ (consTo fs zs zs.length).getD j Cn.none = c := by
 have hm : c ∈ consTo fs zs zs.length := by
  unfold consTo
  rw [List.take_length, List.mem_flatMap]
  refine ⟨zs.getD i Zn.none, ?_, by rw [if_pos hb]; exact hc⟩
  rw [List.getD_eq_getElem?_getD, List.getElem?_eq_getElem hi]
  exact List.getElem_mem hi
 obtain ⟨j, hj, e⟩ := List.mem_iff_getElem.1 hm
 exact ⟨j, hj, by rw [List.getD_eq_getElem?_getD, List.getElem?_eq_getElem hj]; exact e⟩
/-- What a constraint is worth. -/
def conWorth (rs : List Rat) (c : Cn) : Rat := valueTo c.const c.terms rs c.terms.length
theorem worth_says {fs : List Feat} {zs : List Zn} (hc : check fs zs = 0) {i : Nat} (hi : i < zs.length) (hb : (zs.getD i Zn.none).bonus = true) (rs : List Rat) : (∀ c, c ∈ conOf fs zs (zs.getD i Zn.none) → conWorth rs c ≤ 0) ↔ conSays fs zs rs (zs.getD i Zn.none) := by
 have h1 := con_value hc hi hb (conA fs zs (zs.getD i Zn.none) : Rat) 1 rs
 have h2 := con_value hc hi hb (conB fs zs (zs.getD i Zn.none) : Rat) (-1) rs
 unfold conOf conSays
 simp only [List.mem_cons, List.not_mem_nil, or_false, forall_eq_or_imp, forall_eq]
 unfold conWorth
 simp only []
 rw [h1, h2]
 grind
theorem cons_law {fs : List Feat} {zs : List Zn} (hc : check fs zs = 0) (rs : List Rat) : (∀ j, j < (consTo fs zs zs.length).length → conWorth rs ((consTo fs zs zs.length).getD j Cn.none) ≤ 0) ↔ ∀ i, i < zs.length → (zs.getD i Zn.none).bonus = true → conSays fs zs rs (zs.getD i Zn.none) := by
 constructor
 ·intro h i hi hb
  refine (worth_says hc hi hb rs).1 fun c hm => ?_
  obtain ⟨j, hj, e⟩ := mem_con hi hb hm
  rw [← e]
  exact h j hj
 ·intro h j hj
  obtain ⟨i, hi, hb, hm⟩ := con_mem hj
  exact (worth_says hc hi hb rs).2 (h i hi hb) _ hm
theorem con_good {fs : List Feat} {zs : List Zn} (hc : check fs zs = 0) {i : Nat} (hi : i < zs.length) (hb : (zs.getD i Zn.none).bonus = true) {c : Cn} (hm : c ∈ conOf fs zs (zs.getD i Zn.none)) : ∃ (q : Int) (a : Int), (a = 1 ∨ a = -1) ∧ (-2000000000 ≤ q ∧ q ≤ 2000000000) ∧ c.const = numText (q : Rat) ∧ c.terms = sumTerms (conMap fs zs (zs.getD i Zn.none) (a : Rat)) 48 := by
 have hr := zone_right hc hi
 have h2 := zoneOf_bound hc (zs.getD i Zn.none).feature 2
 have h3 := feat_right hc (j := (zs.getD i Zn.none).feature.toNat) (by omega)
 unfold conOf at hm
 simp only [List.mem_cons, List.not_mem_nil, or_false] at hm
 rcases hm with rfl | rfl
 ·exact ⟨_, 1, .inl rfl, by unfold conA; omega, rfl, rfl⟩
 ·exact ⟨_, -1, .inr rfl, by unfold conB; omega, rfl, rfl⟩
theorem con_terms_good {fs : List Feat} {zs : List Zn} (hc : check fs zs = 0) {i : Nat} (hi : i < zs.length) (hb : (zs.getD i Zn.none).bonus = true) {a : Int} (ha : a = 1 ∨ a = -1) : ∀ j, j < (sumTerms (conMap fs zs (zs.getD i Zn.none) (a : Rat)) 48).length → goodTerm (varsTo fs zs fs.length).length (sumTerms (conMap fs zs (zs.getD i Zn.none) (a : Rat)) 48) j := by
 have hv := zone_vars hc hi
 have hk := ((zone_kinds hc hi).2.2 hb).1
 rw [hk] at hv
 have l1 := varAt_lt _ _ _ hv.1
 have l2 := varAt_lt _ _ _ (hv.2 hb)
 refine terms_good (fun n r hr => ?_) 48
 unfold conMap mm at hr
 split at hr
 ·next h =>
  cases hr
  exact ⟨by have := h.2; omega, by rw [show (-1 : Rat) = ((-1 : Int) : Rat) from rfl]; exact whole_len (by omega) (by omega)⟩
 ·split at hr
  ·next h =>
   cases hr
   exact ⟨by have := h.2; omega, whole_len (by omega) (by omega)⟩
  ·cases hr
end Go.Proofs.YtgofihilkobenaaGreatDoor
/- DatumConstrains, plain: the dimensions of a scheme have no error. -/
set_option maxRecDepth 100000
namespace Go.Proofs.YtgofihilkobenaaGreatDoor
set_option linter.unusedVariables false
set_option linter.unusedSimpArgs false
open Go.RowKit Go.Num Go.Flow Go.Dtm
set_option maxHeartbeats 4000000

theorem feat_good {fs : List Feat} {zs : List Zn} (hc : check fs zs = 0) {i : Nat} (hi : i < fs.length) : goodName (fs.getD i Feat.none).name = true ∧ ((fs.take i).any fun g => g.name.toList == (fs.getD i Feat.none).name.toList) = false := by
 have h1 := firstErr_zero (first_split hc).1 i (Nat.zero_le _) (by omega)
 unfold featErr at h1
 simp only [] at h1
 split at h1
 ·cases h1
 ·next c1 =>
  split at h1
  ·cases h1
  ·next c2 => exact ⟨by simpa using c1, by simpa using c2⟩
theorem suffix_head (k : Nat) : (suffix k).data.toList = [] ∨ ∃ l, (suffix k).data.toList = 46 :: l := by
 unfold suffix
 split
 ·exact .inr ⟨_, rfl⟩
 ·split
  ·exact .inr ⟨_, rfl⟩
  ·exact .inl rfl
theorem take_name {s : ByteArray} (h : dotless s = true) (k : Nat) : (s ++ suffix k).data.toList.takeWhile (fun b => b != 46) = s.data.toList := by
 unfold dotless at h
 have h1 : ∀ b, b ∈ s.data.toList → (b != 46) = true := fun b hb => by
  rw [bne_iff_ne]
  rintro rfl
  simp [List.contains_iff_mem, hb] at h
 rw [ByteArray.data_append, Array.toList_append, List.takeWhile_append_of_pos h1]
 rcases suffix_head k with e | ⟨l, e⟩ <;> rw [e] <;> simp
theorem suffix_inj {k k' : Nat} (h1 : 1 ≤ k ∧ k ≤ 3) (h2 : 1 ≤ k' ∧ k' ≤ 3) (h : (suffix k).data.toList = (suffix k').data.toList) : k = k' := by
 rcases (show k = 1 ∨ k = 2 ∨ k = 3 by omega) with rfl | rfl | rfl <;> rcases (show k' = 1 ∨ k' = 2 ∨ k' = 3 by omega) with rfl | rfl | rfl <;> first | rfl | (exact absurd h (by decide))
theorem name_inj {s s' : ByteArray} (h : dotless s = true) (h' : dotless s' = true) {k k' : Nat} (h1 : 1 ≤ k ∧ k ≤ 3) (h2 : 1 ≤ k' ∧ k' ≤ 3) (e : (s ++ suffix k).data.toList = (s' ++ suffix k').data.toList) : s.data.toList = s'.data.toList ∧ k = k' := by
 have e1 : s.data.toList = s'.data.toList := by rw [← take_name h k, ← take_name h' k', e]
 refine ⟨e1, suffix_inj h1 h2 ?_⟩
 rw [ByteArray.data_append, ByteArray.data_append, Array.toList_append, Array.toList_append, e1] at e
 exact List.append_cancel_left e
theorem name_long {s : ByteArray} (h : goodName s = true) (k : Nat) : isName (s ++ suffix k) = true ∧ dotless s = true := by
 unfold goodName at h
 rw [Bool.and_eq_true, Bool.and_eq_true, decide_eq_true_eq] at h
 obtain ⟨⟨h1, h2⟩, h3⟩ := h
 refine ⟨?_, h3⟩
 unfold isName at h1 ⊢
 rw [Bool.and_eq_true, Bool.and_eq_true, decide_eq_true_eq, decide_eq_true_eq] at h1
 have hs : (suffix k).size ≤ 5 ∧ (suffix k).data.toList.all nameByte = true := by
  unfold suffix
  split
  ·decide
  ·split <;> decide
 rw [ByteArray.size_append, ByteArray.data_append, Array.toList_append, List.all_append, h1.2, hs.2, Bool.and_true, Bool.and_true, Bool.and_eq_true, decide_eq_true_eq, decide_eq_true_eq]
 omega
/-- The dimensions of a right scheme have no error. -/
theorem dims_right {fs : List Feat} {zs : List Zn} (hc : check fs zs = 0) : dimsErr (dimsTo fs zs) = 0 := by
 have hdl : (dimsTo fs zs).length = (varsTo fs zs fs.length).length := by unfold dimsTo; rw [List.length_map]
 have hvl := vars_len fs zs fs.length
 have hs := (check_small hc).1
 unfold dimsErr
 rw [if_neg (by omega)]
 refine firstErr_none fun j _ hj => ?_
 have hj : j < (dimsTo fs zs).length := by omega
 have hb := dims_bound hc j hj
 obtain ⟨i, k, hg, hi, hd⟩ := dims_getD hj
 have hfar : ∀ n : Int, -1000000000 ≤ n ∧ n ≤ 1000000000 → farM n = false := fun n h => by unfold farM; rw [decide_eq_false (by omega), decide_eq_false (by omega)]; rfl
 have hk : 1 ≤ k.toNat ∧ k.toNat ≤ 3 := by
  have hm : (i, k) ∈ varsTo fs zs fs.length := by
   rw [← hg, List.getD_eq_getElem?_getD, List.getElem?_eq_getElem (by omega)]
   exact List.getElem_mem (by omega)
  rcases (mem_varsTo.1 hm).2 with rfl | ⟨rfl, -⟩ | ⟨rfl, -⟩ <;> decide
 have hn := name_long (feat_good hc hi).1 k.toNat
 unfold dimErr
 rw [hfar _ hb.1, hfar _ hb.2.1, hfar _ hb.2.2, hd]
 rw [if_neg (by simp only [dimOf]; rw [hn.1]; decide), if_neg (by decide), if_neg (by
  simp only [dimOf]
  have h2 := zoneOf_bound hc (i : Int) k
  have h3 := zoneOf_bound hc (i : Int) 2
  have h4 : 0 ≤ widen zs i k := by unfold widen; split <;> omega
  omega), if_neg ?_]
 intro hp
 unfold dimAt at hp
 rcases pos_cases (fun m => (((dimsTo fs zs).take j).getD m Dm.none).name.toList == (dimOf fs zs (i, k)).name.toList) ((dimsTo fs zs).take j).length 0 with ⟨h1, -⟩ | ⟨m, h1, -, h2, h3, -⟩
 ·rw [h1] at hp; omega
 ·have hmj : m < j := by rw [List.length_take] at h2; omega
  rw [List.getD_eq_getElem?_getD, List.getElem?_take, if_pos hmj, ← List.getD_eq_getElem?_getD] at h3
  obtain ⟨i', k', hg', hi', hd'⟩ := dims_getD (show m < (dimsTo fs zs).length by omega)
  rw [hd', beq_iff_eq] at h3
  have hk' : 1 ≤ k'.toNat ∧ k'.toNat ≤ 3 := by
   have hm : (i', k') ∈ varsTo fs zs fs.length := by
    rw [← hg', List.getD_eq_getElem?_getD, List.getElem?_eq_getElem (by omega)]
    exact List.getElem_mem (by omega)
   rcases (mem_varsTo.1 hm).2 with rfl | ⟨rfl, -⟩ | ⟨rfl, -⟩ <;> decide
  have hn' := name_long (feat_good hc hi').1 k'.toNat
  simp only [dimOf] at h3
  rw [ByteArray.toList_eq, ByteArray.toList_eq] at h3
  obtain ⟨e1, e2⟩ := name_inj hn'.2 hn.2 hk' hk h3
  have hkk : k' = k := by omega
  have hne : ∀ a b : Nat, a < b → b < fs.length → (fs.getD a Feat.none).name.data.toList ≠ (fs.getD b Feat.none).name.data.toList := fun a b hab hb2 e => by
   have h5 := List.any_eq_false.1 (feat_good hc hb2).2 (fs.getD a Feat.none) (by
    rw [List.getD_eq_getElem?_getD, List.getElem?_eq_getElem (by omega), Option.getD_some]
    exact List.mem_take_iff_getElem.2 ⟨a, by omega, rfl⟩)
   rw [ByteArray.toList_eq, ByteArray.toList_eq, e] at h5
   simp at h5
  have hii : i' = i := by
   rcases Nat.lt_trichotomy i' i with h5 | h5 | h5
   ·exact absurd e1 (hne _ _ h5 hi)
   ·exact h5
   ·exact absurd e1.symm (hne _ _ h5 hi')
  rw [hii, hkk] at hg'
  have v1 := var_index (vars_nodup fs zs fs.length) (by omega) hg
  have v2 := var_index (vars_nodup fs zs fs.length) (by omega) hg'
  omega
end Go.Proofs.YtgofihilkobenaaGreatDoor
