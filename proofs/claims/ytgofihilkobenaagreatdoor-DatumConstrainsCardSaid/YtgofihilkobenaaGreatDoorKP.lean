/- What the model's definitions say of a right scheme, beside the program's. No walk stands here. -/
import Derived.Test.YtgofihilkobenaaGreatDoorDVariablesM
import Derived.Test.YtgofihilkobenaaGreatDoorKM
import Derived.Test.YtgofihilkobenaaGreatDoorDHoldsM
set_option maxRecDepth 100000
namespace Go.Proofs.YtgofihilkobenaaGreatDoor
open Go.RowKit Go.Num Go.Flow Go.Maps Go.WideMaps Go.Dtm
set_option maxHeartbeats 4000000

theorem sum_getD {m m' : Int → Option Rat} (h : ∀ i, (m i).getD 0 = (m' i).getD 0) : ∀ k, sumTerms m k = sumTerms m' k
 | 0 => rfl
 | k + 1 => by
  rw [sumTerms, sumTerms, sum_getD h k]
  congr 1
  have := h (k : Int)
  cases h1 : m (k : Int) with
  | none =>
   cases h2 : m' (k : Int) with
   | none => rfl
   | some r =>
    rw [h1, h2] at this
    have hr : (0 : Rat) = r := this
    rw [← hr]
    rfl
  | some q =>
   cases h2 : m' (k : Int) with
   | none =>
    rw [h1, h2] at this
    have hr : q = (0 : Rat) := this
    rw [hr]
    rfl
   | some r =>
    rw [h1, h2] at this
    have hr : q = r := this
    rw [hr]
theorem sum_more {m : Int → Option Rat} {n : Nat} (h : ∀ i : Nat, n ≤ i → (m (i : Int)).getD 0 = 0) : ∀ d, sumTerms m (n + d) = sumTerms m n
 | 0 => rfl
 | d + 1 => by
  rw [← Nat.add_assoc, sumTerms, sum_more h d]
  have := h (n + d) (by omega)
  cases h1 : m ((n + d : Nat) : Int) with
  | none => simp
  | some r =>
   rw [h1] at this
   have hr : r = 0 := this
   rw [hr]
   simp
/-- What is right of a zone's kind and bonus. -/
theorem zone_kinds {fs : List Feat} {zs : List Zn} (h : check fs zs = 0) {j : Nat} (hj : j < zs.length) : ((zs.getD j Zn.none).kind = 2 → (fs.getD (zs.getD j Zn.none).feature.toNat Feat.none).kind = 2) ∧ ((zs.getD j Zn.none).kind = 3 → (fs.getD (zs.getD j Zn.none).feature.toNat Feat.none).kind ≠ 2) ∧ ((zs.getD j Zn.none).bonus = true → (zs.getD j Zn.none).kind = 1 ∧ (fs.getD (zs.getD j Zn.none).feature.toNat Feat.none).kind = 2) := by
 have h1 := firstErr_zero (first_split h).2 j (Nat.zero_le _) (by omega)
 unfold zoneErr at h1
 simp only [] at h1
 split at h1
 ·cases h1
 ·split at h1
  ·cases h1
  ·split at h1
   ·cases h1
   ·next c =>
    simp only [not_or, not_and, Decidable.not_not] at c
    exact ⟨c.1, c.2.1, c.2.2⟩
theorem zoneAt_cases (zs : List Zn) (i k : Int) : (zoneAt zs i k = -1 ∧ ∀ j, j < zs.length → isZone i k (zs.getD j Zn.none) = false) ∨ ∃ j : Nat, zoneAt zs i k = j ∧ j < zs.length ∧ (zs.getD j Zn.none).feature = i ∧ (zs.getD j Zn.none).kind = k := by
 unfold zoneAt
 rcases pos_cases (fun j => isZone i k (zs.getD j Zn.none)) zs.length 0 with ⟨h, h2⟩ | ⟨j, h, -, h1, h2, -⟩
 ·exact .inl ⟨h, fun j hj => h2 j (Nat.zero_le _) (by omega)⟩
 ·refine .inr ⟨j, h, by omega, ?_⟩
  unfold isZone at h2
  rw [Bool.and_eq_true, decide_eq_true_iff, decide_eq_true_iff] at h2
  exact h2
theorem zoneOf_at {zs : List Zn} {i k : Int} {j : Nat} (h : zoneAt zs i k = j) : zoneOf zs i k = zs.getD j Zn.none := by
 unfold zoneOf
 rw [h, if_neg (by omega), Int.toNat_natCast]
theorem zone_form {fs : List Feat} {zs : List Zn} (h : check fs zs = 0) {i : Nat} (h0 : 0 ≤ zoneAt zs (i : Int) 3) : (fs.getD i Feat.none).kind ≠ 2 := by
 rcases zoneAt_cases zs (i : Int) 3 with ⟨a, -⟩ | ⟨j, a, hj, hf, hk⟩
 ·omega
 ·have := (zone_kinds h hj).2.1 hk
  rw [hf, Int.toNat_natCast] at this
  exact this
theorem zone_bonus {fs : List Feat} {zs : List Zn} (h : check fs zs = 0) {i k : Int} (hb : (zoneOf zs i k).bonus = true) : k = 1 := by
 rcases zoneAt_cases zs i k with ⟨a, -⟩ | ⟨j, a, hj, hf, hk⟩
 ·unfold zoneOf at hb
  rw [if_pos (by omega)] at hb
  cases hb
 ·rw [zoneOf_at a] at hb
  have := ((zone_kinds h hj).2.2 hb).1
  omega
theorem widen_not {fs : List Feat} {zs : List Zn} (h : check fs zs = 0) {i k : Int} (hk : k ≠ 1) : widen zs i k = 0 := by
 unfold widen
 rw [if_neg fun hb => hk (zone_bonus h hb)]
theorem mem_varsTo {fs : List Feat} {zs : List Zn} {i : Nat} {k : Int} : ∀ {n : Nat}, (i, k) ∈ varsTo fs zs n ↔ i < n ∧ (k = 1 ∨ (k = 2 ∧ (fs.getD i Feat.none).kind = 2) ∨ (k = 3 ∧ 0 ≤ zoneAt zs (i : Int) 3))
 | 0 => by simp [varsTo]
 | n + 1 => by
  rw [varsTo, List.mem_append, mem_varsTo (n := n)]
  unfold varsAt
  simp only [List.mem_append, List.mem_cons]
  constructor
  ·rintro (h | h)
   ·exact ⟨by omega, h.2⟩
   ·rcases h with (h | h) | h
    ·cases h
     exact ⟨by omega, .inl rfl⟩
    ·split at h
     ·next h2 =>
      simp only [List.mem_cons, List.not_mem_nil, or_false, Prod.mk.injEq] at h
      obtain ⟨rfl, rfl⟩ := h
      exact ⟨by omega, .inr (.inl ⟨rfl, h2⟩)⟩
     ·cases h
    ·split at h
     ·next h2 =>
      simp only [List.mem_cons, List.not_mem_nil, or_false, Prod.mk.injEq] at h
      obtain ⟨rfl, rfl⟩ := h
      exact ⟨by omega, .inr (.inr ⟨rfl, h2⟩)⟩
     ·cases h
  ·rintro ⟨h1, h2⟩
   by_cases hi : i < n
   ·exact .inl ⟨hi, h2⟩
   ·obtain rfl : i = n := by omega
    right
    rcases h2 with rfl | ⟨rfl, h3⟩ | ⟨rfl, h3⟩
    ·exact .inl (.inl rfl)
    ·exact .inl (.inr (by rw [if_pos h3]; simp))
    ·exact .inr (by rw [if_pos h3]; simp)
theorem varAt_mem {V : List (Nat × Int)} {i : Nat} {k : Int} : 0 ≤ varAt V (i : Int) k ↔ (i, k) ∈ V := by
 unfold varAt
 rcases pos_cases (fun j => isVar (i : Int) k (V.getD j (0, 0))) V.length 0 with ⟨h, h2⟩ | ⟨j, h, -, h1, h2, -⟩
 ·rw [h]
  constructor
  ·intro h; omega
  ·intro hm
   obtain ⟨j, hj, e⟩ := List.getElem_of_mem hm
   have := h2 j (Nat.zero_le _) (by omega)
   rw [List.getD_eq_getElem?_getD, List.getElem?_eq_getElem hj, e] at this
   simp [isVar] at this
 ·rw [h]
  constructor
  ·intro _
   unfold isVar at h2
   rw [Bool.and_eq_true, decide_eq_true_iff, decide_eq_true_iff, List.getD_eq_getElem?_getD, List.getElem?_eq_getElem (by omega)] at h2
   have e : V[j]'(by omega) = (i, k) := by
    have h3 : ((V[j]'(by omega)).1 : Int) = (i : Int) := h2.1
    have h4 : (V[j]'(by omega)).2 = k := h2.2
    exact Prod.ext (by omega) h4
   rw [← e]
   exact List.getElem_mem _
  ·intro _; omega
theorem vars_at {fs : List Feat} {zs : List Zn} (h : check fs zs = 0) (i : Nat) : varsAt fs zs i = (i, 1) :: (if (fs.getD i Feat.none).kind = 2 then [(i, 2)] else if 0 ≤ zoneAt zs (i : Int) 3 then [(i, 3)] else []) := by
 unfold varsAt
 by_cases h2 : (fs.getD i Feat.none).kind = 2
 ·rw [if_pos h2, if_pos h2, if_neg fun h3 => zone_form h h3 h2]
  simp
 ·rw [if_neg h2, if_neg h2]
  simp
end Go.Proofs.YtgofihilkobenaaGreatDoor
/- DatumBonus, the plain side: a bonus only widens; nominal values keep zones that contain 0. -/
set_option maxRecDepth 100000
namespace Go.Proofs.YtgofihilkobenaaGreatDoor
open Go.RowKit Go.Num Go.Flow Go.Dtm
set_option maxHeartbeats 4000000

/-- Zones that differ by their bonus alone. -/
def SameZ (zs ys : List Zn) : Prop := ys.length = zs.length ∧ ∀ j, (ys.getD j Zn.none).kind = (zs.getD j Zn.none).kind ∧ (ys.getD j Zn.none).feature = (zs.getD j Zn.none).feature ∧ (ys.getD j Zn.none).lower = (zs.getD j Zn.none).lower ∧ (ys.getD j Zn.none).upper = (zs.getD j Zn.none).upper
theorem SameZ.pos {zs ys : List Zn} (h : SameZ zs ys) (i k : Int) : zoneAt ys i k = zoneAt zs i k := by
 unfold zoneAt
 rw [h.1]
 congr 1
 funext j
 unfold isZone
 rw [(h.2 j).1, (h.2 j).2.1]
theorem SameZ.low {zs ys : List Zn} (h : SameZ zs ys) (i k : Int) : (zoneOf ys i k).lower = (zoneOf zs i k).lower := by
 unfold zoneOf
 rw [h.pos i k]
 split
 ·rfl
 ·exact (h.2 _).2.2.1
theorem SameZ.vars {zs ys : List Zn} (h : SameZ zs ys) (fs : List Feat) : ∀ k, varsTo fs ys k = varsTo fs zs k
 | 0 => rfl
 | k + 1 => by
  unfold varsTo
  rw [SameZ.vars h fs k]
  congr 1
  unfold varsAt
  rw [h.pos]
theorem SameZ.any {zs ys : List Zn} (h : SameZ zs ys) (i : Nat) (a b : Int) : ((ys.take i).any fun y => decide (y.kind = a) && decide (y.feature = b)) = ((zs.take i).any fun y => decide (y.kind = a) && decide (y.feature = b)) := by
 have hm : ys.map (fun y => (y.kind, y.feature)) = zs.map (fun y => (y.kind, y.feature)) := by
  refine List.ext_getElem (by simp [h.1]) fun j h1 h2 => ?_
  rw [List.getElem_map, List.getElem_map]
  have h3 := h.2 j
  rw [List.length_map] at h1 h2
  rw [List.getD_eq_getElem?_getD, List.getElem?_eq_getElem h1, List.getD_eq_getElem?_getD, List.getElem?_eq_getElem h2] at h3
  exact Prod.ext h3.1 h3.2.1
 have e : ∀ l : List Zn, ((l.take i).any fun y => decide (y.kind = a) && decide (y.feature = b)) = ((l.map fun y => (y.kind, y.feature)).take i).any fun p => decide (p.1 = a) && decide (p.2 = b) := fun l => by
  rw [← List.map_take, List.any_map]
  rfl
 rw [e, e, hm]
theorem firstErr_all {e : Nat → Int} : ∀ {n k : Nat}, (∀ i, k ≤ i → i < k + n → e i = 0) → firstErr e n k = 0
 | 0, _, _ => rfl
 | n + 1, k, h => by
  unfold firstErr
  rw [if_pos (h k (Nat.le_refl k) (by omega))]
  exact firstErr_all fun i h1 h2 => h i (by omega) (by omega)
theorem SameZ.right {fs : List Feat} {zs ys : List Zn} (h : SameZ zs ys) (hc : check fs zs = 0) (hb : ∀ j, j < zs.length → (ys.getD j Zn.none).bonus = true → (zs.getD j Zn.none).kind = 1 ∧ (fs.getD (zs.getD j Zn.none).feature.toNat Feat.none).kind = 2) : check fs ys = 0 := by
 have hs := check_small hc
 unfold check
 rw [if_neg (by rw [h.1]; omega), if_pos (first_split hc).1]
 refine firstErr_all fun j _ hj => ?_
 have hj : j < zs.length := by have := h.1; omega
 have h1 := firstErr_zero (first_split hc).2 j (Nat.zero_le _) (by omega)
 unfold zoneErr at h1 ⊢
 simp only [] at h1 ⊢
 rw [(h.2 j).1, (h.2 j).2.1, (h.2 j).2.2.1, (h.2 j).2.2.2, h.any]
 split at h1
 ·cases h1
 ·next c1 =>
  rw [if_neg c1]
  split at h1
  ·cases h1
  ·next c2 =>
   rw [if_neg c2]
   split at h1
   ·cases h1
   ·next c3 =>
    simp only [not_or] at c3
    rw [if_neg (by
     rw [not_or, not_or]
     exact ⟨c3.1, c3.2.1, fun hh => by
      have := hb j hj hh.1
      rcases hh.2 with h | h
      ·exact h this.1
      ·exact h this.2⟩)]
    exact h1
theorem cmpq_ge {a b : Rat} : 0 ≤ cmpQ a b ↔ b ≤ a := by
 unfold cmpQ
 split
 ·next h => exact ⟨fun h2 => by omega, fun h2 => absurd h (Rat.not_lt.2 h2)⟩
 ·next h =>
  refine ⟨fun _ => Rat.not_lt.1 h, fun _ => ?_⟩
  split <;> omega
theorem cmpq_le {a b : Rat} : cmpQ a b ≤ 0 ↔ a ≤ b := by
 unfold cmpQ
 split
 ·next h => exact ⟨fun _ => Rat.le_of_lt h, fun _ => by omega⟩
 ·next h =>
  split
  ·next h2 => exact ⟨fun h3 => by omega, fun h3 => absurd h2 (Rat.not_lt.2 h3)⟩
  ·next h2 => exact ⟨fun _ => Rat.not_lt.1 h2, fun _ => by omega⟩
theorem cmpq_eq {a b : Rat} : cmpQ a b = 0 ↔ a = b := by
 constructor
 ·intro h
  exact Rat.le_antisymm (cmpq_le.1 (by omega)) (cmpq_ge.1 (by omega))
 ·rintro rfl
  have h1 := (cmpq_ge (a := a) (b := a)).2 Rat.le_refl
  have h2 := (cmpq_le (a := a) (b := a)).2 Rat.le_refl
  omega
theorem keeps_iff {fs : List Feat} {zs : List Zn} {V : List (Nat × Int)} {rs : List Rat} {z : Zn} : keepsZ fs zs V rs z = true ↔ (z.lower : Rat) - moreOf fs zs V rs z ≤ devOf fs V rs z ∧ devOf fs V rs z ≤ (z.upper : Rat) + moreOf fs zs V rs z := by
 unfold keepsZ
 rw [Bool.and_eq_true, decide_eq_true_eq, decide_eq_true_eq, cmpq_ge, cmpq_le]
theorem holdsQ_iff {fs : List Feat} {zs : List Zn} {rs : List Rat} : (holdsQ fs zs rs).1 = true ↔ (∀ j, j < zs.length → keepsZ fs zs (varsTo fs zs fs.length) rs (zs.getD j Zn.none) = true) ∧ ∀ j, j < (varsTo fs zs fs.length).length → badVar fs zs (varsTo fs zs fs.length) rs j = false := by
 unfold holdsQ
 constructor
 ·intro h
  split at h
  ·cases h
  ·next h1 =>
   split at h
   ·cases h
   ·next h2 =>
    refine ⟨fun j hj => ?_, fun j hj => ?_⟩
    ·cases hb : badZone fs zs rs j with
     | true => exact absurd (pos_mem hj hb) h1
     | false => unfold badZone at hb; simpa using hb
    ·cases hb : badVar fs zs (varsTo fs zs fs.length) rs j with
     | true => exact absurd (pos_mem hj hb) h2
     | false => rfl
 ·intro h
  rw [pos_none (p := badZone fs zs rs) (fun j _ hj => by unfold badZone; rw [h.1 j (by omega)]; rfl), if_neg (by omega), pos_none (p := badVar fs zs (varsTo fs zs fs.length) rs) (fun j _ hj => h.2 j (by omega)), if_neg (by omega)]
theorem var_getD {V : List (Nat × Int)} {i : Nat} {k : Int} (h : 0 ≤ varAt V (i : Int) k) : V.getD (varAt V (i : Int) k).toNat (0, 0) = (i, k) := by
 unfold varAt at h ⊢
 rcases pos_cases (fun j => isVar (i : Int) k (V.getD j (0, 0))) V.length 0 with ⟨h1, -⟩ | ⟨j, h1, -, -, h2, -⟩
 ·rw [h1] at h; omega
 ·rw [h1, Int.toNat_natCast]
  simp only [isVar, Bool.and_eq_true, decide_eq_true_eq] at h2
  exact Prod.ext (by have := h2.1; omega) h2.2
theorem not_bad {fs : List Feat} {zs : List Zn} {V : List (Nat × Int)} {rs : List Rat} {i : Nat} {k : Int} (h : badVar fs zs V rs (varAt V (i : Int) k).toNat = false) (hv : 0 ≤ varAt V (i : Int) k) (hz : zoneAt zs (i : Int) k = -1) : rs.getD (varAt V (i : Int) k).toNat 0 = (nominalOf fs i k : Rat) := by
 unfold badVar at h
 rw [var_getD hv] at h
 simp only [hz] at h
 rw [show (!decide ((0 : Int) ≤ -1)) = true from rfl, Bool.true_and, decide_eq_false_iff_not, Decidable.not_not] at h
 exact cmpq_eq.1 h
/-- A slot's width is its least one at least, where all zones are kept. -/
theorem more_nonneg {fs : List Feat} {zs : List Zn} (hc : check fs zs = 0) {rs : List Rat} (h : (holdsQ fs zs rs).1 = true) {f : Nat} (hf : f < fs.length) (hk : (fs.getD f Feat.none).kind = 2) :
  0 ≤ rs.getD (varAt (varsTo fs zs fs.length) (f : Int) 2).toNat 0 - (((fs.getD f Feat.none).wide + (zoneOf zs (f : Int) 2).lower : Int) : Rat) := by
 obtain ⟨h1, h2⟩ := holdsQ_iff.1 h
 obtain ⟨V, hV⟩ : ∃ V, V = varsTo fs zs fs.length := ⟨_, rfl⟩
 have hm : 0 ≤ varAt V (f : Int) 2 := by rw [hV]; exact varAt_mem.2 (mem_varsTo.2 ⟨hf, .inr (.inl ⟨rfl, hk⟩)⟩)
 rw [← hV] at h1 h2 ⊢
 have hlt := varAt_lt V (f : Int) 2 hm
 rw [Rat.intCast_add]
 rcases zoneAt_cases zs (f : Int) 2 with ⟨h3, -⟩ | ⟨j, h3, h4, h5, h6⟩
 ·have h7 := not_bad (h2 _ (by omega)) hm h3
  have h8 : (zoneOf zs (f : Int) 2).lower = 0 := by unfold zoneOf; rw [h3]; rfl
  rw [h7, h8, show nominalOf fs f 2 = (fs.getD f Feat.none).wide from rfl]
  grind
 ·have h7 := (keeps_iff.1 (h1 j h4)).1
  have hb : (zs.getD j Zn.none).bonus = false := by
   cases hb : (zs.getD j Zn.none).bonus with
   | false => rfl
   | true => have := ((zone_kinds hc h4).2.2 hb).1; omega
  rw [show moreOf fs zs V rs (zs.getD j Zn.none) = 0 by unfold moreOf; rw [hb]; rfl] at h7
  unfold devOf at h7
  rw [h5, h6, Int.toNat_natCast, show nominalOf fs f 2 = (fs.getD f Feat.none).wide from rfl] at h7
  rw [zoneOf_at h3]
  grind
theorem bonus_keeps {fs : List Feat} {zs ys : List Zn} (hS : SameZ zs ys) (hc : check fs zs = 0)
  (hb : ∀ j, j < zs.length → (ys.getD j Zn.none).bonus = true → (zs.getD j Zn.none).kind = 1 ∧ (fs.getD (zs.getD j Zn.none).feature.toNat Feat.none).kind = 2)
  (hu : ∀ j, j < zs.length → (zs.getD j Zn.none).bonus = true → (ys.getD j Zn.none).bonus = true) {rs : List Rat} (h : (holdsQ fs zs rs).1 = true) : (holdsQ fs ys rs).1 = true := by
 obtain ⟨h1, h2⟩ := holdsQ_iff.1 h
 refine holdsQ_iff.2 ⟨fun j hj => ?_, fun j hj => ?_⟩
 ·have hj : j < zs.length := by have := hS.1; omega
  have h3 := keeps_iff.1 (h1 j hj)
  rw [hS.vars]
  obtain ⟨V, hV⟩ : ∃ V, V = varsTo fs zs fs.length := ⟨_, rfl⟩
  rw [← hV] at h3 ⊢
  have hd : devOf fs V rs (ys.getD j Zn.none) = devOf fs V rs (zs.getD j Zn.none) := by unfold devOf; rw [(hS.2 j).1, (hS.2 j).2.1]
  have hm : moreOf fs zs V rs (zs.getD j Zn.none) ≤ moreOf fs ys V rs (ys.getD j Zn.none) := by
   unfold moreOf
   rw [(hS.2 j).2.1, hS.low]
   cases hy : (ys.getD j Zn.none).bonus with
   | false =>
    cases hz : (zs.getD j Zn.none).bonus with
    | false => exact Rat.le_refl
    | true => rw [hu j hj hz] at hy; cases hy
   | true =>
    obtain ⟨-, hf⟩ := hb j hj hy
    have hr := (zone_right hc hj).2.1
    obtain ⟨f, hfe⟩ : ∃ f : Nat, (zs.getD j Zn.none).feature = (f : Int) := ⟨(zs.getD j Zn.none).feature.toNat, by omega⟩
    rw [hfe] at hf hr ⊢
    rw [Int.toNat_natCast] at hf ⊢
    have hn := more_nonneg hc h (by omega) hf
    rw [← hV] at hn
    cases hz : (zs.getD j Zn.none).bonus with
    | false => exact hn
    | true => exact Rat.le_refl
  refine keeps_iff.2 ?_
  rw [hd, (hS.2 j).2.2.1, (hS.2 j).2.2.2]
  grind
 ·rw [hS.vars] at hj ⊢
  have h3 := h2 j hj
  unfold badVar at h3 ⊢
  rw [hS.pos]
  exact h3
/-- Nominal values keep zones that contain 0. -/
theorem nominal_keeps {fs : List Feat} {zs : List Zn} (hc : check fs zs = 0) (h0 : ∀ j, j < zs.length → (zs.getD j Zn.none).lower ≤ 0 ∧ 0 ≤ (zs.getD j Zn.none).upper) {rs : List Rat}
  (hr : ∀ j, j < (varsTo fs zs fs.length).length → rs.getD j 0 = (nominalOf fs ((varsTo fs zs fs.length).getD j (0, 0)).1 ((varsTo fs zs fs.length).getD j (0, 0)).2 : Rat)) : (holdsQ fs zs rs).1 = true := by
 obtain ⟨V, hV⟩ : ∃ V, V = varsTo fs zs fs.length := ⟨_, rfl⟩
 refine holdsQ_iff.2 ⟨fun j hj => ?_, fun j hj => ?_⟩
 ·have hv := zone_vars hc hj
  have hz := h0 j hj
  have hzr := (zone_right hc hj).2.1
  obtain ⟨f, hfe⟩ : ∃ f : Nat, (zs.getD j Zn.none).feature = (f : Int) := ⟨(zs.getD j Zn.none).feature.toNat, by omega⟩
  rw [hfe] at hv
  rw [← hV] at hr hv ⊢
  refine keeps_iff.2 ?_
  have hd : devOf fs V rs (zs.getD j Zn.none) = 0 := by
   unfold devOf
   rw [hfe, hr _ (by have := varAt_lt V _ _ hv.1; omega), var_getD hv.1, Int.toNat_natCast]
   exact Rat.sub_self
  have hm : 0 ≤ moreOf fs zs V rs (zs.getD j Zn.none) := by
   unfold moreOf
   cases hb : (zs.getD j Zn.none).bonus with
   | false => exact Rat.le_refl
   | true =>
    have hv2 := hv.2 hb
    rw [if_pos rfl, hfe, hr _ (by have := varAt_lt V _ _ hv2; omega), var_getD hv2, Int.toNat_natCast, show nominalOf fs f 2 = (fs.getD f Feat.none).wide from rfl, Rat.intCast_add]
    have hl : (zoneOf zs (f : Int) 2).lower ≤ 0 := by
     rcases zoneAt_cases zs (f : Int) 2 with ⟨h3, -⟩ | ⟨i, h3, h4, -, -⟩
     ·unfold zoneOf; rw [h3]; exact Int.le_refl 0
     ·rw [zoneOf_at h3]; exact (h0 i h4).1
    have hl2 : ((zoneOf zs (f : Int) 2).lower : Rat) ≤ ((0 : Int) : Rat) := Rat.intCast_le_intCast.2 hl
    rw [show ((0 : Int) : Rat) = 0 from rfl] at hl2
    grind
  have hl : ((zs.getD j Zn.none).lower : Rat) ≤ ((0 : Int) : Rat) := Rat.intCast_le_intCast.2 hz.1
  have hu : ((0 : Int) : Rat) ≤ ((zs.getD j Zn.none).upper : Rat) := Rat.intCast_le_intCast.2 hz.2
  rw [show ((0 : Int) : Rat) = 0 from rfl] at hl hu
  rw [hd]
  grind
 ·unfold badVar
  rw [hr j hj, show cmpQ _ _ = 0 from cmpq_eq.2 rfl]
  simp
end Go.Proofs.YtgofihilkobenaaGreatDoor
