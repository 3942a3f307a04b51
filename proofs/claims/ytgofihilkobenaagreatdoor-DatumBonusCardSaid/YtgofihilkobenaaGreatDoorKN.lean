/- Place, Between. -/
import Derived.Test.YtgofihilkobenaaGreatDoorKM
import Derived.Test.YtgofihilkobenaaGreatDoorKL
set_option maxRecDepth 100000
namespace Go.Proofs.YtgofihilkobenaaGreatDoor
open Go.RowKit Go.Num Go.Flow Go.Maps Go.WideMaps Go.Dtm
set_option maxHeartbeats 8000000

def zeroForm : Value := .agg #[.string ⟨#[]⟩, .slice none 0 0]
theorem zero_form (w : World) (B : Nat) : FormIn w B zeroForm [] [] := ⟨_, rfl, World.ownsRow_nil _ _ _ _⟩
/-- A form and an error. -/
def FormPost (w : World) (E : Int) (c : List UInt8) (l : List (Nat × List UInt8)) (e : Ending) (w' : World) : Prop := ∃ v, e = .returned (.tuple #[v, .int .i64 E]) ∧ (E = 0 → FormIn w' w.heap.size v c l) ∧ (E ≠ 0 → v = zeroForm) ∧ Below w.heap.size w w'
def placeErr (fs : List Feat) (zs : List Zn) (f side : Int) : Int := if withErr fs zs [f] ≠ 0 then withErr fs zs [f] else sideErr fs f.toNat side
def noMap : Int → Option Rat := fun _ => none
theorem side_small {fs : List Feat} {i : Nat} {side : Int} (h : sideErr fs i side = 0) : -1 ≤ side ∧ side ≤ 1 := by
 unfold sideErr at h
 split at h
 ·cases h
 ·next h1 => omega
theorem below_turned {w a c : World} {b : Nat} (h : Below w.heap.size w a) (k : Turned b a c) (hb : w.heap.size ≤ b) : Below w.heap.size w c :=
 h.grown k.1 h.size (fun q e => by cases e; exact hb)
theorem two_at0 {w : World} {b : Nat} {x y : Value} {t : TypeId} (h : w.heap[b]? = some (.cells #[x, y] t (0, 0))) (u : Value) : (w.setCell ⟨b, 0, none⟩ u).heap[b]? = some (.cells #[u, y] t (0, 0)) := by
 simp [World.setCell, Array.getElem?_modify, h]
theorem Place_any {w : World} (hg : Glob w) {af : Option Addr} {cf : Nat} {az : Option Addr} {cz : Nat} {fs : List Feat} {zs : List Zn} (h : SchemeIn w af cf az cz fs zs) (f side : Int) :
  Calls Tryz.prog 41 #[.agg #[.slice af fs.length cf, .slice az zs.length cz], .int .i64 f, .int .i64 side] w (FormPost w (placeErr fs zs f side) (numText ((0 : Int) : Rat)) (sumTerms (placeTo (varsTo fs zs fs.length) (chainOf fs fs.length f) f side 1 noMap) 48)) := by
 obtain ⟨n, hn⟩ : ∃ n, n = fs.length := ⟨_, rfl⟩
 obtain ⟨nz, hnz⟩ : ∃ n, n = zs.length := ⟨_, rfl⟩
 obtain ⟨wb, hwb⟩ : ∃ wa, wa = (w.alloc (.cells #[.slice af n cf, .slice az nz cz] 26)).alloc (.cells #[.string ⟨#[]⟩, .slice none 0 0] 78) := ⟨_, rfl⟩
 obtain ⟨ba, hba⟩ : ∃ b, b = w.heap.size := ⟨_, rfl⟩
 obtain ⟨br, hbr⟩ : ∃ b, b = w.heap.size + 1 := ⟨_, rfl⟩
 have hlb : Below w.heap.size w wb := by rw [hwb]; exact ((Below.refl _ w).alloc (Nat.le_refl _) _).alloc (by simp) _
 obtain ⟨k0, k1⟩ := two_made w #[.slice af n cf, .slice az nz cz] #[.string ⟨#[]⟩, .slice none 0 0] 26 78
 rw [← hwb, ← hba] at k0
 rw [← hwb, ← hbr] at k1
 have s0 := block_cell k0 0
 have s1 := block_cell k0 1
 simp at s0 s1
 have hlw : Below wb.heap.size wb (wb.alloc (.cells #[.int .i64 f] 3)) := (Below.refl _ wb).alloc (Nat.le_refl _) _
 have hw := with_any ((h.below hlb).below hlw) (ints_one wb f) (by simp)
 obtain ⟨E, hE⟩ : ∃ E, E = withErr fs zs [f] := ⟨_, rfl⟩
 rw [← hE, ← hn, ← hnz] at hw
 have HWC := Lib.hid (show Calls Tryz.prog 83 #[.agg #[.slice af n cf, .slice az nz cz], .slice (some ⟨wb.heap.size, 0, none⟩) 1 1] (wb.alloc (.cells #[.int .i64 f] 3)) fun e w' => e = .returned (.int .i64 E) ∧ Below (wb.alloc (.cells #[.int .i64 f] 3)).heap.size (wb.alloc (.cells #[.int .i64 f] 3)) w' from hw)
 obtain ⟨PE, hPE⟩ : ∃ x, x = placeErr fs zs f side := ⟨_, rfl⟩
 obtain ⟨N0, hN0⟩ : ∃ x, x = numText ((0 : Int) : Rat) := ⟨_, rfl⟩
 obtain ⟨TL, hTL⟩ : ∃ x, x = sumTerms (placeTo (varsTo fs zs fs.length) (chainOf fs fs.length f) f side 1 noMap) 48 := ⟨_, rfl⟩
 rw [← hTL, ← hN0]
 have HTL := Lib.hid (And.intro hTL hN0)
 clear hTL hN0
 have HPE := Lib.hid (show PE = if E ≠ 0 then E else sideErr fs f.toNat side by rw [hPE, hE]; rfl)
 have HH := Lib.hid h
 have HG := Lib.hid hg
 have HAL := Lib.hid hlb
 have HLW := Lib.hid hlw
 have HSC := Lib.hid (And.intro s0 s1)
 have HKR := Lib.hid k1
 have HGR := Lib.hid (show w.heap.size ≤ br by omega)
 have HE := Lib.hid hE
 have HN := Lib.hid (And.intro hn hnz)
 have hmm := @run_makeMap Tryz.prog
 have HW := Lib.hid (And.intro hwb (And.intro hba hbr))
 rw [← hn, ← hnz, ← hPE]
 clear hw hE hn hnz hlw hlb hwb hba hbr k0 k1 h hPE hg
 go_enter Tryz.func41, Tryz.ntmps41
 go_upto_region 1 with fail
 rw [← HW.out.1, ← HW.out.2.2, ← HW.out.2.1]
 clear HW
 go_wp2_with fail
 refine HWC.out.mono ?_
 rintro e w1 ⟨rfl, hb1⟩
 have hW1 := HLW.out.trans (hb1.mono HLW.out.size)
 have s0 := cell_below hW1 HSC.out.1
 have s1 := cell_below hW1 HSC.out.2
 have HW1 := Lib.hid hW1
 clear hb1 hW1
 by_cases hz : E = 0
 ·have e2 : (E == 0) = true := by rw [hz]; rfl
  obtain ⟨h1, h2, h3⟩ := with_one (HE.out.symm.trans hz)
  obtain ⟨i, rfl⟩ : ∃ i : Nat, f = (i : Int) := ⟨f.toNat, by omega⟩
  have hcs := checkSide_any ((HH.out.below HAL.out).below HW1.out) (show i < fs.length by omega) side
  rw [if_neg (by rw [hz]; simp), Int.toNat_natCast] at HPE
  rw [← HN.out.1, ← HN.out.2, ← HPE.out] at hcs
  have HCS := Lib.hid hcs
  have HC0 := Lib.hid (And.intro h1 h3)
  clear hcs hz h1 h2 h3
  go_wp2_with fail
  refine HCS.out.mono ?_
  rintro e w2 ⟨rfl, hb2⟩
  have HW2 := Lib.hid (HW1.out.trans (hb2.mono HW1.out.size))
  have s0 := cell_below HW2.out HSC.out.1
  have s1 := cell_below HW2.out HSC.out.2
  clear hb2
  by_cases hp : PE = 0
  ·have e3 : (PE == 0) = true := by rw [hp]; rfl
   have HSD := Lib.hid (side_small (HPE.out.symm.trans hp))
   have HP0 := Lib.hid hp
   clear hp
   go_upto_region 8 with fail
   obtain ⟨w3, hw3⟩ : ∃ x, x = w2.alloc (.map #[] 0) := ⟨_, rfl⟩
   obtain ⟨bm, hbm⟩ : ∃ b, b = w2.heap.size := ⟨_, rfl⟩
   have hl3 : Below w2.heap.size w2 w3 := by rw [hw3]; exact (Below.refl _ w2).alloc (Nat.le_refl _) _
   have hm3 : RMapIn w3 bm 0 2 noMap := by rw [hw3, hbm]; exact rmap_made w2 2
   rw [← hw3, ← hbm]
   have HW3 := Lib.hid (HW2.out.trans (hl3.mono HW2.out.size))
   have HM3 := Lib.hid hm3
   have HBM := Lib.hid (show wb.heap.size ≤ bm by rw [hbm]; exact HW2.out.size)
   have s0 := cell_below HW3.out HSC.out.1
   have s1 := cell_below HW3.out HSC.out.2
   have hpl := place_any ((HH.out.below HAL.out).below HW3.out) (check_down HC0.out.1) (by have := (check_small HC0.out.1).1; omega) (by have := (check_small HC0.out.1).2; omega) HC0.out.2 (side := side) (sg := 1) (by have := HSD.out; omega) (by have := HSD.out; omega) (by omega) (by omega) HM3.out (by omega) (by omega) (by omega)
   rw [← HN.out.1, ← HN.out.2] at hpl
   have HPL := Lib.hid hpl
   clear hw3 hbm hl3 hm3 hpl HW2
   go_wp2_with fail
   refine HPL.out.mono ?_
   rintro e w4 ⟨rfl, hm4, ht4⟩
   have hb4 : Below wb.heap.size wb w4 := below_turned HW3.out ht4 HBM.out
   obtain ⟨mm, hmm2⟩ : ∃ x, x = placeTo (varsTo fs zs n) (chainOf fs n (i : Int)) (i : Int) side 1 noMap := ⟨_, rfl⟩
   rw [← hmm2] at hm4
   have hsm := sum_any (HG.out.below (HAL.out.trans (hb4.mono HAL.out.size))) (c := 0) (by omega) (by omega) hm4 (by omega)
   rw [← HTL.out.2, hmm2, HN.out.1, ← HTL.out.1] at hsm
   have HSM := Lib.hid hsm
   clear hsm
   have HW4 := Lib.hid hb4
   clear hb4 hm4 ht4 hmm2 s0 s1
   go_wp2_with fail
   refine HSM.out.mono ?_
   rintro e w5 ⟨v5, rfl, hf5, hb5⟩
   obtain ⟨tv, rfl, ht5⟩ := hf5
   obtain ⟨ao, tn, tc, rfl⟩ := ht5.shape
   have hB5 := HW4.out.trans (hb5.mono HW4.out.size)
   have kz := (hB5.block br (lt_of_block HKR.out)).trans HKR.out
   have z0 := block_cell kz 0
   have z1 := block_cell kz 1
   have f0 := block_free kz 0
   have f1 := block_free kz 1
   simp at z0 z1
   have hbl : br < w4.heap.size := Nat.lt_of_lt_of_le (lt_of_block HKR.out) HW4.out.size
   obtain ⟨S, hS⟩ : ∃ S : ByteArray, S = ⟨N0.toArray⟩ := ⟨_, rfl⟩
   rw [← hS]
   have hr := (ht5.set hbl 0 (.string S)).set hbl 1 (.slice ao tn tc)
   have hbf := ((HAL.out.trans (hB5.mono HAL.out.size)).setCell (p := ⟨br, 0, none⟩) HGR.out (.string S)).setCell (p := ⟨br, 1, none⟩) HGR.out (.slice ao tn tc)
   have HF := Lib.hid (And.intro (World.ownsRow.mono hr (show w.heap.size ≤ w4.heap.size from (HAL.out.trans (HW4.out.mono HAL.out.size)).size)) hbf)
   have HS := Lib.hid hS
   clear hr hbf kz hbl hB5 hb5 ht5 hS
   go_wp2_with fail
   exact bodyPost_ret (v := .tuple #[.agg #[.string S, .slice ao tn tc], .int .i64 0]) (by simp [results, Tryz.results41, go_sem, z0, z1]) rfl ⟨_, by rw [HP0.out], fun _ => ⟨_, by rw [HS.out], HF.out.1⟩, fun h => absurd HP0.out h, HF.out.2⟩
  ·have e3 : (PE == 0) = false := beq_eq_false_iff_ne.2 hp
   have HP0 := Lib.hid hp
   clear hp s0 s1
   have kz := (HW2.out.block br (lt_of_block HKR.out)).trans HKR.out
   have z0 := block_cell kz 0
   have z1 := block_cell kz 1
   have f0 := block_free kz 0
   have f1 := block_free kz 1
   simp at z0 z1
   have HF := Lib.hid (((HAL.out.trans (HW2.out.mono HAL.out.size)).setCell (p := ⟨br, 0, none⟩) HGR.out (.string ⟨#[]⟩)).setCell (p := ⟨br, 1, none⟩) HGR.out (.slice none 0 0))
   clear kz
   go_wp2_with fail
   exact bodyPost_ret (v := .tuple #[zeroForm, .int .i64 PE]) (by simp [results, Tryz.results41, go_sem, z0, z1, zeroForm]) rfl ⟨_, rfl, fun h => absurd h HP0.out, fun _ => rfl, HF.out⟩
 ·have e2 : (E == 0) = false := beq_eq_false_iff_ne.2 hz
  rw [if_pos hz] at HPE
  have HP0 := Lib.hid hz
  clear hz s0 s1
  have kz := (HW1.out.block br (lt_of_block HKR.out)).trans HKR.out
  have z0 := block_cell kz 0
  have z1 := block_cell kz 1
  have f0 := block_free kz 0
  have f1 := block_free kz 1
  simp at z0 z1
  have HF := Lib.hid (((HAL.out.trans (HW1.out.mono HAL.out.size)).setCell (p := ⟨br, 0, none⟩) HGR.out (.string ⟨#[]⟩)).setCell (p := ⟨br, 1, none⟩) HGR.out (.slice none 0 0))
  clear kz
  go_wp2_with fail
  exact bodyPost_ret (v := .tuple #[zeroForm, .int .i64 E]) (by simp [results, Tryz.results41, go_sem, z0, z1, zeroForm]) rfl ⟨_, by rw [HPE.out], fun h => absurd (HPE.out.symm.trans h) HP0.out, fun _ => rfl, HF.out⟩
def betweenErr (fs : List Feat) (zs : List Zn) (f side g other : Int) : Int := if withErr fs zs [f, g] ≠ 0 then withErr fs zs [f, g] else if sideErr fs f.toNat side ≠ 0 then sideErr fs f.toNat side else if sideErr fs g.toNat other ≠ 0 then sideErr fs g.toNat other else if (fs.getD f.toNat Feat.none).axis ≠ (fs.getD g.toNat Feat.none).axis then 17 else 0
def betweenMap (fs : List Feat) (zs : List Zn) (f side g other : Int) : Int → Option Rat := placeTo (varsTo fs zs fs.length) (chainOf fs fs.length f) f side (-1) (placeTo (varsTo fs zs fs.length) (chainOf fs fs.length g) g other 1 noMap)
theorem with_two {fs : List Feat} {zs : List Zn} {i j : Int} (h : withErr fs zs [i, j] = 0) : check fs zs = 0 ∧ (0 ≤ i ∧ i < (fs.length : Int)) ∧ 0 ≤ j ∧ j < (fs.length : Int) := by
 unfold withErr at h
 by_cases h1 : check fs zs = 0
 ·rw [if_neg (by rw [h1]; simp)] at h
  split at h
  ·next h2 =>
   rw [List.all_cons, List.all_cons, List.all_nil, Bool.and_true] at h2
   unfold inside at h2
   simp only [Bool.and_eq_true, decide_eq_true_iff] at h2
   exact ⟨h1, h2⟩
  ·cases h
 ·rw [if_pos h1] at h
  exact absurd h h1
theorem Between_any {w : World} (hg : Glob w) {af : Option Addr} {cf : Nat} {az : Option Addr} {cz : Nat} {fs : List Feat} {zs : List Zn} (h : SchemeIn w af cf az cz fs zs) (f side g other : Int) :
  Calls Tryz.prog 42 #[.agg #[.slice af fs.length cf, .slice az zs.length cz], .int .i64 f, .int .i64 side, .int .i64 g, .int .i64 other] w (FormPost w (betweenErr fs zs f side g other) (numText ((0 : Int) : Rat)) (sumTerms (betweenMap fs zs f side g other) 48)) := by
 obtain ⟨n, hn⟩ : ∃ n, n = fs.length := ⟨_, rfl⟩
 obtain ⟨nz, hnz⟩ : ∃ n, n = zs.length := ⟨_, rfl⟩
 obtain ⟨wb, hwb⟩ : ∃ wa, wa = (w.alloc (.cells #[.slice af n cf, .slice az nz cz] 26)).alloc (.cells #[.string ⟨#[]⟩, .slice none 0 0] 78) := ⟨_, rfl⟩
 obtain ⟨ba, hba⟩ : ∃ b, b = w.heap.size := ⟨_, rfl⟩
 obtain ⟨br, hbr⟩ : ∃ b, b = w.heap.size + 1 := ⟨_, rfl⟩
 have hlb : Below w.heap.size w wb := by rw [hwb]; exact ((Below.refl _ w).alloc (Nat.le_refl _) _).alloc (by simp) _
 obtain ⟨k0, k1⟩ := two_made w #[.slice af n cf, .slice az nz cz] #[.string ⟨#[]⟩, .slice none 0 0] 26 78
 rw [← hwb, ← hba] at k0
 rw [← hwb, ← hbr] at k1
 have s0 := block_cell k0 0
 have s1 := block_cell k0 1
 simp at s0 s1
 have hlw : Below wb.heap.size wb (wb.alloc (.cells #[.int .i64 f, .int .i64 g] 3)) := (Below.refl _ wb).alloc (Nat.le_refl _) _
 have hw := with_any ((h.below hlb).below hlw) (ints_two wb f g) (by simp)
 obtain ⟨E, hE⟩ : ∃ E, E = withErr fs zs [f, g] := ⟨_, rfl⟩
 rw [← hE, ← hn, ← hnz] at hw
 have HWC := Lib.hid (show Calls Tryz.prog 83 #[.agg #[.slice af n cf, .slice az nz cz], .slice (some ⟨wb.heap.size, 0, none⟩) 2 2] (wb.alloc (.cells #[.int .i64 f, .int .i64 g] 3)) fun e w' => e = .returned (.int .i64 E) ∧ Below (wb.alloc (.cells #[.int .i64 f, .int .i64 g] 3)).heap.size (wb.alloc (.cells #[.int .i64 f, .int .i64 g] 3)) w' from hw)
 obtain ⟨PE, hPE⟩ : ∃ x, x = betweenErr fs zs f side g other := ⟨_, rfl⟩
 obtain ⟨N0, hN0⟩ : ∃ x, x = numText ((0 : Int) : Rat) := ⟨_, rfl⟩
 obtain ⟨TL, hTL⟩ : ∃ x, x = sumTerms (betweenMap fs zs f side g other) 48 := ⟨_, rfl⟩
 rw [← hTL, ← hN0]
 have HTL := Lib.hid (And.intro hTL hN0)
 clear hTL hN0
 have HPE := Lib.hid (show PE = if E ≠ 0 then E else if sideErr fs f.toNat side ≠ 0 then sideErr fs f.toNat side else if sideErr fs g.toNat other ≠ 0 then sideErr fs g.toNat other else if (fs.getD f.toNat Feat.none).axis ≠ (fs.getD g.toNat Feat.none).axis then 17 else 0 by rw [hPE, hE]; rfl)
 have HH := Lib.hid h
 have HG := Lib.hid hg
 have HAL := Lib.hid hlb
 have HLW := Lib.hid hlw
 have HSC := Lib.hid (And.intro s0 s1)
 have HKR := Lib.hid k1
 have HGR := Lib.hid (show w.heap.size ≤ br by omega)
 have HE := Lib.hid hE
 have HN := Lib.hid (And.intro hn hnz)
 have hmm := @run_makeMap Tryz.prog
 have HW := Lib.hid (And.intro hwb (And.intro hba hbr))
 have hcap : n ≤ cf ∧ cf ≤ 9223372036854775807 := by rw [hn]; exact ⟨h.feats.1, h.feats.2.1⟩
 rw [← hn, ← hnz, ← hPE]
 clear hw hE hn hnz hlw hlb hwb hba hbr k0 k1 h hPE hg
 go_enter Tryz.func42, Tryz.ntmps42
 go_upto_region 1 with fail
 rw [← HW.out.1, ← HW.out.2.2, ← HW.out.2.1]
 clear HW
 go_wp2_with fail
 refine HWC.out.mono ?_
 rintro e w1 ⟨rfl, hb1⟩
 have hW1 := HLW.out.trans (hb1.mono HLW.out.size)
 have s0 := cell_below hW1 HSC.out.1
 have s1 := cell_below hW1 HSC.out.2
 have HW1 := Lib.hid hW1
 clear hb1 hW1
 by_cases hz : E = 0
 ·have e2 : (E == 0) = true := by rw [hz]; rfl
  obtain ⟨h1, h2, h3⟩ := with_two (HE.out.symm.trans hz)
  obtain ⟨i, rfl⟩ : ∃ i : Nat, f = (i : Int) := ⟨f.toNat, by omega⟩
  obtain ⟨j, rfl⟩ : ∃ i : Nat, g = (i : Int) := ⟨g.toNat, by omega⟩
  rw [if_neg (by rw [hz]; simp), Int.toNat_natCast, Int.toNat_natCast] at HPE
  have hcs := fun (W : World) (hW : SchemeIn W af cf az cz fs zs) => checkSide_any hW (show i < fs.length by omega) side
  have hct := fun (W : World) (hW : SchemeIn W af cf az cz fs zs) => checkSide_any hW (show j < fs.length by omega) other
  obtain ⟨SE, hSE⟩ : ∃ x, x = sideErr fs i side := ⟨_, rfl⟩
  obtain ⟨TE, hTE⟩ : ∃ x, x = sideErr fs j other := ⟨_, rfl⟩
  simp only [← HN.out.1, ← HN.out.2, ← hSE] at hcs
  simp only [← HN.out.1, ← HN.out.2, ← hTE] at hct
  rw [← hSE, ← hTE] at HPE
  have HCS := Lib.hid hcs
  have HCT := Lib.hid hct
  have HST := Lib.hid (And.intro hSE hTE)
  have HC0 := Lib.hid (And.intro h1 (And.intro h2.2 h3.2))
  obtain ⟨bo, o, rfl, hlo, hco⟩ := HH.out.feats.2.2 (by omega)
  have HXI := Lib.hid (hco i (by omega)).2.2.1
  have HXJ := Lib.hid (hco j (by omega)).2.2.1
  obtain ⟨AI, hAI⟩ : ∃ x, x = (fs.getD i Feat.none).axis := ⟨_, rfl⟩
  obtain ⟨AJ, hAJ⟩ : ∃ x, x = (fs.getD j Feat.none).axis := ⟨_, rfl⟩
  rw [← hAI] at HXI HPE
  rw [← hAJ] at HXJ HPE
  clear hcs hct hz h1 h2 h3 hSE hTE hAI hAJ hco
  go_wp2_with fail
  refine (HCS.out w1 ((HH.out.below HAL.out).below HW1.out)).mono ?_
  rintro e w2 ⟨rfl, hb2⟩
  have HW2 := Lib.hid (HW1.out.trans (hb2.mono HW1.out.size))
  have s0 := cell_below HW2.out HSC.out.1
  have s1 := cell_below HW2.out HSC.out.2
  clear hb2
  by_cases hp : SE = 0
  ·have e3 : (SE == 0) = true := by rw [hp]; rfl
   have HSI := Lib.hid (side_small (HST.out.1.symm.trans hp))
   rw [if_neg (by rw [hp]; simp)] at HPE
   clear hp
   go_wp2_with fail
   refine (HCT.out w2 ((HH.out.below HAL.out).below HW2.out)).mono ?_
   rintro e w3 ⟨rfl, hb3⟩
   have HW3 := Lib.hid (HW2.out.trans (hb3.mono HW2.out.size))
   have s0 := cell_below HW3.out HSC.out.1
   have s1 := cell_below HW3.out HSC.out.2
   clear hb3
   by_cases hq : TE = 0
   ·have e4 : (TE == 0) = true := by rw [hq]; rfl
    have HSJ := Lib.hid (side_small (HST.out.2.symm.trans hq))
    rw [if_neg (by rw [hq]; simp)] at HPE
    have x2 := cell_below (HAL.out.trans (HW3.out.mono HAL.out.size)) HXI.out
    have y2 := cell_below (HAL.out.trans (HW3.out.mono HAL.out.size)) HXJ.out
    have hi0 : (0 : Int) ≤ (i : Int) := by omega
    have hi1 : (i : Int) < (n : Int) := by have := HC0.out; have := HN.out.1; omega
    have hj0 : (0 : Int) ≤ (j : Int) := by omega
    have hj1 : (j : Int) < (n : Int) := by have := HC0.out; have := HN.out.1; omega
    clear hq
    go_upto_region 10 with fail
    go_quiet (fail)
    obtain ⟨w5, hw5⟩ : ∃ x, x = w3.drewN nq := ⟨_, rfl⟩
    rw [← hw5]
    have HW5 := Lib.hid (show Below wb.heap.size wb w5 by rw [hw5]; exact HW3.out.trans ((below_drawn w3 nq).mono HW3.out.size))
    clear hw5 x2 y2 hi0 hi1 hj0 hj1 s0 s1
    by_cases hx : AI = AJ
    ·have e5 : (AI != AJ) = false := by rw [hx]; simp
     have HP0 := Lib.hid (show PE = 0 by rw [HPE.out, if_neg (by rw [hx]; simp)])
     clear hx
     go_upto_region 13 with fail
     obtain ⟨w6, hw6⟩ : ∃ x, x = w5.alloc (.map #[] 0) := ⟨_, rfl⟩
     obtain ⟨bm, hbm⟩ : ∃ b, b = w5.heap.size := ⟨_, rfl⟩
     have hl6 : Below w5.heap.size w5 w6 := by rw [hw6]; exact (Below.refl _ w5).alloc (Nat.le_refl _) _
     have hm6 : RMapIn w6 bm 0 2 noMap := by rw [hw6, hbm]; exact rmap_made w5 2
     rw [← hw6, ← hbm]
     have HW6 := Lib.hid (HW5.out.trans (hl6.mono HW5.out.size))
     have HM6 := Lib.hid hm6
     have HBM := Lib.hid (show wb.heap.size ≤ bm by rw [hbm]; exact HW5.out.size)
     have s0 := cell_below HW6.out HSC.out.1
     have s1 := cell_below HW6.out HSC.out.2
     have hpl := place_any ((HH.out.below HAL.out).below HW6.out) (check_down HC0.out.1) (by have := (check_small HC0.out.1).1; omega) (by have := (check_small HC0.out.1).2; omega) HC0.out.2.2 (side := other) (sg := 1) (by have := HSJ.out; omega) (by have := HSJ.out; omega) (by omega) (by omega) HM6.out (by omega) (by omega) (by omega)
     rw [← HN.out.1, ← HN.out.2] at hpl
     have HPL := Lib.hid hpl
     clear hw6 hbm hl6 hm6 hpl HW5
     go_wp2_with fail
     refine HPL.out.mono ?_
     rintro e w7 ⟨rfl, hm7, ht7⟩
     have hb7 : Below wb.heap.size wb w7 := below_turned HW6.out ht7 HBM.out
     obtain ⟨m1, hm1⟩ : ∃ x, x = placeTo (varsTo fs zs n) (chainOf fs n (j : Int)) (j : Int) other 1 noMap := ⟨_, rfl⟩
     rw [← hm1] at hm7
     have s0 := cell_below hb7 HSC.out.1
     have s1 := cell_below hb7 HSC.out.2
     have hpl := place_any ((HH.out.below HAL.out).below hb7) (check_down HC0.out.1) (by have := (check_small HC0.out.1).1; omega) (by have := (check_small HC0.out.1).2; omega) HC0.out.2.1 (side := side) (sg := -1) (by have := HSI.out; omega) (by have := HSI.out; omega) (by omega) (by omega) hm7 (by omega) (by omega) (by omega)
     rw [← HN.out.1, ← HN.out.2] at hpl
     have HPL2 := Lib.hid hpl
     have HW7 := Lib.hid hb7
     have HM1 := Lib.hid hm1
     clear hpl hb7 hm7 ht7 hm1 HPL
     go_wp2_with fail
     refine HPL2.out.mono ?_
     rintro e w8 ⟨rfl, hm8, ht8⟩
     have hb8 : Below wb.heap.size wb w8 := below_turned HW7.out ht8 HBM.out
     have hsm := sum_any (HG.out.below (HAL.out.trans (hb8.mono HAL.out.size))) (c := 0) (by omega) (by omega) hm8 (by omega)
     rw [← HTL.out.2, HM1.out, HN.out.1] at hsm
     have hsm : Calls Tryz.prog 80 #[.int .i64 0, .map (some bm)] w8 fun e w' => ∃ v, e = .returned v ∧ FormIn w' w8.heap.size v N0 TL ∧ Below w8.heap.size w8 w' := by rw [HTL.out.1]; exact hsm
     have HSM := Lib.hid hsm
     have HW8 := Lib.hid hb8
     clear hsm hb8 hm8 ht8 s0 s1 HPL2
     go_wp2_with fail
     refine HSM.out.mono ?_
     rintro e w9 ⟨v5, rfl, hf5, hb5⟩
     obtain ⟨tv, rfl, ht5⟩ := hf5
     obtain ⟨ao, tn, tc, rfl⟩ := ht5.shape
     have hB5 := HW8.out.trans (hb5.mono HW8.out.size)
     have kz := (hB5.block br (lt_of_block HKR.out)).trans HKR.out
     have z0 := block_cell kz 0
     have z1 := block_cell kz 1
     have f0 := block_free kz 0
     have f1 := block_free kz 1
     simp at z0 z1
     have hbl : br < w8.heap.size := Nat.lt_of_lt_of_le (lt_of_block HKR.out) HW8.out.size
     obtain ⟨S, hS⟩ : ∃ S : ByteArray, S = ⟨N0.toArray⟩ := ⟨_, rfl⟩
     rw [← hS]
     have hr := (ht5.set hbl 0 (.string S)).set hbl 1 (.slice ao tn tc)
     have hbf := ((HAL.out.trans (hB5.mono HAL.out.size)).setCell (p := ⟨br, 0, none⟩) HGR.out (.string S)).setCell (p := ⟨br, 1, none⟩) HGR.out (.slice ao tn tc)
     have HF := Lib.hid (And.intro (World.ownsRow.mono hr (show w.heap.size ≤ w8.heap.size from (HAL.out.trans (HW8.out.mono HAL.out.size)).size)) hbf)
     have HS := Lib.hid hS
     clear hr hbf kz hbl hB5 hb5 ht5 hS
     go_wp2_with fail
     exact bodyPost_ret (v := .tuple #[.agg #[.string S, .slice ao tn tc], .int .i64 0]) (by simp [results, Tryz.results42, go_sem, z0, z1]) rfl ⟨_, by rw [HP0.out], fun _ => ⟨_, by rw [HS.out], HF.out.1⟩, fun h => absurd HP0.out h, HF.out.2⟩
    ·have e5 : (AI != AJ) = true := by simpa using hx
     have HP0 := Lib.hid (show PE = 17 by rw [HPE.out, if_pos hx])
     clear hx

     have kz := (HW5.out.block br (lt_of_block HKR.out)).trans HKR.out
     have z0 := block_cell kz 0
     have z1 := block_cell kz 1
     have f0 := block_free kz 0
     have f1 := block_free kz 1
     simp at z0 z1
     have HF := Lib.hid (((HAL.out.trans (HW5.out.mono HAL.out.size)).setCell (p := ⟨br, 0, none⟩) HGR.out (.string ⟨#[]⟩)).setCell (p := ⟨br, 1, none⟩) HGR.out (.slice none 0 0))
     clear kz
     go_wp2_with fail
     exact bodyPost_ret (v := .tuple #[zeroForm, .int .i64 17]) (by simp [results, Tryz.results42, go_sem, z0, z1, zeroForm]) rfl ⟨_, by rw [HP0.out], fun h => absurd (HP0.out.symm.trans h) (by omega), fun _ => rfl, HF.out⟩
   ·have e4 : (TE == 0) = false := beq_eq_false_iff_ne.2 hq
    rw [if_pos hq] at HPE
    have HP0 := Lib.hid hq
    clear hq s0 s1
    have kz := (HW3.out.block br (lt_of_block HKR.out)).trans HKR.out
    have z0 := block_cell kz 0
    have z1 := block_cell kz 1
    have f0 := block_free kz 0
    have f1 := block_free kz 1
    simp at z0 z1
    have HF := Lib.hid (((HAL.out.trans (HW3.out.mono HAL.out.size)).setCell (p := ⟨br, 0, none⟩) HGR.out (.string ⟨#[]⟩)).setCell (p := ⟨br, 1, none⟩) HGR.out (.slice none 0 0))
    clear kz
    go_wp2_with fail
    exact bodyPost_ret (v := .tuple #[zeroForm, .int .i64 TE]) (by simp [results, Tryz.results42, go_sem, z0, z1, zeroForm]) rfl ⟨_, by rw [HPE.out], fun h => absurd (HPE.out.symm.trans h) HP0.out, fun _ => rfl, HF.out⟩
  ·have e3 : (SE == 0) = false := beq_eq_false_iff_ne.2 hp
   rw [if_pos hp] at HPE
   have HP0 := Lib.hid hp
   clear hp s0 s1
   have kz := (HW2.out.block br (lt_of_block HKR.out)).trans HKR.out
   have z0 := block_cell kz 0
   have z1 := block_cell kz 1
   have f0 := block_free kz 0
   have f1 := block_free kz 1
   simp at z0 z1
   have HF := Lib.hid (((HAL.out.trans (HW2.out.mono HAL.out.size)).setCell (p := ⟨br, 0, none⟩) HGR.out (.string ⟨#[]⟩)).setCell (p := ⟨br, 1, none⟩) HGR.out (.slice none 0 0))
   clear kz
   go_wp2_with fail
   exact bodyPost_ret (v := .tuple #[zeroForm, .int .i64 SE]) (by simp [results, Tryz.results42, go_sem, z0, z1, zeroForm]) rfl ⟨_, by rw [HPE.out], fun h => absurd (HPE.out.symm.trans h) HP0.out, fun _ => rfl, HF.out⟩
 ·have e2 : (E == 0) = false := beq_eq_false_iff_ne.2 hz
  rw [if_pos hz] at HPE
  have HP0 := Lib.hid hz
  clear hz s0 s1
  have kz := (HW1.out.block br (lt_of_block HKR.out)).trans HKR.out
  have z0 := block_cell kz 0
  have z1 := block_cell kz 1
  have f0 := block_free kz 0
  have f1 := block_free kz 1
  simp at z0 z1
  have HF := Lib.hid (((HAL.out.trans (HW1.out.mono HAL.out.size)).setCell (p := ⟨br, 0, none⟩) HGR.out (.string ⟨#[]⟩)).setCell (p := ⟨br, 1, none⟩) HGR.out (.slice none 0 0))
  clear kz
  go_wp2_with fail
  exact bodyPost_ret (v := .tuple #[zeroForm, .int .i64 E]) (by simp [results, Tryz.results42, go_sem, z0, z1, zeroForm]) rfl ⟨_, by rw [HPE.out], fun h => absurd (HPE.out.symm.trans h) HP0.out, fun _ => rfl, HF.out⟩
end Go.Proofs.YtgofihilkobenaaGreatDoor
