/- DatumPlaces: the walk. -/
import Derived.Test.YtgofihilkobenaaGreatDoorKQ
import Derived.Test.YtgofihilkobenaaGreatDoorKT
import Derived.Test.YtgofihilkobenaaGreatDoorQSameM
import Derived.Test.YtgofihilkobenaaGreatDoorKV
import Derived.Test.YtgofihilkobenaaGreatDoorKN
set_option maxRecDepth 100000
namespace Go.Proofs.YtgofihilkobenaaGreatDoor
open List renaming setIfInBounds_toArray → zLa, set_cons_zero → zLb, set_cons_succ → zLc
open FlowR renaming putSel → zFp
open Act renaming put → zAp
open Nat renaming zero_add → zNz
open Go.RowKit Go.Num Go.Flow Go.Maps Go.WideMaps Go.Dtm
set_option maxHeartbeats 8000000
set_option linter.unusedVariables false

theorem FormPost.at {w w' : World} {E : Int} {c : List UInt8} {l : List (Nat × List UInt8)} {e : Ending} (h : FormPost w E c l e w') : ∃ v C L, e = .returned (.tuple #[v, .int .i64 E]) ∧ FormAt w' v C L ∧ (E = 0 → C = c ∧ L = l) ∧ (E ≠ 0 → C = [] ∧ L = []) ∧ Below w.heap.size w w' := by
 obtain ⟨v, he, h0, h1, hb⟩ := h
 by_cases hE : E = 0
 ·exact ⟨v, c, l, he, (h0 hE).reads, fun _ => ⟨rfl, rfl⟩, fun h => absurd hE h, hb⟩
 ·exact ⟨v, [], [], he, by rw [h1 hE]; exact form_zero w', fun h => absurd h hE, fun _ => ⟨rfl, rfl⟩, hb⟩
theorem FormAt.shape {w : World} {v : Value} {C : List UInt8} {L : List (Nat × List UInt8)} (h : FormAt w v C L) : ∃ ao n c, v = .agg #[.string ⟨C.toArray⟩, .slice ao n c] := by
 obtain ⟨tv, rfl, ao, c, rfl, -⟩ := h
 exact ⟨ao, _, c, rfl⟩
theorem with_in {fs : List Feat} {zs : List Zn} (h : check fs zs = 0) {f : Int} : withErr fs zs [f] = if 0 ≤ f ∧ f < (fs.length : Int) then 0 else 2 := by
 unfold withErr inside
 rw [if_neg (by rw [h]; simp)]
 simp only [List.all_cons, List.all_nil, Bool.and_true, Bool.and_eq_true, decide_eq_true_iff]
theorem with_in2 {fs : List Feat} {zs : List Zn} (h : check fs zs = 0) {f g : Int} : withErr fs zs [f, g] = if (0 ≤ f ∧ f < (fs.length : Int)) ∧ (0 ≤ g ∧ g < (fs.length : Int)) then 0 else 2 := by
 unfold withErr inside
 rw [if_neg (by rw [h]; simp)]
 simp only [List.all_cons, List.all_nil, Bool.and_true, Bool.and_eq_true, decide_eq_true_iff]
theorem side_ok {fs : List Feat} {zs : List Zn} (h : check fs zs = 0) {f : Int} (hf : 0 ≤ f ∧ f < (fs.length : Int)) (side : Int) : sideErr fs f.toNat side = if sideOk fs f side = true then 0 else 2 := by
 have hk := (feat_right h (show f.toNat < fs.length by omega)).2.1
 unfold sideErr sideOk
 by_cases h1 : side < -1 ∨ 1 < side ∨ ((fs.getD f.toNat Feat.none).kind = 1 ∧ side ≠ 0)
 ·rw [if_pos h1, if_neg]
  rw [decide_eq_true_iff]
  omega
 ·rw [if_neg h1, if_pos]
  rw [decide_eq_true_iff]
  omega
theorem place_form {fs : List Feat} {zs : List Zn} (h : check fs zs = 0) {f side : Int} (hf : 0 ≤ f ∧ f < (fs.length : Int)) (hs : sideOk fs f side = true) :
  sumTerms (placeTo (varsTo fs zs fs.length) (chainOf fs fs.length f) f side 1 noMap) 48 = sumTerms (qplaceTo (varsTo fs zs fs.length) (chainOf fs fs.length f) f side 1 (decide ((fs.getD f.toNat Feat.none).kind = 2)) noMap) 64 := by
 have hv := vars_len fs zs fs.length
 have hsm := (check_small h).1
 unfold sideOk at hs
 rw [decide_eq_true_iff] at hs
 rw [← sum_getD (place_same h hf.1 hf.2 (by omega) (SameMap.refl noMap)) 64, sum_more (n := 48) (d := 16)]
 intro i hi
 rw [place_far _ _ _ _ _ _ (by omega)]
 rfl
theorem between_form {fs : List Feat} {zs : List Zn} (h : check fs zs = 0) {f side g other : Int} (hf : 0 ≤ f ∧ f < (fs.length : Int)) (hg : 0 ≤ g ∧ g < (fs.length : Int)) (hs : sideOk fs f side = true) (ho : sideOk fs g other = true) :
  sumTerms (betweenMap fs zs f side g other) 48 = sumTerms (qplaceTo (varsTo fs zs fs.length) (chainOf fs fs.length f) f side (-1) (decide ((fs.getD f.toNat Feat.none).kind = 2)) (qplaceTo (varsTo fs zs fs.length) (chainOf fs fs.length g) g other 1 (decide ((fs.getD g.toNat Feat.none).kind = 2)) noMap)) 64 := by
 have hv := vars_len fs zs fs.length
 have hsm := (check_small h).1
 unfold sideOk at hs ho
 rw [decide_eq_true_iff] at hs ho
 unfold betweenMap
 rw [← sum_getD (place_same h hf.1 hf.2 (by omega) (place_same h hg.1 hg.2 (by omega) (SameMap.refl noMap))) 64, sum_more (n := 48) (d := 16)]
 intro i hi
 rw [place_far _ _ _ _ _ _ (by omega), place_far _ _ _ _ _ _ (by omega)]
 rfl
theorem said_DatumPlaces {w : World} (hg : Glob w) {af : Option Addr} {cf : Nat} {az : Option Addr} {cz : Nat} {fs : List Feat} {zs : List Zn} (h : SchemeIn w af cf az cz fs zs) (F S G T : Int) :
  Calls Tryz.prog 8 #[.agg #[.slice af fs.length cf, .slice az zs.length cz], .agg #[.int .i64 F, .int .i64 S, .int .i64 G, .int .i64 T]] w fun e w' => e = .returned (.bool true) ∧ Below w.heap.size w w' := by
 obtain ⟨n, hn⟩ : ∃ n, n = fs.length := ⟨_, rfl⟩
 obtain ⟨nz, hnz⟩ : ∃ n, n = zs.length := ⟨_, rfl⟩
 obtain ⟨wa, hwa⟩ : ∃ wa, wa = (w.alloc (.cells #[.slice af n cf, .slice az nz cz] 26)).alloc (.cells #[.int .i64 F, .int .i64 S, .int .i64 G, .int .i64 T] 96) := ⟨_, rfl⟩
 obtain ⟨ba, hba⟩ : ∃ b, b = w.heap.size := ⟨_, rfl⟩
 obtain ⟨bx, hbx⟩ : ∃ b, b = w.heap.size + 1 := ⟨_, rfl⟩
 have hal : Below w.heap.size w wa := by rw [hwa]; exact ((Below.refl _ w).alloc (Nat.le_refl _) _).alloc (by simp) _
 obtain ⟨k0, k1⟩ := two_made w #[.slice af n cf, .slice az nz cz] #[.int .i64 F, .int .i64 S, .int .i64 G, .int .i64 T] 26 96
 rw [← hwa, ← hba] at k0
 rw [← hwa, ← hbx] at k1
 obtain ⟨FI, hFI⟩ : ∃ x, x = (fewOf fs zs && decide (check fs zs = 0)) := ⟨_, rfl⟩
 have hfi := fun (W : World) (hW : SchemeIn W af cf az cz fs zs) => qfine_any hW
 obtain ⟨N0, hN0⟩ : ∃ x, x = numText ((0 : Int) : Rat) := ⟨_, rfl⟩
 obtain ⟨T1, hT1⟩ : ∃ x, x = sumTerms (placeTo (varsTo fs zs fs.length) (chainOf fs fs.length F) F S 1 noMap) 48 := ⟨_, rfl⟩
 obtain ⟨T2, hT2⟩ : ∃ x, x = sumTerms (betweenMap fs zs F S G T) 48 := ⟨_, rfl⟩
 obtain ⟨E1, hE1⟩ : ∃ x, x = placeErr fs zs F S := ⟨_, rfl⟩
 obtain ⟨E2, hE2⟩ : ∃ x, x = betweenErr fs zs F S G T := ⟨_, rfl⟩
 have hpl := fun (W : World) (hg : Glob W) (hW : SchemeIn W af cf az cz fs zs) => Place_any hg hW F S
 have hbe := fun (W : World) (hg : Glob W) (hW : SchemeIn W af cf az cz fs zs) => Between_any hg hW F S G T
 rw [← hN0, ← hT1, ← hE1] at hpl
 rw [← hN0, ← hT2, ← hE2] at hbe
 simp only [← hn, ← hnz, ← hFI] at hfi hpl hbe
 have hcap : n ≤ cf ∧ cf ≤ 9223372036854775807 := by rw [hn]; exact ⟨h.feats.1, h.feats.2.1⟩
 have HPL := Lib.hid hpl
 have HBE := Lib.hid hbe
 have HTT := Lib.hid (And.intro hN0 (And.intro hT1 (And.intro hT2 (And.intro hE1 hE2))))
 have HS := Lib.hid (h.below hal)
 have HG := Lib.hid (hg.below hal)
 have HAL := Lib.hid hal
 have HKA := Lib.hid k0
 have HKX := Lib.hid k1
 have HFI := Lib.hid hfi
 have HF := Lib.hid hFI
 have HN := Lib.hid (And.intro hn hnz)
 have HW := Lib.hid (And.intro hwa (And.intro hba hbx))
 rw [← hn, ← hnz]
 clear hal hwa hba hbx k0 k1 h hfi hFI hn hnz hg hpl hbe hN0 hT1 hT2 hE1 hE2
 go_enter Tryz.func8, Tryz.ntmps8
 go_upto_region 1 with fail
 rw [← HW.out.1, ← HW.out.2.2, ← HW.out.2.1]
 clear HW
 have kk0 := ((Lib.hid (Below.refl wa.heap.size wa)).out.block ba (lt_of_block HKA.out)).trans HKA.out
 have kx0 := ((Lib.hid (Below.refl wa.heap.size wa)).out.block bx (lt_of_block HKX.out)).trans HKX.out
 have s0 := block_cell kk0 0
 have s1 := block_cell kk0 1
 have x0 := block_cell kx0 0
 have x1 := block_cell kx0 1
 have x2 := block_cell kx0 2
 have x3 := block_cell kx0 3
 simp at s0 s1 x0 x1 x2 x3
 clear kk0 kx0
 go_wp2_with fail
 refine (known_any HG.out).mono ?_
 rintro e w1 ⟨rfl, hb1⟩
 have HB1 := Lib.hid hb1
 clear hb1
 clear s0 s1 x0 x1 x2 x3
 have kk1 := (HB1.out.block ba (lt_of_block HKA.out)).trans HKA.out
 have kx1 := (HB1.out.block bx (lt_of_block HKX.out)).trans HKX.out
 have s0 := block_cell kk1 0
 have s1 := block_cell kk1 1
 have x0 := block_cell kx1 0
 have x1 := block_cell kx1 1
 have x2 := block_cell kx1 2
 have x3 := block_cell kx1 3
 simp at s0 s1 x0 x1 x2 x3
 clear kk1 kx1
 go_wp2_with fail
 refine (HFI.out w1 (HS.out.below HB1.out)).mono ?_
 rintro e w2 ⟨rfl, hb2⟩
 have HB2 := Lib.hid (HB1.out.trans (hb2.mono HB1.out.size))
 clear hb2
 clear s0 s1 x0 x1 x2 x3
 have kk2 := (HB2.out.block ba (lt_of_block HKA.out)).trans HKA.out
 have kx2 := (HB2.out.block bx (lt_of_block HKX.out)).trans HKX.out
 have s0 := block_cell kk2 0
 have s1 := block_cell kk2 1
 have x0 := block_cell kx2 0
 have x1 := block_cell kx2 1
 have x2 := block_cell kx2 2
 have x3 := block_cell kx2 3
 simp at s0 s1 x0 x1 x2 x3
 clear kk2 kx2
 cases FI with
 | false =>
  go_wp2_with fail
  refine (known_any (HG.out.below HB2.out)).mono ?_
  rintro e w3 ⟨rfl, hb3⟩
  have HB3 := Lib.hid (HB2.out.trans (hb3.mono HB2.out.size))
  clear hb3
  go_wp2_with fail
  go_ret
  exact ⟨rfl, HAL.out.trans (HB3.out.mono HAL.out.size)⟩
 | true =>
  have hck : check fs zs = 0 := by
   have := HF.out
   simp only [Bool.true_eq, Bool.and_eq_true, decide_eq_true_eq] at this
   exact this.2
  have HCK := Lib.hid hck
  have hsm := (check_small hck).1
  rw [← HN.out.1] at hsm
  have HSM := Lib.hid hsm
  clear hck hsm
  go_wp2_with fail
  refine (HPL.out w2 (HG.out.below HB2.out) (HS.out.below HB2.out)).mono ?_
  rintro e w3 hp3
  obtain ⟨v3, C3, L3, rfl, hfm3, h30, h31, hb3⟩ := FormPost.at hp3
  obtain ⟨a3, n3, c3, rfl⟩ := hfm3.shape
  have HC3 := Lib.hid (And.intro h30 h31)
  have HB3 := Lib.hid (HB2.out.trans (hb3.mono HB2.out.size))
  clear hp3 h30 h31 hb3
  clear s0 s1 x0 x1 x2 x3
  have kk3 := (HB3.out.block ba (lt_of_block HKA.out)).trans HKA.out
  have kx3 := (HB3.out.block bx (lt_of_block HKX.out)).trans HKX.out
  have s0 := block_cell kk3 0
  have s1 := block_cell kk3 1
  have x0 := block_cell kx3 0
  have x1 := block_cell kx3 1
  have x2 := block_cell kx3 2
  have x3 := block_cell kx3 3
  simp at s0 s1 x0 x1 x2 x3
  clear kk3 kx3
  go_upto_region 4 with fail
  obtain ⟨w3b, hw3b⟩ : ∃ x, x = w3.alloc (.cells #[.string ⟨C3.toArray⟩, .slice a3 n3 c3] 78) := ⟨_, rfl⟩
  obtain ⟨bp, hbp⟩ : ∃ x, x = w3.heap.size := ⟨_, rfl⟩
  rw [← hw3b, ← hbp]
  have hl3 : Below w3.heap.size w3 w3b := by rw [hw3b]; exact (Below.refl _ w3).alloc (Nat.le_refl _) _
  have kbp : w3b.heap[bp]? = some (.cells #[.string ⟨C3.toArray⟩, .slice a3 n3 c3] 78 (0, 0)) := by rw [hw3b, hbp]; exact heap_alloc_new w3 _
  have HKbp := Lib.hid kbp
  have HFM3 := Lib.hid (hfm3.below hl3)
  have HB3b := Lib.hid (HB3.out.trans (hl3.mono HB3.out.size))
  have HL3 := Lib.hid hl3
  clear hw3b hl3 kbp hbp hfm3
  clear s0 s1 x0 x1 x2 x3
  have kk3b := (HB3b.out.block ba (lt_of_block HKA.out)).trans HKA.out
  have kx3b := (HB3b.out.block bx (lt_of_block HKX.out)).trans HKX.out
  have s0 := block_cell kk3b 0
  have s1 := block_cell kk3b 1
  have x0 := block_cell kx3b 0
  have x1 := block_cell kx3b 1
  have x2 := block_cell kx3b 2
  have x3 := block_cell kx3b 3
  simp at s0 s1 x0 x1 x2 x3
  clear kk3b kx3b
  go_wp2_with fail
  refine (HBE.out w3b (HG.out.below HB3b.out) (HS.out.below HB3b.out)).mono ?_
  rintro e w4 hp4
  obtain ⟨v4, C4, L4, rfl, hfm4, h40, h41, hb4⟩ := FormPost.at hp4
  obtain ⟨a4, n4, c4, rfl⟩ := hfm4.shape
  have HC4 := Lib.hid (And.intro h40 h41)
  have HB4 := Lib.hid (HB3b.out.trans (hb4.mono HB3b.out.size))
  have HFM34 := Lib.hid (HFM3.out.below hb4)
  have HKbp4 := Lib.hid ((hb4.block bp (lt_of_block HKbp.out)).trans HKbp.out)
  clear hp4 h40 h41 hb4 HFM3 HKbp
  clear s0 s1 x0 x1 x2 x3
  have kk4 := (HB4.out.block ba (lt_of_block HKA.out)).trans HKA.out
  have kx4 := (HB4.out.block bx (lt_of_block HKX.out)).trans HKX.out
  have s0 := block_cell kk4 0
  have s1 := block_cell kk4 1
  have x0 := block_cell kx4 0
  have x1 := block_cell kx4 1
  have x2 := block_cell kx4 2
  have x3 := block_cell kx4 3
  simp at s0 s1 x0 x1 x2 x3
  clear kk4 kx4
  go_upto_region 5 with fail
  obtain ⟨w4b, hw4b⟩ : ∃ x, x = w4.alloc (.cells #[.string ⟨C4.toArray⟩, .slice a4 n4 c4] 78) := ⟨_, rfl⟩
  obtain ⟨bq, hbq⟩ : ∃ x, x = w4.heap.size := ⟨_, rfl⟩
  rw [← hw4b, ← hbq]
  have hl4 : Below w4.heap.size w4 w4b := by rw [hw4b]; exact (Below.refl _ w4).alloc (Nat.le_refl _) _
  have kbq : w4b.heap[bq]? = some (.cells #[.string ⟨C4.toArray⟩, .slice a4 n4 c4] 78 (0, 0)) := by rw [hw4b, hbq]; exact heap_alloc_new w4 _
  have HKbq := Lib.hid kbq
  have HFM4 := Lib.hid (hfm4.below hl4)
  have HB4b := Lib.hid (HB4.out.trans (hl4.mono HB4.out.size))
  have HL4 := Lib.hid hl4
  clear hw4b hl4 kbq hbq hfm4
  have HFP := Lib.hid (HFM34.out.below HL4.out)
  have HKP := Lib.hid ((HL4.out.block bp (lt_of_block HKbp4.out)).trans HKbp4.out)
  have HFQ := HFM4
  have HKQ := HKbq
  clear HFM34 HFM4 HKbp4 HKbq HL3 HL4 HB3 HB3b HB4 HB2 HB1
  clear s0 s1 x0 x1 x2 x3
  have kk4b := (HB4b.out.block ba (lt_of_block HKA.out)).trans HKA.out
  have kx4b := (HB4b.out.block bx (lt_of_block HKX.out)).trans HKX.out
  have s0 := block_cell kk4b 0
  have s1 := block_cell kk4b 1
  have x0 := block_cell kx4b 0
  have x1 := block_cell kx4b 1
  have x2 := block_cell kx4b 2
  have x3 := block_cell kx4b 3
  simp at s0 s1 x0 x1 x2 x3
  clear kk4b kx4b
  by_cases hF : 0 ≤ F ∧ F < (n : Int)
  ·skip
   obtain ⟨fn, rfl⟩ : ∃ k : Nat, F = (k : Int) := ⟨F.toNat, by omega⟩
   obtain ⟨fb, fo, rfl, -, hfc⟩ := HS.out.feats.2.2 (by rw [← HN.out.1]; omega)
   have HFC := Lib.hid hfc
   clear hfc
   have hF0 : (0 : Int) ≤ (fn : Int) := hF.1
   have hF1 : (fn : Int) < (n : Int) := hF.2
   have eF1 : ((fn : Int) < 0) = False := eq_false (by omega)
   have eF2 : ((n : Int) ≤ (fn : Int)) = False := eq_false (by omega)
   have HFI2 := Lib.hid (show 0 ≤ (fn : Int) ∧ (fn : Int) < (fs.length : Int) by rw [← HN.out.1]; exact hF)
   clear hF
   have hqp := fun (W : World) (hW : SchemeIn W (some ⟨fb, fo, none⟩) cf az cz fs zs) (tm : Int) (ht0 : -1 ≤ tm) (ht1 : tm ≤ 1) (b k K : Nat) (m : Int → Option Rat) (hm : RMapIn W b k K m) (hn : k ≤ 1000) (hK2 : 2 ≤ K) (hK : K ≤ 10000) => qplace_any hW HCK.out HFI2.out.1 HFI2.out.2 S ht0 ht1 hm hn hK2 hK
   simp only [← HN.out.1, ← HN.out.2] at hqp
   obtain ⟨OK1, hOK1⟩ : ∃ x, x = sideOk fs (fn : Int) S := ⟨_, rfl⟩
   rw [← hOK1] at hqp
   have HQP := Lib.hid hqp
   have HOK1 := Lib.hid hOK1
   clear hOK1 hqp
   have hmm := @run_makeMap Tryz.prog
   go_upto_region 9 with fail
   clear hmm
   obtain ⟨w5, hw5⟩ : ∃ x, x = w4b.alloc (.map #[] 0) := ⟨_, rfl⟩
   obtain ⟨bm, hbm⟩ : ∃ b, b = w4b.heap.size := ⟨_, rfl⟩
   have hl5 : Below w4b.heap.size w4b w5 := by rw [hw5]; exact (Below.refl _ w4b).alloc (Nat.le_refl _) _
   have hm5 : RMapIn w5 bm 0 2 noMap := by rw [hw5, hbm]; exact rmap_made w4b 2
   rw [← hw5, ← hbm]
   have HB5 := Lib.hid hl5
   have HM5 := Lib.hid hm5
   have HBM := Lib.hid (show w4b.heap.size ≤ bm by omega)
   have HBA5 := Lib.hid (HB4b.out.trans (hl5.mono HB4b.out.size))
   clear hw5 hbm hl5 hm5
   clear s0 s1 x0 x1 x2 x3
   have kk5 := (HBA5.out.block ba (lt_of_block HKA.out)).trans HKA.out
   have kx5 := (HBA5.out.block bx (lt_of_block HKX.out)).trans HKX.out
   have s0 := block_cell kk5 0
   have s1 := block_cell kk5 1
   have x0 := block_cell kx5 0
   have x1 := block_cell kx5 1
   have x2 := block_cell kx5 2
   have x3 := block_cell kx5 3
   simp at s0 s1 x0 x1 x2 x3
   clear kk5 kx5
   go_wp2_with fail
   refine (HQP.out w5 (HS.out.below HBA5.out) 1 (by omega) (by omega) _ _ _ _ HM5.out (by omega) (by omega) (by omega)).mono ?_
   rintro e w6 ⟨rfl, hm6, ht6⟩
   have HB6 := Lib.hid (below_turned HB5.out ht6 HBM.out)
   have HBA6 := Lib.hid (HB4b.out.trans (HB6.out.mono HB4b.out.size))
   have HM6 := Lib.hid hm6
   clear hm6 ht6 HB5 HBA5 HM5
   clear s0 s1 x0 x1 x2 x3
   have HSE := Lib.hid (show sideErr fs fn S = (if OK1 = true then 0 else 2) by have := side_ok HCK.out HFI2.out S; rw [Int.toNat_natCast] at this; rw [this, HOK1.out])
   have HWE := Lib.hid (show withErr fs zs [(fn : Int)] = 0 by rw [with_in HCK.out, if_pos HFI2.out])
   cases OK1 with
   | false =>
    have hs1 : sideErr fs fn S = 2 := by rw [HSE.out, if_neg (by decide)]
    have he1 : E1 = 2 := by
     rw [HTT.out.2.2.2.1]
     unfold placeErr
     rw [HWE.out, if_neg (by decide), Int.toNat_natCast, hs1]
    have he2 : E2 = 2 := by
     rw [HTT.out.2.2.2.2]
     unfold betweenErr
     by_cases hg : 0 ≤ G ∧ G < (fs.length : Int)
     ·have hw2 : withErr fs zs [(fn : Int), G] = 0 := by rw [with_in2 HCK.out, if_pos ⟨HFI2.out, hg⟩]
      rw [hw2, if_neg (by decide), Int.toNat_natCast, hs1, if_pos (by decide)]
     ·have hw2 : withErr fs zs [(fn : Int), G] = 2 := by rw [with_in2 HCK.out, if_neg (fun h => hg h.2)]
      rw [hw2, if_pos (by decide)]
    have HZp := Lib.hid (HC3.out.2 (by rw [he1]; decide))
    have HZq := Lib.hid (HC4.out.2 (by rw [he2]; decide))
    rw [he1, he2]
    clear he1 he2 hs1
    have kyp := (HB6.out.block bp (lt_of_block HKP.out)).trans HKP.out
    have p0 := block_cell kyp 0
    have p1 := block_cell kyp 1
    simp at p0 p1
    clear kyp
    have kyq := (HB6.out.block bq (lt_of_block HKQ.out)).trans HKQ.out
    have q0 := block_cell kyq 0
    have q1 := block_cell kyq 1
    simp at q0 q1
    clear kyq
    go_wp2_with fail
    refine (sameForm_any (HFP.out.below HB6.out) (form_zero w6) (by rw [HZp.out.2]; simp)).mono ?_
    rintro e wz0 ⟨rfl, hbz0⟩
    rw [show decide (C3 = [] ∧ L3 = []) = true from decide_eq_true HZp.out]
    have q0 := cell_below hbz0 q0
    have q1 := cell_below hbz0 q1
    go_wp2_with fail
    refine (sameForm_any (HFQ.out.below (HB6.out.trans (hbz0.mono HB6.out.size))) (form_zero wz0) (by rw [HZq.out.2]; simp)).mono ?_
    rintro e wz1 ⟨rfl, hbz1⟩
    rw [show decide (C4 = [] ∧ L4 = []) = true from decide_eq_true HZq.out]
    have HEND := Lib.hid (HAL.out.trans ((HB4b.out.trans (((HB6.out.trans (hbz0.mono HB6.out.size)).trans (hbz1.mono (HB6.out.trans (hbz0.mono HB6.out.size)).size)).mono HB4b.out.size)).mono HAL.out.size))
    go_wp2_with fail
    go_ret
    exact ⟨rfl, HEND.out⟩
   | true =>
    have hs1 : sideErr fs fn S = 0 := by rw [HSE.out, if_pos rfl]
    have HS1 := Lib.hid hs1
    have he1 : E1 = 0 := by
     rw [HTT.out.2.2.2.1]
     unfold placeErr
     rw [HWE.out, if_neg (by decide), Int.toNat_natCast, hs1]
    clear hs1
    have HEQ := Lib.hid (HC3.out.1 he1)
    have HLEN := Lib.hid (show L3.length ≤ 1000000 by rw [HEQ.out.2, HTT.out.2.1]; exact Nat.le_trans (terms_len _ 48) (by omega))
    rw [he1]
    clear he1
    obtain ⟨M1, hM1⟩ : ∃ x, x = qplaceTo (varsTo fs zs n) (chainOf fs n (fn : Int)) (fn : Int) S 1 (decide ((fs.getD (fn : Int).toNat Feat.none).kind = 2)) noMap := ⟨_, rfl⟩
    have hm6 := HM6.out
    rw [if_pos rfl, ← hM1] at hm6
    have ht1 : T1 = sumTerms M1 64 := by rw [HTT.out.2.1, place_form HCK.out HFI2.out HOK1.out.symm, hM1, HN.out.1]
    have hqf : ∀ W, Below w6.heap.size w6 W → Calls Tryz.prog 44 #[.int .i64 0, .map (some bm)] W fun e w' => ∃ v, e = .returned v ∧ FormAt w' v N0 T1 ∧ Below W.heap.size W w' := fun W hW => by
     refine (qform_any (HG.out.below (HBA6.out.trans (hW.mono HBA6.out.size))) (c := 0) (by omega) (by omega) (hm6.below hW) (by omega)).mono ?_
     rintro e w' ⟨v, he, hf, hb⟩
     rw [← HTT.out.1, ← ht1] at hf
     exact ⟨v, he, hf.reads, hb⟩
    have HQF := Lib.hid hqf
    have HR6 := Lib.hid (Below.refl w6.heap.size w6)
    have HKP6 := Lib.hid ((HB6.out.block bp (lt_of_block HKP.out)).trans HKP.out)
    have HFP6 := Lib.hid (HFP.out.below HB6.out)
    obtain ⟨bz, hbz⟩ : ∃ x, x = false := ⟨_, rfl⟩
    have HBZ := Lib.hid hbz
    clear hM1 hm6 ht1 hqf HM6 hbz
    have kyp := (HB6.out.block bp (lt_of_block HKP.out)).trans HKP.out
    have p0 := block_cell kyp 0
    have p1 := block_cell kyp 1
    simp at p0 p1
    clear kyp
    have kyq := (HB6.out.block bq (lt_of_block HKQ.out)).trans HKQ.out
    have q0 := block_cell kyq 0
    have q1 := block_cell kyq 1
    simp at q0 q1
    clear kyq
    go_upto_region 11 with fail
    clear p0 p1 q0 q1
    refine FlowR.wp_region_sel (fun a b => Below a.heap.size a b) (fun a => Below.refl _ a) (fun _ _ _ h k => h.trans (k.mono h.size)) [0, 1, 2, 3, 4, 5, 6, 7, 8] [false, false, false, false, false, false, false, false, false] [true, true, true, true, true, true, true, true, true] (fun i9 v w' => match i9 with
     | 0 => v = .int .i64 0
     | 1 => v = .bool (bz)
     | 2 => v = .bool (bz)
     | 3 => (bz) = false → v = .agg #[.string ⟨C3.toArray⟩, .slice a3 n3 c3]
     | 4 => (bz) = false → v = .map (some bm)
     | 5 => (bz) = false → FormAt w' v N0 T1
     | 6 => (bz) = false → v = .bool true
     | 7 => (bz) = false → v = .bool false
     | _ => v = .bool (bz || false)) rfl rfl (by kernel_rfl) (by kernel_rfl) (by kernel_rfl) (by kernel_rfl) ?st ?steps ?fin
    case st =>
     intro i9 v u1 u2 h hb
     match i9 with
     | 0 => exact h
     | 1 => exact h
     | 2 => exact h
     | 3 => exact h
     | 4 => exact h
     | 5 => exact fun hq => ((show (bz) = false → FormAt u1 v N0 T1 from h) hq).below hb
     | 6 => exact h
     | 7 => exact h
     | 8 => exact h
     | _ + 9 => exact h
    case steps =>
     refine Flow.Steps.cons (FlowR.Step.of rfl ?s0) (Flow.Steps.cons (FlowR.Step.of rfl ?s1) (Flow.Steps.cons (FlowR.Step.of rfl ?s2) (Flow.Steps.cons (FlowR.Step.of rfl ?s3) (Flow.Steps.cons (FlowR.Step.of rfl ?s4) (Flow.Steps.cons (FlowR.Step.of rfl ?s5) (Flow.Steps.cons (FlowR.Step.of rfl ?s6) (Flow.Steps.cons (FlowR.Step.of rfl ?s7) (Flow.Steps.cons (FlowR.Step.of rfl ?s8) Flow.Steps.nil))))))))
     case s0 =>
      intro xs w' hb hT K9 hK9
      clear hT
      simp only [zFp, zAp, zLa, zLb, zLc, Nat.reduceAdd, zNz] at hK9 ⊢
      have hw := Flow.hwD HR6.out hb
      go_simp
      exact hK9 _ _ (Below.refl _ _) rfl
     case s1 =>
      intro xs w' hb hT K9 hK9
      have h0 : (xs 0) = .int .i64 0 := hT 0 (by kernel_rfl)
      clear hT
      simp only [zFp, zAp, zLa, zLb, zLc, Nat.reduceAdd, zNz] at hK9 ⊢
      have hw := Flow.hwD HR6.out hb
      (try simp only [h0] at hK9)
      go_simp
      exact hK9 _ _ (Below.refl _ _) (by rw [HBZ.out])
     case s2 =>
      intro xs w' hb hT K9 hK9
      have h1 : (xs 1) = .bool (bz) := hT 1 (by kernel_rfl)
      clear hT
      simp only [zFp, zAp, zLa, zLb, zLc, Nat.reduceAdd, zNz] at hK9 ⊢
      have hw := Flow.hwD HR6.out hb
      (try simp only [h1] at hK9)
      go_simp
      exact hK9 _ _ (Below.refl _ _) rfl
     case s3 =>
      intro xs w' hb hT K9 hK9
      have h2 : (xs 2) = .bool (bz) := hT 2 (by kernel_rfl)
      clear hT
      simp only [zFp, zAp, zLa, zLb, zLc, Nat.reduceAdd, zNz] at hK9 ⊢
      have hw := Flow.hwD HR6.out hb
      by_cases hg : (bz) = false
      ·rw [hg] at h2
       have kb := (hw.block bp (lt_of_block HKP6.out)).trans HKP6.out
       have y0 := block_cell kb 0
       have y1 := block_cell kb 1
       clear kb
       simp at y0 y1
       (try simp only [h2] at hK9)
       go_simp
       exact hK9 _ _ (Below.refl _ _) (fun _ => rfl)
      ·have hg' : (bz) = true := eq_true_of_ne_false hg
       rw [hg'] at h2
       (try simp only [h2] at hK9)
       go_simp
       exact hK9 _ _ (Below.refl _ _) (fun h => absurd h hg)
     case s4 =>
      intro xs w' hb hT K9 hK9
      have h2 : (xs 2) = .bool (bz) := hT 2 (by kernel_rfl)
      clear hT
      simp only [zFp, zAp, zLa, zLb, zLc, Nat.reduceAdd, zNz] at hK9 ⊢
      have hw := Flow.hwD HR6.out hb
      by_cases hg : (bz) = false
      ·rw [hg] at h2
       (try simp only [h2] at hK9)
       go_simp
       exact hK9 _ _ (Below.refl _ _) (fun _ => rfl)
      ·have hg' : (bz) = true := eq_true_of_ne_false hg
       rw [hg'] at h2
       (try simp only [h2] at hK9)
       go_simp
       exact hK9 _ _ (Below.refl _ _) (fun h => absurd h hg)
     case s5 =>
      intro xs w' hb hT K9 hK9
      have h2 : (xs 2) = .bool (bz) := hT 2 (by kernel_rfl)
      have h4 : (bz) = false → (xs 4) = .map (some bm) := hT 4 (by kernel_rfl)
      clear hT
      simp only [zFp, zAp, zLa, zLb, zLc, Nat.reduceAdd, zNz] at hK9 ⊢
      have hw := Flow.hwD HR6.out hb
      by_cases hg : (bz) = false
      ·rw [hg] at h2
       replace h4 := h4 hg
       (try simp only [h2] at hK9)
       (try simp only [h4] at hK9)
       go_simp
       go_at_call 44
       refine (HQF.out w' hw).mono ?_
       rintro e w3 ⟨v3, rfl, hi3, hb3⟩
       exact hK9 _ _ hb3 (fun _ => hi3)
      ·have hg' : (bz) = true := eq_true_of_ne_false hg
       rw [hg'] at h2
       (try simp only [h2] at hK9)
       clear h4
       go_simp
       exact hK9 _ _ (Below.refl _ _) (fun h => absurd h hg)
     case s6 =>
      intro xs w' hb hT K9 hK9
      have h2 : (xs 2) = .bool (bz) := hT 2 (by kernel_rfl)
      have h3 : (bz) = false → (xs 3) = .agg #[.string ⟨C3.toArray⟩, .slice a3 n3 c3] := hT 3 (by kernel_rfl)
      have h5 : (bz) = false → FormAt w' (xs 5) N0 T1 := hT 5 (by kernel_rfl)
      clear hT
      simp only [zFp, zAp, zLa, zLb, zLc, Nat.reduceAdd, zNz] at hK9 ⊢
      have hw := Flow.hwD HR6.out hb
      by_cases hg : (bz) = false
      ·rw [hg] at h2
       replace h3 := h3 hg
       replace h5 := h5 hg
       (try simp only [h2] at hK9)
       (try simp only [h3] at hK9)
       go_simp
       go_at_call 35
       refine (sameForm_any (HFP6.out.below hw) h5 HLEN.out).mono ?_
       rintro e w3 ⟨rfl, hb3⟩
       rw [show decide (C3 = N0 ∧ L3 = T1) = true from decide_eq_true HEQ.out]
       exact hK9 _ _ hb3 (fun _ => rfl)
      ·have hg' : (bz) = true := eq_true_of_ne_false hg
       rw [hg'] at h2
       (try simp only [h2] at hK9)
       clear h3 h5
       go_simp
       exact hK9 _ _ (Below.refl _ _) (fun h => absurd h hg)
     case s7 =>
      intro xs w' hb hT K9 hK9
      have h2 : (xs 2) = .bool (bz) := hT 2 (by kernel_rfl)
      have h6 : (bz) = false → (xs 6) = .bool true := hT 6 (by kernel_rfl)
      clear hT
      simp only [zFp, zAp, zLa, zLb, zLc, Nat.reduceAdd, zNz] at hK9 ⊢
      have hw := Flow.hwD HR6.out hb
      by_cases hg : (bz) = false
      ·rw [hg] at h2
       replace h6 := h6 hg
       (try simp only [h2] at hK9)
       (try simp only [h6] at hK9)
       go_simp
       exact hK9 _ _ (Below.refl _ _) (fun _ => rfl)
      ·have hg' : (bz) = true := eq_true_of_ne_false hg
       rw [hg'] at h2
       (try simp only [h2] at hK9)
       clear h6
       go_simp
       exact hK9 _ _ (Below.refl _ _) (fun h => absurd h hg)
     case s8 =>
      intro xs w' hb hT K9 hK9
      have h2 : (xs 2) = .bool (bz) := hT 2 (by kernel_rfl)
      have h7 : (bz) = false → (xs 7) = .bool false := hT 7 (by kernel_rfl)
      clear hT
      simp only [zFp, zAp, zLa, zLb, zLc, Nat.reduceAdd, zNz] at hK9 ⊢
      have hw := Flow.hwD HR6.out hb
      by_cases hg : (bz) = false
      ·rw [hg] at h2
       replace h7 := h7 hg
       (try simp only [h2] at hK9)
       (try simp only [h7] at hK9)
       go_simp
       exact hK9 _ _ (Below.refl _ _) (by simp [ hg])
      ·have hg' : (bz) = true := eq_true_of_ne_false hg
       rw [hg'] at h2
       clear h7
       (try simp only [h2] at hK9)
       go_simp
       exact hK9 _ _ (Below.refl _ _) (by simp [ hg'])
    case fin =>
     intro xs w' hb hT
     have hw := Flow.hwD HR6.out hb
     have h8 : (xs 8) = .bool (bz || false) := hT 8 (by rfl)
     clear hT
     simp only [zFp, zAp, zLa, zLb, zLc, Nat.reduceAdd, zNz, FlowR.restL, FlowR.orM, Bool.false_or]
     simp only [h8]
     rw [HBZ.out]
     refine wpList_nil ?_
     have HB7 := Lib.hid (HB6.out.trans (hw.mono HB6.out.size))
     clear h8 hw hb
     have HBA7 := Lib.hid (HB4b.out.trans (HB7.out.mono HB4b.out.size))
     have kk7 := (HBA7.out.block ba (lt_of_block HKA.out)).trans HKA.out
     have kx7 := (HBA7.out.block bx (lt_of_block HKX.out)).trans HKX.out
     have s0 := block_cell kk7 0
     have s1 := block_cell kk7 1
     have x0 := block_cell kx7 0
     have x1 := block_cell kx7 1
     have x2 := block_cell kx7 2
     have x3 := block_cell kx7 3
     simp at s0 s1 x0 x1 x2 x3
     clear kk7 kx7
     have hmm := @run_makeMap Tryz.prog
     go_upto_region 14 with fail
     clear hmm
     obtain ⟨w8, hw8⟩ : ∃ x, x = w'.alloc (.map #[] 0) := ⟨_, rfl⟩
     obtain ⟨bn, hbn⟩ : ∃ b, b = w'.heap.size := ⟨_, rfl⟩
     have hl8 : Below w'.heap.size w' w8 := by rw [hw8]; exact (Below.refl _ w').alloc (Nat.le_refl _) _
     have hm8 : RMapIn w8 bn 0 2 noMap := by rw [hw8, hbn]; exact rmap_made w' 2
     rw [← hw8, ← hbn]
     have HB8 := Lib.hid (HB7.out.trans (hl8.mono HB7.out.size))
     have HM8 := Lib.hid hm8
     have HBN := Lib.hid (show w4b.heap.size ≤ bn by have := HB7.out.size; omega)
     have HBA8 := Lib.hid (HB4b.out.trans (HB8.out.mono HB4b.out.size))
     clear hw8 hbn hl8 hm8
     clear s0 s1 x0 x1 x2 x3
     have kk8 := (HBA8.out.block ba (lt_of_block HKA.out)).trans HKA.out
     have kx8 := (HBA8.out.block bx (lt_of_block HKX.out)).trans HKX.out
     have s0 := block_cell kk8 0
     have s1 := block_cell kk8 1
     have x0 := block_cell kx8 0
     have x1 := block_cell kx8 1
     have x2 := block_cell kx8 2
     have x3 := block_cell kx8 3
     simp at s0 s1 x0 x1 x2 x3
     clear kk8 kx8
     by_cases hG : 0 ≤ G ∧ G < (n : Int)
     ·obtain ⟨gn, rfl⟩ : ∃ k : Nat, G = (k : Int) := ⟨G.toNat, by omega⟩
      have hG0 : (0 : Int) ≤ (gn : Int) := hG.1
      have hG1 : (gn : Int) < (n : Int) := hG.2
      have eG1 : ((gn : Int) < 0) = False := eq_false (by omega)
      have eG2 : ((n : Int) ≤ (gn : Int)) = False := eq_false (by omega)
      have HGI2 := Lib.hid (show 0 ≤ (gn : Int) ∧ (gn : Int) < (fs.length : Int) by rw [← HN.out.1]; exact hG)
      clear hG
      have hqg := fun (W : World) (hW : SchemeIn W (some ⟨fb, fo, none⟩) cf az cz fs zs) (tm : Int) (ht0 : -1 ≤ tm) (ht1 : tm ≤ 1) (b k K : Nat) (m : Int → Option Rat) (hm : RMapIn W b k K m) (hn : k ≤ 1000) (hK2 : 2 ≤ K) (hK : K ≤ 10000) => qplace_any hW HCK.out HGI2.out.1 HGI2.out.2 T ht0 ht1 hm hn hK2 hK
      simp only [← HN.out.1, ← HN.out.2] at hqg
      obtain ⟨OK2, hOK2⟩ : ∃ x, x = sideOk fs (gn : Int) T := ⟨_, rfl⟩
      rw [← hOK2] at hqg
      have HQG := Lib.hid hqg
      have HOK2 := Lib.hid hOK2
      clear hOK2 hqg
      have HSG := Lib.hid (show sideErr fs gn T = (if OK2 = true then 0 else 2) by have := side_ok HCK.out HGI2.out T; rw [Int.toNat_natCast] at this; rw [this, HOK2.out])
      have HW2 := Lib.hid (show withErr fs zs [(fn : Int), (gn : Int)] = 0 by rw [with_in2 HCK.out, if_pos ⟨HFI2.out, HGI2.out⟩])
      go_wp2_with fail
      refine (HQG.out w8 (HS.out.below HBA8.out) 1 (by omega) (by omega) _ _ _ _ HM8.out (by omega) (by omega) (by omega)).mono ?_
      rintro e w9 ⟨rfl, hm9, ht9⟩
      have HB9 := Lib.hid (below_turned HB8.out ht9 HBN.out)
      have HBA9 := Lib.hid (HB4b.out.trans (HB9.out.mono HB4b.out.size))
      have HM9 := Lib.hid hm9
      clear hm9 ht9 HB8 HBA8 HM8
      clear s0 s1 x0 x1 x2 x3
      cases OK2 with
      | false =>
       have hs2 : sideErr fs gn T = 2 := by rw [HSG.out, if_neg (by decide)]
       have he2 : E2 = 2 := by
        rw [HTT.out.2.2.2.2]
        unfold betweenErr
        rw [HW2.out, if_neg (by decide), Int.toNat_natCast, HS1.out, if_neg (by decide), Int.toNat_natCast, hs2, if_pos (by decide)]
       clear hs2
       have HZq := Lib.hid (HC4.out.2 (by rw [he2]; decide))
       rw [he2]
       clear he2
       have kyq := (HB9.out.block bq (lt_of_block HKQ.out)).trans HKQ.out
       have q0 := block_cell kyq 0
       have q1 := block_cell kyq 1
       simp at q0 q1
       clear kyq
       go_wp2_with fail
       refine (sameForm_any (HFQ.out.below HB9.out) (form_zero w9) (by rw [HZq.out.2]; simp)).mono ?_
       rintro e wz0 ⟨rfl, hbz0⟩
       rw [show decide (C4 = [] ∧ L4 = []) = true from decide_eq_true HZq.out]
       have HEND := Lib.hid (HAL.out.trans ((HB4b.out.trans ((HB9.out.trans (hbz0.mono HB9.out.size)).mono HB4b.out.size)).mono HAL.out.size))
       go_wp2_with fail
       go_ret
       exact ⟨rfl, HEND.out⟩
      | true =>
       have HS2 := Lib.hid (show sideErr fs gn T = 0 by rw [HSG.out, if_pos rfl])
       have hm9 := HM9.out
       obtain ⟨M2, hM2⟩ : ∃ x, x = qplaceTo (varsTo fs zs n) (chainOf fs n (gn : Int)) (gn : Int) T 1 (decide ((fs.getD (gn : Int).toNat Feat.none).kind = 2)) noMap := ⟨_, rfl⟩
       rw [if_pos rfl, ← hM2] at hm9
       have HM2 := Lib.hid hM2
       have HMP := Lib.hid hm9
       clear hM2 hm9 HM9
       have kk9 := (HBA9.out.block ba (lt_of_block HKA.out)).trans HKA.out
       have kx9 := (HBA9.out.block bx (lt_of_block HKX.out)).trans HKX.out
       have s0 := block_cell kk9 0
       have s1 := block_cell kk9 1
       have x0 := block_cell kx9 0
       have x1 := block_cell kx9 1
       have x2 := block_cell kx9 2
       have x3 := block_cell kx9 3
       simp at s0 s1 x0 x1 x2 x3
       clear kk9 kx9
       go_wp2_with fail
       refine (HQP.out w9 (HS.out.below HBA9.out) (-1) (by omega) (by omega) _ _ _ _ HMP.out (by omega) (by omega) (by omega)).mono ?_
       rintro e w10 ⟨rfl, hm10, ht10⟩
       have HB10 := Lib.hid (below_turned HB9.out ht10 HBN.out)
       have HBA10 := Lib.hid (HB4b.out.trans (HB10.out.mono HB4b.out.size))
       obtain ⟨M3, hM3⟩ : ∃ x, x = qplaceTo (varsTo fs zs n) (chainOf fs n (fn : Int)) (fn : Int) S (-1) (decide ((fs.getD (fn : Int).toNat Feat.none).kind = 2)) M2 := ⟨_, rfl⟩
       first
        | rw [if_pos rfl, ← hM3] at hm10
        | rw [if_pos trivial, ← hM3] at hm10
       have HM10 := Lib.hid hm10
       have HM3 := Lib.hid hM3
       clear hm10 ht10 hM3 HB9 HBA9 HMP
       clear s0 s1 x0 x1 x2 x3
       have kk10 := (HBA10.out.block ba (lt_of_block HKA.out)).trans HKA.out
       have kx10 := (HBA10.out.block bx (lt_of_block HKX.out)).trans HKX.out
       have s0 := block_cell kk10 0
       have s1 := block_cell kk10 1
       have x0 := block_cell kx10 0
       have x1 := block_cell kx10 1
       have x2 := block_cell kx10 2
       have x3 := block_cell kx10 3
       simp at s0 s1 x0 x1 x2 x3
       clear kk10 kx10
       obtain ⟨ax, hax⟩ : ∃ x, x = (fs.getD fn Feat.none).axis := ⟨_, rfl⟩
       obtain ⟨ay, hay⟩ : ∃ x, x = (fs.getD gn Feat.none).axis := ⟨_, rfl⟩
       have y0 := cell_below HBA10.out (HFC.out fn (by rw [← HN.out.1]; omega)).2.2.1
       have y1 := cell_below HBA10.out (HFC.out gn (by rw [← HN.out.1]; omega)).2.2.1
       rw [← hax] at y0
       rw [← hay] at y1
       have HAX := Lib.hid (And.intro hax hay)
       clear hax hay
       go_upto_region 17 with fail
       have hcap3 := hcap
       by_cases hx : ax = ay
       ·have en : (ax != ay) = false := by rw [hx]; simp
        have ee : (ax == ay) = true := by rw [hx]; simp
        have he2 : E2 = 0 := by
         rw [HTT.out.2.2.2.2]
         unfold betweenErr
         rw [HW2.out, if_neg (by decide), Int.toNat_natCast, HS1.out, if_neg (by decide), Int.toNat_natCast, HS2.out, if_neg (by decide), ← HAX.out.1, ← HAX.out.2, if_neg (by rw [hx]; simp)]
        have HEQ2 := Lib.hid (HC4.out.1 he2)
        have HLEN2 := Lib.hid (show L4.length ≤ 1000000 by rw [HEQ2.out.2, HTT.out.2.2.1]; exact Nat.le_trans (terms_len _ 48) (by omega))
        rw [he2]
        clear he2 hx
        have ht2 : T2 = sumTerms M3 64 := by rw [HTT.out.2.2.1, between_form HCK.out HFI2.out HGI2.out HOK1.out.symm HOK2.out.symm, HM3.out, HM2.out, HN.out.1]
        go_quiet (fail)
        obtain ⟨w11, hw11⟩ : ∃ x, x = w10.drewN nq := ⟨_, rfl⟩
        have hb11 : Below w10.heap.size w10 w11 := by rw [hw11]; exact below_drawn w10 nq
        rw [← hw11]
        have HB11 := Lib.hid (HB10.out.trans (hb11.mono HB10.out.size))
        have HBA11 := Lib.hid (HB4b.out.trans (HB11.out.mono HB4b.out.size))
        have hm11 := HM10.out.below hb11
        have hqf : ∀ W, Below w11.heap.size w11 W → Calls Tryz.prog 44 #[.int .i64 0, .map (some bn)] W fun e w' => ∃ v, e = .returned v ∧ FormAt w' v N0 T2 ∧ Below W.heap.size W w' := fun W hW => by
         refine (qform_any (HG.out.below (HBA11.out.trans (hW.mono HBA11.out.size))) (c := 0) (by omega) (by omega) (hm11.below hW) (by omega)).mono ?_
         rintro e w' ⟨v, he, hf, hb⟩
         rw [← HTT.out.1, ← ht2] at hf
         exact ⟨v, he, hf.reads, hb⟩
        have HQF2 := Lib.hid hqf
        have HR11 := Lib.hid (Below.refl w11.heap.size w11)
        have HKQ11 := Lib.hid ((HB11.out.block bq (lt_of_block HKQ.out)).trans HKQ.out)
        have HFQ11 := Lib.hid (HFQ.out.below HB11.out)
        obtain ⟨by2, hby2⟩ : ∃ x, x = true := ⟨_, rfl⟩
        have HBY := Lib.hid hby2
        clear y0 y1 hw11 hb11 hm11 hqf hby2 ht2
        clear s0 s1 x0 x1 x2 x3
        have kyq := (HB11.out.block bq (lt_of_block HKQ.out)).trans HKQ.out
        have q0 := block_cell kyq 0
        have q1 := block_cell kyq 1
        simp at q0 q1
        clear kyq
        go_upto_region 19 with fail
        clear en ee q0 q1
        refine FlowR.wp_region_sel (fun a b => Below a.heap.size a b) (fun a => Below.refl _ a) (fun _ _ _ h k => h.trans (k.mono h.size)) [0, 1, 2, 3, 4, 5, 6, 7, 8] [false, false, false, false, false, false, false, false, false] [true, true, true, true, true, true, true, true, true] (fun i9 v w' => match i9 with
         | 0 => v = .int .i64 0
         | 1 => v = .bool (by2)
         | 2 => v = .bool (by2)
         | 3 => (by2) = true → v = .agg #[.string ⟨C4.toArray⟩, .slice a4 n4 c4]
         | 4 => (by2) = true → v = .map (some bn)
         | 5 => (by2) = true → FormAt w' v N0 T2
         | 6 => (by2) = true → v = .bool true
         | 7 => v = .bool (by2 && true)
         | _ => v = .bool (by2)) rfl rfl (by kernel_rfl) (by kernel_rfl) (by kernel_rfl) (by kernel_rfl) ?st ?steps ?fin
        case st =>
         intro i9 v u1 u2 h hb
         match i9 with
         | 0 => exact h
         | 1 => exact h
         | 2 => exact h
         | 3 => exact h
         | 4 => exact h
         | 5 => exact fun hq => ((show (by2) = true → FormAt u1 v N0 T2 from h) hq).below hb
         | 6 => exact h
         | 7 => exact h
         | 8 => exact h
         | _ + 9 => exact h
        case steps =>
         refine Flow.Steps.cons (FlowR.Step.of rfl ?s0) (Flow.Steps.cons (FlowR.Step.of rfl ?s1) (Flow.Steps.cons (FlowR.Step.of rfl ?s2) (Flow.Steps.cons (FlowR.Step.of rfl ?s3) (Flow.Steps.cons (FlowR.Step.of rfl ?s4) (Flow.Steps.cons (FlowR.Step.of rfl ?s5) (Flow.Steps.cons (FlowR.Step.of rfl ?s6) (Flow.Steps.cons (FlowR.Step.of rfl ?s7) (Flow.Steps.cons (FlowR.Step.of rfl ?s8) Flow.Steps.nil))))))))
         case s0 =>
          intro xs w' hb hT K9 hK9
          clear hT
          simp only [zFp, zAp, zLa, zLb, zLc, Nat.reduceAdd, zNz] at hK9 ⊢
          have hw := Flow.hwD HR11.out hb
          go_simp
          exact hK9 _ _ (Below.refl _ _) rfl
         case s1 =>
          intro xs w' hb hT K9 hK9
          have h0 : (xs 0) = .int .i64 0 := hT 0 (by kernel_rfl)
          clear hT
          simp only [zFp, zAp, zLa, zLb, zLc, Nat.reduceAdd, zNz] at hK9 ⊢
          have hw := Flow.hwD HR11.out hb
          (try simp only [h0] at hK9)
          go_simp
          exact hK9 _ _ (Below.refl _ _) (by rw [HBY.out])
         case s2 =>
          intro xs w' hb hT K9 hK9
          have h1 : (xs 1) = .bool (by2) := hT 1 (by kernel_rfl)
          clear hT
          simp only [zFp, zAp, zLa, zLb, zLc, Nat.reduceAdd, zNz] at hK9 ⊢
          have hw := Flow.hwD HR11.out hb
          (try simp only [h1] at hK9)
          go_simp
          exact hK9 _ _ (Below.refl _ _) rfl
         case s3 =>
          intro xs w' hb hT K9 hK9
          have h2 : (xs 2) = .bool (by2) := hT 2 (by kernel_rfl)
          clear hT
          simp only [zFp, zAp, zLa, zLb, zLc, Nat.reduceAdd, zNz] at hK9 ⊢
          have hw := Flow.hwD HR11.out hb
          by_cases hg : (by2) = true
          ·rw [hg] at h2
           have kb := (hw.block bq (lt_of_block HKQ11.out)).trans HKQ11.out
           have y0 := block_cell kb 0
           have y1 := block_cell kb 1
           clear kb
           simp at y0 y1
           (try simp only [h2] at hK9)
           go_simp
           exact hK9 _ _ (Below.refl _ _) (fun _ => rfl)
          ·have hg' : (by2) = false := eq_false_of_ne_true hg
           rw [hg'] at h2
           (try simp only [h2] at hK9)
           go_simp
           exact hK9 _ _ (Below.refl _ _) (fun h => absurd h hg)
         case s4 =>
          intro xs w' hb hT K9 hK9
          have h2 : (xs 2) = .bool (by2) := hT 2 (by kernel_rfl)
          clear hT
          simp only [zFp, zAp, zLa, zLb, zLc, Nat.reduceAdd, zNz] at hK9 ⊢
          have hw := Flow.hwD HR11.out hb
          by_cases hg : (by2) = true
          ·rw [hg] at h2
           (try simp only [h2] at hK9)
           go_simp
           exact hK9 _ _ (Below.refl _ _) (fun _ => rfl)
          ·have hg' : (by2) = false := eq_false_of_ne_true hg
           rw [hg'] at h2
           (try simp only [h2] at hK9)
           go_simp
           exact hK9 _ _ (Below.refl _ _) (fun h => absurd h hg)
         case s5 =>
          intro xs w' hb hT K9 hK9
          have h2 : (xs 2) = .bool (by2) := hT 2 (by kernel_rfl)
          have h4 : (by2) = true → (xs 4) = .map (some bn) := hT 4 (by kernel_rfl)
          clear hT
          simp only [zFp, zAp, zLa, zLb, zLc, Nat.reduceAdd, zNz] at hK9 ⊢
          have hw := Flow.hwD HR11.out hb
          by_cases hg : (by2) = true
          ·rw [hg] at h2
           replace h4 := h4 hg
           (try simp only [h2] at hK9)
           (try simp only [h4] at hK9)
           go_simp
           go_at_call 44
           refine (HQF2.out w' hw).mono ?_
           rintro e w3 ⟨v3, rfl, hi3, hb3⟩
           exact hK9 _ _ hb3 (fun _ => hi3)
          ·have hg' : (by2) = false := eq_false_of_ne_true hg
           rw [hg'] at h2
           (try simp only [h2] at hK9)
           clear h4
           go_simp
           exact hK9 _ _ (Below.refl _ _) (fun h => absurd h hg)
         case s6 =>
          intro xs w' hb hT K9 hK9
          have h2 : (xs 2) = .bool (by2) := hT 2 (by kernel_rfl)
          have h3 : (by2) = true → (xs 3) = .agg #[.string ⟨C4.toArray⟩, .slice a4 n4 c4] := hT 3 (by kernel_rfl)
          have h5 : (by2) = true → FormAt w' (xs 5) N0 T2 := hT 5 (by kernel_rfl)
          clear hT
          simp only [zFp, zAp, zLa, zLb, zLc, Nat.reduceAdd, zNz] at hK9 ⊢
          have hw := Flow.hwD HR11.out hb
          by_cases hg : (by2) = true
          ·rw [hg] at h2
           replace h3 := h3 hg
           replace h5 := h5 hg
           (try simp only [h2] at hK9)
           (try simp only [h3] at hK9)
           go_simp
           go_at_call 35
           refine (sameForm_any (HFQ11.out.below hw) h5 HLEN2.out).mono ?_
           rintro e w3 ⟨rfl, hb3⟩
           rw [show decide (C4 = N0 ∧ L4 = T2) = true from decide_eq_true HEQ2.out]
           exact hK9 _ _ hb3 (fun _ => rfl)
          ·have hg' : (by2) = false := eq_false_of_ne_true hg
           rw [hg'] at h2
           (try simp only [h2] at hK9)
           clear h3 h5
           go_simp
           exact hK9 _ _ (Below.refl _ _) (fun h => absurd h hg)
         case s7 =>
          intro xs w' hb hT K9 hK9
          have h2 : (xs 2) = .bool (by2) := hT 2 (by kernel_rfl)
          have h6 : (by2) = true → (xs 6) = .bool true := hT 6 (by kernel_rfl)
          clear hT
          simp only [zFp, zAp, zLa, zLb, zLc, Nat.reduceAdd, zNz] at hK9 ⊢
          have hw := Flow.hwD HR11.out hb
          by_cases hg : (by2) = true
          ·rw [hg] at h2
           replace h6 := h6 hg
           (try simp only [h2] at hK9)
           (try simp only [h6] at hK9)
           go_simp
           exact hK9 _ _ (Below.refl _ _) (by simp [ hg])
          ·have hg' : (by2) = false := eq_false_of_ne_true hg
           rw [hg'] at h2
           clear h6
           (try simp only [h2] at hK9)
           go_simp
           exact hK9 _ _ (Below.refl _ _) (by simp [ hg'])
         case s8 =>
          intro xs w' hb hT K9 hK9
          have h7 : (xs 7) = .bool (by2 && true) := hT 7 (by kernel_rfl)
          clear hT
          simp only [zFp, zAp, zLa, zLb, zLc, Nat.reduceAdd, zNz] at hK9 ⊢
          have hw := Flow.hwD HR11.out hb
          (try simp only [h7] at hK9)
          (try simp only [Bool.and_true] at hK9)
          go_simp
          exact hK9 _ _ (Below.refl _ _) rfl
        case fin =>
         intro xs w' hb hT
         have hw := Flow.hwD HR11.out hb
         have h8 : (xs 8) = .bool (by2) := hT 8 (by rfl)
         clear hT
         simp only [zFp, zAp, zLa, zLb, zLc, Nat.reduceAdd, zNz, FlowR.restL, FlowR.orM, Bool.false_or]
         simp only [h8]
         rw [HBY.out]
         refine wpList_nil ?_
         have HEND := Lib.hid (HAL.out.trans ((HBA11.out.trans (hw.mono HBA11.out.size)).mono HAL.out.size))
         clear h8 hw hb
         go_wp2_with fail
         go_ret
         exact ⟨rfl, HEND.out⟩
  
       ·have en : (ax != ay) = true := bne_iff_ne.2 hx
        have ee : (ax == ay) = false := beq_eq_false_iff_ne.2 hx
        have he2 : E2 = 17 := by
         rw [HTT.out.2.2.2.2]
         unfold betweenErr
         rw [HW2.out, if_neg (by decide), Int.toNat_natCast, HS1.out, if_neg (by decide), Int.toNat_natCast, HS2.out, if_neg (by decide), ← HAX.out.1, ← HAX.out.2, if_pos hx]
        have HZq := Lib.hid (HC4.out.2 (by rw [he2]; decide))
        rw [he2]
        clear he2 hx
        go_quiet (fail)
        obtain ⟨w11, hw11⟩ : ∃ x, x = w10.drewN nq := ⟨_, rfl⟩
        have hb11 : Below w10.heap.size w10 w11 := by rw [hw11]; exact below_drawn w10 nq
        rw [← hw11]
        have HB11 := Lib.hid (HB10.out.trans (hb11.mono HB10.out.size))
        clear y0 y1 hw11 hb11
        clear s0 s1 x0 x1 x2 x3
        have kyq := (HB11.out.block bq (lt_of_block HKQ.out)).trans HKQ.out
        have q0 := block_cell kyq 0
        have q1 := block_cell kyq 1
        simp at q0 q1
        clear kyq
        go_wp2_with fail
        refine (sameForm_any (HFQ.out.below HB11.out) (form_zero w11) (by rw [HZq.out.2]; simp)).mono ?_
        rintro e wz0 ⟨rfl, hbz0⟩
        rw [show decide (C4 = [] ∧ L4 = []) = true from decide_eq_true HZq.out]
        have HEND := Lib.hid (HAL.out.trans ((HB4b.out.trans ((HB11.out.trans (hbz0.mono HB11.out.size)).mono HB4b.out.size)).mono HAL.out.size))
        go_wp2_with fail
        go_ret
        exact ⟨rfl, HEND.out⟩
     ·have hw2 : withErr fs zs [(fn : Int), G] = 2 := by rw [with_in2 HCK.out, if_neg (by rw [← HN.out.1]; exact fun h => hG h.2)]
      have he2 : E2 = 2 := by
       rw [HTT.out.2.2.2.2]
       unfold betweenErr
       rw [hw2, if_pos (by decide)]
      clear hw2
      have HZq := Lib.hid (HC4.out.2 (by rw [he2]; decide))
      rw [he2]
      clear he2
      have kyq := (HB8.out.block bq (lt_of_block HKQ.out)).trans HKQ.out
      have q0 := block_cell kyq 0
      have q1 := block_cell kyq 1
      simp at q0 q1
      clear kyq
      by_cases hG0 : G < 0
      ·have e1 : (G < 0) = True := eq_true hG0
       clear hG hG0
       go_wp2_with fail
       refine (sameForm_any (HFQ.out.below HB8.out) (form_zero w8) (by rw [HZq.out.2]; simp)).mono ?_
       rintro e wz0 ⟨rfl, hbz0⟩
       rw [show decide (C4 = [] ∧ L4 = []) = true from decide_eq_true HZq.out]
       have HEND := Lib.hid (HAL.out.trans ((HB4b.out.trans ((HB8.out.trans (hbz0.mono HB8.out.size)).mono HB4b.out.size)).mono HAL.out.size))
       go_wp2_with fail
       go_ret
       exact ⟨rfl, HEND.out⟩
      ·have e1 : (G < 0) = False := eq_false hG0
       have e2 : ((n : Int) ≤ G) = True := eq_true (by omega)
       clear hG hG0
       go_wp2_with fail
       refine (sameForm_any (HFQ.out.below HB8.out) (form_zero w8) (by rw [HZq.out.2]; simp)).mono ?_
       rintro e wz0 ⟨rfl, hbz0⟩
       rw [show decide (C4 = [] ∧ L4 = []) = true from decide_eq_true HZq.out]
       have HEND := Lib.hid (HAL.out.trans ((HB4b.out.trans ((HB8.out.trans (hbz0.mono HB8.out.size)).mono HB4b.out.size)).mono HAL.out.size))
       go_wp2_with fail
       go_ret
       exact ⟨rfl, HEND.out⟩
 
  ·have hw1 : withErr fs zs [F] = 2 := by rw [with_in HCK.out, if_neg (by rw [← HN.out.1]; exact hF)]
   have hw2 : withErr fs zs [F, G] = 2 := by rw [with_in2 HCK.out, if_neg (by rw [← HN.out.1]; exact fun h => hF h.1)]
   have he1 : E1 = 2 := by
    rw [HTT.out.2.2.2.1]
    unfold placeErr
    rw [hw1, if_pos (by decide)]
   have he2 : E2 = 2 := by
    rw [HTT.out.2.2.2.2]
    unfold betweenErr
    rw [hw2, if_pos (by decide)]
   clear hw1 hw2
   have HZp := Lib.hid (HC3.out.2 (by rw [he1]; decide))
   have HZq := Lib.hid (HC4.out.2 (by rw [he2]; decide))
   rw [he1, he2]
   clear he1 he2
   by_cases hF0 : F < 0
   ·have e1 : (F < 0) = True := eq_true hF0
    clear hF hF0
    have kyp := HKP.out
    have p0 := block_cell kyp 0
    have p1 := block_cell kyp 1
    simp at p0 p1
    clear kyp
    have kyq := HKQ.out
    have q0 := block_cell kyq 0
    have q1 := block_cell kyq 1
    simp at q0 q1
    clear kyq
    go_wp2_with fail
    refine (sameForm_any (HFP.out) (form_zero w4b) (by rw [HZp.out.2]; simp)).mono ?_
    rintro e wz0 ⟨rfl, hbz0⟩
    rw [show decide (C3 = [] ∧ L3 = []) = true from decide_eq_true HZp.out]
    have q0 := cell_below hbz0 q0
    have q1 := cell_below hbz0 q1
    go_wp2_with fail
    refine (sameForm_any (HFQ.out.below hbz0) (form_zero wz0) (by rw [HZq.out.2]; simp)).mono ?_
    rintro e wz1 ⟨rfl, hbz1⟩
    rw [show decide (C4 = [] ∧ L4 = []) = true from decide_eq_true HZq.out]
    have HEND := Lib.hid (HAL.out.trans ((HB4b.out.trans ((hbz0.trans (hbz1.mono hbz0.size)).mono HB4b.out.size)).mono HAL.out.size))
    go_wp2_with fail
    go_ret
    exact ⟨rfl, HEND.out⟩
   ·have e1 : (F < 0) = False := eq_false hF0
    have e2 : ((n : Int) ≤ F) = True := eq_true (by omega)
    clear hF hF0
    have kyp := HKP.out
    have p0 := block_cell kyp 0
    have p1 := block_cell kyp 1
    simp at p0 p1
    clear kyp
    have kyq := HKQ.out
    have q0 := block_cell kyq 0
    have q1 := block_cell kyq 1
    simp at q0 q1
    clear kyq
    go_wp2_with fail
    refine (sameForm_any (HFP.out) (form_zero w4b) (by rw [HZp.out.2]; simp)).mono ?_
    rintro e wz0 ⟨rfl, hbz0⟩
    rw [show decide (C3 = [] ∧ L3 = []) = true from decide_eq_true HZp.out]
    have q0 := cell_below hbz0 q0
    have q1 := cell_below hbz0 q1
    go_wp2_with fail
    refine (sameForm_any (HFQ.out.below hbz0) (form_zero wz0) (by rw [HZq.out.2]; simp)).mono ?_
    rintro e wz1 ⟨rfl, hbz1⟩
    rw [show decide (C4 = [] ∧ L4 = []) = true from decide_eq_true HZq.out]
    have HEND := Lib.hid (HAL.out.trans ((HB4b.out.trans ((hbz0.trans (hbz1.mono hbz0.size)).mono HB4b.out.size)).mono HAL.out.size))
    go_wp2_with fail
    go_ret
    exact ⟨rfl, HEND.out⟩
end Go.Proofs.YtgofihilkobenaaGreatDoor
