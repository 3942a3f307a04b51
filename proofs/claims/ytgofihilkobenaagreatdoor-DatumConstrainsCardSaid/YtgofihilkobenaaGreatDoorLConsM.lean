/- DatumConstrains: the walk. -/
import Derived.Test.YtgofihilkobenaaGreatDoorKQ
import Derived.Test.YtgofihilkobenaaGreatDoorKT
import Derived.Test.YtgofihilkobenaaGreatDoorKW
set_option maxRecDepth 100000
namespace Go.Proofs.YtgofihilkobenaaGreatDoor
open Go.RowKit Go.Num Go.Flow Go.Dtm
set_option maxHeartbeats 8000000
set_option linter.unusedVariables false

theorem rat_nonpos {q : Rat} : q ≤ 0 ↔ q.num ≤ 0 := by
 have e : (-q).num = -q.num := Rat.neg_num q
 constructor
 ·intro h
  have h1 := Rat.num_nonneg.2 (show 0 ≤ -q by grind)
  rw [e] at h1
  omega
 ·intro h
  have h1 : 0 ≤ (-q).num := by rw [e]; omega
  have h2 := Rat.num_nonneg.1 h1
  grind
theorem readErr_more {l : List UInt8} (h : readErr l 400 = 0) : readErr l 65536 = 0 ∧ l.length ≤ 400 := by
 unfold readErr at h ⊢
 by_cases h1 : 400 < l.length
 ·rw [if_pos h1] at h; cases h
 ·rw [if_neg h1] at h
  rw [if_neg (by omega)]
  exact ⟨h, by omega⟩
theorem con_fine {fs : List Feat} {zs : List Zn} (hc : check fs zs = 0) {j : Nat} (hj : j < (consTo fs zs zs.length).length) :
  ((consTo fs zs zs.length).getD j Cn.none).const.length ≤ 400 ∧ readErr ((consTo fs zs zs.length).getD j Cn.none).const 400 = 0 ∧ ((consTo fs zs zs.length).getD j Cn.none).terms.length ≤ 48 ∧ ∀ i, i < ((consTo fs zs zs.length).getD j Cn.none).terms.length → goodTerm (varsTo fs zs fs.length).length ((consTo fs zs zs.length).getD j Cn.none).terms i := by
 obtain ⟨i, hi, hb, hm⟩ := con_mem hj
 obtain ⟨q, a, ha, hq, e1, e2⟩ := con_good hc hi hb hm
 have hg := con_terms_good hc hi hb ha
 have hw := whole_len (z := q) (by omega) (by omega)
 rw [e1, e2]
 exact ⟨by omega, read_num_ok (by omega) (by omega), terms_len _ _, hg⟩
theorem said_DatumConstrains {w : World} (hg : Glob w) {af : Option Addr} {cf : Nat} {az : Option Addr} {cz : Nat} {fs : List Feat} {zs : List Zn} (h : SchemeIn w af cf az cz fs zs) {vp : Value} {P : List Int} (hp : PartsIn w vp P) (a : Int) (ha0 : (Lit.int .i8 a).wf = true) :
  Calls Tryz.prog 9 #[.agg #[.slice af fs.length cf, .slice az zs.length cz], vp, .int .i8 a] w fun e w' => e = .returned (.bool true) ∧ Below w.heap.size w w' := by
 have hab : -128 ≤ a ∧ a ≤ 127 := by
  simp [Lit.wf, IntKind.min, IntKind.max, IntKind.bits, IntKind.signed] at ha0
  omega
 obtain ⟨n, hn⟩ : ∃ n, n = fs.length := ⟨_, rfl⟩
 obtain ⟨nz, hnz⟩ : ∃ n, n = zs.length := ⟨_, rfl⟩
 obtain ⟨wa, hwa⟩ : ∃ wa, wa = w.alloc (.cells #[.slice af n cf, .slice az nz cz] 26) := ⟨_, rfl⟩
 obtain ⟨ba, hba⟩ : ∃ b, b = w.heap.size := ⟨_, rfl⟩
 have hal : Below w.heap.size w wa := by rw [hwa]; exact (Below.refl _ w).alloc (Nat.le_refl _) _
 have k0 : wa.heap[ba]? = some (.cells #[.slice af n cf, .slice az nz cz] 26 (0, 0)) := by rw [hwa, hba]; exact heap_alloc_new w _
 have s0 := block_cell k0 0
 have s1 := block_cell k0 1
 simp at s0 s1
 obtain ⟨FI, hFI⟩ : ∃ x, x = (fewOf fs zs && decide (check fs zs = 0)) := ⟨_, rfl⟩
 obtain ⟨E, hE⟩ : ∃ x, x = check fs zs := ⟨_, rfl⟩
 obtain ⟨D, hD⟩ : ∃ x, x = dimsTo fs zs := ⟨_, rfl⟩
 obtain ⟨K, hK⟩ : ∃ x, x = consTo fs zs zs.length := ⟨_, rfl⟩
 have hfi := fun (W : World) (hW : SchemeIn W af cf az cz fs zs) => qfine_any hW
 have hva := fun (W : World) (hW : SchemeIn W af cf az cz fs zs) => Variables_any hW
 have hco := fun (W : World) (hg : Glob W) (hW : SchemeIn W af cf az cz fs zs) => Constraints_any hg hW
 have hho := fun (W : World) (hgW : Glob W) (hW : SchemeIn W af cf az cz fs zs) (vals : List ByteArray) (a : Option Addr) (c : Nat) (hV : TxtIn W (.slice a vals.length c) vals) (hM : ∀ s, s ∈ vals → s.size ≤ 100) => Holds_any hgW hW hV hM (by omega)
 unfold VariablesPost at hva
 unfold ConsPost at hco
 simp only [← hFI] at hfi
 simp only [← hE, ← hD] at hva
 simp only [← hE, ← hK] at hco
 simp only [← hn, ← hnz] at hfi hva hco hho
 have HFI := Lib.hid hfi
 have HVA := Lib.hid hva
 have HCO := Lib.hid hco
 have HHO := Lib.hid hho
 have HS := Lib.hid (h.below hal)
 have HG := Lib.hid (hg.below hal)
 have HP := Lib.hid (hp.below hal)
 have HAL := Lib.hid hal
 have HKA := Lib.hid k0
 have HF := Lib.hid hFI
 have HN := Lib.hid (And.intro hn (And.intro hnz (And.intro hE (And.intro hD (And.intro hK hab)))))
 have HW := Lib.hid (And.intro hwa hba)
 rw [← hn, ← hnz]
 clear hwa hba hal k0 h hg hp hfi hva hco hho hn hnz hFI hE hD hK hab ha0
 go_enter Tryz.func9, Tryz.ntmps9
 go_upto_region 1 with fail
 rw [← HW.out.1, ← HW.out.2]
 clear HW
 go_wp2_with fail
 refine (known_any HG.out).mono ?_
 rintro e w1 ⟨rfl, hb1⟩
 have HB1 := Lib.hid hb1
 have kk := (HB1.out.block ba (lt_of_block HKA.out)).trans HKA.out
 have s0 := block_cell kk 0
 have s1 := block_cell kk 1
 simp at s0 s1
 clear kk
 clear hb1
 go_wp2_with fail
 refine (HFI.out w1 (HS.out.below HB1.out)).mono ?_
 rintro e w2 ⟨rfl, hb2⟩
 have HB2 := Lib.hid (HB1.out.trans (hb2.mono HB1.out.size))
 have kk := (HB2.out.block ba (lt_of_block HKA.out)).trans HKA.out
 have s0 := block_cell kk 0
 have s1 := block_cell kk 1
 simp at s0 s1
 clear kk
 clear hb2
 cases FI with
 | false =>
  go_wp2_with fail
  refine (known_any (HG.out.below HB2.out)).mono ?_
  rintro e w3 ⟨rfl, hb3⟩
  have HB3 := Lib.hid (HB2.out.trans (hb3.mono HB2.out.size))
  clear hb3
  go_wp2_with fail
  go_ret
  exact ⟨rfl, HAL.out.trans (HB3.out.mono HAL.out.size)⟩
 | true =>
  have hck : check fs zs = 0 := by
   have := HF.out
   simp only [Bool.true_eq, Bool.and_eq_true, decide_eq_true_eq] at this
   exact this.2
  obtain rfl : E = 0 := HN.out.2.2.1.trans hck
  have HCK := Lib.hid (And.intro hck (check_small hck))
  clear hck
  go_wp2_with fail
  refine (HVA.out w2 (HS.out.below HB2.out)).mono ?_
  rintro e w3 ⟨v3, rfl, hr3, -, hb3⟩
  obtain ⟨a3, c3, rfl, hd3⟩ := dims_read (hr3 (by first | trivial | rfl))
  have HD3 := Lib.hid hd3
  have HB3 := Lib.hid (HB2.out.trans (hb3.mono HB2.out.size))
  clear hr3 hd3 hb3
  have kk := (HB3.out.block ba (lt_of_block HKA.out)).trans HKA.out
  have s0 := block_cell kk 0
  have s1 := block_cell kk 1
  simp at s0 s1
  clear kk
  go_wp2_with fail
  refine (HCO.out w3 (HG.out.below HB3.out) (HS.out.below HB3.out)).mono ?_
  rintro e w4 ⟨v4, rfl, hr4, -, hb4⟩
  obtain ⟨a4, c4, rfl, hc4⟩ := (hr4 (by first | trivial | rfl)).reads
  have HC4 := Lib.hid hc4
  have HD4 := Lib.hid (HD3.out.below hb4)
  have HB4 := Lib.hid (HB3.out.trans (hb4.mono HB3.out.size))
  have hd48 : D.length = (varsTo fs zs fs.length).length ∧ D.length ≤ 48 := by
   have h1 := vars_len fs zs fs.length
   have h2 := HCK.out.2.1
   rw [HN.out.2.2.2.1, show (dimsTo fs zs).length = (varsTo fs zs fs.length).length by unfold dimsTo; rw [List.length_map]]
   exact ⟨rfl, by omega⟩
  have hmc := mCheck_any HD4.out (by omega)
  rw [show dimsErr D = 0 by rw [HN.out.2.2.2.1]; exact dims_right HCK.out.1] at hmc
  have hdb := dims_bound HCK.out.1
  rw [← HN.out.2.2.2.1] at hdb
  have hok := vals_ok hdb P HN.out.2.2.2.2.2.1 HN.out.2.2.2.2.2.2
  obtain ⟨dl, hdl⟩ : ∃ x, x = D.length := ⟨_, rfl⟩
  obtain ⟨kl, hkl⟩ : ∃ x, x = K.length := ⟨_, rfl⟩
  rw [← hdl] at hmc hd48 hok
  have HMC := Lib.hid hmc
  have HDL := Lib.hid (And.intro hdl (And.intro hkl hd48))
  have HDB := Lib.hid hdb
  have HOK := Lib.hid hok
  rw [← hdl, ← hkl]
  clear hr4 hc4 hb4 HD3 hmc hdb hok hd48 hdl hkl
  have kk := (HB4.out.block ba (lt_of_block HKA.out)).trans HKA.out
  have s0 := block_cell kk 0
  have s1 := block_cell kk 1
  simp at s0 s1
  clear kk
  go_wp2_with fail
  refine HMC.out.mono ?_
  rintro e w5 ⟨rfl, hb5⟩
  have HB5 := Lib.hid (HB4.out.trans (hb5.mono HB4.out.size))
  have HD5 := Lib.hid (HD4.out.below hb5)
  have hvl := qvalues_any (HG.out.below HB5.out) HD5.out (by have := HDL.out; omega) HDB.out (HP.out.below HB5.out) HN.out.2.2.2.2.2.1 HN.out.2.2.2.2.2.2
  obtain ⟨L1, hL1⟩ : ∃ x, x = valTexts D P a D.length := ⟨_, rfl⟩
  have hll : L1.length = dl := by rw [hL1, valTexts_len, HDL.out.1]
  rw [← hL1, ← HDL.out.1] at hvl
  have HVL := Lib.hid hvl
  have HL1 := Lib.hid (show L1.length = dl ∧ readsErr L1 = 0 ∧ ∀ s, s ∈ L1 → s.size ≤ 100 from ⟨hll, by rw [hL1, ← HDL.out.1]; exact HOK.out.1, by rw [hL1, ← HDL.out.1]; exact HOK.out.2⟩)
  have HC5 := Lib.hid hb5
  clear hb5 hvl hL1 hll s0 s1
  go_wp2_with fail
  refine HVL.out.mono ?_
  rintro e w6 ⟨v6, rfl, hr6, hb6⟩
  rw [← HL1.out.1] at hr6
  obtain ⟨a6, c6, e6, ht6⟩ := txt_row hr6
  rw [HL1.out.1] at e6
  subst e6
  have HT6 := Lib.hid ht6
  have HB6 := Lib.hid (HB5.out.trans (hb6.mono HB5.out.size))
  have HX6 := Lib.hid (HC5.out.trans (hb6.mono HC5.out.size))
  have HY6 := Lib.hid hb6
  have hrd := Reads_any L1 (by have := HL1.out.1; have := HDL.out; omega) (HG.out.below HB6.out) ht6 (by omega) HL1.out.2.2
  unfold ReadsPost at hrd
  rw [HL1.out.1, HL1.out.2.1] at hrd
  have HRD := Lib.hid hrd
  clear hr6 hb6 ht6 hrd
  go_wp2_with fail
  refine HRD.out.mono ?_
  rintro e w7 ⟨v7, rfl, hr7, -, hb7⟩
  have hr7 := hr7 (by first | trivial | rfl)
  obtain ⟨rs, hrs⟩ : ∃ x, x = readsVal L1 := ⟨_, rfl⟩
  have hrl := reads_len L1
  rw [← hrs] at hrl hr7
  obtain ⟨ar, rfl, hra⟩ := hr7.at (by have := HL1.out.1; have := HDL.out; omega)
  rw [show rs.length = dl by rw [hrl]; exact HL1.out.1] at hra ⊢
  have HB7 := Lib.hid (HB6.out.trans (hb7.mono HB6.out.size))
  have HX7 := Lib.hid (HX6.out.trans (hb7.mono HX6.out.size))
  have HY7 := Lib.hid (HY6.out.trans (hb7.mono HY6.out.size))
  have HRA := Lib.hid hra
  have HRL := Lib.hid (show rs.length = dl by rw [hrl]; exact HL1.out.1)
  have hans := ans_of HCK.out.1 (HL1.out.1.trans HDL.out.2.2.1) HL1.out.2.1
  have hh := HHO.out w7 (HG.out.below HB7.out) (HS.out.below HB7.out) L1 a6 c6 (HT6.out.below hb7) HL1.out.2.2
  rw [HL1.out.1, hans.1, hans.2, ← hrs] at hh
  obtain ⟨A1, hA1⟩ : ∃ x, x = (holdsQ fs zs rs).1 := ⟨_, rfl⟩
  obtain ⟨N1, hN1⟩ : ∃ x, x = (holdsQ fs zs rs).2 := ⟨_, rfl⟩
  rw [← hA1, ← hN1] at hh
  have HH := Lib.hid hh
  have HA1 := Lib.hid hA1
  clear hr7 hrs hrl hra hb7 hans hh hA1 hN1
  have kk := (HB7.out.block ba (lt_of_block HKA.out)).trans HKA.out
  have s0 := block_cell kk 0
  have s1 := block_cell kk 1
  simp at s0 s1
  clear kk
  go_wp2_with fail
  refine HH.out.mono ?_
  rintro e w8 ⟨rfl, hb8⟩
  have HB8 := Lib.hid (HB7.out.trans (hb8.mono HB7.out.size))
  have HX8 := Lib.hid (HX7.out.trans (hb8.mono HX7.out.size))
  have HY8 := Lib.hid (HY7.out.trans (hb8.mono HY7.out.size))
  have HR8 := Lib.hid (HRA.out.below hb8)
  have hwi := mWithin_any (HD5.out.below HY8.out) (by have := HDL.out; omega) HDB.out HR8.out (by omega) (by omega)
  obtain ⟨WQ, hWQ⟩ : ∃ x, x = withinQ D rs := ⟨_, rfl⟩
  rw [← HDL.out.1, HRL.out, ← hWQ] at hwi
  have HWI := Lib.hid hwi
  have HWQ := Lib.hid hWQ
  clear hb8 hwi hWQ s0 s1
  go_wp2_with fail
  refine HWI.out.mono ?_
  rintro e w9 ⟨rfl, hb9⟩
  have HB9 := Lib.hid (HB8.out.trans (hb9.mono HB8.out.size))
  have HC9 := Lib.hid (HX8.out.trans (hb9.mono HX8.out.size))
  have HR9 := Lib.hid (HR8.out.below hb9)
  have hkl : kl ≤ 64 ∧ kl ≤ c4 ∧ c4 ≤ 9223372036854775807 := by
   have h1 := consTo_len fs zs zs.length
   have h2 := HCK.out.2.2
   have h3 := HN.out.2.2.2.2.1
   have h4 := HC4.out.1
   have h5 := HC4.out.2.1
   rw [← h3] at h1
   rw [HDL.out.2.1]
   exact ⟨by omega, h4, h5⟩
  clear hb9
  go_wp2_with fail
  go_loopg [17, 78] kl (fun gk b x wr => ∃ k : Nat, k + gk = kl ∧ x = .int .i64 k ∧ (∃ B : Bool, b = .bool B ∧ Hid (B = true ↔ WQ = true ∧ ∀ j, j < k → conWorth rs (K.getD j Cn.none) ≤ 0)) ∧ Hid (Below w9.heap.size w9 wr))
  case atStart => exact ⟨0, by omega, rfl, ⟨_, rfl, Lib.hid ⟨fun h => ⟨h, fun j hj => by omega⟩, fun h => h.1⟩⟩, Lib.hid (Below.refl _ _)⟩
  case round =>
   obtain ⟨k, hk, rfl, ⟨B, rfl, hB⟩, hbw⟩ := hrel
   by_cases hlt : k < kl
   ·have e1 : ((k : Int) < (kl : Int)) = True := eq_true (by omega)
    have hbw9 := HC9.out.trans (hbw.out.mono HC9.out.size)
    obtain ⟨g4, rfl, -, hcc⟩ := (HC4.out.below hbw9).2.2 (by have := HDL.out.2.1; omega)
    obtain ⟨tv, x0, x1, x2, hrow⟩ := hcc k (by have := HDL.out.2.1; omega)
    have hfin := con_fine HCK.out.1 (j := k) (by have h1 := HDL.out.2.1; rw [HN.out.2.2.2.2.1] at h1; omega)
    rw [← HN.out.2.2.2.2.1] at hfin
    have hworth : conWorth rs (K.getD k Cn.none) = valueTo (K.getD k Cn.none).const (K.getD k Cn.none).terms rs (K.getD k Cn.none).terms.length := rfl
    obtain ⟨nm, hnm⟩ : ∃ x, x = (K.getD k Cn.none).name := ⟨_, rfl⟩
    obtain ⟨cc, hcc2⟩ : ∃ x, x = (K.getD k Cn.none).const := ⟨_, rfl⟩
    obtain ⟨L, hL⟩ : ∃ x, x = (K.getD k Cn.none).terms := ⟨_, rfl⟩
    obtain ⟨CW, hCW⟩ : ∃ x, x = conWorth rs (K.getD k Cn.none) := ⟨_, rfl⟩
    rw [← hnm] at x0
    rw [← hcc2, ← hL] at hfin hworth
    rw [← hCW] at hworth
    rw [← hcc2] at x1
    rw [← hL] at hrow
    obtain ⟨at4, ct4, rfl, hT4⟩ := hrow.reads
    have hft : FormAt wr (.agg #[.string ⟨cc.toArray⟩, .slice at4 L.length ct4]) cc L := ⟨_, rfl, hrow.reads⟩
    obtain ⟨nl, hnl⟩ : ∃ x, x = L.length := ⟨_, rfl⟩
    obtain ⟨cs, hcs⟩ : ∃ x : ByteArray, x = ⟨cc.toArray⟩ := ⟨_, rfl⟩
    rw [← hcs] at x1 hft
    rw [← hnl] at x2 hft
    have HFT := Lib.hid hft
    have HFIN := Lib.hid (And.intro hfin hworth)
    have HCW := Lib.hid hCW
    have HBL := hB
    have HLT := Lib.hid hlt
    have hk0 : (0 : Int) ≤ (k : Int) := by omega
    have hk1 : (k : Int) < (kl : Int) := by omega
    clear hcc hrow hT4 hfin hworth hnm hcc2 hL hCW hft hnl hcs hB hlt
    go_upto_region 16 with fail
    obtain ⟨wx, hwx⟩ : ∃ x, x = wr.alloc (.cells #[.string nm, .string cs, .slice at4 nl ct4] 80) := ⟨_, rfl⟩
    obtain ⟨bx, hbx⟩ : ∃ b, b = wr.heap.size := ⟨_, rfl⟩
    rw [← hwx, ← hbx]
    have hlx : Below wr.heap.size wr wx := by rw [hwx]; exact (Below.refl _ wr).alloc (Nat.le_refl _) _
    have kx : wx.heap[bx]? = some (.cells #[.string nm, .string cs, .slice at4 nl ct4] 80 (0, 0)) := by rw [hwx, hbx]; exact heap_alloc_new wr _
    have hbx9 := hbw.out.trans (hlx.mono hbw.out.size)
    have HBX := Lib.hid hbx9
    have HKX := Lib.hid kx
    have hdl2 := HDL.out.2.2.1
    have hcf := mCheckForm_ok ((HG.out.below HB9.out).below hbx9) (HFT.out.below hlx) (nv := dl) (by have := HFIN.out.1.2.2.1; omega) (by have := HDL.out; omega) (by have := HFIN.out.1.1; omega) HFIN.out.1.2.1 (fun j hj => by rw [hdl2]; exact HFIN.out.1.2.2.2 j hj)
    have hvv := fun (W : World) (hW : Below wx.heap.size wx W) => mValue_any (S := 400) (((HG.out.below HB9.out).below hbx9).below hW) ((HFT.out.below hlx).below hW) (by have := HFIN.out.1.2.2.1; omega) ((HR9.out.below hbx9).below hW) (by omega) HFIN.out.1.1 (readErr_more HFIN.out.1.2.1).1 (by omega) (fun j hj => by
     have h1 := HFIN.out.1.2.2.2 j hj
     have h2 := readErr_more h1.2.2.1
     exact ⟨by rw [HRL.out, hdl2]; exact h1.1, h2.2, h2.1⟩) (by have := HFIN.out.1.2.2.1; omega)
    rw [HRL.out, ← HFIN.out.2] at hvv
    have HCF := Lib.hid hcf
    have HVV := Lib.hid hvv
    have s1 := block_cell kx 1
    have s2 := block_cell kx 2
    simp at s1 s2
    clear hwx hbx hlx kx hbx9 hdl2 hcf hvv x0 x1 x2 hbw hbw9
    go_wp2_with fail
    refine HCF.out.mono ?_
    rintro e w10 ⟨rfl, hb10⟩
    have HB10 := Lib.hid hb10
    have kx := (hb10.block bx (lt_of_block HKX.out)).trans HKX.out
    have s1 := block_cell kx 1
    have s2 := block_cell kx 2
    simp at s1 s2
    clear kx hb10
    go_wp2_with fail
    refine (HVV.out w10 HB10.out).mono ?_
    rintro e w11 ⟨v11, rfl, hr11, hb11⟩
    obtain ⟨p1, g1, f1, n1, p2, g2, f2, n2, rfl⟩ := rt_shape hr11
    have HR11 := Lib.hid hr11
    have HB11 := Lib.hid (HBX.out.trans ((HB10.out.trans (hb11.mono HB10.out.size)).mono HBX.out.size))
    clear hr11 hb11 s1 s2
    go_upto_region 21 with fail
    obtain ⟨wy, hwy⟩ : ∃ x, x = w11.alloc (.cells #[.bool p1, .slice g1 f1 n1, .bool p2, .slice g2 f2 n2] 65) := ⟨_, rfl⟩
    obtain ⟨b20, hby⟩ : ∃ b, b = w11.heap.size := ⟨_, rfl⟩
    rw [← hwy, ← hby]
    have hly : Below w11.heap.size w11 wy := by rw [hwy]; exact (Below.refl _ w11).alloc (Nat.le_refl _) _
    have ky : wy.heap[b20]? = some (.cells #[.bool p1, .slice g1 f1 n1, .bool p2, .slice g2 f2 n2] 65 (0, 0)) := by rw [hwy, hby]; exact heap_alloc_new w11 _
    have HSG := Lib.hid (ratSign_any (HR11.out.below hly))
    have HB12 := Lib.hid (HB11.out.trans (hly.mono HB11.out.size))
    have y0 := block_cell ky 0
    have y1 := block_cell ky 1
    have y2 := block_cell ky 2
    have y3 := block_cell ky 3
    simp at y0 y1 y2 y3
    clear hwy hby hly ky
    have hnext : ∀ B' : Bool, (B' = true ↔ B = true ∧ CW ≤ 0) → Hid (B' = true ↔ WQ = true ∧ ∀ j, j < k + 1 → conWorth rs (K.getD j Cn.none) ≤ 0) := fun B' h => Lib.hid (by
     rw [h, HBL.out]
     constructor
     ·rintro ⟨⟨h1, h2⟩, h3⟩
      refine ⟨h1, fun j hj => ?_⟩
      rcases Nat.lt_or_ge j k with h4 | h4
      ·exact h2 j h4
      ·obtain rfl : j = k := by omega
       rw [← HCW.out]
       exact h3
     ·rintro ⟨h1, h2⟩
      exact ⟨⟨h1, fun j hj => h2 j (by omega)⟩, by rw [HCW.out]; exact h2 k (by omega)⟩)
    have HNX := Lib.hid hnext
    clear hnext
    cases B with
    | false =>
     go_wp2_with fail
     go_roundg (kl - (k + 1))
     case measure => have := HLT.out; omega
     case rel => exact ⟨k + 1, by have := HLT.out; omega, by congr 1, ⟨_, rfl, HNX.out false (by simp)⟩, Lib.hid HB12.out⟩
    | true =>
     go_wp2_with fail
     refine HSG.out.mono ?_
     rintro e w13 ⟨rfl, hb13⟩
     have HB13 := Lib.hid (HB12.out.trans (hb13.mono HB12.out.size))
     obtain ⟨le0, hle0⟩ : ∃ x, x = decide (cmpI CW.num 0 ≤ 0) := ⟨_, rfl⟩
     have HLE := Lib.hid (show (le0 = true ↔ (true = true) ∧ CW ≤ 0) by
      rw [hle0, decide_eq_true_iff, rat_nonpos]
      unfold cmpI
      by_cases h1 : CW.num < 0
      ·simp [h1]; omega
      ·by_cases h2 : 0 < CW.num
       ·simp [h1, h2]
       ·simp [h1, h2]; omega)
     clear hb13 y0 y1 y2 y3
     go_wp2_with fail
     go_roundg (kl - (k + 1))
     case measure => have := HLT.out; omega
     case rel => exact ⟨k + 1, by have := HLT.out; omega, by congr 1, ⟨le0, by rw [hle0], HNX.out le0 HLE.out⟩, Lib.hid HB13.out⟩
   ·have e1 : ((k : Int) < (kl : Int)) = False := eq_false (by omega)
    obtain rfl : k = kl := by omega
    have HBA := Lib.hid (show A1 = B by
     have h1 := constrains_law HCK.out.1 (rs := rs) (by rw [HRL.out]; exact HDL.out.2.2.1)
     rw [← HA1.out, ← cons_law HCK.out.1 rs, ← HN.out.2.2.2.1, ← HWQ.out, ← HN.out.2.2.2.2.1] at h1
     rw [Bool.eq_iff_iff, h1, hB.out, HDL.out.2.1])
    have HBL := Lib.hid hbw.out
    obtain rfl := HBA.out
    clear hB hbw
    go_wp2_with fail
    go_ret
    exact ⟨by simp, HAL.out.trans ((HB9.out.trans (HBL.out.mono HB9.out.size)).mono HAL.out.size)⟩
end Go.Proofs.YtgofihilkobenaaGreatDoor
