/- DatumVariables: the walk. -/
import Derived.Test.YtgofihilkobenaaGreatDoorKQ
import Derived.Test.YtgofihilkobenaaGreatDoorKT
import Derived.Test.YtgofihilkobenaaGreatDoorQEqDM
import Derived.Test.YtgofihilkobenaaGreatDoorQEqCM
import Derived.Test.YtgofihilkobenaaGreatDoorQConsM
set_option maxRecDepth 100000
namespace Go.Proofs.YtgofihilkobenaaGreatDoor
open Go.RowKit Go.Num Go.Flow Go.Dtm
set_option maxHeartbeats 8000000
set_option linter.unusedVariables false

theorem con_terms {fs : List Feat} {zs : List Zn} (k j : Nat) (hj : j < (consTo fs zs k).length) : ((consTo fs zs k).getD j Cn.none).terms.length ≤ 1000000 := by
 obtain ⟨c, hc⟩ : ∃ c, c = (consTo fs zs k).getD j Cn.none := ⟨_, rfl⟩
 have hm : c ∈ consTo fs zs k := by
  rw [hc, List.getD_eq_getElem?_getD, List.getElem?_eq_getElem hj]
  exact List.getElem_mem hj
 rw [← hc]
 clear hc
 unfold consTo at hm
 rw [List.mem_flatMap] at hm
 obtain ⟨z, -, hz⟩ := hm
 split at hz
 ·unfold conOf at hz
  simp only [List.mem_cons, List.not_mem_nil, or_false] at hz
  rcases hz with rfl | rfl <;> exact Nat.le_trans (terms_len _ 48) (by omega)
 ·cases hz
theorem said_DatumVariables {w : World} (hg : Glob w) {af : Option Addr} {cf : Nat} {az : Option Addr} {cz : Nat} {fs : List Feat} {zs : List Zn} (h : SchemeIn w af cf az cz fs zs) :
  Calls Tryz.prog 6 #[.agg #[.slice af fs.length cf, .slice az zs.length cz]] w fun e w' => e = .returned (.bool true) ∧ Below w.heap.size w w' := by
 obtain ⟨n, hn⟩ : ∃ n, n = fs.length := ⟨_, rfl⟩
 obtain ⟨nz, hnz⟩ : ∃ n, n = zs.length := ⟨_, rfl⟩
 obtain ⟨wa, hwa⟩ : ∃ wa, wa = w.alloc (.cells #[.slice af n cf, .slice az nz cz] 26) := ⟨_, rfl⟩
 obtain ⟨ba, hba⟩ : ∃ b, b = w.heap.size := ⟨_, rfl⟩
 have hal : Below w.heap.size w wa := by rw [hwa]; exact (Below.refl _ w).alloc (Nat.le_refl _) _
 have k0 : wa.heap[ba]? = some (.cells #[.slice af n cf, .slice az nz cz] 26 (0, 0)) := by rw [hwa, hba]; exact heap_alloc_new w _
 have s0 := block_cell k0 0
 have s1 := block_cell k0 1
 simp at s0 s1
 obtain ⟨FI, hFI⟩ : ∃ x, x = (fewOf fs zs && decide (check fs zs = 0)) := ⟨_, rfl⟩
 obtain ⟨E, hE⟩ : ∃ x, x = check fs zs := ⟨_, rfl⟩
 obtain ⟨D, hD⟩ : ∃ x, x = dimsTo fs zs := ⟨_, rfl⟩
 obtain ⟨V, hV⟩ : ∃ x, x = varsTo fs zs fs.length := ⟨_, rfl⟩
 obtain ⟨K, hK⟩ : ∃ x, x = consTo fs zs zs.length := ⟨_, rfl⟩
 have hkt : ∀ j, j < K.length → (K.getD j Cn.none).terms.length ≤ 1000000 := by rw [hK]; exact con_terms zs.length
 have hkl : K.length ≤ 2 * zs.length := by rw [hK]; exact consTo_len fs zs zs.length
 have hfi := fun (W : World) (hW : SchemeIn W af cf az cz fs zs) => qfine_any hW
 have hva := fun (W : World) (hW : SchemeIn W af cf az cz fs zs) => Variables_any hW
 have hco := fun (W : World) (hg : Glob W) (hW : SchemeIn W af cf az cz fs zs) => Constraints_any hg hW
 have hqv := fun (hck : check fs zs = 0) (W : World) (hW : SchemeIn W af cf az cz fs zs) => qvariables_any hW hck
 have hqc := fun (hck : check fs zs = 0) (W : World) (hg : Glob W) (hW : SchemeIn W af cf az cz fs zs) => qconstraints_any hg hW hck
 have hvb := fun (W : World) (hW : SchemeIn W af cf az cz fs zs) (i k : Int) => Variable_any hW i k
 unfold VariablesPost at hva
 unfold ConsPost at hco
 simp only [← hFI] at hfi
 simp only [← hE, ← hD] at hva
 simp only [← hE, ← hK] at hco
 simp only [← hD, ← hV] at hqv
 simp only [← hK] at hqc
 simp only [← hn, ← hnz] at hfi hva hco hqv hqc hvb
 have hcap : n ≤ cf ∧ cf ≤ 9223372036854775807 := by rw [hn]; exact ⟨h.feats.1, h.feats.2.1⟩
 have HFI := Lib.hid hfi
 have HVA := Lib.hid hva
 have HCO := Lib.hid hco
 have HQV := Lib.hid hqv
 have HQC := Lib.hid hqc
 have HVB := Lib.hid hvb
 have HS := Lib.hid (h.below hal)
 have HG := Lib.hid (hg.below hal)
 have HAL := Lib.hid hal
 have HKA := Lib.hid k0
 have HF := Lib.hid hFI
 have HN := Lib.hid (And.intro hn (And.intro hnz (And.intro hE (And.intro hD (And.intro hV (And.intro hkt hkl))))))
 have HW := Lib.hid (And.intro hwa hba)
 rw [← hn, ← hnz]
 clear hwa hba hal k0 h hg hfi hva hco hqv hqc hvb hn hnz hFI hE hD hV hK hkt hkl
 go_enter Tryz.func6, Tryz.ntmps6
 go_upto_region 1 with fail
 rw [← HW.out.1, ← HW.out.2]
 clear HW
 go_wp2_with fail
 refine (known_any HG.out).mono ?_
 rintro e w1 ⟨rfl, hb1⟩
 have HB1 := Lib.hid hb1
 have kk := (HB1.out.block ba (lt_of_block HKA.out)).trans HKA.out
 have s0 := block_cell kk 0
 have s1 := block_cell kk 1
 simp at s0 s1
 clear kk
 clear hb1
 go_wp2_with fail
 refine (HFI.out w1 (HS.out.below HB1.out)).mono ?_
 rintro e w2 ⟨rfl, hb2⟩
 have HB2 := Lib.hid (HB1.out.trans (hb2.mono HB1.out.size))
 have kk := (HB2.out.block ba (lt_of_block HKA.out)).trans HKA.out
 have s0 := block_cell kk 0
 have s1 := block_cell kk 1
 simp at s0 s1
 clear kk
 clear hb2
 cases FI with
 | false =>
  go_wp2_with fail
  refine (known_any (HG.out.below HB2.out)).mono ?_
  rintro e w3 ⟨rfl, hb3⟩
  have HB3 := Lib.hid (HB2.out.trans (hb3.mono HB2.out.size))
  clear hb3
  go_wp2_with fail
  go_ret
  exact ⟨rfl, HAL.out.trans (HB3.out.mono HAL.out.size)⟩
 | true =>
  have hck : check fs zs = 0 := by
   have := HF.out
   simp only [Bool.true_eq, Bool.and_eq_true, decide_eq_true_eq] at this
   exact this.2
  obtain rfl : E = 0 := HN.out.2.2.1.trans hck
  have HCK := Lib.hid (And.intro hck (check_small hck))
  have hvl := vars_len fs zs fs.length
  have hvl48 : V.length ≤ 48 := by rw [HN.out.2.2.2.2.1]; have := (check_small hck).1; omega
  have hdl : D.length = V.length := by rw [HN.out.2.2.2.1, HN.out.2.2.2.2.1]; unfold dimsTo; rw [List.length_map]
  have HLV := Lib.hid (And.intro hvl48 hdl)
  clear hck hvl hvl48 hdl
  go_wp2_with fail
  refine (HVA.out w2 (HS.out.below HB2.out)).mono ?_
  rintro e w3 ⟨v3, rfl, hr3, -, hb3⟩
  obtain ⟨a3, c3, rfl, hd3⟩ := dims_read (hr3 (by first | trivial | rfl))
  have HD3 := Lib.hid hd3
  have HB3 := Lib.hid (HB2.out.trans (hb3.mono HB2.out.size))
  clear hr3 hd3 hb3
  have kk := (HB3.out.block ba (lt_of_block HKA.out)).trans HKA.out
  have s0 := block_cell kk 0
  have s1 := block_cell kk 1
  simp at s0 s1
  clear kk
  go_wp2_with fail
  refine (HCO.out w3 (HG.out.below HB3.out) (HS.out.below HB3.out)).mono ?_
  rintro e w4 ⟨v4, rfl, hr4, -, hb4⟩
  obtain ⟨a4, c4, rfl, hc4⟩ := (hr4 (by first | trivial | rfl)).reads
  have HC4 := Lib.hid hc4
  have HD4 := Lib.hid (HD3.out.below hb4)
  have HB4 := Lib.hid (HB3.out.trans (hb4.mono HB3.out.size))
  clear hr4 hc4 hb4 HD3
  have kk := (HB4.out.block ba (lt_of_block HKA.out)).trans HKA.out
  have s0 := block_cell kk 0
  have s1 := block_cell kk 1
  simp at s0 s1
  clear kk
  go_wp2_with fail
  refine (HQV.out HCK.out.1 w4 (HS.out.below HB4.out)).mono ?_
  rintro e w5 ⟨vd, vk, rfl, hdr, hkr, hb5⟩
  obtain ⟨a5, c5, rfl, hd5⟩ := dims_read hdr
  obtain ⟨a6, c6, rfl, hk6⟩ := keys_read hkr
  have HD5 := Lib.hid (And.intro (HD4.out.below hb5) hd5)
  have HK6 := Lib.hid hk6
  have HC5 := Lib.hid (HC4.out.below hb5)
  have HB5 := Lib.hid (HB4.out.trans (hb5.mono HB4.out.size))
  obtain ⟨dl, hdl⟩ : ∃ x, x = D.length := ⟨_, rfl⟩
  have HEQ := Lib.hid (sEqD_any HD5.out.1 HD5.out.2 (by have := HLV.out; omega))
  rw [eqDims_refl, ← hdl] at HEQ
  rw [← hdl]
  clear hdr hkr hd5 hk6 hb5 HD4 HC4 hdl
  have kk := (HB5.out.block ba (lt_of_block HKA.out)).trans HKA.out
  have s0 := block_cell kk 0
  have s1 := block_cell kk 1
  simp at s0 s1
  clear kk
  go_wp2_with fail
  refine HEQ.out.mono ?_
  rintro e w6 ⟨rfl, hb6⟩
  have HK7 := Lib.hid (HK6.out.below hb6)
  have HC6 := Lib.hid (HC5.out.below hb6)
  have HB6 := Lib.hid (HB5.out.trans (hb6.mono HB5.out.size))
  clear hb6 HC5 HK6
  have kk := (HB6.out.block ba (lt_of_block HKA.out)).trans HKA.out
  have s0 := block_cell kk 0
  have s1 := block_cell kk 1
  simp at s0 s1
  clear kk
  go_wp2_with fail
  refine (HQC.out HCK.out.1 w6 (HG.out.below HB6.out) (HS.out.below HB6.out)).mono ?_
  rintro e w7 ⟨v7, rfl, hr7, hb7⟩
  obtain ⟨a7, c7, rfl, hc7⟩ := hr7.reads
  have HB7 := Lib.hid (HB6.out.trans (hb7.mono HB6.out.size))
  have HK8 := Lib.hid (HK7.out.below hb7)
  have HEQ2 := Lib.hid (sEqFC_any (HC6.out.below hb7) hc7 (by have h1 := HN.out.2.2.2.2.2.2; have h2 := HCK.out.2.2; omega) HN.out.2.2.2.2.2.1)
  obtain ⟨kl, hkl⟩ : ∃ x, x = K.length := ⟨_, rfl⟩
  rw [eqCons_refl, ← hkl] at HEQ2
  rw [← hkl]
  clear hr7 hc7 hb7 HC6 HK7 hkl s0 s1
  go_wp2_with fail
  refine HEQ2.out.mono ?_
  rintro e w8 ⟨rfl, hb8⟩
  have HB8 := Lib.hid (HB7.out.trans (hb8.mono HB7.out.size))
  have HK9 := Lib.hid (HK8.out.below hb8)
  clear hb8 HK8
  have kk := (HB8.out.block ba (lt_of_block HKA.out)).trans HKA.out
  have s0 := block_cell kk 0
  have s1 := block_cell kk 1
  simp at s0 s1
  clear kk
  obtain ⟨vl, hvl⟩ : ∃ x, x = V.length := ⟨_, rfl⟩
  have hixk := fun (W : World) (hW : Below w8.heap.size w8 W) (i k : Int) => sIndexK_any (HK9.out.below hW) (by have := HLV.out; omega) i k
  simp only [← hvl] at hixk
  rw [← hvl]
  have HIXK := Lib.hid hixk
  have hn16 : n ≤ 16 := by have h1 := HCK.out.2.1; have h2 := HN.out.1; omega
  clear hixk hvl
  go_wp2_with fail
  go_loopg [58] n (fun gk x wr => ∃ k : Nat, k + gk = n ∧ x = .int .i64 k ∧ Hid (Below w8.heap.size w8 wr))
  case atStart => exact ⟨0, by omega, rfl, Lib.hid (Below.refl _ _)⟩
  case round =>
   clear s0 s1
   obtain ⟨k, hk, rfl, hbw⟩ := hrel
   by_cases hlt : k < n
   ·have e1 : ((k : Int) < (n : Int)) = True := eq_true (by omega)
    have HLT := Lib.hid hlt
    have HBW := hbw
    clear hlt hbw
    go_wp2_with fail
    go_loopg [10] 3 (fun gk x wr => ∃ j : Nat, j + gk = 3 ∧ x = .int .i64 (1 + (j : Int)) ∧ Hid (Below w8.heap.size w8 wr))
    case atStart => exact ⟨0, by omega, rfl, HBW⟩
    case round =>
     obtain ⟨j, hj, rfl, hbw⟩ := hrel
     have HB9 := Lib.hid (HB8.out.trans (hbw.out.mono HB8.out.size))
     have kk := (HB9.out.block ba (lt_of_block HKA.out)).trans HKA.out
     have s0 := block_cell kk 0
     have s1 := block_cell kk 1
     simp at s0 s1
     clear kk
     by_cases hjt : j < 3
     ·have e2 : (1 + (j : Int) ≤ 3) = True := eq_true (by omega)
      have HJT := Lib.hid hjt
      have hvb := HVB.out wr (HS.out.below HB9.out) (k : Int) (1 + (j : Int))
      have hve : variableErr fs zs (k : Int) (1 + (j : Int)) = 0 := by
       have hwe : withErr fs zs [(k : Int)] = 0 := by
        unfold withErr
        rw [if_neg (by rw [HCK.out.1]; simp), if_pos]
        unfold inside
        simp only [List.all_cons, List.all_nil, Bool.and_true, Bool.and_eq_true, decide_eq_true_iff]
        have h1 := HLT.out
        have h2 := HN.out.1
        omega
       unfold variableErr
       rw [hwe, if_neg (by simp), if_neg (by omega)]
      have hvt : variableAt fs zs (k : Int) (1 + (j : Int)) = varAt V (k : Int) (1 + (j : Int)) := by
       unfold variableAt
       rw [hve, if_neg (by simp), HN.out.2.2.2.2.1]
      rw [hve, hvt] at hvb
      obtain ⟨kk, hkk⟩ : ∃ x, x = 1 + (j : Int) := ⟨_, rfl⟩
      rw [← hkk] at hvb e2 ⊢
      obtain ⟨va, hva⟩ : ∃ x, x = varAt V (k : Int) kk := ⟨_, rfl⟩
      have hix := fun (W : World) (hW : Below w8.heap.size w8 W) => HIXK.out W hW (k : Int) kk
      simp only [← hva] at hix hvb
      have hvle := varAt_le V (k : Int) kk
      rw [← hva] at hvle
      obtain ⟨mx, hmx⟩ : ∃ x, x = max va 0 := ⟨_, rfl⟩
      obtain ⟨mb, hmb⟩ : ∃ x, x = decide (0 ≤ va) := ⟨_, rfl⟩
      rw [← hmx, ← hmb] at hvb
      have HIX := Lib.hid hix
      have HVB2 := Lib.hid hvb
      have HKK := Lib.hid hkk
      clear hjt hvb hve hvt hix hva hkk
      go_wp2_with fail
      refine HVB2.out.mono ?_
      rintro e w10 ⟨rfl, hb10⟩
      have HW10 := Lib.hid (hbw.out.trans (hb10.mono hbw.out.size))
      have s0 := cell_below hb10 s0
      have s1 := cell_below hb10 s1
      clear hb10
      go_wp2_with fail
      refine (HIX.out w10 HW10.out).mono ?_
      rintro e w11 ⟨rfl, hb11⟩
      have HW11 := Lib.hid (HW10.out.trans (hb11.mono HW10.out.size))
      clear hb11 s0 s1
      by_cases hv0 : 0 ≤ va
      ·have e3 : ((0 : Int) ≤ va) = True := eq_true hv0
       obtain rfl : mb = true := by rw [hmb]; exact decide_eq_true hv0
       obtain rfl : mx = va := by omega
       have e4 : max mx (0 : Int) = mx := by omega
       have e5 : (mx != mx) = false := by simp
       have e6 : (mx == mx) = true := by simp
       clear hmb hmx hvle
       go_wp2_with fail
       go_roundg (3 - (j + 1))
       case measure => have := HJT.out; omega
       case rel => exact ⟨j + 1, by have := HJT.out; omega, by congr 1; (try rw [HKK.out]); first | omega | exact (IntWalk.wrap64_in _ (by have := HJT.out; omega)).trans (by omega), HW11⟩
      ·have e3 : ((0 : Int) ≤ va) = False := eq_false hv0
       obtain rfl : mb = false := by rw [hmb]; exact decide_eq_false hv0
       obtain rfl : mx = 0 := by omega
       have e4 : max va (0 : Int) = 0 := by omega
       clear hmb hmx hvle
       go_wp2_with fail
       go_roundg (3 - (j + 1))
       case measure => have := HJT.out; omega
       case rel => exact ⟨j + 1, by have := HJT.out; omega, by congr 1; (try rw [HKK.out]); first | omega | exact (IntWalk.wrap64_in _ (by have := HJT.out; omega)).trans (by omega), HW11⟩
     ·have e2 : (1 + (j : Int) ≤ 3) = False := eq_false (by omega)
      have HW9 := hbw
      clear hbw s0 s1
      go_wp2_with fail
      go_roundg (n - (k + 1))
      case measure => have := HLT.out; omega
      case rel => exact ⟨k + 1, by have := HLT.out; omega, by congr 1; try exact (IntWalk.wrap64_in _ (by have := HLT.out; omega)).trans (by omega), HW9⟩
   ·have e1 : ((k : Int) < (n : Int)) = False := eq_false (by omega)
    go_wp2_with fail
    go_ret
    exact ⟨rfl, HAL.out.trans ((HB8.out.trans (hbw.out.mono HB8.out.size)).mono HAL.out.size)⟩
end Go.Proofs.YtgofihilkobenaaGreatDoor
