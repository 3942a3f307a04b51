/- DatumChecks: the walk. -/
import Derived.Test.YtgofihilkobenaaGreatDoorKQ
import Derived.Test.YtgofihilkobenaaGreatDoorKT
import Derived.Test.YtgofihilkobenaaGreatDoorQSameM
set_option maxRecDepth 100000
namespace Go.Proofs.YtgofihilkobenaaGreatDoor
open Go.RowKit Go.Num Go.Flow Go.Dtm
set_option maxHeartbeats 8000000
set_option linter.unusedVariables false

theorem txt_none (w : World) : TxtIn w (.slice none 0 0) [] := ⟨none, 0, rfl, Nat.le_refl _, by unfold maxLen; omega, fun h => absurd h (by simp)⟩
theorem with_bad {fs : List Feat} {zs : List Zn} {l : List Int} (h : check fs zs ≠ 0) : withErr fs zs l = check fs zs := by unfold withErr; rw [if_pos h]
theorem said_DatumChecks {w : World} (hg : Glob w) {af : Option Addr} {cf : Nat} {az : Option Addr} {cz : Nat} {fs : List Feat} {zs : List Zn} (h : SchemeIn w af cf az cz fs zs) :
  Calls Tryz.prog 10 #[.agg #[.slice af fs.length cf, .slice az zs.length cz]] w fun e w' => e = .returned (.bool true) ∧ Below w.heap.size w w' := by
 obtain ⟨n, hn⟩ : ∃ n, n = fs.length := ⟨_, rfl⟩
 obtain ⟨nz, hnz⟩ : ∃ n, n = zs.length := ⟨_, rfl⟩
 obtain ⟨wa, hwa⟩ : ∃ wa, wa = w.alloc (.cells #[.slice af n cf, .slice az nz cz] 26) := ⟨_, rfl⟩
 obtain ⟨ba, hba⟩ : ∃ b, b = w.heap.size := ⟨_, rfl⟩
 have hal : Below w.heap.size w wa := by rw [hwa]; exact (Below.refl _ w).alloc (Nat.le_refl _) _
 have k0 : wa.heap[ba]? = some (.cells #[.slice af n cf, .slice az nz cz] 26 (0, 0)) := by rw [hwa, hba]; exact heap_alloc_new w _
 have s0 := block_cell k0 0
 have s1 := block_cell k0 1
 simp at s0 s1
 obtain ⟨FW, hFW⟩ : ∃ x, x = fewOf fs zs := ⟨_, rfl⟩
 obtain ⟨E, hE⟩ : ∃ x, x = check fs zs := ⟨_, rfl⟩
 have hfw := fun (W : World) (hW : SchemeIn W af cf az cz fs zs) => qfew_any hW
 have hqc := fun (W : World) (hW : SchemeIn W af cf az cz fs zs) => qcheck_any hW
 have hdc := fun (W : World) (hW : SchemeIn W af cf az cz fs zs) => Check_any hW
 have hva := fun (W : World) (hW : SchemeIn W af cf az cz fs zs) => Variables_any hW
 have hco := fun (W : World) (hg : Glob W) (hW : SchemeIn W af cf az cz fs zs) => Constraints_any hg hW
 have hch := fun (W : World) (hW : SchemeIn W af cf az cz fs zs) => Chain_any hW 0
 have hpl := fun (W : World) (hg : Glob W) (hW : SchemeIn W af cf az cz fs zs) => Place_any hg hW 0 0
 have hbe := fun (W : World) (hg : Glob W) (hW : SchemeIn W af cf az cz fs zs) => Between_any hg hW 0 0 0 0
 have hho := fun (W : World) (hg : Glob W) (hW : SchemeIn W af cf az cz fs zs) => Holds_any hg hW (al := none) (cl := 0) (vals := []) (txt_none W) (M := 0) (fun s hs => by cases hs) (by omega)
 have hvb := fun (W : World) (hW : SchemeIn W af cf az cz fs zs) => Variable_any hW 0 0
 unfold VariablesPost at hva
 unfold ConsPost at hco
 unfold ChainPost at hch
 unfold FormPost at hpl hbe
 simp only [← hn, ← hnz, ← hFW, ← hE] at hfw hqc hdc hva hco hch hpl hbe hho hvb
 have HFEW := Lib.hid hfw
 have HQC := Lib.hid hqc
 have HDC := Lib.hid hdc
 have HVA := Lib.hid hva
 have HCO := Lib.hid hco
 have HCH := Lib.hid hch
 have HPL := Lib.hid hpl
 have HBE := Lib.hid hbe
 have HHO := Lib.hid hho
 have HVB := Lib.hid hvb
 have HS := Lib.hid (h.below hal)
 have HG := Lib.hid (hg.below hal)
 have HAL := Lib.hid hal
 have HSC := Lib.hid (And.intro s0 s1)
 have HE := Lib.hid hE
 have HW := Lib.hid (And.intro hwa hba)
 rw [← hn, ← hnz]
 clear hal hwa hba k0 h hn hnz hg hE hFW hfw hqc hdc hva hco hch hpl hbe hho hvb
 go_enter Tryz.func10, Tryz.ntmps10
 go_upto_region 1 with fail
 rw [← HW.out.1, ← HW.out.2]
 clear HW
 go_wp2_with fail
 refine (known_any HG.out).mono ?_
 rintro e w1 ⟨rfl, hb1⟩
 have s0 := cell_below hb1 HSC.out.1
 have s1 := cell_below hb1 HSC.out.2
 have HB1 := Lib.hid hb1
 clear hb1
 go_wp2_with fail
 refine (HFEW.out w1 (HS.out.below HB1.out)).mono ?_
 rintro e w2 ⟨rfl, hb2⟩
 have HB2 := Lib.hid (HB1.out.trans (hb2.mono HB1.out.size))
 have s0 := cell_below HB2.out HSC.out.1
 have s1 := cell_below HB2.out HSC.out.2
 clear hb2
 cases FW with
 | false =>
  go_wp2_with fail
  refine (known_any (HG.out.below HB2.out)).mono ?_
  rintro e w3 ⟨rfl, hb3⟩
  have HB3 := Lib.hid (HB2.out.trans (hb3.mono HB2.out.size))
  clear hb3
  go_wp2_with fail
  go_ret
  exact ⟨rfl, HAL.out.trans (HB3.out.mono HAL.out.size)⟩
 | true =>
  go_wp2_with fail
  refine (HQC.out w2 (HS.out.below HB2.out)).mono ?_
  rintro e w3 ⟨rfl, hb3⟩
  have HB3 := Lib.hid (HB2.out.trans (hb3.mono HB2.out.size))
  have s0 := cell_below HB3.out HSC.out.1
  have s1 := cell_below HB3.out HSC.out.2
  clear hb3
  go_wp2_with fail
  refine (HDC.out w3 (HS.out.below HB3.out)).mono ?_
  rintro e w4 ⟨rfl, hb4⟩
  have HB4 := Lib.hid (HB3.out.trans (hb4.mono HB3.out.size))
  have s0 := cell_below HB4.out HSC.out.1
  have s1 := cell_below HB4.out HSC.out.2
  clear hb4
  have e0 : (E == E) = true := by simp
  by_cases hz : E = 0
  ·have e1 : (E == 0) = true := by rw [hz]; rfl
   clear hz
   go_wp2_with fail
   go_ret
   exact ⟨rfl, HAL.out.trans (HB4.out.mono HAL.out.size)⟩
  ·have e1 : (E == 0) = false := beq_eq_false_iff_ne.2 hz
   have HZ := Lib.hid hz
   clear hz
   go_wp2_with fail
   refine (HVA.out w4 (HS.out.below HB4.out)).mono ?_
   rintro e w5 ⟨v5, rfl, -, hz5, hb5⟩
   obtain rfl := hz5 HZ.out
   have HB5 := Lib.hid (HB4.out.trans (hb5.mono HB4.out.size))
   have s0 := cell_below HB5.out HSC.out.1
   have s1 := cell_below HB5.out HSC.out.2
   clear hb5
   go_wp2_with fail
   refine (HCO.out w5 (HG.out.below HB5.out) (HS.out.below HB5.out)).mono ?_
   rintro e w6 ⟨v6, rfl, -, hz6, hb6⟩
   obtain rfl := hz6 HZ.out
   have HB6 := Lib.hid (HB5.out.trans (hb6.mono HB5.out.size))
   have s0 := cell_below HB6.out HSC.out.1
   have s1 := cell_below HB6.out HSC.out.2
   clear hb6
   go_wp2_with fail
   refine (HCH.out w6 (HS.out.below HB6.out)).mono ?_
   rintro e w7 ⟨v7, rfl, -, hz7, hb7⟩
   rw [with_bad (l := [0]) (by rw [← HE.out]; exact HZ.out), ← HE.out] at hz7 ⊢
   obtain rfl := hz7 HZ.out
   have HB7 := Lib.hid (HB6.out.trans (hb7.mono HB6.out.size))
   have s0 := cell_below HB7.out HSC.out.1
   have s1 := cell_below HB7.out HSC.out.2
   clear hb7
   go_wp2_with fail
   refine (HPL.out w7 (HG.out.below HB7.out) (HS.out.below HB7.out)).mono ?_
   rintro e w8 ⟨v8, rfl, -, hz8, hb8⟩
   have he8 : placeErr fs zs 0 0 = E := by unfold placeErr; rw [with_bad (l := [0]) (by rw [← HE.out]; exact HZ.out), ← HE.out, if_pos HZ.out]
   rw [he8] at hz8 ⊢
   obtain rfl := hz8 HZ.out
   clear he8
   have HB8 := Lib.hid (HB7.out.trans (hb8.mono HB7.out.size))
   have s0 := cell_below HB8.out HSC.out.1
   have s1 := cell_below HB8.out HSC.out.2
   clear hb8
   unfold zeroForm
   go_upto_region 12 with fail
   obtain ⟨w8b, hw8b⟩ : ∃ x, x = w8.alloc (.cells #[.string ⟨#[]⟩, .slice none 0 0] 78) := ⟨_, rfl⟩
   obtain ⟨bp, hbp⟩ : ∃ x, x = w8.heap.size := ⟨_, rfl⟩
   rw [← hw8b, ← hbp]
   have hl8 : Below w8.heap.size w8 w8b := by rw [hw8b]; exact (Below.refl _ w8).alloc (Nat.le_refl _) _
   have kbp : w8b.heap[bp]? = some (.cells #[.string ⟨#[]⟩, .slice none 0 0] 78 (0, 0)) := by rw [hw8b, hbp]; exact heap_alloc_new w8 _
   have HKbp := Lib.hid kbp
   have HB8b := Lib.hid (HB8.out.trans (hl8.mono HB8.out.size))
   have s0 := cell_below HB8b.out HSC.out.1
   have s1 := cell_below HB8b.out HSC.out.2
   clear hw8b hl8 kbp hbp
   go_wp2_with fail
   refine (HBE.out w8b (HG.out.below HB8b.out) (HS.out.below HB8b.out)).mono ?_
   rintro e w9 ⟨v9, rfl, -, hz9, hb9⟩
   have HKbp9 := Lib.hid ((hb9.block bp (lt_of_block HKbp.out)).trans HKbp.out)
   have he9 : betweenErr fs zs 0 0 0 0 = E := by unfold betweenErr; rw [with_bad (l := [0, 0]) (by rw [← HE.out]; exact HZ.out), ← HE.out, if_pos HZ.out]
   rw [he9] at hz9 ⊢
   obtain rfl := hz9 HZ.out
   clear he9
   have HB9 := Lib.hid (HB8b.out.trans (hb9.mono HB8b.out.size))
   have s0 := cell_below HB9.out HSC.out.1
   have s1 := cell_below HB9.out HSC.out.2
   clear hb9
   unfold zeroForm
   go_upto_region 13 with fail
   obtain ⟨w9b, hw9b⟩ : ∃ x, x = w9.alloc (.cells #[.string ⟨#[]⟩, .slice none 0 0] 78) := ⟨_, rfl⟩
   obtain ⟨bq, hbq⟩ : ∃ x, x = w9.heap.size := ⟨_, rfl⟩
   rw [← hw9b, ← hbq]
   have hl9 : Below w9.heap.size w9 w9b := by rw [hw9b]; exact (Below.refl _ w9).alloc (Nat.le_refl _) _
   have kbq : w9b.heap[bq]? = some (.cells #[.string ⟨#[]⟩, .slice none 0 0] 78 (0, 0)) := by rw [hw9b, hbq]; exact heap_alloc_new w9 _
   have HKbq := Lib.hid kbq
   have HB9b := Lib.hid (HB9.out.trans (hl9.mono HB9.out.size))
   have s0 := cell_below HB9b.out HSC.out.1
   have s1 := cell_below HB9b.out HSC.out.2
   have HKbp9b := Lib.hid ((hl9.block bp (lt_of_block HKbp9.out)).trans HKbp9.out)
   clear hw9b hl9 kbq hbq
   go_wp2_with fail
   refine (HHO.out w9b (HG.out.below HB9b.out) (HS.out.below HB9b.out)).mono ?_
   rintro e w10 ⟨rfl, hb10⟩
   have HKbp10 := Lib.hid ((hb10.block bp (lt_of_block HKbp9b.out)).trans HKbp9b.out)
   have HKbq10 := Lib.hid ((hb10.block bq (lt_of_block HKbq.out)).trans HKbq.out)
   have he10 : holdsErr fs zs [] = E := by unfold holdsErr; rw [if_pos (by rw [← HE.out]; exact HZ.out), ← HE.out]
   have ha10 : holdsAns fs zs [] = (false, 0) := by unfold holdsAns; rw [he10, if_pos HZ.out]
   rw [he10, ha10]
   clear he10 ha10
   have HB10 := Lib.hid (HB9b.out.trans (hb10.mono HB9b.out.size))
   have s0 := cell_below HB10.out HSC.out.1
   have s1 := cell_below HB10.out HSC.out.2
   clear hb10
   go_wp2_with fail
   refine (HVB.out w10 (HS.out.below HB10.out)).mono ?_
   rintro e w11 ⟨rfl, hb11⟩
   have HKbp11 := Lib.hid ((hb11.block bp (lt_of_block HKbp10.out)).trans HKbp10.out)
   have HKbq11 := Lib.hid ((hb11.block bq (lt_of_block HKbq10.out)).trans HKbq10.out)
   have he11 : variableErr fs zs 0 0 = E := by unfold variableErr; rw [with_bad (l := [0]) (by rw [← HE.out]; exact HZ.out), ← HE.out, if_pos HZ.out]
   have ha11 : variableAt fs zs 0 0 = -1 := by unfold variableAt; rw [he11, if_pos HZ.out]
   rw [he11, ha11]
   rw [show max (-1 : Int) 0 = 0 from rfl, show decide (0 ≤ (-1 : Int)) = false from rfl]
   clear he11 ha11
   have HB11 := Lib.hid (HB10.out.trans (hb11.mono HB10.out.size))
   have s0 := cell_below HB11.out HSC.out.1
   have s1 := cell_below HB11.out HSC.out.2
   clear hb11
   have kz := HKbp11.out
   have p0 := block_cell kz 0
   have p1 := block_cell kz 1
   have ky := HKbq11.out
   have q0 := block_cell ky 0
   have q1 := block_cell ky 1
   simp at p0 p1 q0 q1
   clear kz ky s0 s1
   go_wp2_with fail
   refine (sameForm_any (c := []) (d := []) (l := []) (m := []) (form_zero w11) (form_zero w11) (by simp)).mono ?_
   rintro e w12 ⟨rfl, hb12⟩
   have q0 := cell_below hb12 q0
   have q1 := cell_below hb12 q1
   have HB12 := Lib.hid (HB11.out.trans (hb12.mono HB11.out.size))
   clear hb12 p0 p1
   rw [show decide (([] : List UInt8) = [] ∧ ([] : List (Nat × List UInt8)) = []) = true from decide_eq_true ⟨rfl, rfl⟩]
   go_wp2_with fail
   refine (sameForm_any (c := []) (d := []) (l := []) (m := []) (form_zero w12) (form_zero w12) (by simp)).mono ?_
   rintro e w13 ⟨rfl, hb13⟩
   have HB13 := Lib.hid (HB12.out.trans (hb13.mono HB12.out.size))
   clear hb13 q0 q1
   rw [show decide (([] : List UInt8) = [] ∧ ([] : List (Nat × List UInt8)) = []) = true from decide_eq_true ⟨rfl, rfl⟩]
   go_wp2_with fail
   go_ret
   exact ⟨rfl, HAL.out.trans (HB13.out.mono HAL.out.size)⟩
end Go.Proofs.YtgofihilkobenaaGreatDoor
