/- DatumHolds: the walk. -/
import Derived.Test.YtgofihilkobenaaGreatDoorKQ
import Derived.Test.YtgofihilkobenaaGreatDoorKT
import Derived.Test.YtgofihilkobenaaGreatDoorQHoldsM
set_option maxRecDepth 100000
namespace Go.Proofs.YtgofihilkobenaaGreatDoor
open List renaming setIfInBounds_toArray → zLa, set_cons_zero → zLb, set_cons_succ → zLc
open FlowR renaming putSel → zFp
open Act renaming put → zAp
open Nat renaming zero_add → zNz
open Go.RowKit Go.Num Go.Flow Go.Dtm
set_option maxHeartbeats 8000000
set_option linter.unusedVariables false

theorem said_DatumHolds {w : World} (hg : Glob w) {af : Option Addr} {cf : Nat} {az : Option Addr} {cz : Nat} {fs : List Feat} {zs : List Zn} (h : SchemeIn w af cf az cz fs zs) {al : Option Addr} {cl : Nat} {vals : List ByteArray} (hv : TxtIn w (.slice al vals.length cl) vals) :
  Calls Tryz.prog 4 #[.agg #[.slice af fs.length cf, .slice az zs.length cz], .slice al vals.length cl] w fun e w' => e = .returned (.bool true) ∧ Below w.heap.size w w' := by
 obtain ⟨n, hn⟩ : ∃ n, n = fs.length := ⟨_, rfl⟩
 obtain ⟨nz, hnz⟩ : ∃ n, n = zs.length := ⟨_, rfl⟩
 obtain ⟨nl, hnl⟩ : ∃ n, n = vals.length := ⟨_, rfl⟩
 obtain ⟨wa, hwa⟩ : ∃ wa, wa = w.alloc (.cells #[.slice af n cf, .slice az nz cz] 26) := ⟨_, rfl⟩
 obtain ⟨ba, hba⟩ : ∃ b, b = w.heap.size := ⟨_, rfl⟩
 have hal : Below w.heap.size w wa := by rw [hwa]; exact (Below.refl _ w).alloc (Nat.le_refl _) _
 have k0 : wa.heap[ba]? = some (.cells #[.slice af n cf, .slice az nz cz] 26 (0, 0)) := by rw [hwa, hba]; exact heap_alloc_new w _
 have s0 := block_cell k0 0
 have s1 := block_cell k0 1
 simp at s0 s1
 obtain ⟨FI, hFI⟩ : ∃ x, x = (fewOf fs zs && decide (check fs zs = 0)) := ⟨_, rfl⟩
 have hfi := fun (W : World) (hW : SchemeIn W af cf az cz fs zs) => qfine_any hW
 have hal2 := fun (W : World) (hW : TxtIn W (.slice al vals.length cl) vals) (hl : vals.length ≤ 1000000) => anyLong_any hW hl
 have hcl := fun (W : World) (hW : TxtIn W (.slice al vals.length cl) vals) (hl : vals.length ≤ 1000000) => sCloneN_any hW hl
 have hho := fun (W : World) (hgW : Glob W) (hW : SchemeIn W af cf az cz fs zs) (a : Option Addr) (c : Nat) (hV : TxtIn W (.slice a vals.length c) vals) (hM : ∀ s, s ∈ vals → s.size ≤ 20) => Holds_any hgW hW hV hM (by omega)
 have hrd := fun (W : World) (hW : Glob W) (hV : TxtIn W (.slice al vals.length cl) vals) (hll : vals.length ≤ 100000) (hM : ∀ s, s ∈ vals → s.size ≤ 20) => Reads_any vals hll hW hV (by omega) hM
 have hqv := fun (hck : check fs zs = 0) (W : World) (hW : SchemeIn W af cf az cz fs zs) => qvariables_any hW hck
 have hqh := fun (hck : check fs zs = 0) (W : World) (hW : SchemeIn W af cf az cz fs zs) (ar : Option Addr) (cr : Nat) (rs : List Rat) (M : Nat) (hr : RatsAt W ar cr rs M) (hM : 2 ≤ M) (hM2 : M ≤ 100000) (hrl : rs.length = (varsTo fs zs fs.length).length) => qholds_any hW hck hr hM hM2 hrl
 obtain ⟨AL, hAL⟩ : ∃ x, x = vals.any longText := ⟨_, rfl⟩
 obtain ⟨HE, hHE⟩ : ∃ x, x = holdsErr fs zs vals := ⟨_, rfl⟩
 obtain ⟨AN, hAN⟩ : ∃ x, x = holdsAns fs zs vals := ⟨_, rfl⟩
 simp only [← hHE, ← hAN] at hho
 simp only [← hn, ← hnz, ← hFI] at hfi
 simp only [← hnl, ← hAL] at hal2
 simp only [← hnl] at hcl hrd
 simp only [← hn, ← hnz, ← hnl] at hho
 simp only [← hn, ← hnz] at hqv hqh
 have hcapl : nl ≤ cl ∧ cl ≤ 9223372036854775807 := by
  obtain ⟨ao', c', e', h1, h2, -⟩ := id hv
  simp only [Value.slice.injEq, true_and] at e'
  rw [hnl, e'.2]
  exact ⟨h1, h2⟩
 have HFI := Lib.hid hfi
 have HAL2 := Lib.hid hal2
 have HCL := Lib.hid hcl
 have HHO := Lib.hid hho
 have HRD := Lib.hid hrd
 have HQV := Lib.hid hqv
 have HQH := Lib.hid hqh
 have HS := Lib.hid (h.below hal)
 have HG := Lib.hid (hg.below hal)
 have HVT := Lib.hid (hv.below hal)
 have HAL := Lib.hid hal
 have HKA := Lib.hid k0
 have HF := Lib.hid hFI
 have HN := Lib.hid (And.intro hn (And.intro hnz (And.intro hnl (And.intro hAL (And.intro hHE hAN)))))
 have HW := Lib.hid (And.intro hwa hba)
 rw [← hn, ← hnz, ← hnl]
 clear hwa hba hal k0 h hg hv hfi hal2 hcl hho hrd hqv hqh hn hnz hnl hAL hHE hAN hFI
 go_enter Tryz.func4, Tryz.ntmps4
 go_upto_region 1 with fail
 rw [← HW.out.1, ← HW.out.2]
 clear HW
 go_wp2_with fail
 refine (known_any HG.out).mono ?_
 rintro e w1 ⟨rfl, hb1⟩
 have HB1 := Lib.hid hb1
 have kk := (HB1.out.block ba (lt_of_block HKA.out)).trans HKA.out
 have s0 := block_cell kk 0
 have s1 := block_cell kk 1
 simp at s0 s1
 clear kk
 clear hb1
 go_wp2_with fail
 refine (HFI.out w1 (HS.out.below HB1.out)).mono ?_
 rintro e w2 ⟨rfl, hb2⟩
 have HB2 := Lib.hid (HB1.out.trans (hb2.mono HB1.out.size))
 have kk := (HB2.out.block ba (lt_of_block HKA.out)).trans HKA.out
 have s0 := block_cell kk 0
 have s1 := block_cell kk 1
 simp at s0 s1
 clear kk
 clear hb2
 cases FI with
 | false =>
  go_wp2_with fail
  refine (known_any (HG.out.below HB2.out)).mono ?_
  rintro e wk ⟨rfl, hbk⟩
  have HBK := Lib.hid (HB2.out.trans (hbk.mono HB2.out.size))
  clear hbk
  go_wp2_with fail
  go_ret
  exact ⟨rfl, HAL.out.trans (HBK.out.mono HAL.out.size)⟩
 | true =>
  have hck : check fs zs = 0 := by
   have := HF.out
   simp only [Bool.true_eq, Bool.and_eq_true, decide_eq_true_eq] at this
   exact this.2
  have HCK := Lib.hid hck
  clear hck
  by_cases h14 : 14 < nl
  ·have e14 : ((14 : Int) < (nl : Int)) = True := eq_true (by omega)
   clear h14
   go_wp2_with fail
   refine (known_any (HG.out.below HB2.out)).mono ?_
   rintro e wk ⟨rfl, hbk⟩
   have HBK := Lib.hid (HB2.out.trans (hbk.mono HB2.out.size))
   clear hbk
   go_wp2_with fail
   go_ret
   exact ⟨rfl, HAL.out.trans (HBK.out.mono HAL.out.size)⟩
  ·have e14 : ((14 : Int) < (nl : Int)) = False := eq_false (by omega)
   have HL14 := Lib.hid (show nl ≤ 14 by omega)
   clear h14
   go_wp2_with fail
   refine (HAL2.out w2 (by rw [HN.out.2.2.1]; exact HVT.out.below HB2.out) (by have h1 := HL14.out; have h2 := HN.out.2.2.1; omega)).mono ?_
   rintro e w3 ⟨rfl, hb3⟩
   have HB3 := Lib.hid (HB2.out.trans (hb3.mono HB2.out.size))
   have kk := (HB3.out.block ba (lt_of_block HKA.out)).trans HKA.out
   have s0 := block_cell kk 0
   have s1 := block_cell kk 1
   simp at s0 s1
   clear kk
   clear hb3
   cases AL with
   | true =>
    go_wp2_with fail
    refine (known_any (HG.out.below HB3.out)).mono ?_
    rintro e wk ⟨rfl, hbk⟩
    have HBK := Lib.hid (HB3.out.trans (hbk.mono HB3.out.size))
    clear hbk
    go_wp2_with fail
    go_ret
    exact ⟨rfl, HAL.out.trans (HBK.out.mono HAL.out.size)⟩
   | false =>
    have HM20 := Lib.hid (show ∀ s, s ∈ vals → s.size ≤ 20 from fun s hs => by
     have h1 := HN.out.2.2.2.1
     have h2 := List.any_eq_false.1 h1.symm s hs
     unfold longText at h2
     rw [decide_eq_true_iff] at h2
     omega)
    have HKA3 := Lib.hid ((HB3.out.block ba (lt_of_block HKA.out)).trans HKA.out)
    have HW3 := Lib.hid (Below.refl w3.heap.size w3)
    have HVT3 := Lib.hid (show TxtIn w3 (.slice al nl cl) vals by rw [HN.out.2.2.1]; exact HVT.out.below HB3.out)
    go_upto_region 3 with fail
    clear s0 s1
    refine FlowR.wp_region_sel (fun a b => Below a.heap.size a b) (fun a => Below.refl _ a) (fun _ _ _ h k => h.trans (k.mono h.size)) [0, 1, 2, 3, 4, 5, 6, 7, 8, 9, 10] [false, false, false, false, false, false, false, false, false, false, false] [true, true, true, true, true, true, true, true, true, true, true] (fun i9 v w' => match i9 with
     | 0 => v = .agg #[.slice af n cf, .slice az nz cz]
     | 1 => v = .slice al nl cl
     | 2 => ∃ a c, v = .slice a nl c ∧ TxtIn w' (.slice a nl c) vals
     | 3 => v = .tuple #[.bool AN.1, .int .i64 AN.2, .int .i64 HE]
     | 4 => v = .tuple #[.bool AN.1, .int .i64 AN.2, .int .i64 HE]
     | 5 => v = .bool AN.1
     | 6 => v = .int .i64 AN.2
     | 7 => v = .int .i64 HE
     | 8 => v = .bool AN.1
     | 9 => v = .int .i64 AN.2
     | _ => v = .int .i64 HE) rfl rfl (by kernel_rfl) (by kernel_rfl) (by kernel_rfl) (by kernel_rfl) ?st ?steps ?fin
    case st =>
     intro i9 v u1 u2 h hb
     match i9 with
     | 0 => exact h
     | 1 => exact h
     | 2 => exact by obtain ⟨a, c, e, ht⟩ := (show ∃ a c, v = .slice a nl c ∧ TxtIn u1 (.slice a nl c) vals from h); exact ⟨a, c, e, ht.below hb⟩
     | 3 => exact h
     | 4 => exact h
     | 5 => exact h
     | 6 => exact h
     | 7 => exact h
     | 8 => exact h
     | 9 => exact h
     | 10 => exact h
     | _ + 11 => exact h
    case steps =>
     refine Flow.Steps.cons (FlowR.Step.of rfl ?s0) (Flow.Steps.cons (FlowR.Step.of rfl ?s1) (Flow.Steps.cons (FlowR.Step.of rfl ?s2) (Flow.Steps.cons (FlowR.Step.of rfl ?s3) (Flow.Steps.cons (FlowR.Step.of rfl ?s4) (Flow.Steps.cons (FlowR.Step.of rfl ?s5) (Flow.Steps.cons (FlowR.Step.of rfl ?s6) (Flow.Steps.cons (FlowR.Step.of rfl ?s7) (Flow.Steps.cons (FlowR.Step.of rfl ?s8) (Flow.Steps.cons (FlowR.Step.of rfl ?s9) (Flow.Steps.cons (FlowR.Step.of rfl ?s10) Flow.Steps.nil))))))))))
     case s0 =>
      intro xs w' hb hT K9 hK9
      clear hT
      simp only [zFp, zAp, zLa, zLb, zLc, Nat.reduceAdd, zNz] at hK9 ⊢
      have hw := Flow.hwD HW3.out hb
      have kb := (hw.block ba (lt_of_block HKA3.out)).trans HKA3.out
      have y0 := block_cell kb 0
      have y1 := block_cell kb 1
      clear kb
      simp at y0 y1
      go_simp
      exact hK9 _ _ (Below.refl _ _) rfl
     case s1 =>
      intro xs w' hb hT K9 hK9
      clear hT
      simp only [zFp, zAp, zLa, zLb, zLc, Nat.reduceAdd, zNz] at hK9 ⊢
      have hw := Flow.hwD HW3.out hb
      go_simp
      exact hK9 _ _ (Below.refl _ _) rfl
     case s2 =>
      intro xs w' hb hT K9 hK9
      have h1 : (xs 1) = .slice al nl cl := hT 1 (by kernel_rfl)
      clear hT
      simp only [zFp, zAp, zLa, zLb, zLc, Nat.reduceAdd, zNz] at hK9 ⊢
      have hw := Flow.hwD HW3.out hb
      (try simp only [h1] at hK9)
      go_simp
      go_at_call 20
      refine (HCL.out w' (HVT3.out.below hw) (by have h1 := HL14.out; omega)).mono ?_
      rintro e w3 ⟨a3, c3, rfl, ht3, hb3⟩
      exact hK9 _ _ hb3 ⟨a3, c3, rfl, ht3⟩
     case s3 =>
      intro xs w' hb hT K9 hK9
      have h0 : (xs 0) = .agg #[.slice af n cf, .slice az nz cz] := hT 0 (by kernel_rfl)
      have h2 : ∃ a c, (xs 2) = .slice a nl c ∧ TxtIn w' (.slice a nl c) vals := hT 2 (by kernel_rfl)
      clear hT
      simp only [zFp, zAp, zLa, zLb, zLc, Nat.reduceAdd, zNz] at hK9 ⊢
      have hw := Flow.hwD HW3.out hb
      (try simp only [h0] at hK9)
      obtain ⟨a4, c4, e4, ht4⟩ := h2
      (try simp only [e4] at hK9)
      go_simp
      go_at_call 19
      refine (HHO.out w' (HG.out.below (HB3.out.trans (hw.mono HB3.out.size))) (HS.out.below (HB3.out.trans (hw.mono HB3.out.size))) a4 c4 ht4 HM20.out).mono ?_
      rintro e w5 ⟨rfl, hb5⟩
      exact hK9 _ _ hb5 rfl
     case s4 =>
      intro xs w' hb hT K9 hK9
      have h3 : (xs 3) = .tuple #[.bool AN.1, .int .i64 AN.2, .int .i64 HE] := hT 3 (by kernel_rfl)
      clear hT
      simp only [zFp, zAp, zLa, zLb, zLc, Nat.reduceAdd, zNz] at hK9 ⊢
      have hw := Flow.hwD HW3.out hb
      (try simp only [h3] at hK9)
      go_simp
      exact hK9 _ _ (Below.refl _ _) rfl
     case s5 =>
      intro xs w' hb hT K9 hK9
      have h4 : (xs 4) = .tuple #[.bool AN.1, .int .i64 AN.2, .int .i64 HE] := hT 4 (by kernel_rfl)
      clear hT
      simp only [zFp, zAp, zLa, zLb, zLc, Nat.reduceAdd, zNz] at hK9 ⊢
      have hw := Flow.hwD HW3.out hb
      (try simp only [h4] at hK9)
      go_simp
      exact hK9 _ _ (Below.refl _ _) rfl
     case s6 =>
      intro xs w' hb hT K9 hK9
      have h4 : (xs 4) = .tuple #[.bool AN.1, .int .i64 AN.2, .int .i64 HE] := hT 4 (by kernel_rfl)
      clear hT
      simp only [zFp, zAp, zLa, zLb, zLc, Nat.reduceAdd, zNz] at hK9 ⊢
      have hw := Flow.hwD HW3.out hb
      (try simp only [h4] at hK9)
      go_simp
      exact hK9 _ _ (Below.refl _ _) rfl
     case s7 =>
      intro xs w' hb hT K9 hK9
      have h4 : (xs 4) = .tuple #[.bool AN.1, .int .i64 AN.2, .int .i64 HE] := hT 4 (by kernel_rfl)
      clear hT
      simp only [zFp, zAp, zLa, zLb, zLc, Nat.reduceAdd, zNz] at hK9 ⊢
      have hw := Flow.hwD HW3.out hb
      (try simp only [h4] at hK9)
      go_simp
      exact hK9 _ _ (Below.refl _ _) rfl
     case s8 =>
      intro xs w' hb hT K9 hK9
      have h5 : (xs 5) = .bool AN.1 := hT 5 (by kernel_rfl)
      clear hT
      simp only [zFp, zAp, zLa, zLb, zLc, Nat.reduceAdd, zNz] at hK9 ⊢
      have hw := Flow.hwD HW3.out hb
      (try simp only [h5] at hK9)
      go_simp
      exact hK9 _ _ (Below.refl _ _) rfl
     case s9 =>
      intro xs w' hb hT K9 hK9
      have h6 : (xs 6) = .int .i64 AN.2 := hT 6 (by kernel_rfl)
      clear hT
      simp only [zFp, zAp, zLa, zLb, zLc, Nat.reduceAdd, zNz] at hK9 ⊢
      have hw := Flow.hwD HW3.out hb
      (try simp only [h6] at hK9)
      go_simp
      exact hK9 _ _ (Below.refl _ _) rfl
     case s10 =>
      intro xs w' hb hT K9 hK9
      have h7 : (xs 7) = .int .i64 HE := hT 7 (by kernel_rfl)
      clear hT
      simp only [zFp, zAp, zLa, zLb, zLc, Nat.reduceAdd, zNz] at hK9 ⊢
      have hw := Flow.hwD HW3.out hb
      (try simp only [h7] at hK9)
      go_simp
      exact hK9 _ _ (Below.refl _ _) rfl
    case fin =>
     intro xs w' hb hT
     have hw := Flow.hwD HW3.out hb
     have h8 : (xs 8) = .bool AN.1 := hT 8 (by rfl)
     have h9 : (xs 9) = .int .i64 AN.2 := hT 9 (by rfl)
     have h10 : (xs 10) = .int .i64 HE := hT 10 (by rfl)
     clear hT
     simp only [zFp, zAp, zLa, zLb, zLc, Nat.reduceAdd, zNz, FlowR.restL, FlowR.orM, Bool.false_or]
     simp only [h8, h9, h10]
     refine wpList_nil ?_
     clear h8 h9 h10
     obtain ⟨w5, hw5⟩ : ∃ x, x = w' := ⟨_, rfl⟩
     rw [← hw5] at hw ⊢
     have HB5 := Lib.hid (HB3.out.trans (hw.mono HB3.out.size))
     have HW35 := Lib.hid hw
     clear hw hb hw5
     have kk := (HB5.out.block ba (lt_of_block HKA.out)).trans HKA.out
     have s0 := block_cell kk 0
     have s1 := block_cell kk 1
     simp at s0 s1
     clear kk
     go_wp2_with fail
     refine (HQV.out HCK.out w5 (HS.out.below HB5.out)).mono ?_
     rintro e w6 ⟨vd, vk, rfl, hdr, hkr, hb6⟩
     obtain ⟨ad, cd, rfl, -, -⟩ := row_shape hdr
     obtain ⟨ak, ck, rfl, -, -⟩ := row_shape hkr
     have HB6 := Lib.hid (HB5.out.trans (hb6.mono HB5.out.size))
     have HB36 := Lib.hid (HW35.out.trans (hb6.mono HW35.out.size))
     have hdl : (dimsTo fs zs).length = (varsTo fs zs n).length := by unfold dimsTo; rw [List.length_map, HN.out.1]
     obtain ⟨nv, hnv⟩ : ∃ x, x = (varsTo fs zs n).length := ⟨_, rfl⟩
     rw [hdl, ← hnv]
     have HNV := Lib.hid hnv
     clear hb6 hdr hkr s0 s1 hdl hnv
     have kk := (HB6.out.block ba (lt_of_block HKA.out)).trans HKA.out
     have s0 := block_cell kk 0
     have s1 := block_cell kk 1
     simp at s0 s1
     clear kk
     by_cases hle : nl = nv
     ·have e5 : ((nl : Int) != (nv : Int)) = false := by rw [hle]; simp
      have e5' : ((nl : Int) == (nv : Int)) = true := by rw [hle]; simp
      have hhe : HE = readsErr vals := by
       rw [HN.out.2.2.2.2.1]
       unfold holdsErr
       rw [if_neg (by rw [HCK.out]; simp), if_neg (by rw [← HN.out.2.2.1, hle, HNV.out, HN.out.1]; simp)]
      have HLE := Lib.hid (And.intro hle hhe)
      clear hle hhe
      go_wp2_with fail
      refine (HRD.out w6 (HG.out.below HB6.out) (HVT3.out.below HB36.out) (by have h1 := HL14.out; omega) HM20.out).mono ?_
      rintro e w7 ⟨v7, rfl, hr7, hn7, hb7⟩
      obtain ⟨RE, hRE⟩ : ∃ x, x = readsErr vals := ⟨_, rfl⟩
      rw [← hRE] at hr7 hn7 HLE ⊢
      have HB7 := Lib.hid (HB6.out.trans (hb7.mono HB6.out.size))
      clear hb7 hRE s0 s1
      have kk := (HB7.out.block ba (lt_of_block HKA.out)).trans HKA.out
      have s0 := block_cell kk 0
      have s1 := block_cell kk 1
      simp at s0 s1
      clear kk
      have HAN : Hid (AN = if HE ≠ 0 then (false, 0) else holdsQ fs zs (readsVal vals)) := Lib.hid (by rw [HN.out.2.2.2.2.2, HN.out.2.2.2.2.1]; rfl)
      by_cases hre : RE = 0
      ·have e7 : (RE == 0) = true := by rw [hre]; rfl
       have e7n : (RE != 0) = false := by rw [hre]; rfl
       have he0 : HE = 0 := HLE.out.2.trans hre
       obtain ⟨rs, hrs⟩ : ∃ x, x = readsVal vals := ⟨_, rfl⟩
       have hrl := reads_len vals
       have hr8 := hr7 hre
       rw [← hrs] at hrl hr8
       obtain ⟨ar, rfl, hra⟩ := hr8.at (by have h1 := HL14.out; have h2 := HN.out.2.2.1; omega)
       have hrv : rs.length = (varsTo fs zs fs.length).length := by rw [hrl, ← HN.out.2.2.1, HLE.out.1, HNV.out, HN.out.1]
       have HQH2 := Lib.hid (HQH.out HCK.out w7 (HS.out.below HB7.out) ar rs.length rs _ hra (by omega) (by omega) (by rw [HN.out.1]; exact hrv))
       have han : AN = holdsQ fs zs rs := by rw [HAN.out, if_neg (by rw [he0]; simp), hrs]
       obtain ⟨nr, hnr⟩ : ∃ x, x = rs.length := ⟨_, rfl⟩
       rw [← han, ← hnr] at HQH2
       rw [he0, ← hnr]
       obtain ⟨A1, A2⟩ := AN
       have ea : (A2 == A2) = true := by simp
       clear hre hr7 hn7 hrs hrl hr8 hra hrv han hnr he0
       go_wp2_with fail
       refine HQH2.out.mono ?_
       rintro e w8 ⟨rfl, hb8⟩
       have HB8 := Lib.hid (HB7.out.trans (hb8.mono HB7.out.size))
       clear hb8
       cases A1 with
       | true =>
        go_wp2_with fail
        go_ret
        exact ⟨rfl, HAL.out.trans (HB8.out.mono HAL.out.size)⟩
       | false =>
        go_wp2_with fail
        go_ret
        exact ⟨rfl, HAL.out.trans (HB8.out.mono HAL.out.size)⟩
      ·have e7 : (RE == 0) = false := beq_eq_false_iff_ne.2 hre
       have e7n : (RE != 0) = true := bne_iff_ne.2 hre
       have e8 : (RE == RE) = true := by simp
       have han : AN = (false, 0) := by rw [HAN.out, if_pos (by rw [HLE.out.2]; exact hre)]
       obtain rfl := hn7 hre
       rw [HLE.out.2, han]
       clear hr7 hn7 han hre
       go_wp2_with fail
       go_ret
       exact ⟨rfl, HAL.out.trans (HB7.out.mono HAL.out.size)⟩
     ·have e5 : ((nl : Int) != (nv : Int)) = true := bne_iff_ne.2 (by omega)
      have e5' : ((nl : Int) == (nv : Int)) = false := beq_eq_false_iff_ne.2 (by omega)
      have hhe : HE = 13 := by
       rw [HN.out.2.2.2.2.1]
       unfold holdsErr
       rw [if_neg (by rw [HCK.out]; simp), if_pos (by rw [← HN.out.2.2.1, ← HN.out.1, ← HNV.out]; exact hle)]
      have han : AN = (false, 0) := by
       rw [HN.out.2.2.2.2.2]
       unfold holdsAns
       rw [← HN.out.2.2.2.2.1, hhe, if_pos (by decide)]
      rw [hhe, han]
      clear hhe han hle
      go_wp2_with fail
      go_ret
      exact ⟨rfl, HAL.out.trans (HB6.out.mono HAL.out.size)⟩
end Go.Proofs.YtgofihilkobenaaGreatDoor
