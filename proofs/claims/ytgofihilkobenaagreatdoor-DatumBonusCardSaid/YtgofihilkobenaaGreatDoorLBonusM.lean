/- DatumBonus: the walk. -/
import Derived.Test.YtgofihilkobenaaGreatDoorKQ
import Derived.Test.YtgofihilkobenaaGreatDoorKT
import Derived.Test.YtgofihilkobenaaGreatDoorBTextsM
import Derived.Test.YtgofihilkobenaaGreatDoorBCloneM
set_option maxRecDepth 100000
namespace Go.Proofs.YtgofihilkobenaaGreatDoor
open List renaming setIfInBounds_toArray → zLa, set_cons_zero → zLb, set_cons_succ → zLc
open FlowR renaming putSel → zFp
open Act renaming put → zAp
open Nat renaming zero_add → zNz
open Go.RowKit Go.Num Go.Flow Go.Dtm
set_option maxHeartbeats 8000000
set_option linter.unusedVariables false

theorem two_set {w : World} {b : Nat} {x0 x1 : Value} {t : TypeId} (h : w.heap[b]? = some (.cells #[x0, x1] t (0, 0))) (u0 u1 : Value) : ((w.setCell ⟨b, 0, none⟩ u0).setCell ⟨b, 1, none⟩ u1).heap[b]? = some (.cells #[u0, u1] t (0, 0)) := by
  have h1 := heap_setCell_same w b 0 #[x0, x1] t u0 h
  have h2 := heap_setCell_same _ b 1 _ t u1 h1
  simpa using h2
theorem enters_bonus1 (args : Array Value) (w : World) : (callFunc 29 args).run Tryz.prog w = .ok (.enter 29 args) w := by
  exact enters_of Tryz.func29 (by kernel_rfl) rfl args w
theorem bonus1_any {W : World} (z : Zn) : Calls Tryz.prog 29 (#[zoneV z] ++ #[]) W fun e w' => e = .returned (.bool (offZero z)) ∧ Below W.heap.size W w' := by
  show Calls Tryz.prog 29 #[_] W _
  unfold zoneV
  obtain ⟨wa, hwa⟩ : ∃ wa, wa = W.alloc (.cells #[.int .i64 z.kind, .int .i64 z.feature, .int .i64 z.lower, .int .i64 z.upper, .bool z.bonus] 30) := ⟨_, rfl⟩
  have hal : Below W.heap.size W wa := by rw [hwa]; exact (Below.refl _ W).alloc (Nat.le_refl _) _
  have k0 : wa.heap[W.heap.size]? = some (.cells #[.int .i64 z.kind, .int .i64 z.feature, .int .i64 z.lower, .int .i64 z.upper, .bool z.bonus] 30 (0, 0)) := by rw [hwa]; exact heap_alloc_new W _
  have s2 := block_cell k0 2
  have s3 := block_cell k0 3
  simp at s2 s3
  obtain ⟨lo, hlo⟩ : ∃ x, x = z.lower := ⟨_, rfl⟩
  obtain ⟨up, hup⟩ : ∃ x, x = z.upper := ⟨_, rfl⟩
  have HE := Lib.hid (show offZero z = (decide (0 < lo) || decide (up < 0)) by rw [hlo, hup]; rfl)
  have HAL := Lib.hid hal
  have HW := Lib.hid hwa
  rw [← hlo, ← hup] at HW
  rw [← hlo] at s2
  rw [← hup] at s3
  rw [← hlo, ← hup]
  clear hal k0 hwa hlo hup
  rcases (show (0 < lo ∧ offZero z = true) ∨ (¬ 0 < lo ∧ up < 0 ∧ offZero z = true) ∨ (¬ 0 < lo ∧ ¬ up < 0 ∧ offZero z = false) by
    rw [HE.out]
    by_cases h1 : 0 < lo <;> by_cases h2 : up < 0 <;> simp [h1, h2]) with ⟨h1, h3⟩ | ⟨h1, h2, h3⟩ | ⟨h1, h2, h3⟩
  all_goals
    have HE2 := Lib.hid h3
    clear h3
    go_enter Tryz.func29, Tryz.ntmps29
    go_upto_region 1 with fail
    rw [← HW.out]
    go_wp2_with fail
    go_ret
    exact ⟨by rw [HE2.out]; rfl, HAL.out⟩
theorem offZero_any {w : World} {ao : Option Addr} {c : Nat} {zs : List Zn} (h : ZonesIn w ao c zs) (hsm : zs.length ≤ 1000000) : Calls Tryz.prog 28 #[.slice ao zs.length c, .func (.func 29) #[] #[]] w fun e w' => e = .returned (.bool (zs.any offZero)) ∧ Below w.heap.size w w' :=
  sContainsZ_any h hsm enters_bonus1 offZero (fun W j hj hb => bonus1_any _)
theorem said_DatumBonus {w : World} (hg : Glob w) {af : Option Addr} {cf : Nat} {az : Option Addr} {cz : Nat} {fs : List Feat} {zs : List Zn} (h : SchemeIn w af cf az cz fs zs) {vp : Value} {P : List Int} (hp : PartsIn w vp P) (a : Int) (ha0 : (Lit.int .u8 a).wf = true) :
    Calls Tryz.prog 5 #[.agg #[.slice af fs.length cf, .slice az zs.length cz], vp, .int .u8 a] w fun e w' => e = .returned (.bool true) ∧ Below w.heap.size w w' := by
  have hab : 0 ≤ a ∧ a ≤ 255 := by
    simp [Lit.wf, IntKind.min, IntKind.max, IntKind.bits, IntKind.signed] at ha0
    omega
  obtain ⟨n, hn⟩ : ∃ n, n = fs.length := ⟨_, rfl⟩
  obtain ⟨nz, hnz⟩ : ∃ n, n = zs.length := ⟨_, rfl⟩
  obtain ⟨wa, hwa⟩ : ∃ wa, wa = w.alloc (.cells #[.slice af n cf, .slice az nz cz] 26) := ⟨_, rfl⟩
  obtain ⟨ba, hba⟩ : ∃ b, b = w.heap.size := ⟨_, rfl⟩
  have hal : Below w.heap.size w wa := by rw [hwa]; exact (Below.refl _ w).alloc (Nat.le_refl _) _
  have k0 : wa.heap[ba]? = some (.cells #[.slice af n cf, .slice az nz cz] 26 (0, 0)) := by rw [hwa, hba]; exact heap_alloc_new w _
  have s0 := block_cell k0 0
  have s1 := block_cell k0 1
  simp at s0 s1
  obtain ⟨FI, hFI⟩ : ∃ x, x = (fewOf fs zs && decide (check fs zs = 0)) := ⟨_, rfl⟩
  obtain ⟨E, hE⟩ : ∃ x, x = check fs zs := ⟨_, rfl⟩
  obtain ⟨D, hD⟩ : ∃ x, x = dimsTo fs zs := ⟨_, rfl⟩
  obtain ⟨OZ, hOZ⟩ : ∃ x, x = zs.any offZero := ⟨_, rfl⟩
  have hfi := fun (W : World) (hW : SchemeIn W af cf az cz fs zs) => qfine_any hW
  have hva := fun (W : World) (hW : SchemeIn W af cf az cz fs zs) => Variables_any hW
  have hcl := fun (W : World) (hW : SchemeIn W af cf az cz fs zs) (hz : zs.length ≤ 1000000) (h0 : 0 < zs.length) => sCloneZ_any hW.zones hz h0
  have hoz := fun (W : World) (hW : SchemeIn W af cf az cz fs zs) (hz : zs.length ≤ 1000000) => offZero_any hW.zones hz
  have hho := fun (W : World) (hgW : Glob W) (hW : SchemeIn W af cf az cz fs zs) (vals : List ByteArray) (a : Option Addr) (c : Nat) (hV : TxtIn W (.slice a vals.length c) vals) (hM : ∀ s, s ∈ vals → s.size ≤ 100) => Holds_any hgW hW hV hM (by omega)
  have hhy := fun (W : World) (hgW : Glob W) (ay : Option Addr) (cy : Nat) (ys : List Zn) (hW : SchemeIn W af cf ay cy fs ys) (vals : List ByteArray) (a : Option Addr) (c : Nat) (hV : TxtIn W (.slice a vals.length c) vals) (hM : ∀ s, s ∈ vals → s.size ≤ 100) => Holds_any hgW hW hV hM (by omega)
  have hvl := fun (W : World) (hgW : Glob W) (ad : Option Addr) (cd : Nat) (hd : DimsIn W ad cd D) (hl : D.length ≤ 1000) (hDb : ∀ j, j < D.length → (-1000000000 ≤ (D.getD j Dm.none).nominal ∧ (D.getD j Dm.none).nominal ≤ 1000000000) ∧ (-1000000000 ≤ (D.getD j Dm.none).lower ∧ (D.getD j Dm.none).lower ≤ 1000000000) ∧ (-1000000000 ≤ (D.getD j Dm.none).upper ∧ (D.getD j Dm.none).upper ≤ 1000000000)) (hP : PartsIn W vp P) => qvalues_any hgW hd hl hDb hP (mv := 0) (by omega) (by omega)
  unfold VariablesPost at hva
  simp only [← hFI] at hfi
  simp only [← hE, ← hD] at hva
  simp only [← hOZ] at hoz
  simp only [← hn, ← hnz] at hfi hva hcl hoz hho
  simp only [← hn] at hhy
  have hcap : n ≤ cf ∧ cf ≤ 9223372036854775807 := by rw [hn]; exact ⟨h.feats.1, h.feats.2.1⟩
  have hcapz : nz ≤ cz ∧ cz ≤ 9223372036854775807 := by rw [hnz]; exact ⟨h.zones.1, h.zones.2.1⟩
  have HFI := Lib.hid hfi
  have HVA := Lib.hid hva
  have HCL := Lib.hid hcl
  have HOZ := Lib.hid hoz
  have HHO := Lib.hid hho
  have HHY := Lib.hid hhy
  have HVL := Lib.hid hvl
  have HS := Lib.hid (h.below hal)
  have HG := Lib.hid (hg.below hal)
  have HP := Lib.hid (hp.below hal)
  have HAL := Lib.hid hal
  have HKA := Lib.hid k0
  have HF := Lib.hid hFI
  have HN := Lib.hid (And.intro hn (And.intro hnz (And.intro hE (And.intro hD (And.intro hOZ hab)))))
  have HW := Lib.hid (And.intro hwa hba)
  rw [← hn, ← hnz]
  clear hwa hba hal k0 h hg hp hfi hva hcl hoz hho hhy hvl hn hnz hFI hE hD hOZ hab ha0
  go_enter Tryz.func5, Tryz.ntmps5
  go_upto_region 1 with fail
  rw [← HW.out.1, ← HW.out.2]
  clear HW
  go_wp2_with fail
  refine (known_any HG.out).mono ?_
  rintro e w1 ⟨rfl, hb1⟩
  have HB1 := Lib.hid hb1
  have kk := (HB1.out.block ba (lt_of_block HKA.out)).trans HKA.out
  have s0 := block_cell kk 0
  have s1 := block_cell kk 1
  simp at s0 s1
  clear kk
  clear hb1
  go_wp2_with fail
  refine (HFI.out w1 (HS.out.below HB1.out)).mono ?_
  rintro e w2 ⟨rfl, hb2⟩
  have HB2 := Lib.hid (HB1.out.trans (hb2.mono HB1.out.size))
  have kk := (HB2.out.block ba (lt_of_block HKA.out)).trans HKA.out
  have s0 := block_cell kk 0
  have s1 := block_cell kk 1
  simp at s0 s1
  clear kk
  clear hb2
  cases FI with
  | false =>
    go_wp2_with fail
    refine (known_any (HG.out.below HB2.out)).mono ?_
    rintro e w3 ⟨rfl, hb3⟩
    have HB3 := Lib.hid (HB2.out.trans (hb3.mono HB2.out.size))
    clear hb3
    go_wp2_with fail
    go_ret
    exact ⟨rfl, HAL.out.trans (HB3.out.mono HAL.out.size)⟩
  | true =>
    have hck : check fs zs = 0 := by
      have := HF.out
      simp only [Bool.true_eq, Bool.and_eq_true, decide_eq_true_eq] at this
      exact this.2
    obtain rfl : E = 0 := HN.out.2.2.1.trans hck
    have HCK := Lib.hid (And.intro hck (check_small hck))
    clear hck
    by_cases hz0 : nz = 0
    · have e0 : ((nz : Int) == 0) = true := by rw [hz0]; rfl
      clear hz0
      go_wp2_with fail
      refine (known_any (HG.out.below HB2.out)).mono ?_
      rintro e w3 ⟨rfl, hb3⟩
      have HB3 := Lib.hid (HB2.out.trans (hb3.mono HB2.out.size))
      clear hb3
      go_wp2_with fail
      go_ret
      exact ⟨rfl, HAL.out.trans (HB3.out.mono HAL.out.size)⟩
    · have e0 : ((nz : Int) == 0) = false := beq_eq_false_iff_ne.2 (by omega)
      have HNZ := Lib.hid (show 0 < nz by omega)
      obtain ⟨fb, fo, rfl, -, hfc⟩ := HS.out.feats.2.2 (by
        have h1 := (zone_right HCK.out.1 (j := 0) (by have h2 := HN.out.2.1; omega)).2.1
        omega)
      have HFC := Lib.hid hfc
      clear hfc
      have HW0 := Lib.hid (Below.refl w2.heap.size w2)
      have HKA2 := Lib.hid ((HB2.out.block ba (lt_of_block HKA.out)).trans HKA.out)
      clear hz0
      go_upto_region 3 with fail
      clear s0 s1
      refine FlowR.wp_region_sel (fun a b => Below a.heap.size a b) (fun a => Below.refl _ a) (fun _ _ _ h k => h.trans (k.mono h.size)) [0, 1, 2, 3, 4, 5, 6] [false, false, false, false, false, false, false, false] [true, true, true, true, true, true, true, false] (fun i9 v w' => match i9 with
        | 0 => v = .pointer (some ⟨ba, 0, none⟩)
        | 1 => v = .slice (some ⟨fb, fo, none⟩) n cf
        | 2 => v = .pointer (some ⟨ba, 1, none⟩)
        | 3 => v = .slice az nz cz
        | 4 => w'.ownsRow w2.heap.size 30 5 v nz (zsCells zs)
        | 5 => ∃ v2, v = .agg #[.slice (some ⟨fb, fo, none⟩) n cf, v2] ∧ w'.ownsRow w2.heap.size 30 5 v2 nz (zsCells zs)
        | _ => ∃ b, v = .pointer (some ⟨b, 0, none⟩) ∧ w'.heap[b]? = some (.cells #[.slice none 0 0, .slice none 0 0] 26 (0, 0)) ∧ w2.heap.size ≤ b) rfl rfl (by kernel_rfl) (by kernel_rfl) (by kernel_rfl) (by kernel_rfl) ?st ?steps ?fin
      case st =>
        intro i9 v u1 u2 h hb
        match i9 with
        | 0 => exact h
        | 1 => exact h
        | 2 => exact h
        | 3 => exact h
        | 4 => exact row_below (show u1.ownsRow w2.heap.size 30 5 v nz (zsCells zs) from h) hb
        | 5 => exact by obtain ⟨v2, e, hr⟩ := (show ∃ v2, v = .agg #[.slice (some ⟨fb, fo, none⟩) n cf, v2] ∧ u1.ownsRow w2.heap.size 30 5 v2 nz (zsCells zs) from h); exact ⟨v2, e, row_below hr hb⟩
        | 6 => exact by obtain ⟨b, e, hk, hl⟩ := (show ∃ b, v = .pointer (some ⟨b, 0, none⟩) ∧ u1.heap[b]? = some (.cells #[.slice none 0 0, .slice none 0 0] 26 (0, 0)) ∧ w2.heap.size ≤ b from h); exact ⟨b, e, (hb.block b (lt_of_block hk)).trans hk, hl⟩
        | _ + 7 => exact by obtain ⟨b, e, hk, hl⟩ := (show ∃ b, v = .pointer (some ⟨b, 0, none⟩) ∧ u1.heap[b]? = some (.cells #[.slice none 0 0, .slice none 0 0] 26 (0, 0)) ∧ w2.heap.size ≤ b from h); exact ⟨b, e, (hb.block b (lt_of_block hk)).trans hk, hl⟩
      case steps =>
        refine Flow.Steps.cons (FlowR.Step.of rfl ?s0) (Flow.Steps.cons (FlowR.Step.of rfl ?s1) (Flow.Steps.cons (FlowR.Step.of rfl ?s2) (Flow.Steps.cons (FlowR.Step.of rfl ?s3) (Flow.Steps.cons (FlowR.Step.of rfl ?s4) (Flow.Steps.cons (FlowR.Step.of rfl ?s5) (Flow.Steps.cons (FlowR.Step.of rfl ?s6) Flow.Steps.nil))))))
        case s0 =>
          intro xs w' hb hT K9 hK9
          clear hT
          simp only [zFp, zAp, zLa, zLb, zLc, Nat.reduceAdd, zNz] at hK9 ⊢
          have hw := Flow.hwD HW0.out hb
          go_simp
          exact hK9 _ _ (Below.refl _ _) rfl
        case s1 =>
          intro xs w' hb hT K9 hK9
          have h0 : (xs 0) = .pointer (some ⟨ba, 0, none⟩) := hT 0 (by kernel_rfl)
          clear hT
          simp only [zFp, zAp, zLa, zLb, zLc, Nat.reduceAdd, zNz] at hK9 ⊢
          have hw := Flow.hwD HW0.out hb
          have kb := (hw.block ba (lt_of_block HKA2.out)).trans HKA2.out
          have y0 := block_cell kb 0
          clear kb
          simp at y0
          (try simp only [h0] at hK9)
          go_simp
          exact hK9 _ _ (Below.refl _ _) rfl
        case s2 =>
          intro xs w' hb hT K9 hK9
          clear hT
          simp only [zFp, zAp, zLa, zLb, zLc, Nat.reduceAdd, zNz] at hK9 ⊢
          have hw := Flow.hwD HW0.out hb
          go_simp
          exact hK9 _ _ (Below.refl _ _) rfl
        case s3 =>
          intro xs w' hb hT K9 hK9
          have h2 : (xs 2) = .pointer (some ⟨ba, 1, none⟩) := hT 2 (by kernel_rfl)
          clear hT
          simp only [zFp, zAp, zLa, zLb, zLc, Nat.reduceAdd, zNz] at hK9 ⊢
          have hw := Flow.hwD HW0.out hb
          have kb := (hw.block ba (lt_of_block HKA2.out)).trans HKA2.out
          have y0 := block_cell kb 1
          clear kb
          simp at y0
          (try simp only [h2] at hK9)
          go_simp
          exact hK9 _ _ (Below.refl _ _) rfl
        case s4 =>
          intro xs w' hb hT K9 hK9
          have h3 : (xs 3) = .slice az nz cz := hT 3 (by kernel_rfl)
          clear hT
          simp only [zFp, zAp, zLa, zLb, zLc, Nat.reduceAdd, zNz] at hK9 ⊢
          have hw := Flow.hwD HW0.out hb
          (try simp only [h3] at hK9)
          go_simp
          go_at_call 24
          refine (HCL.out w' (HS.out.below (HB2.out.trans (hw.mono HB2.out.size))) (by have h1 := HCK.out.2.2; have h2 := HN.out.2.1; omega) (by have h1 := HNZ.out; have h2 := HN.out.2.1; omega)).mono ?_
          rintro e w3 ⟨v3, rfl, hr3, hb3⟩
          exact hK9 _ _ hb3 (hr3.mono hw.size)
        case s5 =>
          intro xs w' hb hT K9 hK9
          have h1 : (xs 1) = .slice (some ⟨fb, fo, none⟩) n cf := hT 1 (by kernel_rfl)
          have h4 : w'.ownsRow w2.heap.size 30 5 (xs 4) nz (zsCells zs) := hT 4 (by kernel_rfl)
          clear hT
          simp only [zFp, zAp, zLa, zLb, zLc, Nat.reduceAdd, zNz] at hK9 ⊢
          have hw := Flow.hwD HW0.out hb
          (try simp only [h1] at hK9)
          obtain ⟨a4, c4, e4, -, -⟩ := row_shape h4
          rw [e4] at h4
          simp only [e4] at hK9 ⊢
          clear e4
          go_simp
          exact hK9 _ _ (Below.refl _ _) ⟨_, rfl, h4⟩
        case s6 =>
          intro xs w' hb hT K9 hK9
          clear hT
          simp only [zFp, zAp, zLa, zLb, zLc, Nat.reduceAdd, zNz] at hK9 ⊢
          have hw := Flow.hwD HW0.out hb
          go_simp
          exact hK9 _ _ ((Below.refl _ _).alloc (Nat.le_refl _) _) ⟨_, rfl, heap_alloc_new _ _, hw.size⟩
      case fin =>
        intro xs w' hb hT
        have hw := Flow.hwD HW0.out hb
        have h5 : ∃ v2, (xs 5) = .agg #[.slice (some ⟨fb, fo, none⟩) n cf, v2] ∧ w'.ownsRow w2.heap.size 30 5 v2 nz (zsCells zs) := hT 5 (by rfl)
        have h6 : ∃ b, (xs 6) = .pointer (some ⟨b, 0, none⟩) ∧ w'.heap[b]? = some (.cells #[.slice none 0 0, .slice none 0 0] 26 (0, 0)) ∧ w2.heap.size ≤ b := hT 6 (by rfl)
        clear hT
        simp only [zFp, zAp, zLa, zLb, zLc, Nat.reduceAdd, zNz, FlowR.restL, FlowR.orM, Bool.false_or]
        obtain ⟨vz, e5, hrz⟩ := h5
        obtain ⟨bm, e6, hkm, hlm⟩ := h6
        simp only [e5, e6]
        clear e5 e6
        obtain ⟨gz, czz, rfl, hgz⟩ : ∃ g c, vz = .slice (some ⟨g, 0, none⟩) nz c ∧ w2.heap.size ≤ g := by
          rcases hrz.2 with ⟨h1, h2⟩ | ⟨g, cap, cur, h1, h2, -⟩
          · have := HNZ.out; omega
          · exact ⟨g, cap, h1, h2⟩
        have x0 := block_cell hkm 0
        have x1 := block_cell hkm 1
        have f0 := block_free hkm 0
        have f1 := block_free hkm 1
        simp at x0 x1
        clear hb
        have hbm := (hw.setCell (p := ⟨bm, 0, none⟩) hlm (.slice (some ⟨fb, fo, none⟩) n cf)).setCell (p := ⟨bm, 1, none⟩) hlm (.slice (some ⟨gz, 0, none⟩) nz czz)
        have hkm2 := two_set hkm (.slice (some ⟨fb, fo, none⟩) n cf) (.slice (some ⟨gz, 0, none⟩) nz czz)
        have hne : gz ≠ bm := fun e => by
          have h1 := row_off hrz hkm (by decide) gz rfl
          exact h1 e
        have hrz2 := zrow_setNe (zrow_setNe hrz (fun g e => by cases e; exact hne) 0 (.slice (some ⟨fb, fo, none⟩) n cf)) (fun g e => by cases e; exact hne) 1 (.slice (some ⟨gz, 0, none⟩) nz czz)
        have HX3 := Lib.hid (And.intro hbm (And.intro hkm2 (And.intro hrz2 (And.intro hgz (And.intro hlm hne)))))
        clear hkm hrz hgz hlm hw hbm hkm2 hrz2 hne
        obtain ⟨jn, hjn⟩ : ∃ j : Nat, (j : Int) = a % (nz : Int) := ⟨(a % (nz : Int)).toNat, Int.toNat_of_nonneg (Int.emod_nonneg _ (by have := HNZ.out; omega))⟩
        have hjl : jn < nz := by
          have h1 := Int.emod_lt_of_pos a (show (0 : Int) < (nz : Int) by have := HNZ.out; omega)
          omega
        have hta : a.tmod (nz : Int) = (jn : Int) := by rw [Int.tmod_eq_emod_of_nonneg HN.out.2.2.2.2.2.1, hjn]
        have hwa1 : wrap64 a = a := IntWalk.wrap64_in a (by have := HN.out.2.2.2.2.2; omega)
        have hwa2 : IntKind.i64.wrap a = a := IntWalk.i64_in a (by have := HN.out.2.2.2.2.2; omega)
        have hj0 : (0 : Int) ≤ (jn : Int) := by omega
        have hj1 : (jn : Int) < (nz : Int) := by omega
        have HJ := Lib.hid (And.intro hjn hjl)
        go_upto_region 4 with fail
        obtain ⟨w3, hw3⟩ : ∃ x, x = ((w'.setCell ⟨bm, 0, none⟩ (.slice (some ⟨fb, fo, none⟩) n cf)).setCell ⟨bm, 1, none⟩ (.slice (some ⟨gz, 0, none⟩) nz czz)) := ⟨_, rfl⟩
        rw [← hw3] at HX3 ⊢
        clear hw3 x0 x1 f0 f1 hjn hjl
        have HKA3 := Lib.hid ((HX3.out.1.block ba (lt_of_block HKA2.out)).trans HKA2.out)
        have kk := HKA3.out
        have s0 := block_cell kk 0
        have s1 := block_cell kk 1
        simp at s0 s1
        have kk2 := HX3.out.2.1
        have m0 := block_cell kk2 0
        have m1 := block_cell kk2 1
        simp at m0 m1
        clear kk kk2
        go_quiet (fail)
        go_upto_region 5 with fail
        obtain ⟨w4, hw4⟩ : ∃ x, x = w3.drewN nq := ⟨_, rfl⟩
        rw [← hw4]
        have hb34 : Below w3.heap.size w3 w4 := by rw [hw4]; exact below_drawn w3 nq
        have HB24 := Lib.hid (HX3.out.1.trans (hb34.mono HX3.out.1.size))
        have HR4 := Lib.hid (row_below HX3.out.2.2.1 hb34)
        have HM4 := Lib.hid ((hb34.block bm (lt_of_block HX3.out.2.1)).trans HX3.out.2.1)
        have HKA4 := Lib.hid ((hb34.block ba (lt_of_block HKA3.out)).trans HKA3.out)
        have HW4 := Lib.hid (Below.refl w4.heap.size w4)
        obtain ⟨z, hz⟩ : ∃ z, z = zs.getD jn Zn.none := ⟨_, rfl⟩
        have hjz : jn < zs.length := by have h1 := HJ.out.2; have h2 := HN.out.2.1; omega
        have hzr := (zone_right HCK.out.1 hjz).2.1
        rw [← hz] at hzr
        obtain ⟨fn, hfn⟩ : ∃ f : Nat, z.feature = (f : Int) := ⟨z.feature.toNat, by omega⟩
        obtain ⟨zk, hzk⟩ : ∃ x, x = z.kind := ⟨_, rfl⟩
        have hfl : fn < fs.length := by omega
        obtain ⟨fk, hfk⟩ : ∃ x, x = (fs.getD fn Feat.none).kind := ⟨_, rfl⟩
        have hzat := zs_at zs jn hjz
        rw [← hz] at hzat
        have hc0 : w4.cell? ⟨gz, jn * 5, none⟩ = some (.int .i64 zk) := by
          rw [World.ownsRow.cellAt HR4.out (jn * 5) (by have := HJ.out.2; omega), hzk]
          exact hzat 0 (by omega)
        have hc1 : w4.cell? ⟨gz, jn * 5 + 1, none⟩ = some (.int .i64 (fn : Int)) := by
          rw [World.ownsRow.cellAt HR4.out (jn * 5 + 1) (by have := HJ.out.2; omega), ← hfn]
          exact hzat 1 (by omega)
        have hc2 : w4.cell? ⟨fb, fo + fn * 6 + 1, none⟩ = some (.int .i64 fk) := by
          rw [hfk]
          exact cell_below HB24.out (cell_below HB2.out (HFC.out fn hfl).2.1)
        have HC4 := Lib.hid (And.intro hc0 (And.intro hc1 hc2))
        obtain ⟨B1, hB1⟩ : ∃ x, x = (zk == 1) := ⟨_, rfl⟩
        obtain ⟨B2, hB2⟩ : ∃ x, x = (fk == 2) := ⟨_, rfl⟩
        have HBB := Lib.hid (And.intro hB1 hB2)
        have HZ := Lib.hid (And.intro hz (And.intro hfn (And.intro hzk (And.intro hfk (And.intro hjz hfl)))))
        have hf0 : (0 : Int) ≤ (fn : Int) := by omega
        have hf1 : (fn : Int) < (n : Int) := by rw [HN.out.1]; omega
        clear hw4 hb34 hz hzr hfn hzk hfk hzat hc0 hc1 hc2 hB1 hB2 hjz hfl s0 s1 m0 m1
        refine FlowR.wp_region_sel (fun a b => Below a.heap.size a b) (fun a => Below.refl _ a) (fun _ _ _ h k => h.trans (k.mono h.size)) [0, 1, 2, 3, 4, 5, 6, 7, 8, 9, 10, 11, 12, 13, 14, 15, 16, 17, 18, 19] [false, false, false, false, false, false, false, false, false, false, false, false, false, false, false, false, false, false, false, false, false] [true, true, true, true, true, true, true, true, true, true, true, true, true, true, true, true, true, true, true, true, false] (fun i9 v w' => match i9 with
          | 0 => v = .pointer (some ⟨gz, jn * 5, none⟩)
          | 1 => v = .pointer (some ⟨gz, jn * 5, none⟩)
          | 2 => v = .pointer (some ⟨gz, jn * 5, none⟩)
          | 3 => v = .pointer (some ⟨gz, jn * 5, none⟩)
          | 4 => v = .int .i64 zk
          | 5 => v = .bool B1
          | 6 => v = .bool B1
          | 7 => (B1) = true → v = .pointer (some ⟨ba, 0, none⟩)
          | 8 => (B1) = true → v = .slice (some ⟨fb, fo, none⟩) n cf
          | 9 => (B1) = true → v = .pointer (some ⟨gz, jn * 5, none⟩)
          | 10 => (B1) = true → v = .pointer (some ⟨gz, jn * 5, none⟩)
          | 11 => (B1) = true → v = .pointer (some ⟨gz, jn * 5 + 1, none⟩)
          | 12 => (B1) = true → v = .int .i64 (fn : Int)
          | 13 => (B1) = true → v = .pointer (some ⟨fb, fo + fn * 6, none⟩)
          | 14 => (B1) = true → v = .pointer (some ⟨fb, fo + fn * 6 + 1, none⟩)
          | 15 => (B1) = true → v = .int .i64 fk
          | 16 => (B1) = true → v = .bool B2
          | 17 => v = .bool (B1 && B2)
          | 18 => v = .pointer (some ⟨gz, jn * 5, none⟩)
          | _ => v = .pointer (some ⟨gz, jn * 5 + 4, none⟩)) rfl rfl (by kernel_rfl) (by kernel_rfl) (by kernel_rfl) (by kernel_rfl) ?st ?steps ?fin
        case st =>
          intro i9 v u1 u2 h hb
          match i9 with
          | 0 => exact h
          | 1 => exact h
          | 2 => exact h
          | 3 => exact h
          | 4 => exact h
          | 5 => exact h
          | 6 => exact h
          | 7 => exact h
          | 8 => exact h
          | 9 => exact h
          | 10 => exact h
          | 11 => exact h
          | 12 => exact h
          | 13 => exact h
          | 14 => exact h
          | 15 => exact h
          | 16 => exact h
          | 17 => exact h
          | 18 => exact h
          | 19 => exact h
          | _ + 20 => exact h
        case steps =>
          refine Flow.Steps.cons (FlowR.Step.of rfl ?s0) (Flow.Steps.cons (FlowR.Step.of rfl ?s1) (Flow.Steps.cons (FlowR.Step.of rfl ?s2) (Flow.Steps.cons (FlowR.Step.of rfl ?s3) (Flow.Steps.cons (FlowR.Step.of rfl ?s4) (Flow.Steps.cons (FlowR.Step.of rfl ?s5) (Flow.Steps.cons (FlowR.Step.of rfl ?s6) (Flow.Steps.cons (FlowR.Step.of rfl ?s7) (Flow.Steps.cons (FlowR.Step.of rfl ?s8) (Flow.Steps.cons (FlowR.Step.of rfl ?s9) (Flow.Steps.cons (FlowR.Step.of rfl ?s10) (Flow.Steps.cons (FlowR.Step.of rfl ?s11) (Flow.Steps.cons (FlowR.Step.of rfl ?s12) (Flow.Steps.cons (FlowR.Step.of rfl ?s13) (Flow.Steps.cons (FlowR.Step.of rfl ?s14) (Flow.Steps.cons (FlowR.Step.of rfl ?s15) (Flow.Steps.cons (FlowR.Step.of rfl ?s16) (Flow.Steps.cons (FlowR.Step.of rfl ?s17) (Flow.Steps.cons (FlowR.Step.of rfl ?s18) (Flow.Steps.cons (FlowR.Step.of rfl ?s19) Flow.Steps.nil)))))))))))))))))))
          case s0 =>
            intro xs w' hb hT K9 hK9
            clear hT
            simp only [zFp, zAp, zLa, zLb, zLc, Nat.reduceAdd, zNz] at hK9 ⊢
            have hw := Flow.hwD HW4.out hb
            go_simp
            exact hK9 _ _ (Below.refl _ _) rfl
          case s1 =>
            intro xs w' hb hT K9 hK9
            clear hT
            simp only [zFp, zAp, zLa, zLb, zLc, Nat.reduceAdd, zNz] at hK9 ⊢
            have hw := Flow.hwD HW4.out hb
            go_simp
            exact hK9 _ _ (Below.refl _ _) rfl
          case s2 =>
            intro xs w' hb hT K9 hK9
            have h1 : (xs 1) = .pointer (some ⟨gz, jn * 5, none⟩) := hT 1 (by kernel_rfl)
            clear hT
            simp only [zFp, zAp, zLa, zLb, zLc, Nat.reduceAdd, zNz] at hK9 ⊢
            have hw := Flow.hwD HW4.out hb
            (try simp only [h1] at hK9)
            go_simp
            exact hK9 _ _ (Below.refl _ _) rfl
          case s3 =>
            intro xs w' hb hT K9 hK9
            have h2 : (xs 2) = .pointer (some ⟨gz, jn * 5, none⟩) := hT 2 (by kernel_rfl)
            clear hT
            simp only [zFp, zAp, zLa, zLb, zLc, Nat.reduceAdd, zNz] at hK9 ⊢
            have hw := Flow.hwD HW4.out hb
            (try simp only [h2] at hK9)
            go_simp
            exact hK9 _ _ (Below.refl _ _) rfl
          case s4 =>
            intro xs w' hb hT K9 hK9
            have h3 : (xs 3) = .pointer (some ⟨gz, jn * 5, none⟩) := hT 3 (by kernel_rfl)
            clear hT
            simp only [zFp, zAp, zLa, zLb, zLc, Nat.reduceAdd, zNz] at hK9 ⊢
            have hw := Flow.hwD HW4.out hb
            (try simp only [h3] at hK9)
            have y0 := cell_below hw HC4.out.1
            go_simp
            exact hK9 _ _ (Below.refl _ _) rfl
          case s5 =>
            intro xs w' hb hT K9 hK9
            have h4 : (xs 4) = .int .i64 zk := hT 4 (by kernel_rfl)
            clear hT
            simp only [zFp, zAp, zLa, zLb, zLc, Nat.reduceAdd, zNz] at hK9 ⊢
            have hw := Flow.hwD HW4.out hb
            (try simp only [h4] at hK9)
            go_simp
            exact hK9 _ _ (Below.refl _ _) (by rw [HBB.out.1])
          case s6 =>
            intro xs w' hb hT K9 hK9
            have h5 : (xs 5) = .bool B1 := hT 5 (by kernel_rfl)
            clear hT
            simp only [zFp, zAp, zLa, zLb, zLc, Nat.reduceAdd, zNz] at hK9 ⊢
            have hw := Flow.hwD HW4.out hb
            (try simp only [h5] at hK9)
            go_simp
            exact hK9 _ _ (Below.refl _ _) rfl
          case s7 =>
            intro xs w' hb hT K9 hK9
            have h6 : (xs 6) = .bool B1 := hT 6 (by kernel_rfl)
            clear hT
            simp only [zFp, zAp, zLa, zLb, zLc, Nat.reduceAdd, zNz] at hK9 ⊢
            have hw := Flow.hwD HW4.out hb
            by_cases hg : (B1) = true
            · rw [hg] at h6
              (try simp only [h6] at hK9)
              go_simp
              exact hK9 _ _ (Below.refl _ _) (fun _ => rfl)
            · have hg' : (B1) = false := eq_false_of_ne_true hg
              rw [hg'] at h6
              (try simp only [h6] at hK9)
              go_simp
              exact hK9 _ _ (Below.refl _ _) (fun h => absurd h hg)
          case s8 =>
            intro xs w' hb hT K9 hK9
            have h6 : (xs 6) = .bool B1 := hT 6 (by kernel_rfl)
            have h7 : (B1) = true → (xs 7) = .pointer (some ⟨ba, 0, none⟩) := hT 7 (by kernel_rfl)
            clear hT
            simp only [zFp, zAp, zLa, zLb, zLc, Nat.reduceAdd, zNz] at hK9 ⊢
            have hw := Flow.hwD HW4.out hb
            by_cases hg : (B1) = true
            · rw [hg] at h6
              replace h7 := h7 hg
              have kb := (hw.block ba (lt_of_block HKA4.out)).trans HKA4.out
              have y0 := block_cell kb 0
              clear kb
              simp at y0
              (try simp only [h6] at hK9)
              (try simp only [h7] at hK9)
              go_simp
              exact hK9 _ _ (Below.refl _ _) (fun _ => rfl)
            · have hg' : (B1) = false := eq_false_of_ne_true hg
              rw [hg'] at h6
              (try simp only [h6] at hK9)
              clear h7
              go_simp
              exact hK9 _ _ (Below.refl _ _) (fun h => absurd h hg)
          case s9 =>
            intro xs w' hb hT K9 hK9
            have h6 : (xs 6) = .bool B1 := hT 6 (by kernel_rfl)
            clear hT
            simp only [zFp, zAp, zLa, zLb, zLc, Nat.reduceAdd, zNz] at hK9 ⊢
            have hw := Flow.hwD HW4.out hb
            by_cases hg : (B1) = true
            · rw [hg] at h6
              (try simp only [h6] at hK9)
              go_simp
              exact hK9 _ _ (Below.refl _ _) (fun _ => rfl)
            · have hg' : (B1) = false := eq_false_of_ne_true hg
              rw [hg'] at h6
              (try simp only [h6] at hK9)
              go_simp
              exact hK9 _ _ (Below.refl _ _) (fun h => absurd h hg)
          case s10 =>
            intro xs w' hb hT K9 hK9
            have h6 : (xs 6) = .bool B1 := hT 6 (by kernel_rfl)
            have h9 : (B1) = true → (xs 9) = .pointer (some ⟨gz, jn * 5, none⟩) := hT 9 (by kernel_rfl)
            clear hT
            simp only [zFp, zAp, zLa, zLb, zLc, Nat.reduceAdd, zNz] at hK9 ⊢
            have hw := Flow.hwD HW4.out hb
            by_cases hg : (B1) = true
            · rw [hg] at h6
              replace h9 := h9 hg
              (try simp only [h6] at hK9)
              (try simp only [h9] at hK9)
              go_simp
              exact hK9 _ _ (Below.refl _ _) (fun _ => rfl)
            · have hg' : (B1) = false := eq_false_of_ne_true hg
              rw [hg'] at h6
              (try simp only [h6] at hK9)
              clear h9
              go_simp
              exact hK9 _ _ (Below.refl _ _) (fun h => absurd h hg)
          case s11 =>
            intro xs w' hb hT K9 hK9
            have h6 : (xs 6) = .bool B1 := hT 6 (by kernel_rfl)
            have h10 : (B1) = true → (xs 10) = .pointer (some ⟨gz, jn * 5, none⟩) := hT 10 (by kernel_rfl)
            clear hT
            simp only [zFp, zAp, zLa, zLb, zLc, Nat.reduceAdd, zNz] at hK9 ⊢
            have hw := Flow.hwD HW4.out hb
            by_cases hg : (B1) = true
            · rw [hg] at h6
              replace h10 := h10 hg
              (try simp only [h6] at hK9)
              (try simp only [h10] at hK9)
              go_simp
              exact hK9 _ _ (Below.refl _ _) (fun _ => rfl)
            · have hg' : (B1) = false := eq_false_of_ne_true hg
              rw [hg'] at h6
              (try simp only [h6] at hK9)
              clear h10
              go_simp
              exact hK9 _ _ (Below.refl _ _) (fun h => absurd h hg)
          case s12 =>
            intro xs w' hb hT K9 hK9
            have h6 : (xs 6) = .bool B1 := hT 6 (by kernel_rfl)
            have h11 : (B1) = true → (xs 11) = .pointer (some ⟨gz, jn * 5 + 1, none⟩) := hT 11 (by kernel_rfl)
            clear hT
            simp only [zFp, zAp, zLa, zLb, zLc, Nat.reduceAdd, zNz] at hK9 ⊢
            have hw := Flow.hwD HW4.out hb
            by_cases hg : (B1) = true
            · rw [hg] at h6
              replace h11 := h11 hg
              (try simp only [h6] at hK9)
              (try simp only [h11] at hK9)
              have y0 := cell_below hw HC4.out.2.1
              go_simp
              exact hK9 _ _ (Below.refl _ _) (fun _ => rfl)
            · have hg' : (B1) = false := eq_false_of_ne_true hg
              rw [hg'] at h6
              (try simp only [h6] at hK9)
              clear h11
              go_simp
              exact hK9 _ _ (Below.refl _ _) (fun h => absurd h hg)
          case s13 =>
            intro xs w' hb hT K9 hK9
            have h6 : (xs 6) = .bool B1 := hT 6 (by kernel_rfl)
            have h8 : (B1) = true → (xs 8) = .slice (some ⟨fb, fo, none⟩) n cf := hT 8 (by kernel_rfl)
            have h12 : (B1) = true → (xs 12) = .int .i64 (fn : Int) := hT 12 (by kernel_rfl)
            clear hT
            simp only [zFp, zAp, zLa, zLb, zLc, Nat.reduceAdd, zNz] at hK9 ⊢
            have hw := Flow.hwD HW4.out hb
            by_cases hg : (B1) = true
            · rw [hg] at h6
              replace h8 := h8 hg
              replace h12 := h12 hg
              (try simp only [h6] at hK9)
              (try simp only [h8] at hK9)
              (try simp only [h12] at hK9)
              go_simp
              exact hK9 _ _ (Below.refl _ _) (fun _ => rfl)
            · have hg' : (B1) = false := eq_false_of_ne_true hg
              rw [hg'] at h6
              (try simp only [h6] at hK9)
              clear h8 h12
              go_simp
              exact hK9 _ _ (Below.refl _ _) (fun h => absurd h hg)
          case s14 =>
            intro xs w' hb hT K9 hK9
            have h6 : (xs 6) = .bool B1 := hT 6 (by kernel_rfl)
            have h13 : (B1) = true → (xs 13) = .pointer (some ⟨fb, fo + fn * 6, none⟩) := hT 13 (by kernel_rfl)
            clear hT
            simp only [zFp, zAp, zLa, zLb, zLc, Nat.reduceAdd, zNz] at hK9 ⊢
            have hw := Flow.hwD HW4.out hb
            by_cases hg : (B1) = true
            · rw [hg] at h6
              replace h13 := h13 hg
              (try simp only [h6] at hK9)
              (try simp only [h13] at hK9)
              go_simp
              exact hK9 _ _ (Below.refl _ _) (fun _ => rfl)
            · have hg' : (B1) = false := eq_false_of_ne_true hg
              rw [hg'] at h6
              (try simp only [h6] at hK9)
              clear h13
              go_simp
              exact hK9 _ _ (Below.refl _ _) (fun h => absurd h hg)
          case s15 =>
            intro xs w' hb hT K9 hK9
            have h6 : (xs 6) = .bool B1 := hT 6 (by kernel_rfl)
            have h14 : (B1) = true → (xs 14) = .pointer (some ⟨fb, fo + fn * 6 + 1, none⟩) := hT 14 (by kernel_rfl)
            clear hT
            simp only [zFp, zAp, zLa, zLb, zLc, Nat.reduceAdd, zNz] at hK9 ⊢
            have hw := Flow.hwD HW4.out hb
            by_cases hg : (B1) = true
            · rw [hg] at h6
              replace h14 := h14 hg
              (try simp only [h6] at hK9)
              (try simp only [h14] at hK9)
              have y0 := cell_below hw HC4.out.2.2
              go_simp
              exact hK9 _ _ (Below.refl _ _) (fun _ => rfl)
            · have hg' : (B1) = false := eq_false_of_ne_true hg
              rw [hg'] at h6
              (try simp only [h6] at hK9)
              clear h14
              go_simp
              exact hK9 _ _ (Below.refl _ _) (fun h => absurd h hg)
          case s16 =>
            intro xs w' hb hT K9 hK9
            have h6 : (xs 6) = .bool B1 := hT 6 (by kernel_rfl)
            have h15 : (B1) = true → (xs 15) = .int .i64 fk := hT 15 (by kernel_rfl)
            clear hT
            simp only [zFp, zAp, zLa, zLb, zLc, Nat.reduceAdd, zNz] at hK9 ⊢
            have hw := Flow.hwD HW4.out hb
            by_cases hg : (B1) = true
            · rw [hg] at h6
              replace h15 := h15 hg
              (try simp only [h6] at hK9)
              (try simp only [h15] at hK9)
              go_simp
              exact hK9 _ _ (Below.refl _ _) (fun _ => (by rw [HBB.out.2]))
            · have hg' : (B1) = false := eq_false_of_ne_true hg
              rw [hg'] at h6
              (try simp only [h6] at hK9)
              clear h15
              go_simp
              exact hK9 _ _ (Below.refl _ _) (fun h => absurd h hg)
          case s17 =>
            intro xs w' hb hT K9 hK9
            have h6 : (xs 6) = .bool B1 := hT 6 (by kernel_rfl)
            have h16 : (B1) = true → (xs 16) = .bool B2 := hT 16 (by kernel_rfl)
            clear hT
            simp only [zFp, zAp, zLa, zLb, zLc, Nat.reduceAdd, zNz] at hK9 ⊢
            have hw := Flow.hwD HW4.out hb
            by_cases hg : (B1) = true
            · rw [hg] at h6
              replace h16 := h16 hg
              (try simp only [h6] at hK9)
              (try simp only [h16] at hK9)
              go_simp
              exact hK9 _ _ (Below.refl _ _) (by simp [ hg])
            · have hg' : (B1) = false := eq_false_of_ne_true hg
              rw [hg'] at h6
              clear h16
              (try simp only [h6] at hK9)
              go_simp
              exact hK9 _ _ (Below.refl _ _) (by simp [ hg'])
          case s18 =>
            intro xs w' hb hT K9 hK9
            have h0 : (xs 0) = .pointer (some ⟨gz, jn * 5, none⟩) := hT 0 (by kernel_rfl)
            clear hT
            simp only [zFp, zAp, zLa, zLb, zLc, Nat.reduceAdd, zNz] at hK9 ⊢
            have hw := Flow.hwD HW4.out hb
            (try simp only [h0] at hK9)
            go_simp
            exact hK9 _ _ (Below.refl _ _) rfl
          case s19 =>
            intro xs w' hb hT K9 hK9
            have h18 : (xs 18) = .pointer (some ⟨gz, jn * 5, none⟩) := hT 18 (by kernel_rfl)
            clear hT
            simp only [zFp, zAp, zLa, zLb, zLc, Nat.reduceAdd, zNz] at hK9 ⊢
            have hw := Flow.hwD HW4.out hb
            (try simp only [h18] at hK9)
            go_simp
            exact hK9 _ _ (Below.refl _ _) rfl
        case fin =>
          intro xs w' hb hT
          have hw := Flow.hwD HW4.out hb
          have h17 : (xs 17) = .bool (B1 && B2) := hT 17 (by rfl)
          have h19 : (xs 19) = .pointer (some ⟨gz, jn * 5 + 4, none⟩) := hT 19 (by rfl)
          clear hT
          simp only [zFp, zAp, zLa, zLb, zLc, Nat.reduceAdd, zNz, FlowR.restL, FlowR.orM, Bool.false_or]
          simp only [h17, h19]
          clear h17 h19 hb
          have hr5 := row_below HR4.out hw
          have x0 : w'.cell? ⟨gz, jn * 5 + 4, none⟩ = some (.bool z.bonus) := by
            rw [World.ownsRow.cellAt hr5 (jn * 5 + 4) (by have := HJ.out.2; omega), HZ.out.1]
            exact zs_at zs jn HZ.out.2.2.2.2.1 4 (by omega)
          have f0 := World.ownsRow.frozenAt hr5 (jn * 5 + 4)
          obtain ⟨ys, hys⟩ : ∃ y, y = moreZ fs zs jn := ⟨_, rfl⟩
          have hbb : (B1 && B2) = ((zs.getD jn Zn.none).kind == 1 && (fs.getD (zs.getD jn Zn.none).feature.toNat Feat.none).kind == 2) := by
            rw [HBB.out.1, HBB.out.2, HZ.out.2.2.1, HZ.out.2.2.2.1, ← HZ.out.1, HZ.out.2.1, Int.toNat_natCast]
          obtain ⟨B3, hB3⟩ : ∃ x, x = (B1 && B2) := ⟨_, rfl⟩
          rw [← hB3] at hbb ⊢
          have hst := (World.ownsRow.stored hr5 (jn * 5 + 4) (.bool B3)).1
          rw [set_cells zs jn HZ.out.2.2.2.2.1 B3, hbb, ← moreZ, ← hys, ← hbb] at hst
          have hyl : ys.length = nz := by rw [hys, moreZ, List.length_set, HN.out.2.1]
          have hb25 := (HB24.out.trans (hw.mono HB24.out.size)).setCell (p := ⟨gz, jn * 5 + 4, none⟩) HX3.out.2.2.2.1 (.bool B3)
          have hm5 := (Below.heap_setCell w' ⟨gz, jn * 5 + 4, none⟩ (.bool B3) bm (fun e => HX3.out.2.2.2.2.2 e.symm)).trans ((hw.block bm (lt_of_block HM4.out)).trans HM4.out)
          have HR5 := Lib.hid hst
          have HB5 := Lib.hid (And.intro hb25 hm5)
          have HY := Lib.hid (And.intro hys hyl)
          clear hr5 hst hys hbb hb25 hm5 hyl hB3 hw
          go_upto_region 6 with fail
          obtain ⟨w5, hw5⟩ : ∃ x, x = w'.setCell ⟨gz, jn * 5 + 4, none⟩ (.bool B3) := ⟨_, rfl⟩
          rw [← hw5] at HR5 HB5 ⊢
          clear hw5 x0 f0 hta hwa1 hwa2 hj0 hj1 hf0 hf1
          have HBA5 := Lib.hid (HB2.out.trans (HB5.out.1.mono HB2.out.size))
          have HSY := Lib.hid (show SchemeIn w5 (some ⟨fb, fo, none⟩) cf (some ⟨gz, 0, none⟩) czz fs ys from by
            have h1 := HR5.out
            rw [← HY.out.2] at h1
            obtain ⟨ao, c, e, hz⟩ := zrow_read h1
            cases e
            exact ⟨(HS.out.below HBA5.out).feats, hz⟩)
          have HKA5 := Lib.hid ((HB5.out.1.block ba (lt_of_block HKA2.out)).trans HKA2.out)
          have kk := HKA5.out
          have s0 := block_cell kk 0
          have s1 := block_cell kk 1
          simp at s0 s1
          clear kk
          go_wp2_with fail
          refine (HVA.out w5 (HS.out.below HBA5.out)).mono ?_
          rintro e w6 ⟨v6, rfl, hr6, -, hb6⟩
          obtain ⟨a6, c6, rfl, hd6⟩ := dims_read (hr6 (by first | trivial | rfl))
          have hdb := dims_bound HCK.out.1
          rw [← HN.out.2.2.2.1] at hdb
          have hd48 : D.length = (varsTo fs zs fs.length).length ∧ D.length ≤ 48 := by
            have h1 := vars_len fs zs fs.length
            have h2 := HCK.out.2.1
            rw [HN.out.2.2.2.1, show (dimsTo fs zs).length = (varsTo fs zs fs.length).length by unfold dimsTo; rw [List.length_map]]
            exact ⟨rfl, by omega⟩
          have HB6 := Lib.hid (HBA5.out.trans (hb6.mono HBA5.out.size))
          have hvl := HVL.out w6 (HG.out.below HB6.out) a6 c6 hd6 (by omega) hdb (HP.out.below HB6.out)
          obtain ⟨L1, hL1⟩ : ∃ x, x = valTexts D P 0 D.length := ⟨_, rfl⟩
          have hok := vals_ok hdb P (mv := 0) (by omega) (by omega)
          have hok2 := noms_ok (D := D) fun j hj => (hdb j hj).1
          have hll : L1.length = D.length := by rw [hL1, valTexts_len]
          rw [← hL1] at hvl hok
          obtain ⟨dl, hdl⟩ : ∃ x, x = D.length := ⟨_, rfl⟩
          rw [← hdl] at hvl hll hd48 hok2 ⊢
          have HVL6 := Lib.hid hvl
          have HD6 := Lib.hid hd6
          have HL1 := Lib.hid (And.intro hll (And.intro hok.1 hok.2))
          have HL2 := Lib.hid (And.intro hok2.1 hok2.2)
          have HDB := Lib.hid hdb
          have HDL := Lib.hid (And.intro hdl hd48)
          have HB56 := Lib.hid hb6
          have HA1 := Lib.hid (ans_of HCK.out.1 (hll.trans hd48.1) hok.1)
          have HA2 := Lib.hid (more_ans HCK.out.1 HZ.out.2.2.2.2.1 (hll.trans hd48.1) hok.1)
          have HA3 := Lib.hid (And.intro (ans_of HCK.out.1 ((nomTexts_len D dl).trans hd48.1) hok2.1).1 (fun h0 => nominal_ans HCK.out.1 h0))
          have hd48' : dl ≤ 48 := hd48.2
          clear hr6 hd6 hdb hd48 hb6 hvl hL1 hok hok2 hll hdl s0 s1
          go_wp2_with fail
          refine HVL6.out.mono ?_
          rintro e w7 ⟨v7, rfl, hr7, hb7⟩
          rw [← HL1.out.1] at hr7
          obtain ⟨a7, c7, e7, ht7⟩ := txt_row hr7
          rw [HL1.out.1] at e7
          subst e7
          have HB67 := Lib.hid hb7
          have HB57 := Lib.hid (HB56.out.trans (hb7.mono HB56.out.size))
          have HBA7 := Lib.hid (HBA5.out.trans (HB57.out.mono HBA5.out.size))
          have hh1 := HHO.out w7 (HG.out.below HBA7.out) (HS.out.below HBA7.out) L1 a7 c7 ht7 HL1.out.2.2
          rw [HL1.out.1, HA1.out.1] at hh1
          obtain ⟨A1, hA1⟩ : ∃ x, x = (holdsAns fs zs L1).1 := ⟨_, rfl⟩
          obtain ⟨N1, hN1⟩ : ∃ x, x = (holdsAns fs zs L1).2 := ⟨_, rfl⟩
          rw [← hA1, ← hN1] at hh1
          have HH1 := Lib.hid hh1
          have HT7 := Lib.hid ht7
          have HE1 := Lib.hid hA1
          have HKA7 := Lib.hid ((HB57.out.block ba (lt_of_block HKA5.out)).trans HKA5.out)
          have kk := HKA7.out
          have s0 := block_cell kk 0
          have s1 := block_cell kk 1
          simp at s0 s1
          clear kk hr7 ht7 hb7 hh1 hA1 hN1
          go_wp2_with fail
          refine HH1.out.mono ?_
          rintro e w8 ⟨rfl, hb8⟩
          have hb8' := Lib.hid hb8
          have HB58 := Lib.hid (HB57.out.trans (hb8.mono HB57.out.size))
          have HBA8 := Lib.hid (HBA5.out.trans (HB58.out.mono HBA5.out.size))
          have hh2 := HHY.out w8 (HG.out.below HBA8.out) (some ⟨gz, 0, none⟩) czz ys (HSY.out.below HB58.out) L1 a7 c7 (HT7.out.below hb8) HL1.out.2.2
          rw [HL1.out.1, HY.out.2, show holdsErr fs ys L1 = 0 by rw [HY.out.1]; exact HA2.out.1] at hh2
          obtain ⟨A2, hA2⟩ : ∃ x, x = (holdsAns fs ys L1).1 := ⟨_, rfl⟩
          obtain ⟨N2, hN2⟩ : ∃ x, x = (holdsAns fs ys L1).2 := ⟨_, rfl⟩
          rw [← hA2, ← hN2] at hh2
          have HH2 := Lib.hid hh2
          have HI1 := Lib.hid (show A1 = true → A2 = true by
            rw [HE1.out, hA2, HY.out.1]
            exact HA2.out.2)
          have kk := (HB58.out.block bm (lt_of_block HB5.out.2)).trans HB5.out.2
          have m0 := block_cell kk 0
          have m1 := block_cell kk 1
          simp at m0 m1
          clear kk hb8 hh2 hA2 hN2 s0 s1
          go_wp2_with fail
          refine HH2.out.mono ?_
          rintro e w9 ⟨rfl, hb9⟩
          have HB59 := Lib.hid (HB58.out.trans (hb9.mono HB58.out.size))
          have HBA9 := Lib.hid (HBA5.out.trans (HB59.out.mono HBA5.out.size))
          have HD9 := Lib.hid (HD6.out.below ((HB67.out.trans (hb8'.out.mono HB67.out.size)).trans (hb9.mono (HB67.out.trans (hb8'.out.mono HB67.out.size)).size)))
          have hcd : dl ≤ c6 ∧ c6 ≤ 9223372036854775807 := by rw [HDL.out.1]; exact ⟨HD6.out.1, HD6.out.2.1⟩
          obtain ⟨i0, hi, hz0, hz1, hz2⟩ := info_parts infoNumber
          have HI := Lib.hid (And.intro hi (And.intro hz0 (And.intro hz1 hz2)))
          clear hb9 m0 m1 hi hz0 hz1 hz2
          go_wp2_with fail
          go_loopg [18, 100] dl (fun gk v x wr => ∃ k : Nat, k + gk = dl ∧ x = .int .i64 k ∧ Hid (wr.ownsRow w9.heap.size 40 1 v k ((nomTexts D k).map Value.string)) ∧ Hid (Below w9.heap.size w9 wr))
          case atStart => exact ⟨0, by omega, rfl, Lib.hid (World.ownsRow_nil _ _ _ _), Lib.hid (Below.refl _ _)⟩
          case round =>
            obtain ⟨k, hk, rfl, hrow, hbw⟩ := hrel
            by_cases hlt : k < dl
            · have e1 : ((k : Int) < (dl : Int)) = True := eq_true (by omega)
              obtain ⟨db, dof, rfl, -, hdc⟩ := HD9.out.2.2 (by have := HDL.out.1; omega)
              obtain ⟨d, hdd⟩ : ∃ x, x = D.getD k Dm.none := ⟨_, rfl⟩
              have hx := hdc k (by have := HDL.out.1; omega)
              have hdb := (HDB.out k (by have := HDL.out.1; omega)).1
              rw [← hdd] at hx hdb
              have x0 := cell_below hbw.out hx.1
              have x1 := cell_below hbw.out hx.2.1
              have x2 := cell_below hbw.out hx.2.2.1
              have x3 := cell_below hbw.out hx.2.2.2
              have hk0 : (0 : Int) ≤ (k : Int) := by omega
              have hk1 : (k : Int) < (dl : Int) := by omega
              have HDD := Lib.hid (And.intro hdd (And.intro hdb hlt))
              clear hdc hdd hx hdb hlt
              go_upto_region 16 with fail
              obtain ⟨wb, hwb⟩ : ∃ x, x = wr.alloc (.cells #[.string d.name, .int .i64 d.nominal, .int .i64 d.lower, .int .i64 d.upper] 60) := ⟨_, rfl⟩
              obtain ⟨bd, hbd⟩ : ∃ b, b = wr.heap.size := ⟨_, rfl⟩
              rw [← hwb, ← hbd]
              have hl1 : Below wr.heap.size wr wb := by rw [hwb]; exact (Below.refl _ wr).alloc (Nat.le_refl _) _
              have kd : wb.heap[bd]? = some (.cells #[.string d.name, .int .i64 d.nominal, .int .i64 d.lower, .int .i64 d.upper] 60 (0, 0)) := by rw [hwb, hbd]; exact heap_alloc_new wr _
              have y1 := block_cell kd 1
              simp at y1
              have HR1 := Lib.hid (row_below hrow.out hl1)
              have HB1' := Lib.hid (hbw.out.trans (hl1.mono hbw.out.size))
              clear hwb hbd hl1 kd x0 x1 x2 x3 hk0 hk1 hrow hbw
              go_wp2_with fail
              refine (ratFrom_any (n := d.nominal) (by have := HDD.out.2.1; omega) (by have := HDD.out.2.1; omega)).mono ?_
              rintro e wc ⟨vr, rfl, hrr, hbc⟩
              have HRR := Lib.hid hrr
              have HR2 := Lib.hid (row_below HR1.out hbc)
              have HB2' := Lib.hid (HB1'.out.trans (hbc.mono HB1'.out.size))
              clear hrr hbc y1
              go_wp2_with fail
              refine (Number_any HRR.out (by omega) (HG.out.below (HBA9.out.trans (HB2'.out.mono HBA9.out.size)))).mono ?_
              rintro e wd ⟨rfl, hbd⟩
              obtain ⟨S, hS⟩ : ∃ x, x = (⟨(numText (d.nominal : Rat)).toArray⟩ : ByteArray) := ⟨_, rfl⟩
              rw [← hS]
              have HVT := Lib.hid (show ((nomTexts D (k + 1)).map Value.string) = ((nomTexts D k).map Value.string) ++ [.string S] by rw [nomTexts_succ, List.map_append, ← HDD.out.1, hS]; rfl)
              have HR3 := Lib.hid (row_below HR2.out hbd)
              have HB3' := Lib.hid (HB2'.out.trans (hbd.mono HB2'.out.size))
              clear hS hbd
              go_wp2_with (at_builtin; refine wpList_append_own _ rfl _ _ 37 rfl w9.heap.size 40 i0 _ 1 16 Tryz.underlying37 HI.out.1 HI.out.2.1 HI.out.2.2.1 HI.out.2.2.2 rfl (by decide) _ _ _ rfl (World.ownsRow.alloc HR3.out _) ⟨wd.heap.size, 0, none⟩ 1 1 [.string S] rfl rfl ?c1 ?c2 ?c3 ?c4 ?c5 ?_)
              case c1 => exact World.news_of_block (heap_alloc_new wd _)
              case c2 => simp [Value.oneCell']
              case c3 => have := HDD.out.2.2; unfold maxLen; omega
              case c4 => have := HDD.out.2.2; omega
              case c5 => have := HB3'.out.size; simp; omega
              intro v2 we hown2 hg2 _
              have hb2 := (HB3'.out.alloc (by have := HB3'.out.size; omega) (.cells #[.string S] 40)).grown hg2 (by have := HB3'.out.size; simp; omega) (fun q e => (World.ownsRow.lt HR3.out q e).1)
              have H7 := Lib.hid (And.intro hown2 hb2)
              clear hown2 hg2 hb2
              go_wp2_with fail
              go_roundg (dl - (k + 1))
              case measure => have := HDD.out.2.2; omega
              case rel => exact ⟨k + 1, by have := HDD.out.2.2; omega, by congr 1, Lib.hid (by rw [HVT.out]; exact H7.out.1), Lib.hid H7.out.2⟩
            · have e1 : ((k : Int) < (dl : Int)) = False := eq_false (by omega)
              obtain rfl : k = dl := by omega
              have hr := hrow.out
              obtain ⟨L2, hL2⟩ : ∃ x, x = nomTexts D k := ⟨_, rfl⟩
              have hl2 : L2.length = k := by rw [hL2, nomTexts_len]
              rw [← hL2, ← hl2] at hr
              obtain ⟨a8, c8, e8, ht8⟩ := txt_row hr
              rw [hl2] at e8
              subst e8
              have HBW := Lib.hid (HBA9.out.trans (hbw.out.mono HBA9.out.size))
              have HB5W := Lib.hid (HB59.out.trans (hbw.out.mono HB59.out.size))
              have hh3 := HHO.out wr (HG.out.below HBW.out) (HS.out.below HBW.out) L2 a8 c8 ht8 (by rw [hL2]; exact HL2.out.2)
              rw [hl2, show holdsErr fs zs L2 = 0 by rw [hL2]; exact HA3.out.1] at hh3
              obtain ⟨A3, hA3⟩ : ∃ x, x = (holdsAns fs zs L2).1 := ⟨_, rfl⟩
              obtain ⟨N3, hN3⟩ : ∃ x, x = (holdsAns fs zs L2).2 := ⟨_, rfl⟩
              rw [← hA3, ← hN3] at hh3
              have HH3 := Lib.hid hh3
              have HI3 := Lib.hid (show OZ = false → A3 = true by
                rw [HN.out.2.2.2.2.1, hA3, hL2, HDL.out.1, HN.out.2.2.2.1]
                exact HA3.out.2)
              have HKW := Lib.hid ((HB5W.out.block ba (lt_of_block HKA5.out)).trans HKA5.out)
              have kk := HKW.out
              have s0 := block_cell kk 0
              have s1 := block_cell kk 1
              simp at s0 s1
              clear kk hr hL2 hl2 ht8 hh3 hA3 hN3 hrow hbw
              go_wp2_with fail
              refine HH3.out.mono ?_
              rintro e wf ⟨rfl, hbf⟩
              have HBF := Lib.hid (HBW.out.trans (hbf.mono HBW.out.size))
              have kk := (hbf.block ba (lt_of_block HKW.out)).trans HKW.out
              have s0 := block_cell kk 0
              have s1 := block_cell kk 1
              simp at s0 s1
              clear kk hbf
              go_wp2_with fail
              refine (HOZ.out wf (HS.out.below HBF.out) (by have h1 := HCK.out.2.2; have h2 := HN.out.2.1; omega)).mono ?_
              rintro e wh ⟨rfl, hbh⟩
              have HBH := Lib.hid (HBF.out.trans (hbh.mono HBF.out.size))
              clear hbh s0 s1
              cases A1 <;> cases A2 <;> cases A3 <;> cases OZ <;> first
                | exact absurd (HI1.out rfl) (by decide)
                | exact absurd (HI3.out rfl) (by decide)
                | (go_wp2_with fail
                   go_ret
                   exact ⟨rfl, HAL.out.trans (HBH.out.mono HAL.out.size)⟩)
end Go.Proofs.YtgofihilkobenaaGreatDoor
