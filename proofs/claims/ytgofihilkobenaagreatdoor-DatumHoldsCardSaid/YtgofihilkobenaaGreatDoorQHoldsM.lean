/- The model's holds. -/
import Derived.Test.YtgofihilkobenaaGreatDoorHSmallM
import Derived.Test.YtgofihilkobenaaGreatDoorKQ
import Derived.Test.YtgofihilkobenaaGreatDoorKU
set_option maxRecDepth 100000
namespace Go.Proofs.YtgofihilkobenaaGreatDoor
open List renaming setIfInBounds_toArray → zLa, set_cons_zero → zLb, set_cons_succ → zLc
open FlowR renaming putSel → zFp
open Act renaming put → zAp
open Nat renaming zero_add → zNz
open Go.RowKit Go.Num Go.Flow Go.Dtm
set_option maxHeartbeats 8000000
set_option linter.unusedVariables false

theorem dims_at {fs : List Feat} {zs : List Zn} {m : Nat} {i : Nat} {k : Int} (h : varAt (varsTo fs zs fs.length) (i : Int) k = (m : Int)) : (dimsTo fs zs).getD m Dm.none = dimOf fs zs (i, k) ∧ m < (varsTo fs zs fs.length).length := by
 unfold varAt at h
 rcases pos_cases (fun j => isVar (i : Int) k ((varsTo fs zs fs.length).getD j (0, 0))) (varsTo fs zs fs.length).length 0 with ⟨a, -⟩ | ⟨j, a, -, b, c, -⟩
 ·omega
 ·obtain rfl : j = m := by omega
  have hj : j < (varsTo fs zs fs.length).length := by omega
  refine ⟨?_, hj⟩
  unfold isVar at c
  rw [Bool.and_eq_true, decide_eq_true_iff, decide_eq_true_iff, List.getD_eq_getElem?_getD, List.getElem?_eq_getElem hj] at c
  have e : (varsTo fs zs fs.length)[j] = (i, k) := by
   have h3 : (((varsTo fs zs fs.length)[j]).1 : Int) = (i : Int) := c.1
   have h4 : ((varsTo fs zs fs.length)[j]).2 = k := c.2
   exact Prod.ext (by omega) h4
  unfold dimsTo
  rw [List.getD_eq_getElem?_getD, List.getElem?_map, List.getElem?_eq_getElem hj, e]
  rfl
theorem dims_nth {fs : List Feat} {zs : List Zn} {m : Nat} {q : Nat × Int} (hm : m < (varsTo fs zs fs.length).length) (hq : q = (varsTo fs zs fs.length).getD m (0, 0)) : (dimsTo fs zs).getD m Dm.none = dimOf fs zs q := by
 unfold dimsTo
 rw [hq, List.getD_eq_getElem?_getD, List.getElem?_map, List.getElem?_eq_getElem hm, List.getD_eq_getElem?_getD, List.getElem?_eq_getElem hm]
 rfl
theorem keeps_not {fs : List Feat} {zs : List Zn} {V : List (Nat × Int)} {rs : List Rat} {z : Zn} {dq mq : Rat} (hd : dq = devOf fs V rs z) (hm : mq = moreOf fs zs V rs z) : (!keepsZ fs zs V rs z) = (decide (cmpQ dq ((z.lower : Rat) - mq) < 0) || decide (0 < cmpQ dq ((z.upper : Rat) + mq))) := by
 unfold keepsZ
 rw [← hd, ← hm, Bool.not_and]
 congr 1
 ·rw [← decide_not]; exact decide_eq_decide.2 (by omega)
 ·rw [← decide_not]; exact decide_eq_decide.2 (by omega)
theorem qholds_any {w : World} {af : Option Addr} {cf : Nat} {az : Option Addr} {cz : Nat} {fs : List Feat} {zs : List Zn} (h : SchemeIn w af cf az cz fs zs) (hck : check fs zs = 0) {ar : Option Addr} {cr : Nat} {rs : List Rat} {M : Nat} (hr : RatsAt w ar cr rs M) (hM : 2 ≤ M) (hM2 : M ≤ 100000) (hrl : rs.length = (varsTo fs zs fs.length).length) :
  Calls Tryz.prog 23 #[.agg #[.slice af fs.length cf, .slice az zs.length cz], .slice ar rs.length cr] w fun e w' => e = .returned (.tuple #[.bool (holdsQ fs zs rs).1, .int .i64 (holdsQ fs zs rs).2]) ∧ Below w.heap.size w w' := by
 have hsm := check_small hck
 have hvl := vars_len fs zs fs.length
 have hqv := fun (W : World) (hW : SchemeIn W af cf az cz fs zs) => qvariables_any hW hck
 have hqa := fun (W : World) (hW : SchemeIn W af cf az cz fs zs) (i k : Int) => qat_any hW hck i k
 have hqz := fun (W : World) (hW : SchemeIn W af cf az cz fs zs) (i k : Int) => qzone_any hW (by omega) i k
 obtain ⟨V, hV⟩ : ∃ x, x = varsTo fs zs fs.length := ⟨_, rfl⟩
 obtain ⟨D, hD⟩ : ∃ x, x = dimsTo fs zs := ⟨_, rfl⟩
 obtain ⟨HQ, hHQ⟩ : ∃ x, x = holdsQ fs zs rs := ⟨_, rfl⟩
 obtain ⟨n, hn⟩ : ∃ n, n = fs.length := ⟨_, rfl⟩
 obtain ⟨nz, hnz⟩ : ∃ n, n = zs.length := ⟨_, rfl⟩
 obtain ⟨nr, hnr⟩ : ∃ n, n = rs.length := ⟨_, rfl⟩
 have hdl : D.length = nr := by rw [hD, hnr, hrl]; unfold dimsTo; rw [List.length_map]
 have hvr : V.length = nr := by rw [hV, hnr, hrl]
 have hnr48 : nr ≤ 48 := by rw [← hvr, hV]; omega
 simp only [← hV, ← hD, hdl, hvr] at hqv
 simp only [← hV] at hqa
 simp only [← hn, ← hnz] at hqv hqa
 simp only [← hn, ← hnz] at hqz
 obtain ⟨wa, hwa⟩ : ∃ wa, wa = w.alloc (.cells #[.slice af n cf, .slice az nz cz] 26) := ⟨_, rfl⟩
 obtain ⟨ba, hba⟩ : ∃ b, b = w.heap.size := ⟨_, rfl⟩
 have hal : Below w.heap.size w wa := by rw [hwa]; exact (Below.refl _ w).alloc (Nat.le_refl _) _
 have k0 : wa.heap[ba]? = some (.cells #[.slice af n cf, .slice az nz cz] 26 (0, 0)) := by rw [hwa, hba]; exact heap_alloc_new w _
 have s0 := block_cell k0 0
 have s1 := block_cell k0 1
 simp at s0 s1
 have hcap2 : nz ≤ cz ∧ cz ≤ 9223372036854775807 := by rw [hnz]; exact ⟨h.zones.1, h.zones.2.1⟩
 have hcr : nr ≤ cr ∧ cr ≤ 9223372036854775807 := by rw [hnr]; exact ⟨hr.1, hr.2.1⟩
 have HQV := Lib.hid (hqv wa (h.below hal))
 have HQA := Lib.hid hqa
 have HQZ := Lib.hid hqz
 have HSA := Lib.hid (h.below hal)
 have HRA := Lib.hid (hr.below hal)
 have HKA := Lib.hid k0
 have HAL := Lib.hid hal
 have HCK := Lib.hid hck
 have HB := Lib.hid (And.intro hM hM2)
 have HN := Lib.hid (And.intro hn (And.intro hnz (And.intro hnr (And.intro hdl (And.intro hvr (And.intro hV (And.intro hD (And.intro hnr48 hsm))))))))
 have HHQ := Lib.hid hHQ
 have HW := Lib.hid (And.intro hwa hba)
 rw [← hHQ, ← hn, ← hnz, ← hnr]
 clear hsm hvl hqv hqa hqz hV hD hHQ hn hnz hnr hdl hvr hnr48 hwa hba hal k0 h hr hck hM hM2 hrl
 go_enter Tryz.func23, Tryz.ntmps23
 go_upto_region 1 with fail
 rw [← HW.out.1, ← HW.out.2]
 clear HW
 go_wp2_with fail
 refine HQV.out.mono ?_
 rintro e w1 ⟨vd, vk, rfl, hdr, hkr, hb1⟩
 obtain ⟨ad, cd, rfl, hdi⟩ := dims_read (l := D) (by rw [HN.out.2.2.2.1]; exact hdr)
 obtain ⟨ak, ck, rfl, hki⟩ := keys_read (l := V) (by rw [HN.out.2.2.2.2.1]; exact hkr)
 rw [HN.out.2.2.2.1] at hdr
 rw [HN.out.2.2.2.2.1] at hkr
 rw [HN.out.2.2.2.1, HN.out.2.2.2.2.1]
 have hcd : nr ≤ cd ∧ cd ≤ 9223372036854775807 := by rw [← HN.out.2.2.2.1]; exact ⟨hdi.1, hdi.2.1⟩
 have hckk : nr ≤ ck ∧ ck ≤ 9223372036854775807 := by rw [← HN.out.2.2.2.2.1]; exact ⟨hki.1, hki.2.1⟩
 have HDI := Lib.hid hdi.2.2
 have HKI := Lib.hid hki.2.2
 have HA1 := Lib.hid (HAL.out.trans (hb1.mono HAL.out.size))
 have HS1 := Lib.hid (HSA.out.below hb1)
 have HR1 := Lib.hid (HRA.out.below hb1)
 have HK1 := Lib.hid ((hb1.block ba (lt_of_block HKA.out)).trans HKA.out)
 have kk := HK1.out
 have s0 := block_cell kk 0
 have s1 := block_cell kk 1
 simp at s0 s1
 clear hdr hkr hb1 hdi hki kk HQV HSA HRA HKA
 obtain ⟨p, hp⟩ : ∃ p, p = badZone fs zs rs := ⟨_, rfl⟩
 have HP := Lib.hid hp
 clear hp
 go_wp2_with fail
 go_loopg [26] nz (fun gk x wr => ∃ k : Nat, k + gk = nz ∧ x = .int .i64 k ∧ Hid (∀ j, j < k → p j = false) ∧ Hid (Below w1.heap.size w1 wr))
 case atStart => exact ⟨0, by omega, rfl, Lib.hid (fun j hj => absurd hj (by omega)), Lib.hid (Below.refl _ _)⟩
 case round =>
  clear s0 s1
  obtain ⟨k, hk, rfl, hno, hbw⟩ := hrel
  have kk := (hbw.out.block ba (lt_of_block HK1.out)).trans HK1.out
  have s0 := block_cell kk 0
  have s1 := block_cell kk 1
  simp at s0 s1
  clear kk
  by_cases hlt : k < nz
  ·have e1 : ((k : Int) < (nz : Int)) = True := eq_true (by omega)
   obtain ⟨bzz, oz, rfl, -, hzc⟩ := HS1.out.zones.2.2 (by have := HN.out.2.1; omega)
   obtain ⟨z, hz⟩ : ∃ z, z = zs.getD k Zn.none := ⟨_, rfl⟩
   have hzr := zone_right HCK.out (show k < zs.length by have := HN.out.2.1; omega)
   have hzv := zone_vars HCK.out (show k < zs.length by have := HN.out.2.1; omega)
   have hx := hzc k (by have := HN.out.2.1; omega)
   rw [← hz] at hx hzr hzv
   rw [← HN.out.2.2.2.2.2.1] at hzv
   have z0 := cell_below hbw.out hx.1
   have z1 := cell_below hbw.out hx.2.1
   have z2 := cell_below hbw.out hx.2.2.1
   have z3 := cell_below hbw.out hx.2.2.2.1
   have z4 := cell_below hbw.out hx.2.2.2.2
   have hk0 : (0 : Int) ≤ (k : Int) := by omega
   have hk1 : (k : Int) < (nz : Int) := by omega
   obtain ⟨kf, hkf⟩ : ∃ i : Nat, z.feature = (i : Int) := ⟨z.feature.toNat, by omega⟩
   obtain ⟨m1, hm1⟩ : ∃ i : Nat, varAt V z.feature z.kind = (i : Int) := ⟨(varAt V z.feature z.kind).toNat, by omega⟩
   rw [hkf] at z1 hzr hzv hm1
   have hda := dims_at (fs := fs) (zs := zs) (i := kf) (k := z.kind) (m := m1) (by rw [← HN.out.2.2.2.2.2.1]; exact hm1)
   rw [← HN.out.2.2.2.2.2.1, HN.out.2.2.2.2.1, ← HN.out.2.2.2.2.2.2.1] at hda
   obtain ⟨nom, hnom⟩ : ∃ x, x = nominalOf fs kf z.kind := ⟨_, rfl⟩
   have hnb := nominal_bound HCK.out (show kf < fs.length by omega) z.kind
   rw [← hnom] at hnb
   have hdn : (D.getD m1 Dm.none).nominal = nom := by rw [hda.1, hnom]; rfl
   obtain ⟨bb, hbb⟩ : ∃ b, b = z.bonus := ⟨_, rfl⟩
   rw [← hbb] at z4
   have HZ := Lib.hid (And.intro hz (And.intro hzr (And.intro hzv (And.intro hkf (And.intro hm1 (And.intro hda.2 (And.intro hnom (And.intro hnb (And.intro hdn hbb)))))))))
   have HLT := Lib.hid hlt
   clear hzc hz hzr hzv hx hkf hm1 hda hnom hnb hdn hbb hlt
   go_upto_region 5 with fail
   obtain ⟨w2, hw2⟩ : ∃ x, x = wr.alloc (.cells #[.int .i64 z.kind, .int .i64 (kf : Int), .int .i64 z.lower, .int .i64 z.upper, .bool bb] 30) := ⟨_, rfl⟩
   obtain ⟨bz, hbz⟩ : ∃ b, b = wr.heap.size := ⟨_, rfl⟩
   rw [← hw2, ← hbz]
   have hl2 : Below wr.heap.size wr w2 := by rw [hw2]; exact (Below.refl _ wr).alloc (Nat.le_refl _) _
   have kz : w2.heap[bz]? = some (.cells #[.int .i64 z.kind, .int .i64 (kf : Int), .int .i64 z.lower, .int .i64 z.upper, .bool bb] 30 (0, 0)) := by rw [hw2, hbz]; exact heap_alloc_new wr _
   have HB2 := Lib.hid (hbw.out.trans (hl2.mono hbw.out.size))
   have HKZ := Lib.hid kz
   have y0 := block_cell kz 0
   have y1 := block_cell kz 1
   simp at y0 y1
   have s0 := cell_below hl2 s0
   have s1 := cell_below hl2 s1
   clear hw2 hbz hl2 kz z0 z1 z2 z3 z4 hk0 hk1 hbw
   go_wp2_with fail
   refine (HQA.out w2 (HS1.out.below HB2.out) (kf : Int) z.kind).mono ?_
   rintro e w3 ⟨rfl, hb3⟩
   rw [HZ.out.2.2.2.2.1]
   have HB3 := Lib.hid (HB2.out.trans (hb3.mono HB2.out.size))
   have HKZ3 := Lib.hid ((hb3.block bz (lt_of_block HKZ.out)).trans HKZ.out)
   clear hb3 y0 y1 s0 s1 HB2 HKZ
   obtain ⟨rb, ro, rfl, hrl, hrc⟩ := HR1.out.2.2 (by have h1 := HZ.out.2.2.2.2.2.1; have h2 := HN.out.2.2.1; omega)
   obtain ⟨db, dof, rfl, hdl, hdc⟩ := HDI.out (by have h1 := HZ.out.2.2.2.2.2.1; have h2 := HN.out.2.2.2.1; omega)
   have HRC := Lib.hid hrc
   have HDC := Lib.hid hdc
   obtain ⟨q1, hq1⟩ : ∃ x, x = rs.getD m1 0 := ⟨_, rfl⟩
   have hx := (hrc m1 (by have h1 := HZ.out.2.2.2.2.2.1; have h2 := HN.out.2.2.1; omega)).below HB3.out
   rw [← hq1] at hx
   obtain ⟨s1', a1, c1, l1, s2', a2, c2, l2, y0, y1, y2, y3, hrt⟩ := hx
   have HY := Lib.hid (And.intro y0 (And.intro y1 (And.intro y2 y3)))
   have HRT := Lib.hid hrt
   have hn1 := cell_below HB3.out (hdc m1 (by have h1 := HZ.out.2.2.2.2.2.1; have h2 := HN.out.2.2.2.1; omega)).2.1
   rw [HZ.out.2.2.2.2.2.2.2.2.1] at hn1
   have HNM := Lib.hid hn1
   have HMB := Lib.hid (show (0 : Int) ≤ (m1 : Int) ∧ (m1 : Int) < (nr : Int) by have h1 := HZ.out.2.2.2.2.2.1; omega)
   obtain ⟨dq, hdq⟩ : ∃ x, x = q1 - (nom : Rat) := ⟨_, rfl⟩
   have HDQ := Lib.hid hdq
   have HDV := Lib.hid (show dq = devOf fs V rs z by
    unfold devOf
    rw [HZ.out.2.2.2.1, HZ.out.2.2.2.2.1, Int.toNat_natCast, Int.toNat_natCast, ← HZ.out.2.2.2.2.2.2.1, ← hq1, hdq])
   obtain ⟨mq, hmq⟩ : ∃ x, x = moreOf fs zs V rs z := ⟨_, rfl⟩
   have HMQ := Lib.hid hmq
   have HW3 := Lib.hid (Below.refl w3.heap.size w3)
   clear hrl hdl hrc hdc hq1 y0 y1 y2 y3 hrt hn1 hdq hmq
   go_upto_region 6 with fail
   refine FlowR.wp_region_sel (fun a b => Below a.heap.size a b) (fun a => Below.refl _ a) (fun _ _ _ h k => h.trans (k.mono h.size)) [0, 1, 2, 3, 4, 5, 6, 7, 8, 9, 10, 11] [false, false, false, false, false, false, false, false, false, false, false, false, false] [true, true, true, true, true, true, true, true, true, true, true, true, false] (fun i9 v w' => match i9 with
    | 0 => v = .slice (some ⟨rb, ro, none⟩) nr cr
    | 1 => v = .int .i64 (m1 : Int)
    | 2 => v = .pointer (some ⟨rb, ro + m1 * 4, none⟩)
    | 3 => v = .agg #[.bool s1', .slice a1 c1 l1, .bool s2', .slice a2 c2 l2]
    | 4 => v = .slice (some ⟨db, dof, none⟩) nr cd
    | 5 => v = .int .i64 (m1 : Int)
    | 6 => v = .pointer (some ⟨db, dof + m1 * 4, none⟩)
    | 7 => v = .pointer (some ⟨db, dof + m1 * 4 + 1, none⟩)
    | 8 => v = .int .i64 nom
    | 9 => RtIn w' v (nom : Rat) 2
    | 10 => RtIn w' v dq (M + 2 + 1)
    | _ => ∃ b, v = .pointer (some ⟨b, 0, none⟩) ∧ w'.heap[b]? = some (.cells #[.bool false, .slice none 0 0, .bool false, .slice none 0 0] 65 (0, 0)) ∧ w3.heap.size ≤ b) rfl rfl (by kernel_rfl) (by kernel_rfl) (by kernel_rfl) (by kernel_rfl) ?st ?steps ?fin
   case st =>
    intro i9 v u1 u2 h hb
    match i9 with
    | 0 => exact h
    | 1 => exact h
    | 2 => exact h
    | 3 => exact h
    | 4 => exact h
    | 5 => exact h
    | 6 => exact h
    | 7 => exact h
    | 8 => exact h
    | 9 => exact (show RtIn u1 v (nom : Rat) 2 from h).below hb
    | 10 => exact (show RtIn u1 v dq (M + 2 + 1) from h).below hb
    | 11 => exact by obtain ⟨b, e, hk, hl⟩ := (show ∃ b, v = .pointer (some ⟨b, 0, none⟩) ∧ u1.heap[b]? = some (.cells #[.bool false, .slice none 0 0, .bool false, .slice none 0 0] 65 (0, 0)) ∧ w3.heap.size ≤ b from h); exact ⟨b, e, (hb.block b (lt_of_block hk)).trans hk, hl⟩
    | _ + 12 => exact by obtain ⟨b, e, hk, hl⟩ := (show ∃ b, v = .pointer (some ⟨b, 0, none⟩) ∧ u1.heap[b]? = some (.cells #[.bool false, .slice none 0 0, .bool false, .slice none 0 0] 65 (0, 0)) ∧ w3.heap.size ≤ b from h); exact ⟨b, e, (hb.block b (lt_of_block hk)).trans hk, hl⟩
   case steps =>
    refine Flow.Steps.cons (FlowR.Step.of rfl ?s0) (Flow.Steps.cons (FlowR.Step.of rfl ?s1) (Flow.Steps.cons (FlowR.Step.of rfl ?s2) (Flow.Steps.cons (FlowR.Step.of rfl ?s3) (Flow.Steps.cons (FlowR.Step.of rfl ?s4) (Flow.Steps.cons (FlowR.Step.of rfl ?s5) (Flow.Steps.cons (FlowR.Step.of rfl ?s6) (Flow.Steps.cons (FlowR.Step.of rfl ?s7) (Flow.Steps.cons (FlowR.Step.of rfl ?s8) (Flow.Steps.cons (FlowR.Step.of rfl ?s9) (Flow.Steps.cons (FlowR.Step.of rfl ?s10) (Flow.Steps.cons (FlowR.Step.of rfl ?s11) Flow.Steps.nil)))))))))))
    case s0 =>
     intro xs w' hb hT K9 hK9
     clear hT
     simp only [zFp, zAp, zLa, zLb, zLc, Nat.reduceAdd, zNz] at hK9 ⊢
     have hw := Flow.hwD HW3.out hb
     go_simp
     exact hK9 _ _ (Below.refl _ _) rfl
    case s1 =>
     intro xs w' hb hT K9 hK9
     clear hT
     simp only [zFp, zAp, zLa, zLb, zLc, Nat.reduceAdd, zNz] at hK9 ⊢
     have hw := Flow.hwD HW3.out hb
     go_simp
     exact hK9 _ _ (Below.refl _ _) rfl
    case s2 =>
     intro xs w' hb hT K9 hK9
     have h0 : (xs 0) = .slice (some ⟨rb, ro, none⟩) nr cr := hT 0 (by kernel_rfl)
     have h1 : (xs 1) = .int .i64 (m1 : Int) := hT 1 (by kernel_rfl)
     clear hT
     simp only [zFp, zAp, zLa, zLb, zLc, Nat.reduceAdd, zNz] at hK9 ⊢
     have hw := Flow.hwD HW3.out hb
     (try simp only [h0] at hK9)
     (try simp only [h1] at hK9)
     have g0 := HMB.out.1
     have g1 := HMB.out.2
     go_simp
     exact hK9 _ _ (Below.refl _ _) rfl
    case s3 =>
     intro xs w' hb hT K9 hK9
     have h2 : (xs 2) = .pointer (some ⟨rb, ro + m1 * 4, none⟩) := hT 2 (by kernel_rfl)
     clear hT
     simp only [zFp, zAp, zLa, zLb, zLc, Nat.reduceAdd, zNz] at hK9 ⊢
     have hw := Flow.hwD HW3.out hb
     (try simp only [h2] at hK9)
     have y0 := cell_below hw HY.out.1
     have y1 := cell_below hw HY.out.2.1
     have y2 := cell_below hw HY.out.2.2.1
     have y3 := cell_below hw HY.out.2.2.2
     go_simp
     exact hK9 _ _ (Below.refl _ _) rfl
    case s4 =>
     intro xs w' hb hT K9 hK9
     clear hT
     simp only [zFp, zAp, zLa, zLb, zLc, Nat.reduceAdd, zNz] at hK9 ⊢
     have hw := Flow.hwD HW3.out hb
     go_simp
     exact hK9 _ _ (Below.refl _ _) rfl
    case s5 =>
     intro xs w' hb hT K9 hK9
     clear hT
     simp only [zFp, zAp, zLa, zLb, zLc, Nat.reduceAdd, zNz] at hK9 ⊢
     have hw := Flow.hwD HW3.out hb
     go_simp
     exact hK9 _ _ (Below.refl _ _) rfl
    case s6 =>
     intro xs w' hb hT K9 hK9
     have h4 : (xs 4) = .slice (some ⟨db, dof, none⟩) nr cd := hT 4 (by kernel_rfl)
     have h5 : (xs 5) = .int .i64 (m1 : Int) := hT 5 (by kernel_rfl)
     clear hT
     simp only [zFp, zAp, zLa, zLb, zLc, Nat.reduceAdd, zNz] at hK9 ⊢
     have hw := Flow.hwD HW3.out hb
     (try simp only [h4] at hK9)
     (try simp only [h5] at hK9)
     have g0 := HMB.out.1
     have g1 := HMB.out.2
     go_simp
     exact hK9 _ _ (Below.refl _ _) rfl
    case s7 =>
     intro xs w' hb hT K9 hK9
     have h6 : (xs 6) = .pointer (some ⟨db, dof + m1 * 4, none⟩) := hT 6 (by kernel_rfl)
     clear hT
     simp only [zFp, zAp, zLa, zLb, zLc, Nat.reduceAdd, zNz] at hK9 ⊢
     have hw := Flow.hwD HW3.out hb
     (try simp only [h6] at hK9)
     go_simp
     exact hK9 _ _ (Below.refl _ _) rfl
    case s8 =>
     intro xs w' hb hT K9 hK9
     have h7 : (xs 7) = .pointer (some ⟨db, dof + m1 * 4 + 1, none⟩) := hT 7 (by kernel_rfl)
     clear hT
     simp only [zFp, zAp, zLa, zLb, zLc, Nat.reduceAdd, zNz] at hK9 ⊢
     have hw := Flow.hwD HW3.out hb
     (try simp only [h7] at hK9)
     have y0 := cell_below hw HNM.out
     go_simp
     exact hK9 _ _ (Below.refl _ _) rfl
    case s9 =>
     intro xs w' hb hT K9 hK9
     have h8 : (xs 8) = .int .i64 nom := hT 8 (by kernel_rfl)
     clear hT
     simp only [zFp, zAp, zLa, zLb, zLc, Nat.reduceAdd, zNz] at hK9 ⊢
     have hw := Flow.hwD HW3.out hb
     (try simp only [h8] at hK9)
     go_simp
     go_at_call 26
     refine (ratFrom_any (by have := HZ.out.2.2.2.2.2.2.2.1; omega) (by have := HZ.out.2.2.2.2.2.2.2.1; omega)).mono ?_
     rintro e w3 ⟨v3, rfl, hi3, hb3⟩
     exact hK9 _ _ hb3 hi3
    case s10 =>
     intro xs w' hb hT K9 hK9
     have h3 : (xs 3) = .agg #[.bool s1', .slice a1 c1 l1, .bool s2', .slice a2 c2 l2] := hT 3 (by kernel_rfl)
     have h9 : RtIn w' (xs 9) (nom : Rat) 2 := hT 9 (by kernel_rfl)
     clear hT
     simp only [zFp, zAp, zLa, zLb, zLc, Nat.reduceAdd, zNz] at hK9 ⊢
     have hw := Flow.hwD HW3.out hb
     (try simp only [h3] at hK9)
     go_simp
     go_at_call 70
     refine (ratSub_any (HRT.out.below hw) h9 HB.out.1 (Nat.le_refl 2) (by have := HB.out.2; omega)).mono ?_
     rintro e w3 ⟨v3, rfl, hi3, hb3⟩
     exact hK9 _ _ hb3 (by rw [HDQ.out]; exact hi3)
    case s11 =>
     intro xs w' hb hT K9 hK9
     clear hT
     simp only [zFp, zAp, zLa, zLb, zLc, Nat.reduceAdd, zNz] at hK9 ⊢
     have hw := Flow.hwD HW3.out hb
     go_simp
     exact hK9 _ _ ((Below.refl _ _).alloc (Nat.le_refl _) _) ⟨_, rfl, heap_alloc_new _ _, hw.size⟩
   case fin =>
    intro xs w' hb hT
    have hw := Flow.hwD HW3.out hb
    have h10 : RtIn w' (xs 10) dq (M + 2 + 1) := hT 10 (by rfl)
    have h11 : ∃ b, (xs 11) = .pointer (some ⟨b, 0, none⟩) ∧ w'.heap[b]? = some (.cells #[.bool false, .slice none 0 0, .bool false, .slice none 0 0] 65 (0, 0)) ∧ w3.heap.size ≤ b := hT 11 (by rfl)
    clear hT
    simp only [zFp, zAp, zLa, zLb, zLc, Nat.reduceAdd, zNz, FlowR.restL, FlowR.orM, Bool.false_or]
    obtain ⟨bd, e8, k8, hl8⟩ := h11
    obtain ⟨t1, b1, d1, o1, t2, b2, d2, o2, e9⟩ := rt_shape h10
    rw [e9] at h10
    simp only [e8, e9]
    clear e8 e9
    have x0 := block_cell k8 0
    have x1 := block_cell k8 1
    have x2 := block_cell k8 2
    have x3 := block_cell k8 3
    have f0 := block_free k8 0
    have f1 := block_free k8 1
    have f2 := block_free k8 2
    have f3 := block_free k8 3
    simp at x0 x1 x2 x3
    have hd := h10.but (nodig4 k8) (But.set4 (b := bd) w' (.bool t1) (.slice b1 d1 o1) (.bool t2) (.slice b2 d2 o2))
    have hkd := four_set k8 (.bool t1) (.slice b1 d1 o1) (.bool t2) (.slice b2 d2 o2)
    have hbd := ((((hw.setCell (p := ⟨bd, 0, none⟩) hl8 (.bool t1)).setCell (p := ⟨bd, 1, none⟩) hl8 (.slice b1 d1 o1)).setCell (p := ⟨bd, 2, none⟩) hl8 (.bool t2)).setCell (p := ⟨bd, 3, none⟩) hl8 (.slice b2 d2 o2))
    have HD := Lib.hid (And.intro hd (And.intro hkd hbd))
    clear h10 k8 hd hkd hbd hl8 hw hb
    go_upto_region 7 with fail
    obtain ⟨w4, hw4⟩ : ∃ x, x = ((((w'.setCell ⟨bd, 0, none⟩ (.bool t1)).setCell ⟨bd, 1, none⟩ (.slice b1 d1 o1)).setCell ⟨bd, 2, none⟩ (.bool t2)).setCell ⟨bd, 3, none⟩ (.slice b2 d2 o2)) := ⟨_, rfl⟩
    rw [← hw4] at HD ⊢
    clear hw4 x0 x1 x2 x3 f0 f1 f2 f3
    generalize xs 10 = x10 at *
    generalize xs = xs0 at *
    go_wp2_with fail
    refine (ratFrom_any (n := 0) (by omega) (by omega)).mono ?_
    rintro e w5 ⟨v5, rfl, hr5, hb5⟩
    obtain ⟨u1, g1, i1, j1, u2, g2, i2, j2, rfl⟩ := rt_shape hr5
    have HD5 := Lib.hid (And.intro (HD.out.1.below hb5) ((hb5.block bd (lt_of_block HD.out.2.1)).trans HD.out.2.1))
    have HB5 := Lib.hid (HD.out.2.2.trans (hb5.mono HD.out.2.2.size))
    go_upto_region 8 with fail
    obtain ⟨w6, hw6⟩ : ∃ x, x = w5.alloc (.cells #[.bool u1, .slice g1 i1 j1, .bool u2, .slice g2 i2 j2] 65) := ⟨_, rfl⟩
    obtain ⟨b9, hb9⟩ : ∃ b, b = w5.heap.size := ⟨_, rfl⟩
    rw [← hw6, ← hb9]
    have hl6 : Below w5.heap.size w5 w6 := by rw [hw6]; exact (Below.refl _ w5).alloc (Nat.le_refl _) _
    have k9 : w6.heap[b9]? = some (.cells #[.bool u1, .slice g1 i1 j1, .bool u2, .slice g2 i2 j2] 65 (0, 0)) := by rw [hw6, hb9]; exact heap_alloc_new w5 _
    have HB6 := Lib.hid (HB5.out.trans (hl6.mono HB5.out.size))
    have HD6 := Lib.hid (And.intro (HD5.out.1.below hl6) ((hl6.block bd (lt_of_block HD5.out.2)).trans HD5.out.2))
    have HR6 := Lib.hid (show RtIn w6 (.agg #[.bool u1, .slice g1 i1 j1, .bool u2, .slice g2 i2 j2]) (0 : Rat) 2 from hr5.below hl6)
    have HK9 := Lib.hid k9
    have HG9 := Lib.hid (show w3.heap.size ≤ b9 ∧ bd ≠ b9 by
     have h1 := HB5.out.size
     have h2 := lt_of_block HD5.out.2
     omega)
    have kz3 := (HB6.out.block bz (lt_of_block HKZ3.out)).trans HKZ3.out
    have z4 := block_cell kz3 4
    simp at z4
    clear hw6 hb9 hl6 k9 HD HD5 HB5 kz3 hr5 hb5
    go_upto_if 50 with fail
    go_cut [13, 14, 15] from 27 to 69 (fun _ _ _ wx => (∃ p1 g1 i1 j1 p2 g2 i2 j2, wx.heap[b9]? = some (.cells #[.bool p1, .slice g1 i1 j1, .bool p2, .slice g2 i2 j2] 65 (0, 0)) ∧ RtIn wx (.agg #[.bool p1, .slice g1 i1 j1, .bool p2, .slice g2 i2 j2]) mq (M + 2 + 1)) ∧ (RtIn wx (.agg #[.bool t1, .slice b1 d1 o1, .bool t2, .slice b2 d2 o2]) dq (M + 2 + 1) ∧ wx.heap[bd]? = some (.cells #[.bool t1, .slice b1 d1 o1, .bool t2, .slice b2 d2 o2] 65 (0, 0))) ∧ Below w3.heap.size w3 wx)
    case first =>
     cases hbo : bb with
     | false =>
      go_wp2_with fail
      go_meet
      have hq0 : mq = 0 := by rw [HMQ.out, moreOf, if_neg (by rw [← HZ.out.2.2.2.2.2.2.2.2.2, hbo]; decide)]
      refine ⟨⟨_, _, _, _, _, _, _, _, HK9.out, ?_⟩, HD6.out, HB6.out⟩
      rw [hq0]
      exact HR6.out.more (by have := HB.out.1; omega)
     | true =>
      have HBO := Lib.hid (HZ.out.2.2.2.2.2.2.2.2.2.symm.trans hbo)
      have u0 := HZ.out.2.2.1.2 HBO.out
      obtain ⟨m2, hm2⟩ : ∃ i : Nat, varAt V (kf : Int) 2 = (i : Int) := ⟨(varAt V (kf : Int) 2).toNat, by omega⟩
      have hda := dims_at (fs := fs) (zs := zs) (i := kf) (k := 2) (m := m2) (by rw [← HN.out.2.2.2.2.2.1]; exact hm2)
      rw [← HN.out.2.2.2.2.2.1, HN.out.2.2.2.2.1, ← HN.out.2.2.2.2.2.2.1] at hda
      have hkfn : kf < fs.length := by have := HZ.out.2.1.2.1; omega
      have hfw := (feat_right HCK.out hkfn).2.2.2
      have hzb := zoneOf_bound HCK.out (kf : Int) 2
      obtain ⟨d, hd⟩ : ∃ x, x = D.getD m2 Dm.none := ⟨_, rfl⟩
      have hd2 : d = ⟨(fs.getD kf Feat.none).name ++ (⟨#[46, 115, 105, 122, 101]⟩ : ByteArray), (fs.getD kf Feat.none).wide, (zoneOf zs (kf : Int) 2).lower, (zoneOf zs (kf : Int) 2).upper⟩ := by rw [hd, hda.1, dim_size HCK.out]
      have hdb : (-1000000000 ≤ d.nominal ∧ d.nominal ≤ 1000000000) ∧ (-1000000000 ≤ d.lower ∧ d.lower ≤ 1000000000) ∧ (-1000000000 ≤ d.upper ∧ d.upper ≤ 1000000000) ∧ (-600000000 ≤ d.nominal + d.lower ∧ d.nominal + d.lower ≤ 600000000) := by
       rw [hd2]
       simp only []
       omega
      obtain ⟨q2, hq2⟩ : ∃ x, x = rs.getD m2 0 := ⟨_, rfl⟩
      obtain ⟨lw, hlw⟩ : ∃ x, x = d.nominal + d.lower := ⟨_, rfl⟩
      have HQ2 := Lib.hid (show mq = q2 - ((lw : Int) : Rat) by
       rw [HMQ.out, moreOf, if_pos HBO.out, HZ.out.2.2.2.1, hm2, Int.toNat_natCast, Int.toNat_natCast, hq2, hlw, hd2])
      have HDB := Lib.hid (And.intro hdb hlw)
      have HM2 := Lib.hid (And.intro hm2 hda.2)
      have HMB2 := Lib.hid (show (0 : Int) ≤ (m2 : Int) ∧ (m2 : Int) < (nr : Int) by have h1 := hda.2; omega)
      have kka := (HB3.out.trans (HB6.out.mono HB3.out.size)).block ba (lt_of_block HK1.out) |>.trans HK1.out
      have s0 := block_cell kka 0
      have s1 := block_cell kka 1
      have z1 := block_cell ((HB6.out.block bz (lt_of_block HKZ3.out)).trans HKZ3.out) 1
      simp at s0 s1 z1
      have hdc := HDC.out m2 (by rw [HN.out.2.2.2.1]; exact hda.2)
      rw [← hd] at hdc
      have HDD := Lib.hid hdc
      rw [hbo] at z4
      clear hbo u0 hm2 hda hkfn hfw hzb hd hd2 hdb hlw kka hdc
      go_wp2_with fail
      refine (HQA.out w6 (HS1.out.below (HB3.out.trans (HB6.out.mono HB3.out.size))) (kf : Int) 2).mono ?_
      rintro e w7 ⟨rfl, hb7⟩
      rw [HM2.out.1]
      have HB7 := Lib.hid (HB6.out.trans (hb7.mono HB6.out.size))
      have HD7 := Lib.hid (And.intro (HD6.out.1.below hb7) ((hb7.block bd (lt_of_block HD6.out.2)).trans HD6.out.2))
      have HK97 := Lib.hid ((hb7.block b9 (lt_of_block HK9.out)).trans HK9.out)
      have HB17 := Lib.hid (HB3.out.trans (HB7.out.mono HB3.out.size))
      have d0 := cell_below HB17.out HDD.out.1
      have d1 := cell_below HB17.out HDD.out.2.1
      have d2 := cell_below HB17.out HDD.out.2.2.1
      have d3 := cell_below HB17.out HDD.out.2.2.2
      have hmi0 := HMB2.out.1
      have hmi1 := HMB2.out.2
      clear hb7 s0 s1 z1 z4
      go_wp2_with fail
      refine (mRange_any (W := w7) d HDB.out.1.1 HDB.out.1.2.1 HDB.out.1.2.2.1).mono ?_
      rintro e w8 ⟨rfl, hb8⟩
      rw [← HDB.out.2]
      have HB8 := Lib.hid (HB7.out.trans (hb8.mono HB7.out.size))
      have HD8 := Lib.hid (And.intro (HD7.out.1.below hb8) ((hb8.block bd (lt_of_block HD7.out.2)).trans HD7.out.2))
      have HK98 := Lib.hid ((hb8.block b9 (lt_of_block HK97.out)).trans HK97.out)
      have hx := (HRC.out m2 (by have h1 := HMB2.out.2; have h2 := HN.out.2.2.1; omega)).below (HB3.out.trans (HB8.out.mono HB3.out.size))
      rw [← hq2] at hx
      obtain ⟨r1, e1', f1', g1', r2, e2', f2', g2', y0, y1, y2, y3, hrt2⟩ := hx
      have HYY := Lib.hid (And.intro y0 (And.intro y1 (And.intro y2 y3)))
      have HRT2 := Lib.hid hrt2
      have HW8 := Lib.hid (Below.refl w8.heap.size w8)
      clear hb8 d0 d1 d2 d3 hmi0 hmi1 hq2 y0 y1 y2 y3 hrt2
      go_upto_region 11 with fail
      refine FlowR.wp_region_sel (fun a b => Below a.heap.size a b) (fun a => Below.refl _ a) (fun _ _ _ h k => h.trans (k.mono h.size)) [0, 1, 2, 3, 4, 5, 6] [false, false, false, false, false, false, false, false] [true, true, true, true, true, true, true, false] (fun i9 v w' => match i9 with
       | 0 => v = .slice (some ⟨rb, ro, none⟩) nr cr
       | 1 => v = .int .i64 (m2 : Int)
       | 2 => v = .pointer (some ⟨rb, ro + m2 * 4, none⟩)
       | 3 => v = .agg #[.bool r1, .slice e1' f1' g1', .bool r2, .slice e2' f2' g2']
       | 4 => v = .int .i64 lw
       | 5 => RtIn w' v ((lw : Int) : Rat) 2
       | _ => RtIn w' v mq (M + 2 + 1)) rfl rfl (by kernel_rfl) (by kernel_rfl) (by kernel_rfl) (by kernel_rfl) ?st ?steps ?fin
      case st =>
       intro i9 v u1 u2 h hb
       match i9 with
       | 0 => exact h
       | 1 => exact h
       | 2 => exact h
       | 3 => exact h
       | 4 => exact h
       | 5 => exact (show RtIn u1 v ((lw : Int) : Rat) 2 from h).below hb
       | 6 => exact (show RtIn u1 v mq (M + 2 + 1) from h).below hb
       | _ + 7 => exact (show RtIn u1 v mq (M + 2 + 1) from h).below hb
      case steps =>
       refine Flow.Steps.cons (FlowR.Step.of rfl ?s0) (Flow.Steps.cons (FlowR.Step.of rfl ?s1) (Flow.Steps.cons (FlowR.Step.of rfl ?s2) (Flow.Steps.cons (FlowR.Step.of rfl ?s3) (Flow.Steps.cons (FlowR.Step.of rfl ?s4) (Flow.Steps.cons (FlowR.Step.of rfl ?s5) (Flow.Steps.cons (FlowR.Step.of rfl ?s6) Flow.Steps.nil))))))
       case s0 =>
        intro xs w' hb hT K9 hK9
        clear hT
        simp only [zFp, zAp, zLa, zLb, zLc, Nat.reduceAdd, zNz] at hK9 ⊢
        have hw := Flow.hwD HW8.out hb
        go_simp
        exact hK9 _ _ (Below.refl _ _) rfl
       case s1 =>
        intro xs w' hb hT K9 hK9
        clear hT
        simp only [zFp, zAp, zLa, zLb, zLc, Nat.reduceAdd, zNz] at hK9 ⊢
        have hw := Flow.hwD HW8.out hb
        go_simp
        exact hK9 _ _ (Below.refl _ _) rfl
       case s2 =>
        intro xs w' hb hT K9 hK9
        have h0 : (xs 0) = .slice (some ⟨rb, ro, none⟩) nr cr := hT 0 (by kernel_rfl)
        have h1 : (xs 1) = .int .i64 (m2 : Int) := hT 1 (by kernel_rfl)
        clear hT
        simp only [zFp, zAp, zLa, zLb, zLc, Nat.reduceAdd, zNz] at hK9 ⊢
        have hw := Flow.hwD HW8.out hb
        (try simp only [h0] at hK9)
        (try simp only [h1] at hK9)
        have g0 := HMB2.out.1
        have g9 := HMB2.out.2
        go_simp
        exact hK9 _ _ (Below.refl _ _) rfl
       case s3 =>
        intro xs w' hb hT K9 hK9
        have h2 : (xs 2) = .pointer (some ⟨rb, ro + m2 * 4, none⟩) := hT 2 (by kernel_rfl)
        clear hT
        simp only [zFp, zAp, zLa, zLb, zLc, Nat.reduceAdd, zNz] at hK9 ⊢
        have hw := Flow.hwD HW8.out hb
        (try simp only [h2] at hK9)
        have y0 := cell_below hw HYY.out.1
        have y1 := cell_below hw HYY.out.2.1
        have y2 := cell_below hw HYY.out.2.2.1
        have y3 := cell_below hw HYY.out.2.2.2
        go_simp
        exact hK9 _ _ (Below.refl _ _) rfl
       case s4 =>
        intro xs w' hb hT K9 hK9
        clear hT
        simp only [zFp, zAp, zLa, zLb, zLc, Nat.reduceAdd, zNz] at hK9 ⊢
        have hw := Flow.hwD HW8.out hb
        go_simp
        exact hK9 _ _ (Below.refl _ _) rfl
       case s5 =>
        intro xs w' hb hT K9 hK9
        have h4 : (xs 4) = .int .i64 lw := hT 4 (by kernel_rfl)
        clear hT
        simp only [zFp, zAp, zLa, zLb, zLc, Nat.reduceAdd, zNz] at hK9 ⊢
        have hw := Flow.hwD HW8.out hb
        (try simp only [h4] at hK9)
        go_simp
        go_at_call 26
        refine (ratFrom_any (by have h1 := HDB.out; omega) (by have h1 := HDB.out; omega)).mono ?_
        rintro e w3 ⟨v3, rfl, hi3, hb3⟩
        exact hK9 _ _ hb3 hi3
       case s6 =>
        intro xs w' hb hT K9 hK9
        have h3 : (xs 3) = .agg #[.bool r1, .slice e1' f1' g1', .bool r2, .slice e2' f2' g2'] := hT 3 (by kernel_rfl)
        have h5 : RtIn w' (xs 5) ((lw : Int) : Rat) 2 := hT 5 (by kernel_rfl)
        clear hT
        simp only [zFp, zAp, zLa, zLb, zLc, Nat.reduceAdd, zNz] at hK9 ⊢
        have hw := Flow.hwD HW8.out hb
        (try simp only [h3] at hK9)
        go_simp
        go_at_call 70
        refine (ratSub_any (HRT2.out.below hw) h5 HB.out.1 (Nat.le_refl 2) (by have := HB.out.2; omega)).mono ?_
        rintro e w3 ⟨v3, rfl, hi3, hb3⟩
        exact hK9 _ _ hb3 (by rw [HQ2.out]; exact hi3)
      case fin =>
       intro xs w' hb hT
       have hw := Flow.hwD HW8.out hb
       have h6 : RtIn w' (xs 6) mq (M + 2 + 1) := hT 6 (by rfl)
       clear hT
       simp only [zFp, zAp, zLa, zLb, zLc, Nat.reduceAdd, zNz, FlowR.restL, FlowR.orM, Bool.false_or]
       obtain ⟨p1, g3, i3, j3, p2, g4, i4, j4, e9⟩ := rt_shape h6
       rw [e9] at h6
       simp only [e9]
       clear e9
       have k9 := (hw.block b9 (lt_of_block HK98.out)).trans HK98.out
       have x0 := block_cell k9 0
       have x1 := block_cell k9 1
       have x2 := block_cell k9 2
       have x3 := block_cell k9 3
       have f0 := block_free k9 0
       have f1 := block_free k9 1
       have f2 := block_free k9 2
       have f3 := block_free k9 3
       simp at x0 x1 x2 x3
       have hbut := But.set4 (b := b9) w' (.bool p1) (.slice g3 i3 j3) (.bool p2) (.slice g4 i4 j4)
       have hd := h6.but (nodig4 k9) hbut
       have hkd := four_set k9 (.bool p1) (.slice g3 i3 j3) (.bool p2) (.slice g4 i4 j4)
       have hdd := (HD8.out.1.below hw).but (nodig4 k9) hbut
       have hkdd := (hbut.block bd HG9.out.2 (lt_of_block ((hw.block bd (lt_of_block HD8.out.2)).trans HD8.out.2))).trans ((hw.block bd (lt_of_block HD8.out.2)).trans HD8.out.2)
       have hbd := (((((HB8.out.trans (hw.mono HB8.out.size)).setCell (p := ⟨b9, 0, none⟩) HG9.out.1 (.bool p1)).setCell (p := ⟨b9, 1, none⟩) HG9.out.1 (.slice g3 i3 j3)).setCell (p := ⟨b9, 2, none⟩) HG9.out.1 (.bool p2)).setCell (p := ⟨b9, 3, none⟩) HG9.out.1 (.slice g4 i4 j4))
       have HF := Lib.hid (And.intro hkd (And.intro hd (And.intro hdd (And.intro hkdd hbd))))
       clear h6 k9 hd hkd hdd hkdd hbd hbut hw hb
       go_wp2_with fail
       go_meet
       exact ⟨⟨_, _, _, _, _, _, _, _, HF.out.1, HF.out.2.1⟩, ⟨HF.out.2.2.1, HF.out.2.2.2.1⟩, HF.out.2.2.2.2⟩
    case rest =>
     obtain ⟨⟨p1, g3, i3, j3, p2, g4, i4, j4, hk9, hr9⟩, ⟨hrd, hkd⟩, hb⟩ := hcut
     have HK6 := Lib.hid hk9
     have HR6' := Lib.hid hr9
     have HRD6 := Lib.hid hrd
     have HKD6 := Lib.hid hkd
     have HB6' := Lib.hid hb
     have HKZ6 := Lib.hid ((hb.block bz (lt_of_block HKZ3.out)).trans HKZ3.out)
     have HW6 := Lib.hid (Below.refl wc.heap.size wc)
     obtain ⟨B1, hB1⟩ : ∃ x, x = decide (cmpQ dq ((z.lower : Rat) - mq) < 0) := ⟨_, rfl⟩
     obtain ⟨B2, hB2⟩ : ∃ x, x = decide (0 < cmpQ dq ((z.upper : Rat) + mq)) := ⟨_, rfl⟩
     have HBB := Lib.hid (And.intro hB1 hB2)
     have HRM := Lib.hid (show p k = (B1 || B2) by
      rw [HP.out]
      unfold badZone
      rw [← HZ.out.1, ← HN.out.2.2.2.2.2.1, keeps_not HDV.out HMQ.out, hB1, hB2])
     clear hk9 hr9 hrd hkd hb z4 hB1 hB2
     go_upto_region 12 with fail
     refine FlowR.wp_region_sel (fun a b => Below a.heap.size a b) (fun a => Below.refl _ a) (fun _ _ _ h k => h.trans (k.mono h.size)) [0, 1, 2, 3, 4, 5, 6, 7, 8, 9, 10, 11, 12, 13, 14, 15, 16, 17] [false, false, false, false, false, false, false, false, false, false, false, false, false, false, false, false, false, false] [true, true, true, true, true, true, true, true, true, true, true, true, true, true, true, true, true, true] (fun i9 v w' => match i9 with
      | 0 => v = .agg #[.bool t1, .slice b1 d1 o1, .bool t2, .slice b2 d2 o2]
      | 1 => v = .pointer (some ⟨bz, 2, none⟩)
      | 2 => v = .int .i64 z.lower
      | 3 => RtIn w' v (z.lower : Rat) 2
      | 4 => v = .agg #[.bool p1, .slice g3 i3 j3, .bool p2, .slice g4 i4 j4]
      | 5 => RtIn w' v ((z.lower : Rat) - mq) (2 + (M + 2 + 1) + 1)
      | 6 => v = .int .i64 (cmpQ dq ((z.lower : Rat) - mq))
      | 7 => v = .bool (B1)
      | 8 => v = .bool (B1)
      | 9 => (B1) = false → v = .agg #[.bool t1, .slice b1 d1 o1, .bool t2, .slice b2 d2 o2]
      | 10 => (B1) = false → v = .pointer (some ⟨bz, 3, none⟩)
      | 11 => (B1) = false → v = .int .i64 z.upper
      | 12 => (B1) = false → RtIn w' v (z.upper : Rat) 2
      | 13 => (B1) = false → v = .agg #[.bool p1, .slice g3 i3 j3, .bool p2, .slice g4 i4 j4]
      | 14 => (B1) = false → RtIn w' v ((z.upper : Rat) + mq) (2 + (M + 2 + 1) + 1)
      | 15 => (B1) = false → v = .int .i64 (cmpQ dq ((z.upper : Rat) + mq))
      | 16 => (B1) = false → v = .bool (B2)
      | _ => v = .bool (B1 || B2)) rfl rfl (by kernel_rfl) (by kernel_rfl) (by kernel_rfl) (by kernel_rfl) ?st ?steps ?fin
     case st =>
      intro i9 v u1 u2 h hb
      match i9 with
      | 0 => exact h
      | 1 => exact h
      | 2 => exact h
      | 3 => exact (show RtIn u1 v (z.lower : Rat) 2 from h).below hb
      | 4 => exact h
      | 5 => exact (show RtIn u1 v ((z.lower : Rat) - mq) (2 + (M + 2 + 1) + 1) from h).below hb
      | 6 => exact h
      | 7 => exact h
      | 8 => exact h
      | 9 => exact h
      | 10 => exact h
      | 11 => exact h
      | 12 => exact fun hq => ((show (B1) = false → RtIn u1 v (z.upper : Rat) 2 from h) hq).below hb
      | 13 => exact h
      | 14 => exact fun hq => ((show (B1) = false → RtIn u1 v ((z.upper : Rat) + mq) (2 + (M + 2 + 1) + 1) from h) hq).below hb
      | 15 => exact h
      | 16 => exact h
      | 17 => exact h
      | _ + 18 => exact h
     case steps =>
      refine Flow.Steps.cons (FlowR.Step.of rfl ?s0) (Flow.Steps.cons (FlowR.Step.of rfl ?s1) (Flow.Steps.cons (FlowR.Step.of rfl ?s2) (Flow.Steps.cons (FlowR.Step.of rfl ?s3) (Flow.Steps.cons (FlowR.Step.of rfl ?s4) (Flow.Steps.cons (FlowR.Step.of rfl ?s5) (Flow.Steps.cons (FlowR.Step.of rfl ?s6) (Flow.Steps.cons (FlowR.Step.of rfl ?s7) (Flow.Steps.cons (FlowR.Step.of rfl ?s8) (Flow.Steps.cons (FlowR.Step.of rfl ?s9) (Flow.Steps.cons (FlowR.Step.of rfl ?s10) (Flow.Steps.cons (FlowR.Step.of rfl ?s11) (Flow.Steps.cons (FlowR.Step.of rfl ?s12) (Flow.Steps.cons (FlowR.Step.of rfl ?s13) (Flow.Steps.cons (FlowR.Step.of rfl ?s14) (Flow.Steps.cons (FlowR.Step.of rfl ?s15) (Flow.Steps.cons (FlowR.Step.of rfl ?s16) (Flow.Steps.cons (FlowR.Step.of rfl ?s17) Flow.Steps.nil)))))))))))))))))
      case s0 =>
       intro xs w' hb hT K9 hK9
       clear hT
       simp only [zFp, zAp, zLa, zLb, zLc, Nat.reduceAdd, zNz] at hK9 ⊢
       have hw := Flow.hwD HW6.out hb
       have kb := (hw.block bd (lt_of_block HKD6.out)).trans HKD6.out
       have y0 := block_cell kb 0
       have y1 := block_cell kb 1
       have y2 := block_cell kb 2
       have y3 := block_cell kb 3
       clear kb
       simp at y0 y1 y2 y3
       go_simp
       exact hK9 _ _ (Below.refl _ _) rfl
      case s1 =>
       intro xs w' hb hT K9 hK9
       clear hT
       simp only [zFp, zAp, zLa, zLb, zLc, Nat.reduceAdd, zNz] at hK9 ⊢
       have hw := Flow.hwD HW6.out hb
       go_simp
       exact hK9 _ _ (Below.refl _ _) rfl
      case s2 =>
       intro xs w' hb hT K9 hK9
       have h1 : (xs 1) = .pointer (some ⟨bz, 2, none⟩) := hT 1 (by kernel_rfl)
       clear hT
       simp only [zFp, zAp, zLa, zLb, zLc, Nat.reduceAdd, zNz] at hK9 ⊢
       have hw := Flow.hwD HW6.out hb
       have kb := (hw.block bz (lt_of_block HKZ6.out)).trans HKZ6.out
       have y0 := block_cell kb 2
       clear kb
       simp at y0
       (try simp only [h1] at hK9)
       go_simp
       exact hK9 _ _ (Below.refl _ _) rfl
      case s3 =>
       intro xs w' hb hT K9 hK9
       have h2 : (xs 2) = .int .i64 z.lower := hT 2 (by kernel_rfl)
       clear hT
       simp only [zFp, zAp, zLa, zLb, zLc, Nat.reduceAdd, zNz] at hK9 ⊢
       have hw := Flow.hwD HW6.out hb
       (try simp only [h2] at hK9)
       go_simp
       go_at_call 26
       refine (ratFrom_any (by have := HZ.out.2.1; omega) (by have := HZ.out.2.1; omega)).mono ?_
       rintro e w3 ⟨v3, rfl, hi3, hb3⟩
       exact hK9 _ _ hb3 hi3
      case s4 =>
       intro xs w' hb hT K9 hK9
       clear hT
       simp only [zFp, zAp, zLa, zLb, zLc, Nat.reduceAdd, zNz] at hK9 ⊢
       have hw := Flow.hwD HW6.out hb
       have kb := (hw.block b9 (lt_of_block HK6.out)).trans HK6.out
       have y0 := block_cell kb 0
       have y1 := block_cell kb 1
       have y2 := block_cell kb 2
       have y3 := block_cell kb 3
       clear kb
       simp at y0 y1 y2 y3
       go_simp
       exact hK9 _ _ (Below.refl _ _) rfl
      case s5 =>
       intro xs w' hb hT K9 hK9
       have h3 : RtIn w' (xs 3) (z.lower : Rat) 2 := hT 3 (by kernel_rfl)
       have h4 : (xs 4) = .agg #[.bool p1, .slice g3 i3 j3, .bool p2, .slice g4 i4 j4] := hT 4 (by kernel_rfl)
       clear hT
       simp only [zFp, zAp, zLa, zLb, zLc, Nat.reduceAdd, zNz] at hK9 ⊢
       have hw := Flow.hwD HW6.out hb
       (try simp only [h4] at hK9)
       go_simp
       go_at_call 70
       refine (ratSub_any h3 (HR6'.out.below hw) (Nat.le_refl 2) (by omega) (by have := HB.out.2; omega)).mono ?_
       rintro e w3 ⟨v3, rfl, hi3, hb3⟩
       exact hK9 _ _ hb3 hi3
      case s6 =>
       intro xs w' hb hT K9 hK9
       have h0 : (xs 0) = .agg #[.bool t1, .slice b1 d1 o1, .bool t2, .slice b2 d2 o2] := hT 0 (by kernel_rfl)
       have h5 : RtIn w' (xs 5) ((z.lower : Rat) - mq) (2 + (M + 2 + 1) + 1) := hT 5 (by kernel_rfl)
       clear hT
       simp only [zFp, zAp, zLa, zLb, zLc, Nat.reduceAdd, zNz] at hK9 ⊢
       have hw := Flow.hwD HW6.out hb
       (try simp only [h0] at hK9)
       go_simp
       go_at_call 64
       refine (ratCompare_any (HRD6.out.below hw) h5 (by omega) (by omega) (by have := HB.out.2; omega)).mono ?_
       rintro e w3 ⟨rfl, hb3⟩
       exact hK9 _ _ hb3 rfl
      case s7 =>
       intro xs w' hb hT K9 hK9
       have h6 : (xs 6) = .int .i64 (cmpQ dq ((z.lower : Rat) - mq)) := hT 6 (by kernel_rfl)
       clear hT
       simp only [zFp, zAp, zLa, zLb, zLc, Nat.reduceAdd, zNz] at hK9 ⊢
       have hw := Flow.hwD HW6.out hb
       (try simp only [h6] at hK9)
       go_simp
       exact hK9 _ _ (Below.refl _ _) (congrArg Value.bool HBB.out.1.symm)
      case s8 =>
       intro xs w' hb hT K9 hK9
       have h7 : (xs 7) = .bool (B1) := hT 7 (by kernel_rfl)
       clear hT
       simp only [zFp, zAp, zLa, zLb, zLc, Nat.reduceAdd, zNz] at hK9 ⊢
       have hw := Flow.hwD HW6.out hb
       (try simp only [h7] at hK9)
       go_simp
       exact hK9 _ _ (Below.refl _ _) rfl
      case s9 =>
       intro xs w' hb hT K9 hK9
       have h8 : (xs 8) = .bool (B1) := hT 8 (by kernel_rfl)
       clear hT
       simp only [zFp, zAp, zLa, zLb, zLc, Nat.reduceAdd, zNz] at hK9 ⊢
       have hw := Flow.hwD HW6.out hb
       by_cases hg : (B1) = false
       ·rw [hg] at h8
        have kb := (hw.block bd (lt_of_block HKD6.out)).trans HKD6.out
        have y0 := block_cell kb 0
        have y1 := block_cell kb 1
        have y2 := block_cell kb 2
        have y3 := block_cell kb 3
        clear kb
        simp at y0 y1 y2 y3
        (try simp only [h8] at hK9)
        go_simp
        exact hK9 _ _ (Below.refl _ _) (fun _ => rfl)
       ·have hg' : (B1) = true := eq_true_of_ne_false hg
        rw [hg'] at h8
        (try simp only [h8] at hK9)
        go_simp
        exact hK9 _ _ (Below.refl _ _) (fun h => absurd h hg)
      case s10 =>
       intro xs w' hb hT K9 hK9
       have h8 : (xs 8) = .bool (B1) := hT 8 (by kernel_rfl)
       clear hT
       simp only [zFp, zAp, zLa, zLb, zLc, Nat.reduceAdd, zNz] at hK9 ⊢
       have hw := Flow.hwD HW6.out hb
       by_cases hg : (B1) = false
       ·rw [hg] at h8
        (try simp only [h8] at hK9)
        go_simp
        exact hK9 _ _ (Below.refl _ _) (fun _ => rfl)
       ·have hg' : (B1) = true := eq_true_of_ne_false hg
        rw [hg'] at h8
        (try simp only [h8] at hK9)
        go_simp
        exact hK9 _ _ (Below.refl _ _) (fun h => absurd h hg)
      case s11 =>
       intro xs w' hb hT K9 hK9
       have h8 : (xs 8) = .bool (B1) := hT 8 (by kernel_rfl)
       have h10 : (B1) = false → (xs 10) = .pointer (some ⟨bz, 3, none⟩) := hT 10 (by kernel_rfl)
       clear hT
       simp only [zFp, zAp, zLa, zLb, zLc, Nat.reduceAdd, zNz] at hK9 ⊢
       have hw := Flow.hwD HW6.out hb
       by_cases hg : (B1) = false
       ·rw [hg] at h8
        replace h10 := h10 hg
        have kb := (hw.block bz (lt_of_block HKZ6.out)).trans HKZ6.out
        have y0 := block_cell kb 3
        clear kb
        simp at y0
        (try simp only [h8] at hK9)
        (try simp only [h10] at hK9)
        go_simp
        exact hK9 _ _ (Below.refl _ _) (fun _ => rfl)
       ·have hg' : (B1) = true := eq_true_of_ne_false hg
        rw [hg'] at h8
        (try simp only [h8] at hK9)
        clear h10
        go_simp
        exact hK9 _ _ (Below.refl _ _) (fun h => absurd h hg)
      case s12 =>
       intro xs w' hb hT K9 hK9
       have h8 : (xs 8) = .bool (B1) := hT 8 (by kernel_rfl)
       have h11 : (B1) = false → (xs 11) = .int .i64 z.upper := hT 11 (by kernel_rfl)
       clear hT
       simp only [zFp, zAp, zLa, zLb, zLc, Nat.reduceAdd, zNz] at hK9 ⊢
       have hw := Flow.hwD HW6.out hb
       by_cases hg : (B1) = false
       ·rw [hg] at h8
        replace h11 := h11 hg
        (try simp only [h8] at hK9)
        (try simp only [h11] at hK9)
        go_simp
        go_at_call 26
        refine (ratFrom_any (by have := HZ.out.2.1; omega) (by have := HZ.out.2.1; omega)).mono ?_
        rintro e w3 ⟨v3, rfl, hi3, hb3⟩
        exact hK9 _ _ hb3 (fun _ => hi3)
       ·have hg' : (B1) = true := eq_true_of_ne_false hg
        rw [hg'] at h8
        (try simp only [h8] at hK9)
        clear h11
        go_simp
        exact hK9 _ _ (Below.refl _ _) (fun h => absurd h hg)
      case s13 =>
       intro xs w' hb hT K9 hK9
       have h8 : (xs 8) = .bool (B1) := hT 8 (by kernel_rfl)
       clear hT
       simp only [zFp, zAp, zLa, zLb, zLc, Nat.reduceAdd, zNz] at hK9 ⊢
       have hw := Flow.hwD HW6.out hb
       by_cases hg : (B1) = false
       ·rw [hg] at h8
        have kb := (hw.block b9 (lt_of_block HK6.out)).trans HK6.out
        have y0 := block_cell kb 0
        have y1 := block_cell kb 1
        have y2 := block_cell kb 2
        have y3 := block_cell kb 3
        clear kb
        simp at y0 y1 y2 y3
        (try simp only [h8] at hK9)
        go_simp
        exact hK9 _ _ (Below.refl _ _) (fun _ => rfl)
       ·have hg' : (B1) = true := eq_true_of_ne_false hg
        rw [hg'] at h8
        (try simp only [h8] at hK9)
        go_simp
        exact hK9 _ _ (Below.refl _ _) (fun h => absurd h hg)
      case s14 =>
       intro xs w' hb hT K9 hK9
       have h8 : (xs 8) = .bool (B1) := hT 8 (by kernel_rfl)
       have h12 : (B1) = false → RtIn w' (xs 12) (z.upper : Rat) 2 := hT 12 (by kernel_rfl)
       have h13 : (B1) = false → (xs 13) = .agg #[.bool p1, .slice g3 i3 j3, .bool p2, .slice g4 i4 j4] := hT 13 (by kernel_rfl)
       clear hT
       simp only [zFp, zAp, zLa, zLb, zLc, Nat.reduceAdd, zNz] at hK9 ⊢
       have hw := Flow.hwD HW6.out hb
       by_cases hg : (B1) = false
       ·rw [hg] at h8
        replace h12 := h12 hg
        replace h13 := h13 hg
        (try simp only [h8] at hK9)
        (try simp only [h13] at hK9)
        go_simp
        go_at_call 72
        refine (ratAdd_any h12 (HR6'.out.below hw) (Nat.le_refl 2) (by omega) (by have := HB.out.2; omega)).mono ?_
        rintro e w3 ⟨v3, rfl, hi3, hb3⟩
        exact hK9 _ _ hb3 (fun _ => hi3)
       ·have hg' : (B1) = true := eq_true_of_ne_false hg
        rw [hg'] at h8
        (try simp only [h8] at hK9)
        clear h12 h13
        go_simp
        exact hK9 _ _ (Below.refl _ _) (fun h => absurd h hg)
      case s15 =>
       intro xs w' hb hT K9 hK9
       have h8 : (xs 8) = .bool (B1) := hT 8 (by kernel_rfl)
       have h9 : (B1) = false → (xs 9) = .agg #[.bool t1, .slice b1 d1 o1, .bool t2, .slice b2 d2 o2] := hT 9 (by kernel_rfl)
       have h14 : (B1) = false → RtIn w' (xs 14) ((z.upper : Rat) + mq) (2 + (M + 2 + 1) + 1) := hT 14 (by kernel_rfl)
       clear hT
       simp only [zFp, zAp, zLa, zLb, zLc, Nat.reduceAdd, zNz] at hK9 ⊢
       have hw := Flow.hwD HW6.out hb
       by_cases hg : (B1) = false
       ·rw [hg] at h8
        replace h9 := h9 hg
        replace h14 := h14 hg
        (try simp only [h8] at hK9)
        (try simp only [h9] at hK9)
        go_simp
        go_at_call 64
        refine (ratCompare_any (HRD6.out.below hw) h14 (by omega) (by omega) (by have := HB.out.2; omega)).mono ?_
        rintro e w3 ⟨rfl, hb3⟩
        exact hK9 _ _ hb3 (fun _ => rfl)
       ·have hg' : (B1) = true := eq_true_of_ne_false hg
        rw [hg'] at h8
        (try simp only [h8] at hK9)
        clear h9 h14
        go_simp
        exact hK9 _ _ (Below.refl _ _) (fun h => absurd h hg)
      case s16 =>
       intro xs w' hb hT K9 hK9
       have h8 : (xs 8) = .bool (B1) := hT 8 (by kernel_rfl)
       have h15 : (B1) = false → (xs 15) = .int .i64 (cmpQ dq ((z.upper : Rat) + mq)) := hT 15 (by kernel_rfl)
       clear hT
       simp only [zFp, zAp, zLa, zLb, zLc, Nat.reduceAdd, zNz] at hK9 ⊢
       have hw := Flow.hwD HW6.out hb
       by_cases hg : (B1) = false
       ·rw [hg] at h8
        replace h15 := h15 hg
        (try simp only [h8] at hK9)
        (try simp only [h15] at hK9)
        go_simp
        exact hK9 _ _ (Below.refl _ _) (fun _ => (congrArg Value.bool HBB.out.2.symm))
       ·have hg' : (B1) = true := eq_true_of_ne_false hg
        rw [hg'] at h8
        (try simp only [h8] at hK9)
        clear h15
        go_simp
        exact hK9 _ _ (Below.refl _ _) (fun h => absurd h hg)
      case s17 =>
       intro xs w' hb hT K9 hK9
       have h8 : (xs 8) = .bool (B1) := hT 8 (by kernel_rfl)
       have h16 : (B1) = false → (xs 16) = .bool (B2) := hT 16 (by kernel_rfl)
       clear hT
       simp only [zFp, zAp, zLa, zLb, zLc, Nat.reduceAdd, zNz] at hK9 ⊢
       have hw := Flow.hwD HW6.out hb
       by_cases hg : (B1) = false
       ·rw [hg] at h8
        replace h16 := h16 hg
        (try simp only [h8] at hK9)
        (try simp only [h16] at hK9)
        go_simp
        exact hK9 _ _ (Below.refl _ _) (by simp [ hg])
       ·have hg' : (B1) = true := eq_true_of_ne_false hg
        rw [hg'] at h8
        clear h16
        (try simp only [h8] at hK9)
        go_simp
        exact hK9 _ _ (Below.refl _ _) (by simp [ hg'])
     case fin =>
      intro xs w' hb hT
      have hw := Flow.hwD HW6.out hb
      have h17 : (xs 17) = .bool (B1 || B2) := hT 17 (by rfl)
      clear hT
      simp only [zFp, zAp, zLa, zLb, zLc, Nat.reduceAdd, zNz, FlowR.restL, FlowR.orM, Bool.false_or]
      simp only [h17]
      refine wpList_nil ?_
      have HF := Lib.hid (HB3.out.trans ((HB6'.out.trans (hw.mono HB6'.out.size)).mono HB3.out.size))
      clear h17 hw hb
      cases hbd : (B1 || B2) with
      | true =>
       have HPS := Lib.hid (pos_some (p := p) (n := nz) (k := 0) (i := k) (Nat.zero_le _) (by have := HLT.out; omega) (fun j _ h => hno.out j h) (HRM.out.trans hbd))
       have hq : HQ = (false, (k : Int)) := by
        rw [HHQ.out]
        unfold holdsQ
        rw [← HP.out, ← HN.out.2.1, HPS.out, if_pos (by omega)]
       have HHQ2 := Lib.hid hq
       clear hbd hq
       go_wp2_with fail
       go_ret2
       exact ⟨by rw [HHQ2.out]; rfl, HA1.out.trans (HF.out.mono HA1.out.size)⟩
      | false =>
       have HRF := Lib.hid (HRM.out.trans hbd)
       clear hbd
       go_wp2_with fail
       go_roundg (nz - (k + 1))
       case measure => have := HLT.out; omega
       case rel =>
        refine ⟨k + 1, by have := HLT.out; omega, by congr 1; exact (IntWalk.wrap64_in _ (by have h1 := HLT.out; have h2 := HN.out.2.1; have h3 := HN.out.2.2.2.2.2.2.2.2.2; omega)).trans (by omega), Lib.hid fun j hj => ?_, Lib.hid HF.out⟩
        by_cases h : j < k
        ·exact hno.out j h
        ·obtain rfl : j = k := by omega
         exact HRF.out
  ·have e1 : ((k : Int) < (nz : Int)) = False := eq_false (by omega)
   obtain rfl : k = nz := by omega
   have HPN := Lib.hid (pos_none (p := p) (n := k) (k := 0) (fun j _ h => hno.out j (by omega)))
   obtain ⟨r, hr⟩ : ∃ r, r = badVar fs zs V rs := ⟨_, rfl⟩
   have HR := Lib.hid hr
   have HBW := hbw
   clear hr hno
   go_wp2_with fail
   clear s0 s1
   go_loopg [92] nr (fun gk x wr => ∃ m : Nat, m + gk = nr ∧ x = .int .i64 m ∧ Hid (∀ j, j < m → r j = false) ∧ Hid (Below w1.heap.size w1 wr))
   case atStart => exact ⟨0, by omega, rfl, Lib.hid (fun j hj => absurd hj (by omega)), HBW⟩
   case round =>
    clear hbw
    obtain ⟨m, hm, rfl, hno2, hbw2⟩ := hrel
    have kk := (hbw2.out.block ba (lt_of_block HK1.out)).trans HK1.out
    have s0 := block_cell kk 0
    have s1 := block_cell kk 1
    simp at s0 s1
    clear kk
    by_cases hlt : m < nr
    ·have e6 : ((m : Int) < (nr : Int)) = True := eq_true (by omega)
     obtain ⟨b, o, rfl, -, hcc⟩ := HKI.out (by have := HN.out.2.2.2.2.1; omega)
     obtain ⟨q, hq⟩ : ∃ q, q = V.getD m (0, 0) := ⟨_, rfl⟩
     have hx := hcc m (by have := HN.out.2.2.2.2.1; omega)
     rw [← hq] at hx
     have hmem : q ∈ V := by
      have h1 : m < V.length := by have := HN.out.2.2.2.2.1; omega
      rw [hq, List.getD_eq_getElem?_getD, List.getElem?_eq_getElem h1]
      exact List.getElem_mem h1
     have hvm := vars_mem (HN.out.2.2.2.2.2.1 ▸ hmem)
     have hdn := dims_nth (fs := fs) (zs := zs) (m := m) (q := q) (by rw [← HN.out.2.2.2.2.2.1, HN.out.2.2.2.2.1]; exact hlt) (by rw [← HN.out.2.2.2.2.2.1]; exact hq)
     rw [← HN.out.2.2.2.2.2.2.1] at hdn
     obtain ⟨i, kk⟩ := q
     have x0 := cell_below hbw2.out hx.1
     have x1 := cell_below hbw2.out hx.2
     have hk0 : (0 : Int) ≤ (m : Int) := by omega
     have hk1 : (m : Int) < (nr : Int) := by omega
     obtain ⟨nom, hnom⟩ : ∃ x, x = nominalOf fs i kk := ⟨_, rfl⟩
     have hin : i < fs.length := hvm.1
     have hnb := nominal_bound HCK.out hin kk
     rw [← hnom] at hnb
     have hdn2 : (D.getD m Dm.none).nominal = nom := by rw [hdn, hnom]; rfl
     have HQQ := Lib.hid (And.intro hq hlt)
     clear hcc hx hq hmem hvm hlt hdn hin
     go_upto_region 18 with fail
     obtain ⟨w4, hw4⟩ : ∃ x, x = wr.alloc (.cells #[.int .i64 (i : Int), .int .i64 kk] 88) := ⟨_, rfl⟩
     obtain ⟨bv, hbv⟩ : ∃ b, b = wr.heap.size := ⟨_, rfl⟩
     rw [← hw4, ← hbv]
     have hl4 : Below wr.heap.size wr w4 := by rw [hw4]; exact (Below.refl _ wr).alloc (Nat.le_refl _) _
     have kv : w4.heap[bv]? = some (.cells #[.int .i64 (i : Int), .int .i64 kk] 88 (0, 0)) := by rw [hw4, hbv]; exact heap_alloc_new wr _
     have HW4 := Lib.hid (hbw2.out.trans (hl4.mono hbw2.out.size))
     have HKV := Lib.hid kv
     have HKA4 := Lib.hid ((HW4.out.block ba (lt_of_block HK1.out)).trans HK1.out)
     obtain ⟨ib, hib⟩ : ∃ x, x = decide (zoneAt zs (i : Int) kk < 0) := ⟨_, rfl⟩
     have HIB := Lib.hid hib
     have HR44 := Lib.hid (Below.refl w4.heap.size w4)
     obtain ⟨rb, ro, rfl, -, hrc⟩ := HR1.out.2.2 (by have h1 := HN.out.2.2.1; have h2 := HQQ.out.2; omega)
     obtain ⟨q1, hq1⟩ : ∃ x, x = rs.getD m 0 := ⟨_, rfl⟩
     have hx := (hrc m (by have h1 := HN.out.2.2.1; have h2 := HQQ.out.2; omega)).below HW4.out
     rw [← hq1] at hx
     obtain ⟨s1', a1, c1, l1, s2', a2, c2, l2, y0, y1, y2, y3, hrt⟩ := hx
     have HY := Lib.hid (And.intro y0 (And.intro y1 (And.intro y2 y3)))
     have HRT := Lib.hid hrt
     obtain ⟨db, dof, rfl, -, hdc⟩ := HDI.out (by have h1 := HN.out.2.2.2.1; have h2 := HQQ.out.2; omega)
     have hn1 := cell_below HW4.out (hdc m (by have h1 := HN.out.2.2.2.1; have h2 := HQQ.out.2; omega)).2.1
     rw [hdn2] at hn1
     have HNM := Lib.hid hn1
     obtain ⟨nb, hnbb⟩ : ∃ x, x = decide (cmpQ q1 (nom : Rat) ≠ 0) := ⟨_, rfl⟩
     have HNB := Lib.hid hnb
     have HBB := Lib.hid hnbb
     have HRM := Lib.hid (show r m = (ib && nb) by
      rw [HR.out]
      unfold badVar
      rw [← HQQ.out.1, ← hq1]
      simp only []
      rw [← hnom, ← hnbb, hib]
      congr 1
      rw [← decide_not]
      exact decide_eq_decide.2 (by omega))
     have HMB := Lib.hid (show (0 : Int) ≤ (m : Int) ∧ (m : Int) < (nr : Int) by have := HQQ.out.2; omega)
     clear hw4 hbv hl4 kv hib hrc hq1 y0 y1 y2 y3 hrt hdc hn1 hdn2 hnom hnb hnbb x0 x1 hk0 hk1 hbw2
     refine FlowR.wp_region_sel (fun a b => Below a.heap.size a b) (fun a => Below.refl _ a) (fun _ _ _ h k => h.trans (k.mono h.size)) [0, 1, 2, 3, 4, 5, 6, 7, 8, 9, 10, 11, 12, 13, 14, 15, 16, 17, 18, 19, 20] [false, false, false, false, false, false, false, false, false, false, false, false, false, false, false, false, false, false, false, false, false] [true, true, true, true, true, true, true, true, true, true, true, true, true, true, true, true, true, true, true, true, true] (fun i9 v w' => match i9 with
      | 0 => v = .agg #[.slice af n cf, .slice az k cz]
      | 1 => v = .pointer (some ⟨bv, 0, none⟩)
      | 2 => v = .int .i64 (i : Int)
      | 3 => v = .pointer (some ⟨bv, 1, none⟩)
      | 4 => v = .int .i64 kk
      | 5 => v = .int .i64 (zoneAt zs (i : Int) kk)
      | 6 => v = .bool (ib)
      | 7 => v = .bool (ib)
      | 8 => (ib) = true → v = .slice (some ⟨rb, ro, none⟩) nr cr
      | 9 => (ib) = true → v = .int .i64 (m : Int)
      | 10 => (ib) = true → v = .pointer (some ⟨rb, ro + m * 4, none⟩)
      | 11 => (ib) = true → v = .agg #[.bool s1', .slice a1 c1 l1, .bool s2', .slice a2 c2 l2]
      | 12 => (ib) = true → v = .slice (some ⟨db, dof, none⟩) nr cd
      | 13 => (ib) = true → v = .int .i64 (m : Int)
      | 14 => (ib) = true → v = .pointer (some ⟨db, dof + m * 4, none⟩)
      | 15 => (ib) = true → v = .pointer (some ⟨db, dof + m * 4 + 1, none⟩)
      | 16 => (ib) = true → v = .int .i64 nom
      | 17 => (ib) = true → RtIn w' v (nom : Rat) 2
      | 18 => (ib) = true → v = .int .i64 (cmpQ q1 (nom : Rat))
      | 19 => (ib) = true → v = .bool (nb)
      | _ => v = .bool (ib && nb)) rfl rfl (by kernel_rfl) (by kernel_rfl) (by kernel_rfl) (by kernel_rfl) ?st ?steps ?fin
     case st =>
      intro i9 v u1 u2 h hb
      match i9 with
      | 0 => exact h
      | 1 => exact h
      | 2 => exact h
      | 3 => exact h
      | 4 => exact h
      | 5 => exact h
      | 6 => exact h
      | 7 => exact h
      | 8 => exact h
      | 9 => exact h
      | 10 => exact h
      | 11 => exact h
      | 12 => exact h
      | 13 => exact h
      | 14 => exact h
      | 15 => exact h
      | 16 => exact h
      | 17 => exact fun hq => ((show (ib) = true → RtIn u1 v (nom : Rat) 2 from h) hq).below hb
      | 18 => exact h
      | 19 => exact h
      | 20 => exact h
      | _ + 21 => exact h
     case steps =>
      refine Flow.Steps.cons (FlowR.Step.of rfl ?s0) (Flow.Steps.cons (FlowR.Step.of rfl ?s1) (Flow.Steps.cons (FlowR.Step.of rfl ?s2) (Flow.Steps.cons (FlowR.Step.of rfl ?s3) (Flow.Steps.cons (FlowR.Step.of rfl ?s4) (Flow.Steps.cons (FlowR.Step.of rfl ?s5) (Flow.Steps.cons (FlowR.Step.of rfl ?s6) (Flow.Steps.cons (FlowR.Step.of rfl ?s7) (Flow.Steps.cons (FlowR.Step.of rfl ?s8) (Flow.Steps.cons (FlowR.Step.of rfl ?s9) (Flow.Steps.cons (FlowR.Step.of rfl ?s10) (Flow.Steps.cons (FlowR.Step.of rfl ?s11) (Flow.Steps.cons (FlowR.Step.of rfl ?s12) (Flow.Steps.cons (FlowR.Step.of rfl ?s13) (Flow.Steps.cons (FlowR.Step.of rfl ?s14) (Flow.Steps.cons (FlowR.Step.of rfl ?s15) (Flow.Steps.cons (FlowR.Step.of rfl ?s16) (Flow.Steps.cons (FlowR.Step.of rfl ?s17) (Flow.Steps.cons (FlowR.Step.of rfl ?s18) (Flow.Steps.cons (FlowR.Step.of rfl ?s19) (Flow.Steps.cons (FlowR.Step.of rfl ?s20) Flow.Steps.nil))))))))))))))))))))
      case s0 =>
       intro xs w' hb hT K9 hK9
       clear hT
       simp only [zFp, zAp, zLa, zLb, zLc, Nat.reduceAdd, zNz] at hK9 ⊢
       have hw := Flow.hwD HR44.out hb
       have kb := (hw.block ba (lt_of_block HKA4.out)).trans HKA4.out
       have y0 := block_cell kb 0
       have y1 := block_cell kb 1
       clear kb
       simp at y0 y1
       go_simp
       exact hK9 _ _ (Below.refl _ _) rfl
      case s1 =>
       intro xs w' hb hT K9 hK9
       clear hT
       simp only [zFp, zAp, zLa, zLb, zLc, Nat.reduceAdd, zNz] at hK9 ⊢
       have hw := Flow.hwD HR44.out hb
       go_simp
       exact hK9 _ _ (Below.refl _ _) rfl
      case s2 =>
       intro xs w' hb hT K9 hK9
       have h1 : (xs 1) = .pointer (some ⟨bv, 0, none⟩) := hT 1 (by kernel_rfl)
       clear hT
       simp only [zFp, zAp, zLa, zLb, zLc, Nat.reduceAdd, zNz] at hK9 ⊢
       have hw := Flow.hwD HR44.out hb
       have kb := (hw.block bv (lt_of_block HKV.out)).trans HKV.out
       have y0 := block_cell kb 0
       clear kb
       simp at y0
       (try simp only [h1] at hK9)
       go_simp
       exact hK9 _ _ (Below.refl _ _) rfl
      case s3 =>
       intro xs w' hb hT K9 hK9
       clear hT
       simp only [zFp, zAp, zLa, zLb, zLc, Nat.reduceAdd, zNz] at hK9 ⊢
       have hw := Flow.hwD HR44.out hb
       go_simp
       exact hK9 _ _ (Below.refl _ _) rfl
      case s4 =>
       intro xs w' hb hT K9 hK9
       have h3 : (xs 3) = .pointer (some ⟨bv, 1, none⟩) := hT 3 (by kernel_rfl)
       clear hT
       simp only [zFp, zAp, zLa, zLb, zLc, Nat.reduceAdd, zNz] at hK9 ⊢
       have hw := Flow.hwD HR44.out hb
       have kb := (hw.block bv (lt_of_block HKV.out)).trans HKV.out
       have y0 := block_cell kb 1
       clear kb
       simp at y0
       (try simp only [h3] at hK9)
       go_simp
       exact hK9 _ _ (Below.refl _ _) rfl
      case s5 =>
       intro xs w' hb hT K9 hK9
       have h0 : (xs 0) = .agg #[.slice af n cf, .slice az k cz] := hT 0 (by kernel_rfl)
       have h2 : (xs 2) = .int .i64 (i : Int) := hT 2 (by kernel_rfl)
       have h4 : (xs 4) = .int .i64 kk := hT 4 (by kernel_rfl)
       clear hT
       simp only [zFp, zAp, zLa, zLb, zLc, Nat.reduceAdd, zNz] at hK9 ⊢
       have hw := Flow.hwD HR44.out hb
       (try simp only [h0] at hK9)
       (try simp only [h2] at hK9)
       (try simp only [h4] at hK9)
       go_simp
       go_at_call 59
       refine (HQZ.out _ (HS1.out.below (HW4.out.trans (hw.mono HW4.out.size))) (i : Int) kk).mono ?_
       rintro e w3 ⟨rfl, hb3⟩
       exact hK9 _ _ hb3 rfl
      case s6 =>
       intro xs w' hb hT K9 hK9
       have h5 : (xs 5) = .int .i64 (zoneAt zs (i : Int) kk) := hT 5 (by kernel_rfl)
       clear hT
       simp only [zFp, zAp, zLa, zLb, zLc, Nat.reduceAdd, zNz] at hK9 ⊢
       have hw := Flow.hwD HR44.out hb
       (try simp only [h5] at hK9)
       go_simp
       exact hK9 _ _ (Below.refl _ _) (congrArg Value.bool HIB.out.symm)
      case s7 =>
       intro xs w' hb hT K9 hK9
       have h6 : (xs 6) = .bool (ib) := hT 6 (by kernel_rfl)
       clear hT
       simp only [zFp, zAp, zLa, zLb, zLc, Nat.reduceAdd, zNz] at hK9 ⊢
       have hw := Flow.hwD HR44.out hb
       (try simp only [h6] at hK9)
       go_simp
       exact hK9 _ _ (Below.refl _ _) rfl
      case s8 =>
       intro xs w' hb hT K9 hK9
       have h7 : (xs 7) = .bool (ib) := hT 7 (by kernel_rfl)
       clear hT
       simp only [zFp, zAp, zLa, zLb, zLc, Nat.reduceAdd, zNz] at hK9 ⊢
       have hw := Flow.hwD HR44.out hb
       by_cases hg : (ib) = true
       ·rw [hg] at h7
        (try simp only [h7] at hK9)
        go_simp
        exact hK9 _ _ (Below.refl _ _) (fun _ => rfl)
       ·have hg' : (ib) = false := eq_false_of_ne_true hg
        rw [hg'] at h7
        (try simp only [h7] at hK9)
        go_simp
        exact hK9 _ _ (Below.refl _ _) (fun h => absurd h hg)
      case s9 =>
       intro xs w' hb hT K9 hK9
       have h7 : (xs 7) = .bool (ib) := hT 7 (by kernel_rfl)
       clear hT
       simp only [zFp, zAp, zLa, zLb, zLc, Nat.reduceAdd, zNz] at hK9 ⊢
       have hw := Flow.hwD HR44.out hb
       by_cases hg : (ib) = true
       ·rw [hg] at h7
        (try simp only [h7] at hK9)
        go_simp
        exact hK9 _ _ (Below.refl _ _) (fun _ => rfl)
       ·have hg' : (ib) = false := eq_false_of_ne_true hg
        rw [hg'] at h7
        (try simp only [h7] at hK9)
        go_simp
        exact hK9 _ _ (Below.refl _ _) (fun h => absurd h hg)
      case s10 =>
       intro xs w' hb hT K9 hK9
       have h7 : (xs 7) = .bool (ib) := hT 7 (by kernel_rfl)
       have h8 : (ib) = true → (xs 8) = .slice (some ⟨rb, ro, none⟩) nr cr := hT 8 (by kernel_rfl)
       have h9 : (ib) = true → (xs 9) = .int .i64 (m : Int) := hT 9 (by kernel_rfl)
       clear hT
       simp only [zFp, zAp, zLa, zLb, zLc, Nat.reduceAdd, zNz] at hK9 ⊢
       have hw := Flow.hwD HR44.out hb
       by_cases hg : (ib) = true
       ·rw [hg] at h7
        replace h8 := h8 hg
        replace h9 := h9 hg
        (try simp only [h7] at hK9)
        (try simp only [h8] at hK9)
        (try simp only [h9] at hK9)
        have g0 := HMB.out.1
        have g9 := HMB.out.2
        go_simp
        exact hK9 _ _ (Below.refl _ _) (fun _ => rfl)
       ·have hg' : (ib) = false := eq_false_of_ne_true hg
        rw [hg'] at h7
        (try simp only [h7] at hK9)
        clear h8 h9
        go_simp
        exact hK9 _ _ (Below.refl _ _) (fun h => absurd h hg)
      case s11 =>
       intro xs w' hb hT K9 hK9
       have h7 : (xs 7) = .bool (ib) := hT 7 (by kernel_rfl)
       have h10 : (ib) = true → (xs 10) = .pointer (some ⟨rb, ro + m * 4, none⟩) := hT 10 (by kernel_rfl)
       clear hT
       simp only [zFp, zAp, zLa, zLb, zLc, Nat.reduceAdd, zNz] at hK9 ⊢
       have hw := Flow.hwD HR44.out hb
       by_cases hg : (ib) = true
       ·rw [hg] at h7
        replace h10 := h10 hg
        (try simp only [h7] at hK9)
        (try simp only [h10] at hK9)
        have y0 := cell_below hw HY.out.1
        have y1 := cell_below hw HY.out.2.1
        have y2 := cell_below hw HY.out.2.2.1
        have y3 := cell_below hw HY.out.2.2.2
        go_simp
        exact hK9 _ _ (Below.refl _ _) (fun _ => rfl)
       ·have hg' : (ib) = false := eq_false_of_ne_true hg
        rw [hg'] at h7
        (try simp only [h7] at hK9)
        clear h10
        go_simp
        exact hK9 _ _ (Below.refl _ _) (fun h => absurd h hg)
      case s12 =>
       intro xs w' hb hT K9 hK9
       have h7 : (xs 7) = .bool (ib) := hT 7 (by kernel_rfl)
       clear hT
       simp only [zFp, zAp, zLa, zLb, zLc, Nat.reduceAdd, zNz] at hK9 ⊢
       have hw := Flow.hwD HR44.out hb
       by_cases hg : (ib) = true
       ·rw [hg] at h7
        (try simp only [h7] at hK9)
        go_simp
        exact hK9 _ _ (Below.refl _ _) (fun _ => rfl)
       ·have hg' : (ib) = false := eq_false_of_ne_true hg
        rw [hg'] at h7
        (try simp only [h7] at hK9)
        go_simp
        exact hK9 _ _ (Below.refl _ _) (fun h => absurd h hg)
      case s13 =>
       intro xs w' hb hT K9 hK9
       have h7 : (xs 7) = .bool (ib) := hT 7 (by kernel_rfl)
       clear hT
       simp only [zFp, zAp, zLa, zLb, zLc, Nat.reduceAdd, zNz] at hK9 ⊢
       have hw := Flow.hwD HR44.out hb
       by_cases hg : (ib) = true
       ·rw [hg] at h7
        (try simp only [h7] at hK9)
        go_simp
        exact hK9 _ _ (Below.refl _ _) (fun _ => rfl)
       ·have hg' : (ib) = false := eq_false_of_ne_true hg
        rw [hg'] at h7
        (try simp only [h7] at hK9)
        go_simp
        exact hK9 _ _ (Below.refl _ _) (fun h => absurd h hg)
      case s14 =>
       intro xs w' hb hT K9 hK9
       have h7 : (xs 7) = .bool (ib) := hT 7 (by kernel_rfl)
       have h12 : (ib) = true → (xs 12) = .slice (some ⟨db, dof, none⟩) nr cd := hT 12 (by kernel_rfl)
       have h13 : (ib) = true → (xs 13) = .int .i64 (m : Int) := hT 13 (by kernel_rfl)
       clear hT
       simp only [zFp, zAp, zLa, zLb, zLc, Nat.reduceAdd, zNz] at hK9 ⊢
       have hw := Flow.hwD HR44.out hb
       by_cases hg : (ib) = true
       ·rw [hg] at h7
        replace h12 := h12 hg
        replace h13 := h13 hg
        (try simp only [h7] at hK9)
        (try simp only [h12] at hK9)
        (try simp only [h13] at hK9)
        have g0 := HMB.out.1
        have g9 := HMB.out.2
        go_simp
        exact hK9 _ _ (Below.refl _ _) (fun _ => rfl)
       ·have hg' : (ib) = false := eq_false_of_ne_true hg
        rw [hg'] at h7
        (try simp only [h7] at hK9)
        clear h12 h13
        go_simp
        exact hK9 _ _ (Below.refl _ _) (fun h => absurd h hg)
      case s15 =>
       intro xs w' hb hT K9 hK9
       have h7 : (xs 7) = .bool (ib) := hT 7 (by kernel_rfl)
       have h14 : (ib) = true → (xs 14) = .pointer (some ⟨db, dof + m * 4, none⟩) := hT 14 (by kernel_rfl)
       clear hT
       simp only [zFp, zAp, zLa, zLb, zLc, Nat.reduceAdd, zNz] at hK9 ⊢
       have hw := Flow.hwD HR44.out hb
       by_cases hg : (ib) = true
       ·rw [hg] at h7
        replace h14 := h14 hg
        (try simp only [h7] at hK9)
        (try simp only [h14] at hK9)
        go_simp
        exact hK9 _ _ (Below.refl _ _) (fun _ => rfl)
       ·have hg' : (ib) = false := eq_false_of_ne_true hg
        rw [hg'] at h7
        (try simp only [h7] at hK9)
        clear h14
        go_simp
        exact hK9 _ _ (Below.refl _ _) (fun h => absurd h hg)
      case s16 =>
       intro xs w' hb hT K9 hK9
       have h7 : (xs 7) = .bool (ib) := hT 7 (by kernel_rfl)
       have h15 : (ib) = true → (xs 15) = .pointer (some ⟨db, dof + m * 4 + 1, none⟩) := hT 15 (by kernel_rfl)
       clear hT
       simp only [zFp, zAp, zLa, zLb, zLc, Nat.reduceAdd, zNz] at hK9 ⊢
       have hw := Flow.hwD HR44.out hb
       by_cases hg : (ib) = true
       ·rw [hg] at h7
        replace h15 := h15 hg
        (try simp only [h7] at hK9)
        (try simp only [h15] at hK9)
        have y0 := cell_below hw HNM.out
        go_simp
        exact hK9 _ _ (Below.refl _ _) (fun _ => rfl)
       ·have hg' : (ib) = false := eq_false_of_ne_true hg
        rw [hg'] at h7
        (try simp only [h7] at hK9)
        clear h15
        go_simp
        exact hK9 _ _ (Below.refl _ _) (fun h => absurd h hg)
      case s17 =>
       intro xs w' hb hT K9 hK9
       have h7 : (xs 7) = .bool (ib) := hT 7 (by kernel_rfl)
       have h16 : (ib) = true → (xs 16) = .int .i64 nom := hT 16 (by kernel_rfl)
       clear hT
       simp only [zFp, zAp, zLa, zLb, zLc, Nat.reduceAdd, zNz] at hK9 ⊢
       have hw := Flow.hwD HR44.out hb
       by_cases hg : (ib) = true
       ·rw [hg] at h7
        replace h16 := h16 hg
        (try simp only [h7] at hK9)
        (try simp only [h16] at hK9)
        go_simp
        go_at_call 26
        refine (ratFrom_any (by have := HNB.out; omega) (by have := HNB.out; omega)).mono ?_
        rintro e w3 ⟨v3, rfl, hi3, hb3⟩
        exact hK9 _ _ hb3 (fun _ => hi3)
       ·have hg' : (ib) = false := eq_false_of_ne_true hg
        rw [hg'] at h7
        (try simp only [h7] at hK9)
        clear h16
        go_simp
        exact hK9 _ _ (Below.refl _ _) (fun h => absurd h hg)
      case s18 =>
       intro xs w' hb hT K9 hK9
       have h7 : (xs 7) = .bool (ib) := hT 7 (by kernel_rfl)
       have h11 : (ib) = true → (xs 11) = .agg #[.bool s1', .slice a1 c1 l1, .bool s2', .slice a2 c2 l2] := hT 11 (by kernel_rfl)
       have h17 : (ib) = true → RtIn w' (xs 17) (nom : Rat) 2 := hT 17 (by kernel_rfl)
       clear hT
       simp only [zFp, zAp, zLa, zLb, zLc, Nat.reduceAdd, zNz] at hK9 ⊢
       have hw := Flow.hwD HR44.out hb
       by_cases hg : (ib) = true
       ·rw [hg] at h7
        replace h11 := h11 hg
        replace h17 := h17 hg
        (try simp only [h7] at hK9)
        (try simp only [h11] at hK9)
        go_simp
        go_at_call 64
        refine (ratCompare_any (HRT.out.below hw) h17 (by have := HB.out.1; omega) (by omega) (by have := HB.out.2; omega)).mono ?_
        rintro e w3 ⟨rfl, hb3⟩
        exact hK9 _ _ hb3 (fun _ => rfl)
       ·have hg' : (ib) = false := eq_false_of_ne_true hg
        rw [hg'] at h7
        (try simp only [h7] at hK9)
        clear h11 h17
        go_simp
        exact hK9 _ _ (Below.refl _ _) (fun h => absurd h hg)
      case s19 =>
       intro xs w' hb hT K9 hK9
       have h7 : (xs 7) = .bool (ib) := hT 7 (by kernel_rfl)
       have h18 : (ib) = true → (xs 18) = .int .i64 (cmpQ q1 (nom : Rat)) := hT 18 (by kernel_rfl)
       clear hT
       simp only [zFp, zAp, zLa, zLb, zLc, Nat.reduceAdd, zNz] at hK9 ⊢
       have hw := Flow.hwD HR44.out hb
       by_cases hg : (ib) = true
       ·rw [hg] at h7
        replace h18 := h18 hg
        (try simp only [h7] at hK9)
        (try simp only [h18] at hK9)
        go_simp
        exact hK9 _ _ (Below.refl _ _) (fun _ => (congrArg Value.bool (by rw [HBB.out]; exact bne_dec)))
       ·have hg' : (ib) = false := eq_false_of_ne_true hg
        rw [hg'] at h7
        (try simp only [h7] at hK9)
        clear h18
        go_simp
        exact hK9 _ _ (Below.refl _ _) (fun h => absurd h hg)
      case s20 =>
       intro xs w' hb hT K9 hK9
       have h7 : (xs 7) = .bool (ib) := hT 7 (by kernel_rfl)
       have h19 : (ib) = true → (xs 19) = .bool (nb) := hT 19 (by kernel_rfl)
       clear hT
       simp only [zFp, zAp, zLa, zLb, zLc, Nat.reduceAdd, zNz] at hK9 ⊢
       have hw := Flow.hwD HR44.out hb
       by_cases hg : (ib) = true
       ·rw [hg] at h7
        replace h19 := h19 hg
        (try simp only [h7] at hK9)
        (try simp only [h19] at hK9)
        go_simp
        exact hK9 _ _ (Below.refl _ _) (by simp [ hg])
       ·have hg' : (ib) = false := eq_false_of_ne_true hg
        rw [hg'] at h7
        clear h19
        (try simp only [h7] at hK9)
        go_simp
        exact hK9 _ _ (Below.refl _ _) (by simp [ hg'])
     case fin =>
      intro xs w' hb hT
      have hw := Flow.hwD HR44.out hb
      have h20 : (xs 20) = .bool (ib && nb) := hT 20 (by rfl)
      clear hT
      simp only [zFp, zAp, zLa, zLb, zLc, Nat.reduceAdd, zNz, FlowR.restL, FlowR.orM, Bool.false_or]
      simp only [h20]
      refine wpList_nil ?_
      have HF := Lib.hid (HW4.out.trans (hw.mono HW4.out.size))
      clear h20 hw hb
      cases hbd : (ib && nb) with
      | true =>
       have HPS := Lib.hid (pos_some (p := r) (n := nr) (k := 0) (i := m) (Nat.zero_le _) (by have := HQQ.out.2; omega) (fun j _ h => hno2.out j h) (HRM.out.trans hbd))
       have hq : HQ = (false, -1) := by
        rw [HHQ.out]
        unfold holdsQ
        rw [← HP.out, ← HN.out.2.1, HPN.out, if_neg (by omega), ← HN.out.2.2.2.2.2.1, ← HR.out, HN.out.2.2.2.2.1, HPS.out, if_pos (by omega)]
       have HHQ2 := Lib.hid hq
       clear hbd hq
       go_wp2_with fail
       go_ret2
       exact ⟨by rw [HHQ2.out]; rfl, HA1.out.trans (HF.out.mono HA1.out.size)⟩
      | false =>
       have HRF := Lib.hid (HRM.out.trans hbd)
       clear hbd
       go_wp2_with fail
       go_roundg (nr - (m + 1))
       case measure => have := HQQ.out.2; omega
       case rel =>
        refine ⟨m + 1, by have := HQQ.out.2; omega, by congr 1; exact (IntWalk.wrap64_in _ (by have h1 := HQQ.out.2; have h2 := HN.out.2.2.2.2.2.2.2.1; omega)).trans (by omega), Lib.hid fun j hj => ?_, Lib.hid HF.out⟩
        by_cases h : j < m
        ·exact hno2.out j h
        ·obtain rfl : j = m := by omega
         exact HRF.out
    ·have e6 : ((m : Int) < (nr : Int)) = False := eq_false (by omega)
     obtain rfl : m = nr := by omega
     have HPM := Lib.hid (pos_none (p := r) (n := m) (k := 0) (fun j _ h => hno2.out j (by omega)))
     have hq : HQ = (true, 0) := by
      rw [HHQ.out]
      unfold holdsQ
      rw [← HP.out, ← HN.out.2.1, HPN.out, if_neg (by omega), ← HN.out.2.2.2.2.2.1, ← HR.out, HN.out.2.2.2.2.1, HPM.out, if_neg (by omega)]
     have HHQ2 := Lib.hid hq
     clear hq
     go_wp2_with fail
     go_ret2
     exact ⟨by rw [HHQ2.out]; rfl, HA1.out.trans (hbw2.out.mono HA1.out.size)⟩
end Go.Proofs.YtgofihilkobenaaGreatDoor
