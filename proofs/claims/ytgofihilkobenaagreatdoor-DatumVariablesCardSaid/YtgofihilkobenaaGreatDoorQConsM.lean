/- The model's constraints. -/
import Derived.Test.YtgofihilkobenaaGreatDoorDConsM
import Derived.Test.YtgofihilkobenaaGreatDoorKU
import Derived.Test.YtgofihilkobenaaGreatDoorQFormM
set_option maxRecDepth 100000
namespace Go.Proofs.YtgofihilkobenaaGreatDoor
open List renaming setIfInBounds_toArray → zLa, set_cons_zero → zLb, set_cons_succ → zLc
open FlowR renaming putSel → zFp
open Act renaming put → zAp
open Nat renaming zero_add → zNz
open Go.RowKit Go.Num Go.Flow Go.Maps Go.WideMaps Go.Dtm
set_option maxHeartbeats 16000000
set_option linter.unusedVariables false

theorem mm_more {f g : Bool} {p q : Int} {a b : Rat} (hp : p < 48) (hq : q < 48) : sumTerms (mm f g p a q b) 64 = sumTerms (mm f g p a q b) 48 := by
 refine sum_more (n := 48) (d := 16) fun i hi => ?_
 unfold mm
 rw [if_neg (by omega), if_neg (by omega)]
 rfl
theorem qconstraints_any {w : World} (hg : Glob w) {af : Option Addr} {cf : Nat} {az : Option Addr} {cz : Nat} {fs : List Feat} {zs : List Zn} (h : SchemeIn w af cf az cz fs zs) (hck : check fs zs = 0) :
  Calls Tryz.prog 33 #[.agg #[.slice af fs.length cf, .slice az zs.length cz]] w fun e w' => ∃ v, e = .returned v ∧ ConRow w' w.heap.size v (consTo fs zs zs.length) ∧ Below w.heap.size w w' := by
 have hsm := check_small hck
 obtain ⟨n, hn⟩ : ∃ n, n = fs.length := ⟨_, rfl⟩
 obtain ⟨nz, hnz⟩ : ∃ n, n = zs.length := ⟨_, rfl⟩
 obtain ⟨wa, hwa⟩ : ∃ wa, wa = w.alloc (.cells #[.slice af n cf, .slice az nz cz] 26) := ⟨_, rfl⟩
 obtain ⟨ba, hba⟩ : ∃ b, b = w.heap.size := ⟨_, rfl⟩
 have hal : Below w.heap.size w wa := by rw [hwa]; exact (Below.refl _ w).alloc (Nat.le_refl _) _
 have k0 : wa.heap[ba]? = some (.cells #[.slice af n cf, .slice az nz cz] 26 (0, 0)) := by rw [hwa, hba]; exact heap_alloc_new w _
 have s0 := block_cell k0 0
 have s1 := block_cell k0 1
 simp at s0 s1
 have HS := Lib.hid (h.below hal)
 have HG := Lib.hid (hg.below hal)
 have HAL := Lib.hid hal
 have HSC := Lib.hid (And.intro s0 s1)
 have HN := Lib.hid (And.intro hn hnz)
 have HBA := Lib.hid k0
 have HW := Lib.hid (And.intro hwa hba)
 have hcap : n ≤ cf ∧ cf ≤ 9223372036854775807 := by rw [hn]; exact ⟨h.feats.1, h.feats.2.1⟩
 have hcapz : nz ≤ cz ∧ cz ≤ 9223372036854775807 := by rw [hnz]; exact ⟨h.zones.1, h.zones.2.1⟩
 obtain ⟨i0, hi, hz0, hz1, hz2⟩ := info_parts infoCon
 have HI := Lib.hid (And.intro hi (And.intro hz0 (And.intro hz1 hz2)))
 have hmm := @run_makeMap Tryz.prog
 have hlm := fun (W : World) (hW : SchemeIn W af cf az cz fs zs) (i k : Int) => qlimits_any hW (by omega) i k
 have hix0 := fun (W : World) (hW : SchemeIn W af cf az cz fs zs) (i k : Int) => qat_any hW hck i k
 simp only [← hn, ← hnz] at hlm
 have HLM := Lib.hid hlm
 have HIX0 := Lib.hid hix0
 have HC0 := Lib.hid (And.intro hck hsm)
 have hnz9 : nz ≤ 32 := by omega
 rw [← hn, ← hnz]
 clear hal hwa hba k0 h hck hn hnz hi hz0 hz1 hz2 hg hlm hix0 hsm
 go_enter Tryz.func33, Tryz.ntmps33
 go_upto_region 1 with fail
 rw [← HW.out.1, ← HW.out.2]
 clear HW
 go_wp2_with fail
 refine (ratFrom_any (n := 1) (by omega) (by omega)).mono ?_
 rintro e w0 ⟨v1, rfl, hr1, hb0⟩
 rw [show ((1 : Int) : Rat) = 1 from rfl] at hr1
 obtain ⟨s1', a1, c1, l1, s2', a2, c2, l2, rfl⟩ := rt_shape hr1
 go_upto_region 3 with fail
 obtain ⟨w1, hw1⟩ : ∃ x, x = w0.alloc (.cells #[.bool s1', .slice a1 c1 l1, .bool s2', .slice a2 c2 l2] 65) := ⟨_, rfl⟩
 obtain ⟨bo1, hbo1⟩ : ∃ b, b = w0.heap.size := ⟨_, rfl⟩
 rw [← hw1, ← hbo1]
 have hl0 : Below w0.heap.size w0 w1 := by rw [hw1]; exact (Below.refl _ w0).alloc (Nat.le_refl _) _
 have ko1 : w1.heap[bo1]? = some (.cells #[.bool s1', .slice a1 c1 l1, .bool s2', .slice a2 c2 l2] 65 (0, 0)) := by rw [hw1, hbo1]; exact heap_alloc_new w0 _
 have HO1 := Lib.hid (And.intro ko1 (hr1.below hl0))
 have HB1 := Lib.hid (hb0.trans (hl0.mono hb0.size))
 have s0 := cell_below HB1.out HSC.out.1
 have s1 := cell_below HB1.out HSC.out.2
 clear hw1 hbo1 hl0 ko1 hr1 hb0
 go_wp2_with fail
 clear s0 s1
 go_loopg [3, 18] nz (fun gk v x wr => ∃ k : Nat, k + gk = nz ∧ x = .int .i64 k ∧ Hid (ConRow wr w1.heap.size v (consTo fs zs k)) ∧ Hid (Below w1.heap.size w1 wr))
 case atStart => exact ⟨0, by omega, rfl, Lib.hid ⟨[], rfl, World.ownsRow_nil _ _ _ _, fun j hj => absurd hj (by simp [consTo])⟩, Lib.hid (Below.refl _ _)⟩
 case round =>
  obtain ⟨k, hk, rfl, hrow, hbw⟩ := hrel
  have HBW := Lib.hid (HB1.out.trans (hbw.out.mono HB1.out.size))
  have s0 := cell_below HBW.out HSC.out.1
  have s1 := cell_below HBW.out HSC.out.2
  by_cases hlt : k < nz
  ·have e1 : ((k : Int) < (nz : Int)) = True := eq_true (by omega)
   obtain ⟨bo, o, rfl, hlo, hco⟩ := HS.out.zones.2.2 (by have := HN.out.2; omega)
   obtain ⟨z, hzd⟩ : ∃ z, z = zs.getD k Zn.none := ⟨_, rfl⟩
   have hkz : k < zs.length := by have := HN.out.2; omega
   have hx := hco k hkz
   have hzr := zone_right HC0.out.1 hkz
   have hzv := zone_vars HC0.out.1 hkz
   have hcs := consTo_succ (fs := fs) hkz
   rw [← hzd] at hx hzr hzv hcs
   obtain ⟨kf, hkf⟩ : ∃ i : Nat, z.feature = (i : Int) := ⟨z.feature.toNat, by omega⟩
   have x0 := cell_below HBW.out hx.1
   have x1 := cell_below HBW.out hx.2.1
   have x2 := cell_below HBW.out hx.2.2.1
   have x3 := cell_below HBW.out hx.2.2.2.1
   have x4 := cell_below HBW.out hx.2.2.2.2
   rw [hkf] at x1
   have hk0 : (0 : Int) ≤ (k : Int) := by omega
   have hk1 : (k : Int) < (nz : Int) := by omega
   have HZR := Lib.hid (And.intro hzr (And.intro hzv (And.intro hkf (And.intro hcs hlt))))
   clear hx hzr hzv hkz hzd hlt hco hkf hcs
   go_upto_region 6 with fail
   obtain ⟨w4, hw4⟩ : ∃ x, x = wr.alloc (.cells #[.int .i64 z.kind, .int .i64 (kf : Int), .int .i64 z.lower, .int .i64 z.upper, .bool z.bonus] 30) := ⟨_, rfl⟩
   obtain ⟨bz, hbz⟩ : ∃ b, b = wr.heap.size := ⟨_, rfl⟩
   rw [← hw4, ← hbz]
   have hl4 : Below wr.heap.size wr w4 := by rw [hw4]; exact (Below.refl _ wr).alloc (Nat.le_refl _) _
   have kz : w4.heap[bz]? = some (.cells #[.int .i64 z.kind, .int .i64 (kf : Int), .int .i64 z.lower, .int .i64 z.upper, .bool z.bonus] 30 (0, 0)) := by rw [hw4, hbz]; exact heap_alloc_new wr _
   have z1 := block_cell kz 1
   have z4 := block_cell kz 4
   simp at z1 z4
   have HKZ := Lib.hid kz
   have HB4 := Lib.hid (HBW.out.trans (hl4.mono HBW.out.size))
   have HB14 := Lib.hid (hbw.out.trans (hl4.mono hbw.out.size))
   have HR4 := Lib.hid (hrow.out.below hl4)
   have s0 := cell_below HB4.out HSC.out.1
   have s1 := cell_below HB4.out HSC.out.2
   clear hw4 hbz hl4 kz hbw hrow HBW x0 x1 x2 x3 x4
   cases hbo : z.bonus with
   | false =>
    have HBO := Lib.hid hbo
    rw [hbo] at z4
    clear hbo
    go_wp2_with fail
    go_roundg (nz - (k + 1))
    case measure => have := HZR.out.2.2.2.2; omega
    case rel =>
     refine ⟨k + 1, by have := HZR.out.2.2.2.2; omega, by congr 1, Lib.hid ?_, HB14⟩
     rw [HZR.out.2.2.2.1, HBO.out, if_neg (by simp), List.append_nil]
     exact HR4.out
   | true =>
    have HBO := Lib.hid hbo
    rw [hbo] at z4
    clear hbo
    obtain ⟨fb, fo, rfl, hfl, hfc⟩ := HS.out.feats.2.2 (by have := HZR.out; omega)
    have hkn : kf < fs.length := by have h1 := HZR.out.1.2.1; have h2 := HZR.out.2.2.1; omega
    obtain ⟨f, hf⟩ : ∃ f, f = fs.getD kf Feat.none := ⟨_, rfl⟩
    have hx := hfc kf hkn
    have hfr := feat_right HC0.out.1 hkn
    rw [← hf] at hx hfr
    have f0 := cell_below HB4.out hx.1
    have f1 := cell_below HB4.out hx.2.1
    have f2 := cell_below HB4.out hx.2.2.1
    have f3 := cell_below HB4.out hx.2.2.2.1
    have f4 := cell_below HB4.out hx.2.2.2.2.1
    have f5 := cell_below HB4.out hx.2.2.2.2.2
    have hk0 : (0 : Int) ≤ (kf : Int) := by omega
    have hk1 : (kf : Int) < (n : Int) := by have := HN.out.1; omega
    have HF := Lib.hid (And.intro hf (And.intro hfr hkn))
    clear hfl hfc hx hf hfr hkn
    go_upto_region 8 with fail
    obtain ⟨w5, hw5⟩ : ∃ x, x = w4.alloc (.cells #[.string f.name, .int .i64 f.kind, .int .i64 f.axis, .int .i64 f.datum, .int .i64 f.place, .int .i64 f.wide] 28) := ⟨_, rfl⟩
    obtain ⟨bf, hbf⟩ : ∃ b, b = w4.heap.size := ⟨_, rfl⟩
    rw [← hw5, ← hbf]
    have hl5 : Below w4.heap.size w4 w5 := by rw [hw5]; exact (Below.refl _ w4).alloc (Nat.le_refl _) _
    have kf5 : w5.heap[bf]? = some (.cells #[.string f.name, .int .i64 f.kind, .int .i64 f.axis, .int .i64 f.datum, .int .i64 f.place, .int .i64 f.wide] 28 (0, 0)) := by rw [hw5, hbf]; exact heap_alloc_new w4 _
    have HKF := Lib.hid kf5
    have HB5 := Lib.hid (HB4.out.trans (hl5.mono HB4.out.size))
    have HB15 := Lib.hid (HB14.out.trans (hl5.mono HB14.out.size))
    have HR5 := Lib.hid (HR4.out.below hl5)
    have kz5 := (hl5.block bz (lt_of_block HKZ.out)).trans HKZ.out
    have HKZ5 := Lib.hid kz5
    have z1 := block_cell kz5 1
    simp at z1
    have s0 := cell_below HB5.out HSC.out.1
    have s1 := cell_below HB5.out HSC.out.2
    clear hw5 hbf hl5 kf5 kz5 f0 f1 f2 f3 f4 f5 hk0 hk1 z4 HR4 HB4 HB14 HKZ
    go_wp2_with fail
    refine (HLM.out w5 (HS.out.below HB5.out) (kf : Int) 2).mono ?_
    rintro e w7 ⟨rfl, hb6⟩
    obtain ⟨y, hy⟩ : ∃ z, z = zoneOf zs (kf : Int) 2 := ⟨_, rfl⟩
    have hyb := zoneOf_bound HC0.out.1 (kf : Int) 2
    rw [← hy] at hyb ⊢
    have HY := Lib.hid (And.intro hy hyb)
    have HKF7 := Lib.hid ((hb6.block bf (lt_of_block HKF.out)).trans HKF.out)
    have HKZ7 := Lib.hid ((hb6.block bz (lt_of_block HKZ5.out)).trans HKZ5.out)
    have HB7 := Lib.hid (HB5.out.trans (hb6.mono HB5.out.size))
    have HB17 := Lib.hid (HB15.out.trans (hb6.mono HB15.out.size))
    have HR7 := Lib.hid (HR5.out.below hb6)
    clear hy hyb hb6 s0 s1 z1 HKF HKZ5 HR5 HB5 HB15
    have HKA7 := Lib.hid ((HB7.out.block ba (lt_of_block HBA.out)).trans HBA.out)
    have HW7 := Lib.hid (Below.refl w7.heap.size w7)
    obtain ⟨V, hV⟩ : ∃ V, V = varsTo fs zs fs.length := ⟨_, rfl⟩
    have hix := HIX0.out
    simp only [← hV] at hix
    simp only [← HN.out.1, ← HN.out.2] at hix
    have hvl := vars_len fs zs fs.length
    have hz1 : 0 ≤ varAt (varsTo fs zs fs.length) (kf : Int) 1 := var_mem (varsTo_has HF.out.2.2 (by unfold varsAt; simp))
    have hz2 := HZR.out.2.1.2 HBO.out
    rw [HZR.out.2.2.1] at hz2
    have hp9 := varAt_lt _ _ _ hz1
    have hq9 := varAt_lt _ _ _ hz2
    have hne := varAt_ne hz1
    rw [← hV] at hz1 hz2 hp9 hq9 hne hvl
    obtain ⟨p, hp⟩ : ∃ x, x = varAt V (kf : Int) 1 := ⟨_, rfl⟩
    obtain ⟨q, hq⟩ : ∃ x, x = varAt V (kf : Int) 2 := ⟨_, rfl⟩
    rw [← hp] at hz1 hp9 hne
    rw [← hq] at hz2 hq9 hne
    have HIX := Lib.hid hix
    have HPQ := Lib.hid (And.intro hp (And.intro hq (And.intro hV (And.intro hne (show (0 ≤ p ∧ p < 48) ∧ 0 ≤ q ∧ q < 48 by have := HC0.out.2.1; omega)))))
    clear hix hvl hz1 hz2 hp9 hq9 hp hq hV hne
    go_upto_region 9 with fail
    refine FlowR.wp_region_sel (fun a b => Below a.heap.size a b) (fun a => Below.refl _ a) (fun _ _ _ h k => h.trans (k.mono h.size)) [0, 1, 2, 3, 4, 5, 6, 7] [false, false, false, false, false, false, false, false, false, false] [true, true, true, true, true, true, true, true, false, false] (fun i9 v w' => match i9 with
     | 0 => v = .agg #[.slice (some ⟨fb, fo, none⟩) n cf, .slice (some ⟨bo, o, none⟩) nz cz]
     | 1 => v = .pointer (some ⟨bz, 1, none⟩)
     | 2 => v = .int .i64 (kf : Int)
     | 3 => v = .int .i64 p
     | 4 => v = .agg #[.slice (some ⟨fb, fo, none⟩) n cf, .slice (some ⟨bo, o, none⟩) nz cz]
     | 5 => v = .pointer (some ⟨bz, 1, none⟩)
     | 6 => v = .int .i64 (kf : Int)
     | _ => v = .int .i64 q) rfl rfl (by kernel_rfl) (by kernel_rfl) (by kernel_rfl) (by kernel_rfl) ?st ?steps ?fin
    case st =>
     intro i9 v u1 u2 h hb
     match i9 with
     | 0 => exact h
     | 1 => exact h
     | 2 => exact h
     | 3 => exact h
     | 4 => exact h
     | 5 => exact h
     | 6 => exact h
     | 7 => exact h
     | _ + 8 => exact h
    case steps =>
     refine Flow.Steps.cons (FlowR.Step.of rfl ?s0) (Flow.Steps.cons (FlowR.Step.of rfl ?s1) (Flow.Steps.cons (FlowR.Step.of rfl ?s2) (Flow.Steps.cons (FlowR.Step.of rfl ?s3) (Flow.Steps.cons (FlowR.Step.of rfl ?s4) (Flow.Steps.cons (FlowR.Step.of rfl ?s5) (Flow.Steps.cons (FlowR.Step.of rfl ?s6) (Flow.Steps.cons (FlowR.Step.of rfl ?s7) Flow.Steps.nil)))))))
     case s0 =>
      intro xs w' hb hT K9 hK9
      clear hT
      simp only [zFp, zAp, zLa, zLb, zLc, Nat.reduceAdd, zNz] at hK9 ⊢
      have hw := Flow.hwD HW7.out hb
      have kb := (hw.block ba (lt_of_block HKA7.out)).trans HKA7.out
      have y0 := block_cell kb 0
      have y1 := block_cell kb 1
      clear kb
      simp at y0 y1
      go_simp
      exact hK9 _ _ (Below.refl _ _) rfl
     case s1 =>
      intro xs w' hb hT K9 hK9
      clear hT
      simp only [zFp, zAp, zLa, zLb, zLc, Nat.reduceAdd, zNz] at hK9 ⊢
      have hw := Flow.hwD HW7.out hb
      go_simp
      exact hK9 _ _ (Below.refl _ _) rfl
     case s2 =>
      intro xs w' hb hT K9 hK9
      have h1 : (xs 1) = .pointer (some ⟨bz, 1, none⟩) := hT 1 (by kernel_rfl)
      clear hT
      simp only [zFp, zAp, zLa, zLb, zLc, Nat.reduceAdd, zNz] at hK9 ⊢
      have hw := Flow.hwD HW7.out hb
      have kb := (hw.block bz (lt_of_block HKZ7.out)).trans HKZ7.out
      have y0 := block_cell kb 1
      clear kb
      simp at y0
      (try simp only [h1] at hK9)
      go_simp
      exact hK9 _ _ (Below.refl _ _) rfl
     case s3 =>
      intro xs w' hb hT K9 hK9
      have h0 : (xs 0) = .agg #[.slice (some ⟨fb, fo, none⟩) n cf, .slice (some ⟨bo, o, none⟩) nz cz] := hT 0 (by kernel_rfl)
      have h2 : (xs 2) = .int .i64 (kf : Int) := hT 2 (by kernel_rfl)
      clear hT
      simp only [zFp, zAp, zLa, zLb, zLc, Nat.reduceAdd, zNz] at hK9 ⊢
      have hw := Flow.hwD HW7.out hb
      (try simp only [h0] at hK9)
      (try simp only [h2] at hK9)
      go_simp
      go_at_call 69
      refine (HIX.out _ (HS.out.below (HB7.out.trans (hw.mono HB7.out.size))) (kf : Int) 1).mono ?_
      rintro e w3 ⟨rfl, hb3⟩
      exact hK9 _ _ hb3 (by rw [HPQ.out.1])
     case s4 =>
      intro xs w' hb hT K9 hK9
      clear hT
      simp only [zFp, zAp, zLa, zLb, zLc, Nat.reduceAdd, zNz] at hK9 ⊢
      have hw := Flow.hwD HW7.out hb
      have kb := (hw.block ba (lt_of_block HKA7.out)).trans HKA7.out
      have y0 := block_cell kb 0
      have y1 := block_cell kb 1
      clear kb
      simp at y0 y1
      go_simp
      exact hK9 _ _ (Below.refl _ _) rfl
     case s5 =>
      intro xs w' hb hT K9 hK9
      clear hT
      simp only [zFp, zAp, zLa, zLb, zLc, Nat.reduceAdd, zNz] at hK9 ⊢
      have hw := Flow.hwD HW7.out hb
      go_simp
      exact hK9 _ _ (Below.refl _ _) rfl
     case s6 =>
      intro xs w' hb hT K9 hK9
      have h5 : (xs 5) = .pointer (some ⟨bz, 1, none⟩) := hT 5 (by kernel_rfl)
      clear hT
      simp only [zFp, zAp, zLa, zLb, zLc, Nat.reduceAdd, zNz] at hK9 ⊢
      have hw := Flow.hwD HW7.out hb
      have kb := (hw.block bz (lt_of_block HKZ7.out)).trans HKZ7.out
      have y0 := block_cell kb 1
      clear kb
      simp at y0
      (try simp only [h5] at hK9)
      go_simp
      exact hK9 _ _ (Below.refl _ _) rfl
     case s7 =>
      intro xs w' hb hT K9 hK9
      have h4 : (xs 4) = .agg #[.slice (some ⟨fb, fo, none⟩) n cf, .slice (some ⟨bo, o, none⟩) nz cz] := hT 4 (by kernel_rfl)
      have h6 : (xs 6) = .int .i64 (kf : Int) := hT 6 (by kernel_rfl)
      clear hT
      simp only [zFp, zAp, zLa, zLb, zLc, Nat.reduceAdd, zNz] at hK9 ⊢
      have hw := Flow.hwD HW7.out hb
      (try simp only [h4] at hK9)
      (try simp only [h6] at hK9)
      go_simp
      go_at_call 69
      refine (HIX.out _ (HS.out.below (HB7.out.trans (hw.mono HB7.out.size))) (kf : Int) 2).mono ?_
      rintro e w3 ⟨rfl, hb3⟩
      exact hK9 _ _ hb3 (by rw [HPQ.out.2.1])
    case fin =>
     intro xs w' hb hT
     have hw := Flow.hwD HW7.out hb
     have h3 : (xs 3) = .int .i64 p := hT 3 (by rfl)
     have h7 : (xs 7) = .int .i64 q := hT 7 (by rfl)
     clear hT
     simp only [zFp, zAp, zLa, zLb, zLc, Nat.reduceAdd, zNz, FlowR.restL, FlowR.orM, Bool.false_or]
     simp only [h3, h7]
     clear h3 h7
     obtain ⟨wd, hwd⟩ : ∃ x, x = w' := ⟨_, rfl⟩
     rw [← hwd] at hw ⊢
     have HWD := Lib.hid hw
     have HB1D := Lib.hid (HB17.out.trans (hw.mono HB17.out.size))
     have HKOD := Lib.hid ((HB1D.out.block bo1 (lt_of_block HO1.out.1)).trans HO1.out.1)
     have HROD := Lib.hid (HO1.out.2.below HB1D.out)
     have HWW := Lib.hid (Below.refl wd.heap.size wd)
     clear hb hw hwd
     generalize xs = xs0 at *
     go_upto_region 10 with fail
     refine FlowX.wp_region_mix Stays (fun _ _ h => Stays.of_below h) [0, 1, 2, 3, 4, 5, 6, 7, 8] [true, true, true, true, true, true, true, true, true, false] (fun j9 => ([0, 3, 7, 8] : List Nat).contains j9) (fun i9 v w' => match i9 with
      | 0 => ∃ b, v = .map (some b)
      | 1 => v = .int .i64 p
      | 2 => v = .agg #[.bool s1', .slice a1 c1 l1, .bool s2', .slice a2 c2 l2]
      | 3 => True
      | 4 => v = .int .i64 q
      | 5 => v = .agg #[.bool s1', .slice a1 c1 l1, .bool s2', .slice a2 c2 l2]
      | 6 => RtIn w' v (-1) 2
      | 7 => True
      | _ => ∃ b, v = .map (some b)) (fun L xs w => Half w wd.heap.size p q 1 (-1) 0 3 7 8 L xs) rfl rfl (by kernel_rfl) (by kernel_rfl) (by kernel_rfl) (by kernel_rfl) ?st ?hX ?hX0 ?steps ?fin
     case st =>
      intro i9 v u1 u2 h hb
      match i9 with
      | 0 => exact (show ∃ b, v = .map (some b) from h)
      | 1 => exact h
      | 2 => exact h
      | 3 => exact trivial
      | 4 => exact h
      | 5 => exact h
      | 6 => exact (show RtIn u1 v (-1) 2 from h).stays hb
      | 7 => exact trivial
      | 8 => exact (show ∃ b, v = .map (some b) from h)
      | _ + 9 => exact (show ∃ b, v = .map (some b) from h)
     case hX => exact fun L xs w L' xs' w' h he hb => h.agree (he 0 rfl) (he 3 rfl).1 (he 7 rfl).1 (he 8 rfl) (fun _ _ _ _ _ e => e.below hb)
     case hX0 => exact fun xs => Half.init _
     case steps =>
      refine Flow.Steps.cons (.inr ⟨rfl, FlowX.StepX.of rfl ?s0⟩) (Flow.Steps.cons (.inl ⟨rfl, FlowX.StepS.of rfl ?s1⟩) (Flow.Steps.cons (.inl ⟨rfl, FlowX.StepS.of rfl ?s2⟩) (Flow.Steps.cons (.inr ⟨rfl, FlowX.StepX.of rfl ?s3⟩) (Flow.Steps.cons (.inl ⟨rfl, FlowX.StepS.of rfl ?s4⟩) (Flow.Steps.cons (.inl ⟨rfl, FlowX.StepS.of rfl ?s5⟩) (Flow.Steps.cons (.inl ⟨rfl, FlowX.StepS.of rfl ?s6⟩) (Flow.Steps.cons (.inr ⟨rfl, FlowX.StepX.of rfl ?s7⟩) (Flow.Steps.cons (.inr ⟨rfl, FlowX.StepX.of rfl ?s8⟩) Flow.Steps.nil))))))))
      case s0 =>
       intro L9 xs w' hb hT hX9 hL9 K9 hK9
       clear hT
       simp only [zFp, zAp, zLa, zLb, zLc, Nat.reduceAdd, zNz] at hK9 ⊢
       have hw := Flow.hwD HWW.out hb
       go_simp
       exact hK9 _ _ (hb.alloc hb.size _) (Stays.of_below ((Below.refl _ _).alloc (Nat.le_refl _) _)) ⟨_, rfl⟩ (hX9.make hL9 hb.size (by decide))
      case s1 =>
       intro L9 xs w' hb hT hX9 K9 hK9
       clear hT
       simp only [zFp, zAp, zLa, zLb, zLc, Nat.reduceAdd, zNz] at hK9 ⊢
       have hw := Flow.hwD HWW.out hb
       go_simp
       exact hK9 _ _ (Below.refl _ _) rfl
      case s2 =>
       intro L9 xs w' hb hT hX9 K9 hK9
       clear hT
       simp only [zFp, zAp, zLa, zLb, zLc, Nat.reduceAdd, zNz] at hK9 ⊢
       have hw := Flow.hwD HWW.out hb
       have kb := (hw.block bo1 (lt_of_block HKOD.out)).trans HKOD.out
       have y0 := block_cell kb 0
       have y1 := block_cell kb 1
       have y2 := block_cell kb 2
       have y3 := block_cell kb 3
       clear kb
       simp at y0 y1 y2 y3
       go_simp
       exact hK9 _ _ (Below.refl _ _) rfl
      case s3 =>
       intro L9 xs w' hb hT hX9 hL9 K9 hK9
       have h0 : ∃ b, (xs 0) = .map (some b) := (hT 0 (by kernel_rfl)).2
       have l0 : L9 0 = true := (hT 0 (by kernel_rfl)).1
       have h1 : (xs 1) = .int .i64 p := (hT 1 (by kernel_rfl)).2
       have h2 : (xs 2) = .agg #[.bool s1', .slice a1 c1 l1, .bool s2', .slice a2 c2 l2] := (hT 2 (by kernel_rfl)).2
       clear hT
       simp only [zFp, zAp, zLa, zLb, zLc, Nat.reduceAdd, zNz] at hK9 ⊢
       have hw := Flow.hwD HWW.out hb
       (try simp only [h1] at hK9)
       (try simp only [h2] at hK9)
       obtain ⟨bl, e1, hBl, hm⟩ := hX9.map l0
       have hcn : cnt (L9 3) (L9 7) ≤ 2 := by unfold cnt; cases L9 3 <;> cases L9 7 <;> simp
       obtain ⟨w5, hrun, hm5, hg5, hs5⟩ := hm.store (by unfold maxLen; omega) (show -9223372036854775808 ≤ p by have := HPQ.out.2.2.2.2; omega) (show p ≤ 9223372036854775807 by have := HPQ.out.2.2.2.2; omega) (HROD.out.below hw)
       clear hcn
       (try simp only [e1] at hK9)
       go_simp
       exact hK9 undef _ (hb.grown hg5 hb.size (fun q9 e9 => by cases e9; exact hBl)) hs5 trivial (hX9.first hL9 HPQ.out.2.2.2.1 e1 l0 (by decide) undef hBl hm5)
      case s4 =>
       intro L9 xs w' hb hT hX9 K9 hK9
       clear hT
       simp only [zFp, zAp, zLa, zLb, zLc, Nat.reduceAdd, zNz] at hK9 ⊢
       have hw := Flow.hwD HWW.out hb
       go_simp
       exact hK9 _ _ (Below.refl _ _) rfl
      case s5 =>
       intro L9 xs w' hb hT hX9 K9 hK9
       clear hT
       simp only [zFp, zAp, zLa, zLb, zLc, Nat.reduceAdd, zNz] at hK9 ⊢
       have hw := Flow.hwD HWW.out hb
       have kb := (hw.block bo1 (lt_of_block HKOD.out)).trans HKOD.out
       have y0 := block_cell kb 0
       have y1 := block_cell kb 1
       have y2 := block_cell kb 2
       have y3 := block_cell kb 3
       clear kb
       simp at y0 y1 y2 y3
       go_simp
       exact hK9 _ _ (Below.refl _ _) rfl
      case s6 =>
       intro L9 xs w' hb hT hX9 K9 hK9
       have h5 : (xs 5) = .agg #[.bool s1', .slice a1 c1 l1, .bool s2', .slice a2 c2 l2] := (hT 5 (by kernel_rfl)).2
       clear hT
       simp only [zFp, zAp, zLa, zLb, zLc, Nat.reduceAdd, zNz] at hK9 ⊢
       have hw := Flow.hwD HWW.out hb
       (try simp only [h5] at hK9)
       go_simp
       go_at_call 81
       refine (ratNeg_any (HROD.out.below hw)).mono ?_
       rintro e w3 ⟨v3, rfl, hi3, hb3⟩
       exact hK9 _ _ hb3 hi3
      case s7 =>
       intro L9 xs w' hb hT hX9 hL9 K9 hK9
       have h0 : ∃ b, (xs 0) = .map (some b) := (hT 0 (by kernel_rfl)).2
       have l0 : L9 0 = true := (hT 0 (by kernel_rfl)).1
       have h4 : (xs 4) = .int .i64 q := (hT 4 (by kernel_rfl)).2
       have h6 : RtIn w' (xs 6) (-1) 2 := (hT 6 (by kernel_rfl)).2
       clear hT
       simp only [zFp, zAp, zLa, zLb, zLc, Nat.reduceAdd, zNz] at hK9 ⊢
       have hw := Flow.hwD HWW.out hb
       (try simp only [h4] at hK9)
       obtain ⟨bl, e1, hBl, hm⟩ := hX9.map l0
       have hcn : cnt (L9 3) (L9 7) ≤ 2 := by unfold cnt; cases L9 3 <;> cases L9 7 <;> simp
       obtain ⟨w5, hrun, hm5, hg5, hs5⟩ := hm.store (by unfold maxLen; omega) (show -9223372036854775808 ≤ q by have := HPQ.out.2.2.2.2; omega) (show q ≤ 9223372036854775807 by have := HPQ.out.2.2.2.2; omega) (h6)
       clear hcn
       (try simp only [e1] at hK9)
       go_simp
       exact hK9 undef _ (hb.grown hg5 hb.size (fun q9 e9 => by cases e9; exact hBl)) hs5 trivial (hX9.second hL9 e1 l0 (by decide) undef hBl hm5)
      case s8 =>
       intro L9 xs w' hb hT hX9 hL9 K9 hK9
       have h0 : ∃ b, (xs 0) = .map (some b) := (hT 0 (by kernel_rfl)).2
       have l0 : L9 0 = true := (hT 0 (by kernel_rfl)).1
       have h3 : True := (hT 3 (by kernel_rfl)).2
       have l3 : L9 3 = true := (hT 3 (by kernel_rfl)).1
       have h7 : True := (hT 7 (by kernel_rfl)).2
       have l7 : L9 7 = true := (hT 7 (by kernel_rfl)).1
       clear hT
       simp only [zFp, zAp, zLa, zLb, zLc, Nat.reduceAdd, zNz] at hK9 ⊢
       have hw := Flow.hwD HWW.out hb
       obtain ⟨bl, e1, hBl, hm⟩ := hX9.map l0
       have hmv := hX9.moved l0 l3 l7 (by decide)
       rw [e1] at hmv
       (try simp only [e1] at hK9)
       go_simp
       exact hK9 _ _ hb (Stays.refl _) ⟨_, rfl⟩ hmv
     case fin =>
      intro xs w' hb hT hX9
      have hw := Flow.hwD HWW.out hb
      clear hT
      simp only [zFp, zAp, zLa, zLb, zLc, Nat.reduceAdd, zNz, FlowR.restL]
      obtain ⟨e8, l0, l3, l7⟩ := hX9.move rfl
      obtain ⟨bA, e1A, hBA, hmA⟩ := hX9.map rfl
      rw [l3, l7] at hmA
      rw [e1A] at e8
      simp only [e8]
      clear e8 e1A hX9 l0 l3 l7
      obtain ⟨we, hwe⟩ : ∃ x, x = w' := ⟨_, rfl⟩
      rw [← hwe] at hw hmA ⊢
      have HMA := Lib.hid hmA
      have HWE := Lib.hid (HWD.out.trans (hw.mono HWD.out.size))
      have HB1E := Lib.hid (HB1D.out.trans (hw.mono HB1D.out.size))
      have HKOE := Lib.hid ((hw.block bo1 (lt_of_block HKOD.out)).trans HKOD.out)
      have HROE := Lib.hid (HROD.out.below hw)
      have HWWE := Lib.hid (Below.refl we.heap.size we)
      clear hb hw hwe hmA hBA
      generalize xs = xs1 at *
      go_upto_region 11 with fail
      refine FlowX.wp_region_mix Stays (fun _ _ h => Stays.of_below h) [0, 1, 2, 3, 4, 5, 6, 7, 8, 9] [true, true, true, true, true, true, true, true, true, true, false] (fun j9 => ([0, 4, 8, 9] : List Nat).contains j9) (fun i9 v w' => match i9 with
       | 0 => ∃ b, v = .map (some b)
       | 1 => v = .int .i64 p
       | 2 => v = .agg #[.bool s1', .slice a1 c1 l1, .bool s2', .slice a2 c2 l2]
       | 3 => RtIn w' v (-1) 2
       | 4 => True
       | 5 => v = .int .i64 q
       | 6 => v = .agg #[.bool s1', .slice a1 c1 l1, .bool s2', .slice a2 c2 l2]
       | 7 => RtIn w' v (-1) 2
       | 8 => True
       | _ => ∃ b, v = .map (some b)) (fun L xs w => Half w we.heap.size p q (-1) (-1) 0 4 8 9 L xs) rfl rfl (by kernel_rfl) (by kernel_rfl) (by kernel_rfl) (by kernel_rfl) ?st ?hX ?hX0 ?steps ?fin
      case st =>
       intro i9 v u1 u2 h hb
       match i9 with
       | 0 => exact (show ∃ b, v = .map (some b) from h)
       | 1 => exact h
       | 2 => exact h
       | 3 => exact (show RtIn u1 v (-1) 2 from h).stays hb
       | 4 => exact trivial
       | 5 => exact h
       | 6 => exact h
       | 7 => exact (show RtIn u1 v (-1) 2 from h).stays hb
       | 8 => exact trivial
       | 9 => exact (show ∃ b, v = .map (some b) from h)
       | _ + 10 => exact (show ∃ b, v = .map (some b) from h)
      case hX => exact fun L xs w L' xs' w' h he hb => h.agree (he 0 rfl) (he 4 rfl).1 (he 8 rfl).1 (he 9 rfl) (fun _ _ _ _ _ e => e.below hb)
      case hX0 => exact fun xs => Half.init _
      case steps =>
       refine Flow.Steps.cons (.inr ⟨rfl, FlowX.StepX.of rfl ?s0⟩) (Flow.Steps.cons (.inl ⟨rfl, FlowX.StepS.of rfl ?s1⟩) (Flow.Steps.cons (.inl ⟨rfl, FlowX.StepS.of rfl ?s2⟩) (Flow.Steps.cons (.inl ⟨rfl, FlowX.StepS.of rfl ?s3⟩) (Flow.Steps.cons (.inr ⟨rfl, FlowX.StepX.of rfl ?s4⟩) (Flow.Steps.cons (.inl ⟨rfl, FlowX.StepS.of rfl ?s5⟩) (Flow.Steps.cons (.inl ⟨rfl, FlowX.StepS.of rfl ?s6⟩) (Flow.Steps.cons (.inl ⟨rfl, FlowX.StepS.of rfl ?s7⟩) (Flow.Steps.cons (.inr ⟨rfl, FlowX.StepX.of rfl ?s8⟩) (Flow.Steps.cons (.inr ⟨rfl, FlowX.StepX.of rfl ?s9⟩) Flow.Steps.nil)))))))))
       case s0 =>
        intro L9 xs w' hb hT hX9 hL9 K9 hK9
        clear hT
        simp only [zFp, zAp, zLa, zLb, zLc, Nat.reduceAdd, zNz] at hK9 ⊢
        have hw := Flow.hwD HWWE.out hb
        go_simp
        exact hK9 _ _ (hb.alloc hb.size _) (Stays.of_below ((Below.refl _ _).alloc (Nat.le_refl _) _)) ⟨_, rfl⟩ (hX9.make hL9 hb.size (by decide))
       case s1 =>
        intro L9 xs w' hb hT hX9 K9 hK9
        clear hT
        simp only [zFp, zAp, zLa, zLb, zLc, Nat.reduceAdd, zNz] at hK9 ⊢
        have hw := Flow.hwD HWWE.out hb
        go_simp
        exact hK9 _ _ (Below.refl _ _) rfl
       case s2 =>
        intro L9 xs w' hb hT hX9 K9 hK9
        clear hT
        simp only [zFp, zAp, zLa, zLb, zLc, Nat.reduceAdd, zNz] at hK9 ⊢
        have hw := Flow.hwD HWWE.out hb
        have kb := (hw.block bo1 (lt_of_block HKOE.out)).trans HKOE.out
        have y0 := block_cell kb 0
        have y1 := block_cell kb 1
        have y2 := block_cell kb 2
        have y3 := block_cell kb 3
        clear kb
        simp at y0 y1 y2 y3
        go_simp
        exact hK9 _ _ (Below.refl _ _) rfl
       case s3 =>
        intro L9 xs w' hb hT hX9 K9 hK9
        have h2 : (xs 2) = .agg #[.bool s1', .slice a1 c1 l1, .bool s2', .slice a2 c2 l2] := (hT 2 (by kernel_rfl)).2
        clear hT
        simp only [zFp, zAp, zLa, zLb, zLc, Nat.reduceAdd, zNz] at hK9 ⊢
        have hw := Flow.hwD HWWE.out hb
        (try simp only [h2] at hK9)
        go_simp
        go_at_call 81
        refine (ratNeg_any (HROE.out.below hw)).mono ?_
        rintro e w3 ⟨v3, rfl, hi3, hb3⟩
        exact hK9 _ _ hb3 hi3
       case s4 =>
        intro L9 xs w' hb hT hX9 hL9 K9 hK9
        have h0 : ∃ b, (xs 0) = .map (some b) := (hT 0 (by kernel_rfl)).2
        have l0 : L9 0 = true := (hT 0 (by kernel_rfl)).1
        have h1 : (xs 1) = .int .i64 p := (hT 1 (by kernel_rfl)).2
        have h3 : RtIn w' (xs 3) (-1) 2 := (hT 3 (by kernel_rfl)).2
        clear hT
        simp only [zFp, zAp, zLa, zLb, zLc, Nat.reduceAdd, zNz] at hK9 ⊢
        have hw := Flow.hwD HWWE.out hb
        (try simp only [h1] at hK9)
        obtain ⟨bl, e1, hBl, hm⟩ := hX9.map l0
        have hcn : cnt (L9 4) (L9 8) ≤ 2 := by unfold cnt; cases L9 4 <;> cases L9 8 <;> simp
        obtain ⟨w5, hrun, hm5, hg5, hs5⟩ := hm.store (by unfold maxLen; omega) (show -9223372036854775808 ≤ p by have := HPQ.out.2.2.2.2; omega) (show p ≤ 9223372036854775807 by have := HPQ.out.2.2.2.2; omega) (h3)
        clear hcn
        (try simp only [e1] at hK9)
        go_simp
        exact hK9 undef _ (hb.grown hg5 hb.size (fun q9 e9 => by cases e9; exact hBl)) hs5 trivial (hX9.first hL9 HPQ.out.2.2.2.1 e1 l0 (by decide) undef hBl hm5)
       case s5 =>
        intro L9 xs w' hb hT hX9 K9 hK9
        clear hT
        simp only [zFp, zAp, zLa, zLb, zLc, Nat.reduceAdd, zNz] at hK9 ⊢
        have hw := Flow.hwD HWWE.out hb
        go_simp
        exact hK9 _ _ (Below.refl _ _) rfl
       case s6 =>
        intro L9 xs w' hb hT hX9 K9 hK9
        clear hT
        simp only [zFp, zAp, zLa, zLb, zLc, Nat.reduceAdd, zNz] at hK9 ⊢
        have hw := Flow.hwD HWWE.out hb
        have kb := (hw.block bo1 (lt_of_block HKOE.out)).trans HKOE.out
        have y0 := block_cell kb 0
        have y1 := block_cell kb 1
        have y2 := block_cell kb 2
        have y3 := block_cell kb 3
        clear kb
        simp at y0 y1 y2 y3
        go_simp
        exact hK9 _ _ (Below.refl _ _) rfl
       case s7 =>
        intro L9 xs w' hb hT hX9 K9 hK9
        have h6 : (xs 6) = .agg #[.bool s1', .slice a1 c1 l1, .bool s2', .slice a2 c2 l2] := (hT 6 (by kernel_rfl)).2
        clear hT
        simp only [zFp, zAp, zLa, zLb, zLc, Nat.reduceAdd, zNz] at hK9 ⊢
        have hw := Flow.hwD HWWE.out hb
        (try simp only [h6] at hK9)
        go_simp
        go_at_call 81
        refine (ratNeg_any (HROE.out.below hw)).mono ?_
        rintro e w3 ⟨v3, rfl, hi3, hb3⟩
        exact hK9 _ _ hb3 hi3
       case s8 =>
        intro L9 xs w' hb hT hX9 hL9 K9 hK9
        have h0 : ∃ b, (xs 0) = .map (some b) := (hT 0 (by kernel_rfl)).2
        have l0 : L9 0 = true := (hT 0 (by kernel_rfl)).1
        have h5 : (xs 5) = .int .i64 q := (hT 5 (by kernel_rfl)).2
        have h7 : RtIn w' (xs 7) (-1) 2 := (hT 7 (by kernel_rfl)).2
        clear hT
        simp only [zFp, zAp, zLa, zLb, zLc, Nat.reduceAdd, zNz] at hK9 ⊢
        have hw := Flow.hwD HWWE.out hb
        (try simp only [h5] at hK9)
        obtain ⟨bl, e1, hBl, hm⟩ := hX9.map l0
        have hcn : cnt (L9 4) (L9 8) ≤ 2 := by unfold cnt; cases L9 4 <;> cases L9 8 <;> simp
        obtain ⟨w5, hrun, hm5, hg5, hs5⟩ := hm.store (by unfold maxLen; omega) (show -9223372036854775808 ≤ q by have := HPQ.out.2.2.2.2; omega) (show q ≤ 9223372036854775807 by have := HPQ.out.2.2.2.2; omega) (h7)
        clear hcn
        (try simp only [e1] at hK9)
        go_simp
        exact hK9 undef _ (hb.grown hg5 hb.size (fun q9 e9 => by cases e9; exact hBl)) hs5 trivial (hX9.second hL9 e1 l0 (by decide) undef hBl hm5)
       case s9 =>
        intro L9 xs w' hb hT hX9 hL9 K9 hK9
        have h0 : ∃ b, (xs 0) = .map (some b) := (hT 0 (by kernel_rfl)).2
        have l0 : L9 0 = true := (hT 0 (by kernel_rfl)).1
        have h4 : True := (hT 4 (by kernel_rfl)).2
        have l4 : L9 4 = true := (hT 4 (by kernel_rfl)).1
        have h8 : True := (hT 8 (by kernel_rfl)).2
        have l8 : L9 8 = true := (hT 8 (by kernel_rfl)).1
        clear hT
        simp only [zFp, zAp, zLa, zLb, zLc, Nat.reduceAdd, zNz] at hK9 ⊢
        have hw := Flow.hwD HWWE.out hb
        obtain ⟨bl, e1, hBl, hm⟩ := hX9.map l0
        have hmv := hX9.moved l0 l4 l8 (by decide)
        rw [e1] at hmv
        (try simp only [e1] at hK9)
        go_simp
        exact hK9 _ _ hb (Stays.refl _) ⟨_, rfl⟩ hmv
      case fin =>
       intro xs w' hb hT hX9
       have hw := Flow.hwD HWWE.out hb
       clear hT
       simp only [zFp, zAp, zLa, zLb, zLc, Nat.reduceAdd, zNz, FlowR.restL]
       obtain ⟨e9, l0, l4, l8⟩ := hX9.move rfl
       obtain ⟨bB, e1B, hBB, hmB⟩ := hX9.map rfl
       rw [l4, l8] at hmB
       rw [e1B] at e9
       simp only [e9]
       clear e9 e1B hX9 l0 l4 l8
       obtain ⟨wf, hwf⟩ : ∃ x, x = w' := ⟨_, rfl⟩
       rw [← hwf] at hw hmB ⊢
       have HMB := Lib.hid hmB
       have HMA2 := Lib.hid (HMA.out.below hw)
       have HWF := Lib.hid (HWE.out.trans (hw.mono HWE.out.size))
       have HB1F := Lib.hid (HB1E.out.trans (hw.mono HB1E.out.size))
       have HKF9 := Lib.hid ((HWF.out.block bf (lt_of_block HKF7.out)).trans HKF7.out)
       have HKZ9 := Lib.hid ((HWF.out.block bz (lt_of_block HKZ7.out)).trans HKZ7.out)
       have HRD := Lib.hid (HR7.out.below HWF.out)
       have HGD := Lib.hid (HG.out.below (HB7.out.trans (HWF.out.mono HB7.out.size)))
       have HWWF := Lib.hid (Below.refl wf.heap.size wf)
       obtain ⟨NMA, hNMA⟩ : ∃ x, x = f.name ++ sAbove := ⟨_, rfl⟩
       obtain ⟨NMB, hNMB⟩ : ∃ x, x = f.name ++ sBelow := ⟨_, rfl⟩
       obtain ⟨lea, hle⟩ : ∃ x, x = f.wide + y.lower := ⟨_, rfl⟩
       obtain ⟨cA, hcA⟩ : ∃ x, x = lea - f.place - z.upper := ⟨_, rfl⟩
       obtain ⟨cB, hcB⟩ : ∃ x, x = lea + f.place + z.lower := ⟨_, rfl⟩
       obtain ⟨NA, hNA⟩ : ∃ x, x = numText (cA : Rat) := ⟨_, rfl⟩
       obtain ⟨NB, hNB⟩ : ∃ x, x = numText (cB : Rat) := ⟨_, rfl⟩
       obtain ⟨TA, hTA⟩ : ∃ x, x = sumTerms (mm true true p 1 q (-1)) 48 := ⟨_, rfl⟩
       obtain ⟨TB, hTB⟩ : ∃ x, x = sumTerms (mm true true p (-1) q (-1)) 48 := ⟨_, rfl⟩
       obtain ⟨SA, hSA⟩ : ∃ S : ByteArray, S = ⟨NA.toArray⟩ := ⟨_, rfl⟩
       obtain ⟨SB, hSB⟩ : ∃ S : ByteArray, S = ⟨NB.toArray⟩ := ⟨_, rfl⟩
       have hbF := HF.out.2.1.2.2
       have hbY := HY.out.2
       have hbZ := HZR.out.1
       have hleb : -536870912 ≤ lea ∧ lea ≤ 536870912 := by omega
       have hbA : -1000000000000 ≤ cA ∧ cA ≤ 1000000000000 := by omega
       have hbB : -1000000000000 ≤ cB ∧ cB ≤ 1000000000000 := by omega
       have hw1' : IntKind.i64.wrap (f.wide + y.lower) = lea := (IntWalk.i64_in _ (by omega)).trans hle.symm
       have hw2' : IntKind.i64.wrap (lea - f.place) = lea - f.place := IntWalk.i64_in _ (by omega)
       have hw3' : IntKind.i64.wrap (lea - f.place - z.upper) = cA := (IntWalk.i64_in _ (by omega)).trans hcA.symm
       have hw4' : IntKind.i64.wrap (f.place + z.lower) = f.place + z.lower := IntWalk.i64_in _ (by omega)
       have hw5' : IntKind.i64.wrap (f.place + z.lower + f.wide) = f.place + z.lower + f.wide := IntWalk.i64_in _ (by omega)
       have hw6' : IntKind.i64.wrap (f.place + z.lower + f.wide + y.lower) = cB := (IntWalk.i64_in _ (by omega)).trans (by omega)
       have HCW := Lib.hid (And.intro hw1' (And.intro hw2' (And.intro hw3' (And.intro hw4' (And.intro hw5' hw6')))))
       have HCB := Lib.hid (And.intro hbA hbB)
       have HNM := Lib.hid (And.intro hNMA hNMB)
       have HNT := Lib.hid (And.intro hNA (And.intro hNB (And.intro hTA (And.intro hTB (And.intro hSA hSB)))))
       have HCC := Lib.hid (And.intro hcA (And.intro hcB hle))
       have HKC := Lib.hid (show k < 32 ∧ (consTo fs zs k).length ≤ 2 * k by have h1 := consTo_len fs zs k; have h2 := HZR.out.2.2.2.2; omega)
       clear hb hw hwf hmB hBB hNMA hNMB hle hcA hcB hNA hNB hTA hTB hSA hSB hbF hbY hbZ hleb hbA hbB hw1' hw2' hw3' hw4' hw5' hw6' HMA HB7 HB17 HR7 HKF7 HKZ7 HKA7 HW7
       generalize xs = xs2 at *
       go_upto_region 12 with fail
       refine FlowR.wp_region_sel (fun a b => Below a.heap.size a b) (fun a => Below.refl _ a) (fun _ _ _ h k => h.trans (k.mono h.size)) [0, 1, 2, 3, 4, 5, 6, 7, 8, 9, 10, 11, 12, 13, 14, 15, 16, 17, 18, 19, 20, 21, 22, 23, 24, 25, 26, 27, 28, 29, 30, 31, 32, 33] [false, false, false, false, false, false, false, false, false, false, false, false, false, false, false, false, false, false, false, false, false, false, false, false, false, false, false, false, false, false, false, false, false, false, false, false] [true, true, true, true, true, true, true, true, true, true, true, true, true, true, true, true, true, true, true, true, true, true, true, true, true, true, true, true, true, true, true, true, true, true, false, false] (fun i9 v w' => match i9 with
        | 0 => v = u3
        | 1 => v = .pointer (some ⟨bf, 0, none⟩)
        | 2 => v = .string f.name
        | 3 => v = .string NMA
        | 4 => v = .pointer (some ⟨bf, 5, none⟩)
        | 5 => v = .int .i64 f.wide
        | 6 => v = .int .i64 y.lower
        | 7 => v = .int .i64 (lea)
        | 8 => v = .pointer (some ⟨bf, 4, none⟩)
        | 9 => v = .int .i64 f.place
        | 10 => v = .int .i64 (lea - f.place)
        | 11 => v = .pointer (some ⟨bz, 3, none⟩)
        | 12 => v = .int .i64 z.upper
        | 13 => v = .int .i64 (cA)
        | 14 => v = .map (some bA)
        | 15 => FormIn w' wf.heap.size v NA TA
        | 16 => ∃ tv, v = .agg #[.string NMA, .string SA, tv] ∧ TermRow w' wf.heap.size tv TA
        | 17 => v = .pointer (some ⟨bf, 0, none⟩)
        | 18 => v = .string f.name
        | 19 => v = .string NMB
        | 20 => v = .pointer (some ⟨bf, 4, none⟩)
        | 21 => v = .int .i64 f.place
        | 22 => v = .pointer (some ⟨bz, 2, none⟩)
        | 23 => v = .int .i64 z.lower
        | 24 => v = .int .i64 (f.place + z.lower)
        | 25 => v = .pointer (some ⟨bf, 5, none⟩)
        | 26 => v = .int .i64 f.wide
        | 27 => v = .int .i64 (f.place + z.lower + f.wide)
        | 28 => v = .int .i64 y.lower
        | 29 => v = .int .i64 (cB)
        | 30 => v = .map (some bB)
        | 31 => FormIn w' wf.heap.size v NB TB
        | 32 => ∃ tv, v = .agg #[.string NMB, .string SB, tv] ∧ TermRow w' wf.heap.size tv TB
        | _ => ∃ b ta tb, v = .slice (some ⟨b, 0, none⟩) 2 2 ∧ w'.heap[b]? = some (.cells #[.string NMA, .string SA, ta, .string NMB, .string SB, tb] 80 (0, 0)) ∧ wf.heap.size ≤ b ∧ TermRow w' wf.heap.size ta TA ∧ TermRow w' wf.heap.size tb TB) rfl rfl (by kernel_rfl) (by kernel_rfl) (by kernel_rfl) (by kernel_rfl) ?st ?steps ?fin
       case st =>
        intro i9 v u1 u2 h hb
        match i9 with
        | 0 => exact h
        | 1 => exact h
        | 2 => exact h
        | 3 => exact h
        | 4 => exact h
        | 5 => exact h
        | 6 => exact h
        | 7 => exact h
        | 8 => exact h
        | 9 => exact h
        | 10 => exact h
        | 11 => exact h
        | 12 => exact h
        | 13 => exact h
        | 14 => exact h
        | 15 => exact by obtain ⟨tv, e, ht⟩ := (show FormIn u1 wf.heap.size v NA TA from h); exact ⟨tv, e, ownsRow_stays ht (Stays.of_below hb)⟩
        | 16 => exact by obtain ⟨tv, e, ht⟩ := (show ∃ tv, v = .agg #[.string NMA, .string SA, tv] ∧ TermRow u1 wf.heap.size tv TA from h); exact ⟨tv, e, ownsRow_stays ht (Stays.of_below hb)⟩
        | 17 => exact h
        | 18 => exact h
        | 19 => exact h
        | 20 => exact h
        | 21 => exact h
        | 22 => exact h
        | 23 => exact h
        | 24 => exact h
        | 25 => exact h
        | 26 => exact h
        | 27 => exact h
        | 28 => exact h
        | 29 => exact h
        | 30 => exact h
        | 31 => exact by obtain ⟨tv, e, ht⟩ := (show FormIn u1 wf.heap.size v NB TB from h); exact ⟨tv, e, ownsRow_stays ht (Stays.of_below hb)⟩
        | 32 => exact by obtain ⟨tv, e, ht⟩ := (show ∃ tv, v = .agg #[.string NMB, .string SB, tv] ∧ TermRow u1 wf.heap.size tv TB from h); exact ⟨tv, e, ownsRow_stays ht (Stays.of_below hb)⟩
        | 33 => exact by obtain ⟨b, ta, tb, e, hk, hl, h1, h2⟩ := (show ∃ b ta tb, v = .slice (some ⟨b, 0, none⟩) 2 2 ∧ u1.heap[b]? = some (.cells #[.string NMA, .string SA, ta, .string NMB, .string SB, tb] 80 (0, 0)) ∧ wf.heap.size ≤ b ∧ TermRow u1 wf.heap.size ta TA ∧ TermRow u1 wf.heap.size tb TB from h); exact ⟨b, ta, tb, e, (hb.block b (lt_of_block hk)).trans hk, hl, ownsRow_stays h1 (Stays.of_below hb), ownsRow_stays h2 (Stays.of_below hb)⟩
        | _ + 34 => exact by obtain ⟨b, ta, tb, e, hk, hl, h1, h2⟩ := (show ∃ b ta tb, v = .slice (some ⟨b, 0, none⟩) 2 2 ∧ u1.heap[b]? = some (.cells #[.string NMA, .string SA, ta, .string NMB, .string SB, tb] 80 (0, 0)) ∧ wf.heap.size ≤ b ∧ TermRow u1 wf.heap.size ta TA ∧ TermRow u1 wf.heap.size tb TB from h); exact ⟨b, ta, tb, e, (hb.block b (lt_of_block hk)).trans hk, hl, ownsRow_stays h1 (Stays.of_below hb), ownsRow_stays h2 (Stays.of_below hb)⟩
       case steps =>
        refine Flow.Steps.cons (FlowR.Step.of rfl ?s0) (Flow.Steps.cons (FlowR.Step.of rfl ?s1) (Flow.Steps.cons (FlowR.Step.of rfl ?s2) (Flow.Steps.cons (FlowR.Step.of rfl ?s3) (Flow.Steps.cons (FlowR.Step.of rfl ?s4) (Flow.Steps.cons (FlowR.Step.of rfl ?s5) (Flow.Steps.cons (FlowR.Step.of rfl ?s6) (Flow.Steps.cons (FlowR.Step.of rfl ?s7) (Flow.Steps.cons (FlowR.Step.of rfl ?s8) (Flow.Steps.cons (FlowR.Step.of rfl ?s9) (Flow.Steps.cons (FlowR.Step.of rfl ?s10) (Flow.Steps.cons (FlowR.Step.of rfl ?s11) (Flow.Steps.cons (FlowR.Step.of rfl ?s12) (Flow.Steps.cons (FlowR.Step.of rfl ?s13) (Flow.Steps.cons (FlowR.Step.of rfl ?s14) (Flow.Steps.cons (FlowR.Step.of rfl ?s15) (Flow.Steps.cons (FlowR.Step.of rfl ?s16) (Flow.Steps.cons (FlowR.Step.of rfl ?s17) (Flow.Steps.cons (FlowR.Step.of rfl ?s18) (Flow.Steps.cons (FlowR.Step.of rfl ?s19) (Flow.Steps.cons (FlowR.Step.of rfl ?s20) (Flow.Steps.cons (FlowR.Step.of rfl ?s21) (Flow.Steps.cons (FlowR.Step.of rfl ?s22) (Flow.Steps.cons (FlowR.Step.of rfl ?s23) (Flow.Steps.cons (FlowR.Step.of rfl ?s24) (Flow.Steps.cons (FlowR.Step.of rfl ?s25) (Flow.Steps.cons (FlowR.Step.of rfl ?s26) (Flow.Steps.cons (FlowR.Step.of rfl ?s27) (Flow.Steps.cons (FlowR.Step.of rfl ?s28) (Flow.Steps.cons (FlowR.Step.of rfl ?s29) (Flow.Steps.cons (FlowR.Step.of rfl ?s30) (Flow.Steps.cons (FlowR.Step.of rfl ?s31) (Flow.Steps.cons (FlowR.Step.of rfl ?s32) (Flow.Steps.cons (FlowR.Step.of rfl ?s33) Flow.Steps.nil)))))))))))))))))))))))))))))))))
        case s0 =>
         intro xs w' hb hT K9 hK9
         clear hT
         simp only [zFp, zAp, zLa, zLb, zLc, Nat.reduceAdd, zNz] at hK9 ⊢
         have hw := Flow.hwD HWWF.out hb
         go_simp
         exact hK9 _ _ (Below.refl _ _) rfl
        case s1 =>
         intro xs w' hb hT K9 hK9
         clear hT
         simp only [zFp, zAp, zLa, zLb, zLc, Nat.reduceAdd, zNz] at hK9 ⊢
         have hw := Flow.hwD HWWF.out hb
         go_simp
         exact hK9 _ _ (Below.refl _ _) rfl
        case s2 =>
         intro xs w' hb hT K9 hK9
         have h1 : (xs 1) = .pointer (some ⟨bf, 0, none⟩) := hT 1 (by kernel_rfl)
         clear hT
         simp only [zFp, zAp, zLa, zLb, zLc, Nat.reduceAdd, zNz] at hK9 ⊢
         have hw := Flow.hwD HWWF.out hb
         have kb := (hw.block bf (lt_of_block HKF9.out)).trans HKF9.out
         have y0 := block_cell kb 0
         clear kb
         simp at y0
         (try simp only [h1] at hK9)
         go_simp
         exact hK9 _ _ (Below.refl _ _) rfl
        case s3 =>
         intro xs w' hb hT K9 hK9
         have h2 : (xs 2) = .string f.name := hT 2 (by kernel_rfl)
         clear hT
         simp only [zFp, zAp, zLa, zLb, zLc, Nat.reduceAdd, zNz] at hK9 ⊢
         have hw := Flow.hwD HWWF.out hb
         (try simp only [h2] at hK9)
         have hz1 : ¬ 9223372036854775807 < f.name.size + 6 := by have h1 := HF.out.2.1.1; omega
         go_simp
         exact hK9 _ _ (Below.refl _ _) (congrArg Value.string (show f.name ++ (⟨#[46, 97, 98, 111, 118, 101]⟩ : ByteArray) = _ from HNM.out.1.symm))
        case s4 =>
         intro xs w' hb hT K9 hK9
         clear hT
         simp only [zFp, zAp, zLa, zLb, zLc, Nat.reduceAdd, zNz] at hK9 ⊢
         have hw := Flow.hwD HWWF.out hb
         go_simp
         exact hK9 _ _ (Below.refl _ _) rfl
        case s5 =>
         intro xs w' hb hT K9 hK9
         have h4 : (xs 4) = .pointer (some ⟨bf, 5, none⟩) := hT 4 (by kernel_rfl)
         clear hT
         simp only [zFp, zAp, zLa, zLb, zLc, Nat.reduceAdd, zNz] at hK9 ⊢
         have hw := Flow.hwD HWWF.out hb
         have kb := (hw.block bf (lt_of_block HKF9.out)).trans HKF9.out
         have y0 := block_cell kb 5
         clear kb
         simp at y0
         (try simp only [h4] at hK9)
         go_simp
         exact hK9 _ _ (Below.refl _ _) rfl
        case s6 =>
         intro xs w' hb hT K9 hK9
         clear hT
         simp only [zFp, zAp, zLa, zLb, zLc, Nat.reduceAdd, zNz] at hK9 ⊢
         have hw := Flow.hwD HWWF.out hb
         go_simp
         exact hK9 _ _ (Below.refl _ _) rfl
        case s7 =>
         intro xs w' hb hT K9 hK9
         have h5 : (xs 5) = .int .i64 f.wide := hT 5 (by kernel_rfl)
         have h6 : (xs 6) = .int .i64 y.lower := hT 6 (by kernel_rfl)
         clear hT
         simp only [zFp, zAp, zLa, zLb, zLc, Nat.reduceAdd, zNz] at hK9 ⊢
         have hw := Flow.hwD HWWF.out hb
         (try simp only [h5] at hK9)
         (try simp only [h6] at hK9)
         have hwr := HCW.out.1
         go_simp
         exact hK9 _ _ (Below.refl _ _) rfl
        case s8 =>
         intro xs w' hb hT K9 hK9
         clear hT
         simp only [zFp, zAp, zLa, zLb, zLc, Nat.reduceAdd, zNz] at hK9 ⊢
         have hw := Flow.hwD HWWF.out hb
         go_simp
         exact hK9 _ _ (Below.refl _ _) rfl
        case s9 =>
         intro xs w' hb hT K9 hK9
         have h8 : (xs 8) = .pointer (some ⟨bf, 4, none⟩) := hT 8 (by kernel_rfl)
         clear hT
         simp only [zFp, zAp, zLa, zLb, zLc, Nat.reduceAdd, zNz] at hK9 ⊢
         have hw := Flow.hwD HWWF.out hb
         have kb := (hw.block bf (lt_of_block HKF9.out)).trans HKF9.out
         have y0 := block_cell kb 4
         clear kb
         simp at y0
         (try simp only [h8] at hK9)
         go_simp
         exact hK9 _ _ (Below.refl _ _) rfl
        case s10 =>
         intro xs w' hb hT K9 hK9
         have h7 : (xs 7) = .int .i64 (lea) := hT 7 (by kernel_rfl)
         have h9 : (xs 9) = .int .i64 f.place := hT 9 (by kernel_rfl)
         clear hT
         simp only [zFp, zAp, zLa, zLb, zLc, Nat.reduceAdd, zNz] at hK9 ⊢
         have hw := Flow.hwD HWWF.out hb
         (try simp only [h7] at hK9)
         (try simp only [h9] at hK9)
         have hwr := HCW.out.2.1
         go_simp
         exact hK9 _ _ (Below.refl _ _) rfl
        case s11 =>
         intro xs w' hb hT K9 hK9
         clear hT
         simp only [zFp, zAp, zLa, zLb, zLc, Nat.reduceAdd, zNz] at hK9 ⊢
         have hw := Flow.hwD HWWF.out hb
         go_simp
         exact hK9 _ _ (Below.refl _ _) rfl
        case s12 =>
         intro xs w' hb hT K9 hK9
         have h11 : (xs 11) = .pointer (some ⟨bz, 3, none⟩) := hT 11 (by kernel_rfl)
         clear hT
         simp only [zFp, zAp, zLa, zLb, zLc, Nat.reduceAdd, zNz] at hK9 ⊢
         have hw := Flow.hwD HWWF.out hb
         have kb := (hw.block bz (lt_of_block HKZ9.out)).trans HKZ9.out
         have y0 := block_cell kb 3
         clear kb
         simp at y0
         (try simp only [h11] at hK9)
         go_simp
         exact hK9 _ _ (Below.refl _ _) rfl
        case s13 =>
         intro xs w' hb hT K9 hK9
         have h10 : (xs 10) = .int .i64 (lea - f.place) := hT 10 (by kernel_rfl)
         have h12 : (xs 12) = .int .i64 z.upper := hT 12 (by kernel_rfl)
         clear hT
         simp only [zFp, zAp, zLa, zLb, zLc, Nat.reduceAdd, zNz] at hK9 ⊢
         have hw := Flow.hwD HWWF.out hb
         (try simp only [h10] at hK9)
         (try simp only [h12] at hK9)
         have hwr := HCW.out.2.2.1
         go_simp
         exact hK9 _ _ (Below.refl _ _) rfl
        case s14 =>
         intro xs w' hb hT K9 hK9
         clear hT
         simp only [zFp, zAp, zLa, zLb, zLc, Nat.reduceAdd, zNz] at hK9 ⊢
         have hw := Flow.hwD HWWF.out hb
         go_simp
         exact hK9 _ _ (Below.refl _ _) rfl
        case s15 =>
         intro xs w' hb hT K9 hK9
         have h13 : (xs 13) = .int .i64 (cA) := hT 13 (by kernel_rfl)
         have h14 : (xs 14) = .map (some bA) := hT 14 (by kernel_rfl)
         clear hT
         simp only [zFp, zAp, zLa, zLb, zLc, Nat.reduceAdd, zNz] at hK9 ⊢
         have hw := Flow.hwD HWWF.out hb
         (try simp only [h13] at hK9)
         (try simp only [h14] at hK9)
         have hsm := qform_any (HGD.out.below hw) (c := cA) (by have := HCB.out.1; omega) (by have := HCB.out.1; omega) (HMA2.out.below hw) (by omega)
         rw [mm_more (by have := HPQ.out.2.2.2.2; omega) (by have := HPQ.out.2.2.2.2; omega), ← HNT.out.1, ← HNT.out.2.2.1] at hsm
         go_simp
         go_at_call 44
         refine hsm.mono ?_
         rintro e w3 ⟨v3, rfl, ⟨tv3, e3, ht3⟩, hb3⟩
         exact hK9 _ _ hb3 ⟨tv3, e3, World.ownsRow.mono ht3 hw.size⟩
        case s16 =>
         intro xs w' hb hT K9 hK9
         have h3 : (xs 3) = .string NMA := hT 3 (by kernel_rfl)
         have h15 : FormIn w' wf.heap.size (xs 15) NA TA := hT 15 (by kernel_rfl)
         clear hT
         simp only [zFp, zAp, zLa, zLb, zLc, Nat.reduceAdd, zNz] at hK9 ⊢
         have hw := Flow.hwD HWWF.out hb
         (try simp only [h3] at hK9)
         obtain ⟨tv3, e3, ht3⟩ := h15
         rw [← HNT.out.2.2.2.2.1] at e3
         (try simp only [e3] at hK9)
         go_simp
         exact hK9 _ _ (Below.refl _ _) ⟨tv3, rfl, ht3⟩
        case s17 =>
         intro xs w' hb hT K9 hK9
         clear hT
         simp only [zFp, zAp, zLa, zLb, zLc, Nat.reduceAdd, zNz] at hK9 ⊢
         have hw := Flow.hwD HWWF.out hb
         go_simp
         exact hK9 _ _ (Below.refl _ _) rfl
        case s18 =>
         intro xs w' hb hT K9 hK9
         have h17 : (xs 17) = .pointer (some ⟨bf, 0, none⟩) := hT 17 (by kernel_rfl)
         clear hT
         simp only [zFp, zAp, zLa, zLb, zLc, Nat.reduceAdd, zNz] at hK9 ⊢
         have hw := Flow.hwD HWWF.out hb
         have kb := (hw.block bf (lt_of_block HKF9.out)).trans HKF9.out
         have y0 := block_cell kb 0
         clear kb
         simp at y0
         (try simp only [h17] at hK9)
         go_simp
         exact hK9 _ _ (Below.refl _ _) rfl
        case s19 =>
         intro xs w' hb hT K9 hK9
         have h18 : (xs 18) = .string f.name := hT 18 (by kernel_rfl)
         clear hT
         simp only [zFp, zAp, zLa, zLb, zLc, Nat.reduceAdd, zNz] at hK9 ⊢
         have hw := Flow.hwD HWWF.out hb
         (try simp only [h18] at hK9)
         have hz1 : ¬ 9223372036854775807 < f.name.size + 6 := by have h1 := HF.out.2.1.1; omega
         go_simp
         exact hK9 _ _ (Below.refl _ _) (congrArg Value.string (show f.name ++ (⟨#[46, 98, 101, 108, 111, 119]⟩ : ByteArray) = _ from HNM.out.2.symm))
        case s20 =>
         intro xs w' hb hT K9 hK9
         clear hT
         simp only [zFp, zAp, zLa, zLb, zLc, Nat.reduceAdd, zNz] at hK9 ⊢
         have hw := Flow.hwD HWWF.out hb
         go_simp
         exact hK9 _ _ (Below.refl _ _) rfl
        case s21 =>
         intro xs w' hb hT K9 hK9
         have h20 : (xs 20) = .pointer (some ⟨bf, 4, none⟩) := hT 20 (by kernel_rfl)
         clear hT
         simp only [zFp, zAp, zLa, zLb, zLc, Nat.reduceAdd, zNz] at hK9 ⊢
         have hw := Flow.hwD HWWF.out hb
         have kb := (hw.block bf (lt_of_block HKF9.out)).trans HKF9.out
         have y0 := block_cell kb 4
         clear kb
         simp at y0
         (try simp only [h20] at hK9)
         go_simp
         exact hK9 _ _ (Below.refl _ _) rfl
        case s22 =>
         intro xs w' hb hT K9 hK9
         clear hT
         simp only [zFp, zAp, zLa, zLb, zLc, Nat.reduceAdd, zNz] at hK9 ⊢
         have hw := Flow.hwD HWWF.out hb
         go_simp
         exact hK9 _ _ (Below.refl _ _) rfl
        case s23 =>
         intro xs w' hb hT K9 hK9
         have h22 : (xs 22) = .pointer (some ⟨bz, 2, none⟩) := hT 22 (by kernel_rfl)
         clear hT
         simp only [zFp, zAp, zLa, zLb, zLc, Nat.reduceAdd, zNz] at hK9 ⊢
         have hw := Flow.hwD HWWF.out hb
         have kb := (hw.block bz (lt_of_block HKZ9.out)).trans HKZ9.out
         have y0 := block_cell kb 2
         clear kb
         simp at y0
         (try simp only [h22] at hK9)
         go_simp
         exact hK9 _ _ (Below.refl _ _) rfl
        case s24 =>
         intro xs w' hb hT K9 hK9
         have h21 : (xs 21) = .int .i64 f.place := hT 21 (by kernel_rfl)
         have h23 : (xs 23) = .int .i64 z.lower := hT 23 (by kernel_rfl)
         clear hT
         simp only [zFp, zAp, zLa, zLb, zLc, Nat.reduceAdd, zNz] at hK9 ⊢
         have hw := Flow.hwD HWWF.out hb
         (try simp only [h21] at hK9)
         (try simp only [h23] at hK9)
         have hwr := HCW.out.2.2.2.1
         go_simp
         exact hK9 _ _ (Below.refl _ _) rfl
        case s25 =>
         intro xs w' hb hT K9 hK9
         clear hT
         simp only [zFp, zAp, zLa, zLb, zLc, Nat.reduceAdd, zNz] at hK9 ⊢
         have hw := Flow.hwD HWWF.out hb
         go_simp
         exact hK9 _ _ (Below.refl _ _) rfl
        case s26 =>
         intro xs w' hb hT K9 hK9
         have h25 : (xs 25) = .pointer (some ⟨bf, 5, none⟩) := hT 25 (by kernel_rfl)
         clear hT
         simp only [zFp, zAp, zLa, zLb, zLc, Nat.reduceAdd, zNz] at hK9 ⊢
         have hw := Flow.hwD HWWF.out hb
         have kb := (hw.block bf (lt_of_block HKF9.out)).trans HKF9.out
         have y0 := block_cell kb 5
         clear kb
         simp at y0
         (try simp only [h25] at hK9)
         go_simp
         exact hK9 _ _ (Below.refl _ _) rfl
        case s27 =>
         intro xs w' hb hT K9 hK9
         have h24 : (xs 24) = .int .i64 (f.place + z.lower) := hT 24 (by kernel_rfl)
         have h26 : (xs 26) = .int .i64 f.wide := hT 26 (by kernel_rfl)
         clear hT
         simp only [zFp, zAp, zLa, zLb, zLc, Nat.reduceAdd, zNz] at hK9 ⊢
         have hw := Flow.hwD HWWF.out hb
         (try simp only [h24] at hK9)
         (try simp only [h26] at hK9)
         have hwr := HCW.out.2.2.2.2.1
         go_simp
         exact hK9 _ _ (Below.refl _ _) rfl
        case s28 =>
         intro xs w' hb hT K9 hK9
         clear hT
         simp only [zFp, zAp, zLa, zLb, zLc, Nat.reduceAdd, zNz] at hK9 ⊢
         have hw := Flow.hwD HWWF.out hb
         go_simp
         exact hK9 _ _ (Below.refl _ _) rfl
        case s29 =>
         intro xs w' hb hT K9 hK9
         have h27 : (xs 27) = .int .i64 (f.place + z.lower + f.wide) := hT 27 (by kernel_rfl)
         have h28 : (xs 28) = .int .i64 y.lower := hT 28 (by kernel_rfl)
         clear hT
         simp only [zFp, zAp, zLa, zLb, zLc, Nat.reduceAdd, zNz] at hK9 ⊢
         have hw := Flow.hwD HWWF.out hb
         (try simp only [h27] at hK9)
         (try simp only [h28] at hK9)
         have hwr := HCW.out.2.2.2.2.2
         go_simp
         exact hK9 _ _ (Below.refl _ _) rfl
        case s30 =>
         intro xs w' hb hT K9 hK9
         clear hT
         simp only [zFp, zAp, zLa, zLb, zLc, Nat.reduceAdd, zNz] at hK9 ⊢
         have hw := Flow.hwD HWWF.out hb
         go_simp
         exact hK9 _ _ (Below.refl _ _) rfl
        case s31 =>
         intro xs w' hb hT K9 hK9
         have h29 : (xs 29) = .int .i64 (cB) := hT 29 (by kernel_rfl)
         have h30 : (xs 30) = .map (some bB) := hT 30 (by kernel_rfl)
         clear hT
         simp only [zFp, zAp, zLa, zLb, zLc, Nat.reduceAdd, zNz] at hK9 ⊢
         have hw := Flow.hwD HWWF.out hb
         (try simp only [h29] at hK9)
         (try simp only [h30] at hK9)
         have hsm := qform_any (HGD.out.below hw) (c := cB) (by have := HCB.out.2; omega) (by have := HCB.out.2; omega) (HMB.out.below hw) (by omega)
         rw [mm_more (by have := HPQ.out.2.2.2.2; omega) (by have := HPQ.out.2.2.2.2; omega), ← HNT.out.2.1, ← HNT.out.2.2.2.1] at hsm
         go_simp
         go_at_call 44
         refine hsm.mono ?_
         rintro e w3 ⟨v3, rfl, ⟨tv3, e3, ht3⟩, hb3⟩
         exact hK9 _ _ hb3 ⟨tv3, e3, World.ownsRow.mono ht3 hw.size⟩
        case s32 =>
         intro xs w' hb hT K9 hK9
         have h19 : (xs 19) = .string NMB := hT 19 (by kernel_rfl)
         have h31 : FormIn w' wf.heap.size (xs 31) NB TB := hT 31 (by kernel_rfl)
         clear hT
         simp only [zFp, zAp, zLa, zLb, zLc, Nat.reduceAdd, zNz] at hK9 ⊢
         have hw := Flow.hwD HWWF.out hb
         (try simp only [h19] at hK9)
         obtain ⟨tv3, e3, ht3⟩ := h31
         rw [← HNT.out.2.2.2.2.2] at e3
         (try simp only [e3] at hK9)
         go_simp
         exact hK9 _ _ (Below.refl _ _) ⟨tv3, rfl, ht3⟩
        case s33 =>
         intro xs w' hb hT K9 hK9
         have h16 : ∃ tv, (xs 16) = .agg #[.string NMA, .string SA, tv] ∧ TermRow w' wf.heap.size tv TA := hT 16 (by kernel_rfl)
         have h32 : ∃ tv, (xs 32) = .agg #[.string NMB, .string SB, tv] ∧ TermRow w' wf.heap.size tv TB := hT 32 (by kernel_rfl)
         clear hT
         simp only [zFp, zAp, zLa, zLb, zLc, Nat.reduceAdd, zNz] at hK9 ⊢
         have hw := Flow.hwD HWWF.out hb
         obtain ⟨ta, ea, hta⟩ := h16
         obtain ⟨tb, eb, htb⟩ := h32
         (try simp only [ea, eb] at hK9)
         go_simp
         exact hK9 _ _ ((Below.refl _ _).alloc (Nat.le_refl _) _) ⟨_, ta, tb, rfl, heap_alloc_new _ _, hw.size, ownsRow_stays hta (Stays.of_below ((Below.refl _ _).alloc (Nat.le_refl _) _)), ownsRow_stays htb (Stays.of_below ((Below.refl _ _).alloc (Nat.le_refl _) _))⟩
       case fin =>
        intro xs w' hb hT
        have hw := Flow.hwD HWWF.out hb
        have h0 : (xs 0) = u3 := hT 0 (by rfl)
        have h33 : ∃ b ta tb, (xs 33) = .slice (some ⟨b, 0, none⟩) 2 2 ∧ w'.heap[b]? = some (.cells #[.string NMA, .string SA, ta, .string NMB, .string SB, tb] 80 (0, 0)) ∧ wf.heap.size ≤ b ∧ TermRow w' wf.heap.size ta TA ∧ TermRow w' wf.heap.size tb TB := hT 33 (by rfl)
        clear hT
        simp only [zFp, zAp, zLa, zLb, zLc, Nat.reduceAdd, zNz, FlowR.restL, FlowR.orM, Bool.false_or]
        obtain ⟨b6, ta, tb, e6, k6, hl6, hta, htb⟩ := h33
        simp only [h0, e6]
        clear h0 e6
        obtain ⟨tv, hc1, hc2, hc3⟩ := HRD.out.below hw
        have HC := Lib.hid (And.intro hc1 (And.intro hc2 hc3))
        have HW14 := Lib.hid hw
        have HK6 := Lib.hid (And.intro k6 (And.intro hta htb))
        clear hb hw k6 hta htb hc1 hc2 hc3 hl6
        refine wpList_append_own _ rfl _ _ 71 rfl w1.heap.size 80 i0 _ 3 56 Tryz.underlying71 HI.out.1 HI.out.2.1 HI.out.2.2.1 HI.out.2.2.2 rfl (by decide) _ _ _ rfl HC.out.2.1 ⟨b6, 0, none⟩ 2 2 [.string NMA, .string SA, ta, .string NMB, .string SB, tb] rfl rfl ?c1 ?c2 ?c3 ?c4 ?c5 ?_
        case c1 => exact World.news_of_block HK6.out.1
        case c2 =>
         obtain ⟨xa, ya, za, ea⟩ := TermRow.shape HK6.out.2.1
         obtain ⟨xb, yb, zb, eb⟩ := TermRow.shape HK6.out.2.2
         simp [Value.oneCell', ea, eb]
        case c3 => have := HKC.out; unfold maxLen; omega
        case c4 => have := HKC.out; omega
        case c5 => have h1 := HB1F.out.size; have h2 := HW14.out.size; omega
        intro v7 w7' hown7 hg7 _
        have hle : w1.heap.size ≤ wf.heap.size := HB1F.out.size
        have hrow7 : ConRow w7' w1.heap.size v7 (consTo fs zs (k + 1)) := by
         rw [HZR.out.2.2.2.1, if_pos HBO.out]
         have e1 : conOf fs zs z = [⟨NMA, NA, TA⟩, ⟨NMB, NB, TB⟩] := by
          unfold conOf conMap conA conB
          rw [HZR.out.2.2.1, Int.toNat_natCast, ← HF.out.1, ← HY.out.1, ← HCC.out.2.2, ← HCC.out.1, ← HCC.out.2.1, ← HPQ.out.2.2.1, ← HPQ.out.1, ← HPQ.out.2.1, ← HNM.out.1, ← HNM.out.2, ← HNT.out.1, ← HNT.out.2.1, ← HNT.out.2.2.1, ← HNT.out.2.2.2.1]
         rw [e1]
         refine ConRow.two HC.out.1 HC.out.2.1 HC.out.2.2 (World.ownsRow.mono HK6.out.2.1 hle) (World.ownsRow.mono HK6.out.2.2 hle) ?_ hg7
         simp only []
         rw [← HNT.out.2.2.2.2.1, ← HNT.out.2.2.2.2.2]
         exact hown7
        have hb7 := (HB1F.out.trans (HW14.out.mono HB1F.out.size)).grown hg7 (by have h1 := HB1F.out.size; have h2 := HW14.out.size; omega) (fun q e => (World.ownsRow.lt HC.out.2.1 q e).1)
        have H7 := Lib.hid (And.intro hrow7 hb7)
        clear hown7 hg7 hb7 hrow7 hle
        go_wp2_with fail
        go_roundg (nz - (k + 1))
        case measure => have := HZR.out.2.2.2.2; omega
        case rel => exact ⟨k + 1, by have := HZR.out.2.2.2.2; omega, by congr 1, Lib.hid H7.out.1, Lib.hid H7.out.2⟩
  ·have e1 : ((k : Int) < (nz : Int)) = False := eq_false (by omega)
   obtain rfl : k = nz := by omega
   obtain ⟨tv, h1, h2, h3⟩ := hrow.out
   obtain ⟨ao2, c2', rfl, -⟩ := row_shape h2
   have HRW := Lib.hid hrow.out
   have HBE := Lib.hid (HAL.out.trans ((HB1.out.trans (hbw.out.mono HB1.out.size)).mono HAL.out.size))
   clear hrow hbw h1 h2 h3 HBW
   go_wp2_with fail
   go_ret
   refine ⟨_, rfl, ?_, HBE.out⟩
   obtain ⟨tv, h1, h2, h3⟩ := HRW.out
   have hle : w.heap.size ≤ w1.heap.size := (HAL.out.trans (HB1.out.mono HAL.out.size)).size
   exact ⟨tv, h1, World.ownsRow.mono h2 hle, fun j hj => World.ownsRow.mono (h3 j hj) hle⟩
end Go.Proofs.YtgofihilkobenaaGreatDoor
