/- Variable. -/
import Derived.Test.YtgofihilkobenaaGreatDoorKL
import Derived.Test.YtgofihilkobenaaGreatDoorKM
set_option maxRecDepth 100000
namespace Go.Proofs.YtgofihilkobenaaGreatDoor
open Go.RowKit Go.Num Go.Flow Go.Dtm
set_option maxHeartbeats 8000000

def variableErr (fs : List Feat) (zs : List Zn) (i k : Int) : Int := if withErr fs zs [i] ≠ 0 then withErr fs zs [i] else if k < 1 ∨ 3 < k then 12 else 0
def variableAt (fs : List Feat) (zs : List Zn) (i k : Int) : Int := if variableErr fs zs i k ≠ 0 then -1 else varAt (varsTo fs zs fs.length) i k
theorem Variable_any {w : World} {af : Option Addr} {cf : Nat} {az : Option Addr} {cz : Nat} {fs : List Feat} {zs : List Zn} (h : SchemeIn w af cf az cz fs zs) (i k : Int) :
  Calls Tryz.prog 36 #[.agg #[.slice af fs.length cf, .slice az zs.length cz], .int .i64 i, .int .i64 k] w fun e w' => e = .returned (.tuple #[.int .i64 (max (variableAt fs zs i k) 0), .bool (decide (0 ≤ variableAt fs zs i k)), .int .i64 (variableErr fs zs i k)]) ∧ Below w.heap.size w w' := by
 obtain ⟨n, hn⟩ : ∃ n, n = fs.length := ⟨_, rfl⟩
 obtain ⟨nz, hnz⟩ : ∃ n, n = zs.length := ⟨_, rfl⟩
 obtain ⟨wb, hwb⟩ : ∃ wa, wa = w.alloc (.cells #[.slice af n cf, .slice az nz cz] 26) := ⟨_, rfl⟩
 obtain ⟨ba, hba⟩ : ∃ b, b = w.heap.size := ⟨_, rfl⟩
 have hlb : Below w.heap.size w wb := by rw [hwb]; exact (ZR _ w).alloc (Nat.le_refl _) _
 have k0 : wb.heap[ba]? = some (.cells #[.slice af n cf, .slice az nz cz] 26 (0, 0)) := by rw [hwb, hba]; exact ZW w _
 have s0 := ZI k0 0
 have s1 := ZI k0 1
 simp at s0 s1
 have hlw : Below wb.heap.size wb (wb.alloc (.cells #[.int .i64 i] 3)) := (ZR _ wb).alloc (Nat.le_refl _) _
 have hal := hlb.trans (hlw.mono hlb.size)
 have hw := with_any (h.below hal) (ints_one wb i) (by simp)
 obtain ⟨E, hE⟩ : ∃ E, E = withErr fs zs [i] := ⟨_, rfl⟩
 rw [← hE, ← hn, ← hnz] at hw
 have HWC := ZH (show Calls Tryz.prog 83 #[.agg #[.slice af n cf, .slice az nz cz], .slice (some ⟨wb.heap.size, 0, none⟩) 1 1] (wb.alloc (.cells #[.int .i64 i] 3)) fun e w' => e = .returned (.int .i64 E) ∧ Below (wb.alloc (.cells #[.int .i64 i] 3)).heap.size (wb.alloc (.cells #[.int .i64 i] 3)) w' from hw)
 have HH := ZH h
 have HAL := ZH (ZN hal (ZN hlw hlb))
 have HSC := ZH (ZN s0 s1)
 have HE := ZH hE
 have HN := ZH (ZN hn hnz)
 have HW := ZH (ZN hwb hba)
 have HVE := ZH (show variableErr fs zs i k = if E ≠ 0 then E else if k < 1 ∨ 3 < k then 12 else 0 by rw [hE]; rfl)
 have HVA := ZH (show variableAt fs zs i k = if variableErr fs zs i k ≠ 0 then -1 else varAt (varsTo fs zs fs.length) i k from rfl)
 rw [← hn, ← hnz]
 clear hw hE hn hnz hal hlw hlb hwb hba k0 h
 go_enter Tryz.func36, Tryz.ntmps36
 go_upto_region 1 with fail
 rw [← HW.out.1, ← HW.out.2]
 clear HW
 go_wp2_with fail
 refine HWC.out.mono ?_
 rintro e w1 ⟨rfl, hb1⟩
 have hB1 := HAL.out.1.trans (hb1.mono HAL.out.1.size)
 have hW1 := HAL.out.2.1.trans (hb1.mono HAL.out.2.1.size)
 have s0 := ZJ hW1 HSC.out.1
 have s1 := ZJ hW1 HSC.out.2
 have HB1 := ZH hB1
 clear hb1 hB1 hW1
 by_cases hz : E = 0
 ·have e2 : (E == 0) = true := by rw [hz]; rfl
  obtain ⟨h1, h2, h3⟩ := with_one (HE.out.symm.trans hz)
  have hix := index_any (HH.out.below HB1.out) (by have := (check_small h1).1; omega) (by have := (check_small h1).2; omega) i k
  rw [← HN.out.1, ← HN.out.2] at hix
  rw [if_neg (by rw [hz]; simp)] at HVE
  obtain ⟨r, hr⟩ : ∃ r, r = varAt (varsTo fs zs n) i k := ⟨_, rfl⟩
  rw [← hr] at hix
  rw [← HN.out.1, ← hr] at HVA
  have HIX := ZH hix
  clear hix h1 h2 h3 hz hr
  by_cases k1 : k < 1
  ·have e3 : (k < 1) = True := eq_true k1
   rw [if_pos (.inl k1)] at HVE
   rw [HVE.out, if_pos (by decide)] at HVA
   go_wp2_with fail
   go_ret3
   exact ⟨by rw [HVA.out, HVE.out]; rfl, HB1.out⟩
  ·have e3 : (k < 1) = False := eq_false k1
   by_cases k2 : 3 < k
   ·have e4 : (3 < k) = True := eq_true k2
    rw [if_pos (.inr k2)] at HVE
    rw [HVE.out, if_pos (by decide)] at HVA
    go_wp2_with fail
    go_ret3
    exact ⟨by rw [HVA.out, HVE.out]; rfl, HB1.out⟩
   ·have e4 : (3 < k) = False := eq_false k2
    rw [if_neg (by omega)] at HVE
    rw [HVE.out, if_neg (by decide)] at HVA
    go_wp2_with fail
    refine HIX.out.mono ?_
    rintro e w2 ⟨rfl, hb2⟩
    have HB2 := ZH (HB1.out.trans (hb2.mono HB1.out.size))
    clear hb2
    go_wp2_with fail
    go_ret3
    exact ⟨by rw [HVA.out, HVE.out]; rfl, HB2.out⟩
 ·have e2 : (E == 0) = false := ZQ.2 hz
  rw [if_pos hz] at HVE
  rw [HVE.out, if_pos hz] at HVA
  clear hz
  go_wp2_with fail
  go_ret3
  exact ⟨by rw [HVA.out, HVE.out]; rfl, HB1.out⟩
end Go.Proofs.YtgofihilkobenaaGreatDoor
/- checkSide. -/
set_option maxRecDepth 100000
namespace Go.Proofs.YtgofihilkobenaaGreatDoor
open Go.RowKit Go.Num Go.Flow Go.Dtm
set_option maxHeartbeats 8000000

/-- The error of a side of a feature. -/
def sideErr (fs : List Feat) (i : Nat) (side : Int) : Int := if side < -1 ∨ 1 < side ∨ ((fs.getD i Feat.none).kind = 1 ∧ side ≠ 0) then 2 else 0
theorem checkSide_any {w : World} {af : Option Addr} {cf : Nat} {az : Option Addr} {cz : Nat} {fs : List Feat} {zs : List Zn} (h : SchemeIn w af cf az cz fs zs) {i : Nat} (hi : i < fs.length) (side : Int) :
  Calls Tryz.prog 85 #[.agg #[.slice af fs.length cf, .slice az zs.length cz], .int .i64 (i : Int), .int .i64 side] w fun e w' => e = .returned (.int .i64 (sideErr fs i side)) ∧ Below w.heap.size w w' := by
 obtain ⟨n, hn⟩ : ∃ n, n = fs.length := ⟨_, rfl⟩
 obtain ⟨nz, hnz⟩ : ∃ n, n = zs.length := ⟨_, rfl⟩
 obtain ⟨f, hf⟩ : ∃ f, f = fs.getD i Feat.none := ⟨_, rfl⟩
 have HE := ZH (show sideErr fs i side = if side < -1 ∨ 1 < side ∨ (f.kind = 1 ∧ side ≠ 0) then 2 else 0 by rw [hf]; rfl)
 obtain ⟨b, o, rfl, -, hc⟩ := h.feats.2.2 (by omega)
 have HX := hc i hi
 rw [← hf] at HX
 have hcap : fs.length ≤ cf ∧ cf ≤ 9223372036854775807 := ⟨h.feats.1, h.feats.2.1⟩
 rw [← hn] at hi hcap ⊢
 rw [← hnz]
 obtain ⟨wa, hwa⟩ : ∃ wa, wa = w.alloc (.cells #[.slice (some ⟨b, o, none⟩) n cf, .slice az nz cz] 26) := ⟨_, rfl⟩
 obtain ⟨ba, hba⟩ : ∃ b, b = w.heap.size := ⟨_, rfl⟩
 have hal : Below w.heap.size w wa := by rw [hwa]; exact (ZR _ w).alloc (Nat.le_refl _) _
 have k0 : wa.heap[ba]? = some (.cells #[.slice (some ⟨b, o, none⟩) n cf, .slice az nz cz] 26 (0, 0)) := by rw [hwa, hba]; exact ZW w _
 have s0 := ZI k0 0
 simp at s0
 have x1 := ZJ hal HX.2.1
 have HAL := ZH hal
 have HW := ZH (ZN hwa hba)
 have hi0 : (0 : Int) ≤ (i : Int) := by omega
 have hi1 : (i : Int) < (n : Int) := by omega
 clear hal hwa hba k0 HX hc hf hn hnz h
 by_cases h1 : side < -1
 ·have e1 : (side < -1) = True := eq_true h1
  rw [if_pos (.inl h1)] at HE
  clear h1
  go_enter Tryz.func85, Tryz.ntmps85
  go_upto_region 1 with fail
  rw [← HW.out.1, ← HW.out.2]
  go_wp2_with fail
  go_ret
  exact ⟨by rw [HE.out]; rfl, HAL.out⟩
 ·have e1 : (side < -1) = False := eq_false h1
  by_cases h2 : 1 < side
  ·have e2 : (1 < side) = True := eq_true h2
   rw [if_pos (.inr (.inl h2))] at HE
   clear h1 h2
   go_enter Tryz.func85, Tryz.ntmps85
   go_upto_region 1 with fail
   rw [← HW.out.1, ← HW.out.2]
   go_wp2_with fail
   go_ret
   exact ⟨by rw [HE.out]; rfl, HAL.out⟩
  ·have e2 : (1 < side) = False := eq_false h2
   by_cases h3 : f.kind = 1
   ·have e3 : (f.kind == 1) = true := by rw [h3]; rfl
    have K3 := ZH h3
    clear h3
    by_cases h4 : side = 0
    ·have HE2 := ZH (show sideErr fs i side = 0 by rw [HE.out, if_neg (by omega)])
     have e4 : (side != 0) = false := by rw [h4]; rfl
     clear h1 h2 h4
     go_enter Tryz.func85, Tryz.ntmps85
     go_upto_region 1 with fail
     rw [← HW.out.1, ← HW.out.2]
     go_wp2_with fail
     go_ret
     exact ⟨by rw [HE2.out]; rfl, HAL.out⟩
    ·have HE2 := ZH (show sideErr fs i side = 2 by rw [HE.out, if_pos (.inr (.inr ⟨K3.out, h4⟩))])
     have e4 : (side == 0) = false := ZQ.2 h4
     have e5 : (side != 0) = true := by unfold bne; rw [e4]; rfl
     clear h1 h2 h4
     go_enter Tryz.func85, Tryz.ntmps85
     go_upto_region 1 with fail
     rw [← HW.out.1, ← HW.out.2]
     go_wp2_with fail
     go_ret
     exact ⟨by rw [HE2.out]; rfl, HAL.out⟩
   ·have e3 : (f.kind == 1) = false := ZQ.2 h3
    have HE2 := ZH (show sideErr fs i side = 0 by rw [HE.out, if_neg (fun h => h.elim h1 (fun h => h.elim h2 (fun h => h3 h.1)))])
    clear h1 h2 h3
    go_enter Tryz.func85, Tryz.ntmps85
    go_upto_region 1 with fail
    rw [← HW.out.1, ← HW.out.2]
    go_wp2_with fail
    go_ret
    exact ⟨by rw [HE2.out]; rfl, HAL.out⟩
end Go.Proofs.YtgofihilkobenaaGreatDoor
/- place$1: a factor is added. -/
set_option maxRecDepth 100000
namespace Go.Proofs.YtgofihilkobenaaGreatDoor
open List renaming setIfInBounds_toArray → zLa, set_cons_zero → zLb, set_cons_succ → zLc
open FlowR renaming putSel → zFp
open Act renaming put → zAp
open Nat renaming zero_add → zNz
open Flow.Steps renaming cons → zSc, nil → zSn
open FlowR.Step renaming of → zSo
open Go.RowKit Go.Num Go.Flow Go.Maps Go.WideMaps Go.Dtm
set_option maxHeartbeats 8000000

theorem dadd_any {w : World} {b n K k2 : Nat} {m : Int → Option Rat} (hm : RMapIn w b n K m) (hn : n < 1000000) (hK2 : 2 ≤ K) {i : Int} (hi0 : -9223372036854775808 ≤ i) (hi1 : i ≤ 9223372036854775807) {vk : Value} {q : Rat} (hq : RtIn w vk q k2) (hk2 : 2 ≤ k2) (hK : K + k2 + 3 ≤ 900000)
  {bm bs : Nat} {sg : Int} (hcm : w.cell? ⟨bm, 0, none⟩ = some (.map (some b))) (hcs : w.cell? ⟨bs, 0, none⟩ = some (.int .i64 sg)) (hs0 : -9223372036854775808 ≤ sg) (hs1 : sg ≤ 9223372036854775807) :
  Calls Tryz.prog 119 #[.int .i64 i, vk, .pointer (some ⟨bm, 0, none⟩), .pointer (some ⟨bs, 0, none⟩)] w fun e w' => e = .returned (.tuple #[]) ∧ RMapIn w' b (n + 1) (K + k2 + 3) (addTo m i (q * (sg : Rat))) ∧ w.grownBy w' (some b) ∧ Stays w w' := by
 obtain ⟨s1, a1, c1, l1, s2, a2, c2, l2, rfl⟩ := rt_shape hq
 obtain ⟨wa, hwa⟩ : ∃ wa, wa = w.alloc (.cells #[.bool s1, .slice a1 c1 l1, .bool s2, .slice a2 c2 l2] 65) := ⟨_, rfl⟩
 obtain ⟨bk, hbk⟩ : ∃ b, b = w.heap.size := ⟨_, rfl⟩
 have hal : Below w.heap.size w wa := by rw [hwa]; exact (ZR _ w).alloc (Nat.le_refl _) _
 have kk : wa.heap[bk]? = some (.cells #[.bool s1, .slice a1 c1 l1, .bool s2, .slice a2 c2 l2] 65 (0, 0)) := by rw [hwa, hbk]; exact ZW w _
 have HAL := ZH hal
 have HKK := ZH kk
 have HM := ZH (hm.below hal)
 have HQ := ZH (hq.below hal)
 have HCM := ZH (ZJ hal hcm)
 have HCS := ZH (ZJ hal hcs)
 have HSG := ZH (ZN hs0 hs1)
 have HI := ZH (ZN hi0 hi1)
 have HW0 := ZH (ZR wa.heap.size wa)
 have HW := ZH (ZN hwa hbk)
 clear hwa hbk hal kk hm hq hcm hcs hs0 hs1
 go_enter Tryz.func119, Tryz.ntmps119
 go_upto_region 1 with fail
 rw [← HW.out.1, ← HW.out.2]
 clear HW
 refine FlowR.wp_region_sel (fun a b => Below a.heap.size a b) (fun a => ZR _ a) (fun _ _ _ h k => h.trans (k.mono h.size)) [0, 1, 2, 3, 4, 5, 6, 7, 8, 9] [false, false, false, false, false, false, false, false, false, false, false] [true, true, true, true, true, true, true, true, true, true, false] (fun i9 v w' => match i9 with
  | 0 => v = .map (some b)
  | 1 => v = .int .i64 i
  | 2 => v = .map (some b)
  | 3 => v = .int .i64 i
  | 4 => RtIn w' v ((m i).getD 0) K
  | 5 => v = .agg #[.bool s1, .slice a1 c1 l1, .bool s2, .slice a2 c2 l2]
  | 6 => v = .int .i64 sg
  | 7 => RtIn w' v (sg : Rat) 2
  | 8 => RtIn w' v (q * (sg : Rat)) (k2 + 2)
  | _ => RtIn w' v ((m i).getD 0 + q * (sg : Rat)) (K + (k2 + 2) + 1)) rfl rfl (by kernel_rfl) (by kernel_rfl) (by kernel_rfl) (by kernel_rfl) ?st ?steps ?fin
 case st =>
  intro i9 v w1 w2 h hb
  match i9 with
  | 0 | 1 | 2 | 3 | 5 | 6 => exact h
  | 4 => exact (show RtIn w1 v ((m i).getD 0) K from h).below hb
  | 7 => exact (show RtIn w1 v (sg : Rat) 2 from h).below hb
  | 8 => exact (show RtIn w1 v (q * (sg : Rat)) (k2 + 2) from h).below hb
  | 9 | _ + 10 => exact (show RtIn w1 v ((m i).getD 0 + q * (sg : Rat)) (K + (k2 + 2) + 1) from h).below hb
 case steps =>
  refine zSc (zSo rfl ?s0) (zSc (zSo rfl ?s1) (zSc (zSo rfl ?s2) (zSc (zSo rfl ?s3) (zSc (zSo rfl ?s4) (zSc (zSo rfl ?s5) (zSc (zSo rfl ?s6) (zSc (zSo rfl ?s7) (zSc (zSo rfl ?s8) (zSc (zSo rfl ?s9) zSn)))))))))
  case s0 | s2 =>
   intro xs w' hb hT K9 hK9
   clear hT
   simp only [zFp, zAp, zLa, zLb, zLc, Nat.reduceAdd, zNz] at hK9 ⊢
   have hw := Flow.hwD HW0.out hb
   have y0 := ZJ hw HCM.out
   go_simp
   exact hK9 _ _ (ZR _ _) rfl
  case s1 | s3 =>
   intro xs w' hb hT K9 hK9
   clear hT
   simp only [zFp, zAp, zLa, zLb, zLc, Nat.reduceAdd, zNz] at hK9 ⊢
   have hw := Flow.hwD HW0.out hb
   go_simp
   exact hK9 _ _ (ZR _ _) rfl
  case s4 =>
   intro xs w' hb hT K9 hK9
   have h2 : (xs 2) = .map (some b) := hT 2 (by kernel_rfl)
   have h3 : (xs 3) = .int .i64 i := hT 3 (by kernel_rfl)
   clear hT
   simp only [zFp, zAp, zLa, zLb, zLc, Nat.reduceAdd, zNz] at hK9 ⊢
   have hw := Flow.hwD HW0.out hb
   (try simp only [h2] at hK9)
   (try simp only [h3] at hK9)
   obtain ⟨u, hrun, hu⟩ := (HM.out.below hw).look HI.out.1 HI.out.2
   go_simp
   exact hK9 _ _ (ZR _ _) hu
  case s5 =>
   intro xs w' hb hT K9 hK9
   clear hT
   simp only [zFp, zAp, zLa, zLb, zLc, Nat.reduceAdd, zNz] at hK9 ⊢
   have hw := Flow.hwD HW0.out hb
   have kb := (hw.block bk (ZL HKK.out)).trans HKK.out
   have y0 := ZI kb 0
   have y1 := ZI kb 1
   have y2 := ZI kb 2
   have y3 := ZI kb 3
   clear kb
   simp at y0 y1 y2 y3
   go_simp
   exact hK9 _ _ (ZR _ _) rfl
  case s6 =>
   intro xs w' hb hT K9 hK9
   clear hT
   simp only [zFp, zAp, zLa, zLb, zLc, Nat.reduceAdd, zNz] at hK9 ⊢
   have hw := Flow.hwD HW0.out hb
   have y0 := ZJ hw HCS.out
   go_simp
   exact hK9 _ _ (ZR _ _) rfl
  case s7 =>
   intro xs w' hb hT K9 hK9
   have h6 : (xs 6) = .int .i64 sg := hT 6 (by kernel_rfl)
   clear hT
   simp only [zFp, zAp, zLa, zLb, zLc, Nat.reduceAdd, zNz] at hK9 ⊢
   have hw := Flow.hwD HW0.out hb
   (try simp only [h6] at hK9)
   go_simp
   go_at_call 26
   refine (ratFrom_any HSG.out.1 HSG.out.2).mono ?_
   rintro e w3 ⟨v3, rfl, hi3, hb3⟩
   exact hK9 _ _ hb3 hi3
  case s8 =>
   intro xs w' hb hT K9 hK9
   have h5 : (xs 5) = .agg #[.bool s1, .slice a1 c1 l1, .bool s2, .slice a2 c2 l2] := hT 5 (by kernel_rfl)
   have h7 : RtIn w' (xs 7) (sg : Rat) 2 := hT 7 (by kernel_rfl)
   clear hT
   simp only [zFp, zAp, zLa, zLb, zLc, Nat.reduceAdd, zNz] at hK9 ⊢
   have hw := Flow.hwD HW0.out hb
   (try simp only [h5] at hK9)
   go_simp
   go_at_call 93
   refine (ratMul_any (HQ.out.below hw) h7 hk2 (Nat.le_refl 2) (by omega)).mono ?_
   rintro e w3 ⟨v3, rfl, hi3, hb3⟩
   exact hK9 _ _ hb3 hi3
  case s9 =>
   intro xs w' hb hT K9 hK9
   have h4 : RtIn w' (xs 4) ((m i).getD 0) K := hT 4 (by kernel_rfl)
   have h8 : RtIn w' (xs 8) (q * (sg : Rat)) (k2 + 2) := hT 8 (by kernel_rfl)
   clear hT
   simp only [zFp, zAp, zLa, zLb, zLc, Nat.reduceAdd, zNz] at hK9 ⊢
   have hw := Flow.hwD HW0.out hb
   go_simp
   go_at_call 72
   refine (ratAdd_any h4 h8 hK2 (by omega) (by omega)).mono ?_
   rintro e w3 ⟨v3, rfl, hi3, hb3⟩
   exact hK9 _ _ hb3 hi3
 case fin =>
  intro xs w' hb hT
  have hw := Flow.hwD HW0.out hb
  have h0 : (xs 0) = .map (some b) := hT 0 (by rfl)
  have h1 : (xs 1) = .int .i64 i := hT 1 (by rfl)
  have h9 : RtIn w' (xs 9) ((m i).getD 0 + q * (sg : Rat)) (K + (k2 + 2) + 1) := hT 9 (by rfl)
  clear hT
  simp only [zFp, zAp, zLa, zLb, zLc, Nat.reduceAdd, zNz, FlowR.restL, FlowR.orM, Bool.false_or]
  simp only [h0, h1]
  clear h0 h1
  have hm9 := ((HM.out.below hw).more (show K ≤ K + k2 + 3 by omega))
  obtain ⟨w5, hrun, hm5, hg5, hs5⟩ := hm9.store (by unfold maxLen; omega) HI.out.1 HI.out.2 (h9.more (show K + (k2 + 2) + 1 ≤ K + k2 + 3 by omega))
  have hgb : w.grownBy w5 (some b) := by
   have h1 := HAL.out.trans (hw.mono HAL.out.size)
   exact ⟨hg5.os.trans h1.os, hg5.tape.trans h1.tape, hg5.output.trans h1.output, Nat.le_trans h1.size hg5.size, fun k hk hne => (hg5.block k (Nat.lt_of_lt_of_le hk h1.size) hne).trans (h1.block k hk)⟩
  have hst := (Stays.of_below (HAL.out.trans (hw.mono HAL.out.size))).trans hs5
  have HF := ZH (ZN hm5 (ZN hgb hst))
  clear h9 hm9 hm5 hg5 hs5 hgb hst hw hb
  go_wp2_with fail
  go_end0
  exact ⟨rfl, HF.out.1, HF.out.2.1, HF.out.2.2⟩
end Go.Proofs.YtgofihilkobenaaGreatDoor
/- place. -/
set_option maxRecDepth 100000
namespace Go.Proofs.YtgofihilkobenaaGreatDoor
open Go.RowKit Go.Num Go.Flow Go.Maps Go.WideMaps Go.Dtm
set_option maxHeartbeats 8000000

def addChain (V : List (Nat × Int)) (sg : Int) (C : List Int) (m : Int → Option Rat) : Int → Option Rat := C.foldl (fun m i => addTo m (varAt V i 1) (((1 : Int) : Rat) * (sg : Rat))) m
theorem addChain_snoc {V : List (Nat × Int)} {sg : Int} {C : List Int} {m : Int → Option Rat} {k : Nat} {i : Int} (h : C[k]? = some i) : addChain V sg (C.take (k + 1)) m = addTo (addChain V sg (C.take k) m) (varAt V i 1) (((1 : Int) : Rat) * (sg : Rat)) := by
 unfold addChain
 rw [List.take_add_one, h, List.foldl_append]
 rfl
def placeTo (V : List (Nat × Int)) (C : List Int) (f side sg : Int) (m : Int → Option Rat) : Int → Option Rat :=
 let m1 := addChain V sg C m
 let m2 := if 0 ≤ varAt V f 2 then addTo m1 (varAt V f 2) ((side : Rat) / ((2 : Int) : Rat) * (sg : Rat)) else m1
 if 0 ≤ varAt V f 3 then addTo m2 (varAt V f 3) (((1 : Int) : Rat) * (sg : Rat)) else m2
theorem varAt_le (l : List (Nat × Int)) (i k : Int) : -1 ≤ varAt l i k ∧ varAt l i k ≤ l.length := by
 unfold varAt
 rcases pos_cases (fun j => isVar i k (l.getD j (0, 0))) l.length 0 with ⟨h, -⟩ | ⟨i, h, h1, h2, -⟩ <;> rw [h] <;> omega
theorem place_any {w : World} {af : Option Addr} {cf : Nat} {az : Option Addr} {cz : Nat} {fs : List Feat} {zs : List Zn} (h : SchemeIn w af cf az cz fs zs) (hd : Down fs) (hsf : fs.length ≤ 100) (hsm : zs.length ≤ 1000000) {f : Int} (hf : f < (fs.length : Int)) {side sg : Int} (hs0 : -9223372036854775808 ≤ side) (hs1 : side ≤ 9223372036854775807) (hg0 : -9223372036854775808 ≤ sg) (hg1 : sg ≤ 9223372036854775807)
  {b n K : Nat} {m : Int → Option Rat} (hm : RMapIn w b n K m) (hn : n ≤ 1000) (hK2 : 2 ≤ K) (hK : K ≤ 10000) :
  Calls Tryz.prog 86 #[.agg #[.slice af fs.length cf, .slice az zs.length cz], .int .i64 f, .int .i64 side, .int .i64 sg, .map (some b)] w fun e w' => e = .returned (.tuple #[]) ∧ RMapIn w' b (n + 102) (K + 714) (placeTo (varsTo fs zs fs.length) (chainOf fs fs.length f) f side sg m) ∧ Turned b w w' := by
 obtain ⟨V, hV⟩ : ∃ V, V = varsTo fs zs fs.length := ⟨_, rfl⟩
 have hvl := vars_len fs zs fs.length
 obtain ⟨C, hC⟩ : ∃ C, C = chainOf fs fs.length f := ⟨_, rfl⟩
 have hcl := chain_len fs fs.length f
 have hch := fun (W : World) (hW : SchemeIn W af cf az cz fs zs) => chain_any hW hd (by omega) hf
 have hix := fun (W : World) (hW : SchemeIn W af cf az cz fs zs) (i k : Int) => index_any hW (by omega) hsm i k
 rw [← hV] at hvl ⊢
 rw [← hC] at hcl ⊢
 simp only [← hC] at hch
 simp only [← hV] at hix
 obtain ⟨nf, hnf⟩ : ∃ n, n = fs.length := ⟨_, rfl⟩
 obtain ⟨nz, hnz⟩ : ∃ n, n = zs.length := ⟨_, rfl⟩
 obtain ⟨cl, hcl2⟩ : ∃ n, n = C.length := ⟨_, rfl⟩
 obtain ⟨wa, hwa⟩ : ∃ wa, wa = ((w.alloc (.cells #[.slice af nf cf, .slice az nz cz] 26)).alloc (.cells #[.int .i64 sg] 3)).alloc (.cells #[.map (some b)] 100) := ⟨_, rfl⟩
 obtain ⟨ba, hba⟩ : ∃ b, b = w.heap.size := ⟨_, rfl⟩
 obtain ⟨bs, hbs⟩ : ∃ b, b = w.heap.size + 1 := ⟨_, rfl⟩
 obtain ⟨bm, hbm⟩ : ∃ b, b = w.heap.size + 2 := ⟨_, rfl⟩
 have hal : Below w.heap.size w wa := by rw [hwa]; exact (((ZR _ w).alloc (Nat.le_refl _) _).alloc (by simp) _).alloc (by simp; omega) _
 obtain ⟨k0, k1, k2⟩ := three_made w #[.slice af nf cf, .slice az nz cz] #[.int .i64 sg] #[.map (some b)] 26 3 100
 rw [← hwa, ← hba] at k0
 rw [← hwa, ← hbs] at k1
 rw [← hwa, ← hbm] at k2
 have s0 := ZI k0 0
 have s1 := ZI k0 1
 have c1 := ZI k1 0
 have c2 := ZI k2 0
 simp at s0 s1 c1 c2
 rw [← hnf, ← hnz] at hch hix
 rw [← hnf] at hcl hvl hsf hf
 rw [← hnf, ← hnz]
 rw [← hcl2] at hcl
 have HS := ZH (h.below hal)
 have HAL := ZH (show Turned b w wa from (Turned.refl b w).below hal)
 have HSC := ZH (ZN s0 (ZN s1 (ZN c1 c2)))
 have HCH := ZH hch
 have HIX := ZH hix
 have HM := ZH (hm.below hal)
 have HN := ZH (ZN hvl (ZN hcl (ZN hsf (ZN hcl2 (ZN hn (ZN hK2 hK))))))
 have HSD := ZH (ZN hs0 hs1)
 have HSG := ZH (ZN hg0 hg1)
 have HVB := ZH (fun (i k : Int) => varAt_le V i k)
 have HW := ZH (ZN hwa (ZN hba (ZN hbs hbm)))
 clear hal hwa hba hbs hbm k0 k1 k2 h hch hix hm hvl hcl hsf hcl2 hn hK2 hK hs0 hs1 hg0 hg1 hd hsm hnf hnz hV hC c1 c2 hf
 go_enter Tryz.func86, Tryz.ntmps86
 go_upto_region 1 with fail
 rw [← HW.out.1, ← HW.out.2.2.2, ← HW.out.2.2.1, ← HW.out.2.1]
 clear HW
 go_wp2_with fail
 refine (HCH.out wa HS.out).mono ?_
 rintro e w1 ⟨vc, rfl, hr1, hb1⟩
 obtain ⟨ao, c, rfl, hc1, hc2, hc3, hc4⟩ := row1_reads hr1
 rw [← HN.out.2.2.2.1] at hc1 hc4
 rw [← HN.out.2.2.2.1]
 have hT1 := (Turned.refl b wa).below hb1
 have HT1 := ZH hT1
 have HM1 := ZH (HM.out.below hb1)
 have HC4 := ZH hc4
 have s0 := ZJ hb1 HSC.out.1
 have s1 := ZJ hb1 HSC.out.2.1
 clear hr1 hb1 hT1 hc3 hc4 hc2
 have HC1 := ZH hc1
 have hcl9 : cl ≤ 100 := by have := HN.out; omega
 clear hc1
 go_wp2_with fail
 clear s0 s1
 go_loopg [22] cl (fun gk x wr => ∃ k : Nat, k + gk = cl ∧ x = .int .i64 k ∧ Hid (RMapIn wr b (n + k) (K + 7 * k) (addChain V sg (C.take k) m)) ∧ Hid (Turned b w1 wr))
 case atStart => exact ⟨0, by omega, rfl, ZH HM1.out, ZH (Turned.refl _ _)⟩
 case round =>
  obtain ⟨k, hk, rfl, hmr, htr⟩ := hrel
  have HTR := ZH (HT1.out.turn htr.out)
  have s0 := HTR.out.2.cell HSC.out.1
  have s1 := HTR.out.2.cell HSC.out.2.1
  by_cases hlt : k < cl
  ·have e1 : ((k : Int) < (cl : Int)) = True := eq_true (by omega)
   obtain ⟨g, rfl, hgl, hgc⟩ := HC4.out (by omega)
   obtain ⟨i, hi⟩ : ∃ i, C[k]? = some i := ⟨C[k]'(by rw [← HN.out.2.2.2.1]; exact hlt), List.getElem?_eq_getElem _⟩
   have x0 := htr.out.2.cell (hgc k (.int .i64 i) (by rw [List.getElem?_map, hi]; rfl))
   have hi0 : (0 : Int) ≤ (k : Int) := by omega
   have hi1 : (k : Int) < (cl : Int) := by omega
   have HI := ZH hi
   have HGC := ZH hgc
   have HLT := ZH hlt
   have hcap := HC1.out
   clear hi hgc hlt
   go_wp2_with fail
   refine (HIX.out wr (HS.out.stays HTR.out.2) i 1).mono ?_
   rintro e w3 ⟨rfl, hb3⟩
   obtain ⟨vi, hvi⟩ : ∃ x, x = varAt V i 1 := ⟨_, rfl⟩
   have hvb := HVB.out i 1
   rw [← hvi] at hvb ⊢
   have HVI := ZH hvi
   have HVBi := ZH hvb
   have HT3 := ZH (HTR.out.below hb3)
   have HM3 := ZH (hmr.out.below hb3)
   have HT13 := ZH (htr.out.below hb3)
   clear hvi hvb hb3 hmr htr HTR x0 s0 s1
   go_wp2_with fail
   refine (ratFrom_any (n := 1) (by omega) (by omega)).mono ?_
   rintro e w4 ⟨v4, rfl, hr4, hb4⟩
   have HT4 := ZH (HT3.out.below hb4)
   have HM4 := ZH (HM3.out.below hb4)
   have HT14 := ZH (HT13.out.below hb4)
   have HR4 := ZH hr4
   clear hr4 hb4 HT3 HM3 HT13
   go_wp2_with fail
   refine (dadd_any (bm := bm) (bs := bs) HM4.out (by have := HN.out; have := HLT.out; omega) (by have := HN.out; omega) (by have := HVBi.out; omega) (by have := HVBi.out; have := HN.out; omega) HR4.out (Nat.le_refl 2) (by have := HN.out; have := HLT.out; omega) (HT4.out.2.cell HSC.out.2.2.2) (HT4.out.2.cell HSC.out.2.2.1) HSG.out.1 HSG.out.2).mono ?_
   rintro e w5 ⟨rfl, hm5, hg5, hs5⟩
   have HM5 := ZH hm5
   have HT15 := ZH (HT14.out.turn ⟨hg5, hs5⟩)
   clear hm5 hg5 hs5 HM4 HT4 HT14 HR4
   go_wp2_with fail
   go_roundg (cl - (k + 1))
   case measure => have := HLT.out; omega
   case rel => exact ⟨k + 1, by have := HLT.out; omega, by congr 1, ZH (by rw [addChain_snoc HI.out, ← HVI.out]; exact (HM5.out.more (by omega)).mono (by omega)), HT15⟩
  ·have e1 : ((k : Int) < (cl : Int)) = False := eq_false (by omega)
   obtain rfl : k = cl := by omega
   have HMR := ZH hmr.out
   have HTL := ZH (show C.take k = C by rw [HN.out.2.2.2.1]; exact List.take_length)
   clear hmr htr
   go_wp2_with fail
   refine (HIX.out wr (HS.out.stays HTR.out.2) f 2).mono ?_
   rintro e w3 ⟨rfl, hb3⟩
   obtain ⟨v2, hv2⟩ : ∃ x, x = varAt V f 2 := ⟨_, rfl⟩
   have hvb2 := HVB.out f 2
   rw [← hv2] at hvb2 ⊢
   have hVn : V.length ≤ 300 := by have := HN.out; omega
   have HV2 := ZH (ZN hv2 (ZN hvb2 hVn))
   have HT3 := ZH (HTR.out.below hb3)
   have HM3 := ZH (HMR.out.below hb3)
   have s0 := HT3.out.2.cell HSC.out.1
   have s1 := HT3.out.2.cell HSC.out.2.1
   clear hv2 hvb2 hVn hb3 HMR HTR
   obtain ⟨m1, hm1⟩ : ∃ x, x = addChain V sg C m := ⟨_, rfl⟩
   rw [HTL.out, ← hm1] at HM3
   have HM1X := ZH hm1
   clear hm1 HTL
   by_cases h2 : 0 ≤ v2
   ·have e2 : ((0 : Int) ≤ v2) = True := eq_true h2
    have HM2X := ZH (show (if 0 ≤ varAt V f 2 then addTo m1 (varAt V f 2) ((side : Rat) / ((2 : Int) : Rat) * (sg : Rat)) else m1) = addTo m1 v2 ((side : Rat) / ((2 : Int) : Rat) * (sg : Rat)) by rw [← HV2.out.1, if_pos h2])
    clear h2
    go_wp2_with fail
    refine (ratFrom_any HSD.out.1 HSD.out.2).mono ?_
    rintro e w4 ⟨v4, rfl, hr4, hb4⟩
    have HT4 := ZH (HT3.out.below hb4)
    have HM4 := ZH (HM3.out.below hb4)
    have HR4 := ZH hr4
    clear hr4 hb4 s0 s1 HT3 HM3
    go_wp2_with fail
    refine (ratFrom_any (n := 2) (by omega) (by omega)).mono ?_
    rintro e w5 ⟨v5, rfl, hr5, hb5⟩
    have HT5 := ZH (HT4.out.below hb5)
    have HM5 := ZH (HM4.out.below hb5)
    have HR5 := ZH (ZN (HR4.out.below hb5) hr5)
    clear hr5 hb5 HT4 HM4 HR4
    go_wp2_with fail
    refine (ratDiv_any HR5.out.1 HR5.out.2 (Nat.le_refl 2) (Nat.le_refl 2) (by omega)).mono ?_
    rintro e w6 ⟨v6, rfl, hr6, hb6⟩
    obtain ⟨s1', a1, c1, l1, s2', a2, c2, l2, rfl⟩ := rt_shape hr6
    have HT6 := ZH (HT5.out.below hb6)
    have HM6 := ZH (HM5.out.below hb6)
    have HR6 := ZH hr6
    clear hr6 hb6 HT5 HM5 HR5
    go_upto_region 10 with fail
    obtain ⟨w7, hw7⟩ : ∃ x, x = w6.alloc (.cells #[.bool s1', .slice a1 c1 l1, .bool s2', .slice a2 c2 l2] 65) := ⟨_, rfl⟩
    have hb7 : Below w6.heap.size w6 w7 := by rw [hw7]; exact (ZR _ w6).alloc (Nat.le_refl _) _
    have kq : w7.heap[w6.heap.size]? = some (.cells #[.bool s1', .slice a1 c1 l1, .bool s2', .slice a2 c2 l2] 65 (0, 0)) := by rw [hw7]; exact ZW w6 _
    obtain ⟨bq, hbq⟩ : ∃ b, b = w6.heap.size := ⟨_, rfl⟩
    rw [← hbq] at kq
    rw [← hw7, ← hbq]
    have z0 := ZI kq 0
    have z1 := ZI kq 1
    have z2 := ZI kq 2
    have z3 := ZI kq 3
    simp at z0 z1 z2 z3
    have HT7 := ZH (HT6.out.below hb7)
    have HM7 := ZH (HM6.out.below hb7)
    have HR7 := ZH (HR6.out.below hb7)
    clear hw7 hb7 kq hbq HT6 HM6 HR6
    go_wp2_with fail
    refine (dadd_any (bm := bm) (bs := bs) HM7.out (by have := HN.out; omega) (by have := HN.out; omega) (by have := HV2.out; omega) (by have := HV2.out; omega) HR7.out (by omega) (by have := HN.out; omega) (HT7.out.2.cell HSC.out.2.2.2) (HT7.out.2.cell HSC.out.2.2.1) HSG.out.1 HSG.out.2).mono ?_
    rintro e w8 ⟨rfl, hm8, hg8, hs8⟩
    obtain ⟨m2, hm2⟩ : ∃ x, x = addTo m1 v2 ((side : Rat) / ((2 : Int) : Rat) * (sg : Rat)) := ⟨_, rfl⟩
    rw [← hm2] at hm8 HM2X
    have HM8 := ZH (show RMapIn w8 b (n + 101) (K + 707) m2 from (hm8.more (by omega)).mono (by omega))
    have HT8 := ZH (HT7.out.turn ⟨hg8, hs8⟩)
    clear hm8 hg8 hs8 hm2 HM7 HT7 HR7 z0 z1 z2 z3
    have s0 := HT8.out.2.cell HSC.out.1
    have s1 := HT8.out.2.cell HSC.out.2.1
    go_wp2_with fail
    refine (HIX.out _ (HS.out.stays HT8.out.2) f 3).mono ?_
    rintro e w9 ⟨rfl, hb9⟩
    obtain ⟨v3, hv3⟩ : ∃ x, x = varAt V f 3 := ⟨_, rfl⟩
    have hvb3 := HVB.out f 3
    rw [← hv3] at hvb3 ⊢
    have HV3 := ZH (ZN hv3 hvb3)
    have HT9 := ZH (HT8.out.below hb9)
    have HM9 := ZH (HM8.out.below hb9)
    clear hv3 hvb3 hb9 HM8 HT8 s0 s1
    by_cases h3 : 0 ≤ v3
    ·have e3 : ((0 : Int) ≤ v3) = True := eq_true h3
     have HPL := ZH (show placeTo V C f side sg m = addTo m2 v3 (((1 : Int) : Rat) * (sg : Rat)) by
      unfold placeTo
      simp only []
      rw [← HM1X.out, HM2X.out, ← HV3.out.1, if_pos h3])
     clear h3
     go_wp2_with fail
     refine (ratFrom_any (n := 1) (by omega) (by omega)).mono ?_
     rintro e wb ⟨vb, rfl, hrb, hbb⟩
     have HTb := ZH (HT9.out.below hbb)
     have HMb := ZH (HM9.out.below hbb)
     have HRb := ZH hrb
     clear hrb hbb HT9 HM9
     go_wp2_with fail
     refine (dadd_any (bm := bm) (bs := bs) HMb.out (by have := HN.out; omega) (by have := HN.out; omega) (by have := HV3.out; omega) (by have := HV3.out; have := HV2.out; omega) HRb.out (Nat.le_refl 2) (by have := HN.out; omega) (HTb.out.2.cell HSC.out.2.2.2) (HTb.out.2.cell HSC.out.2.2.1) HSG.out.1 HSG.out.2).mono ?_
     rintro e wc ⟨rfl, hmc, hgc, hsc⟩
     have HF := ZH (ZN ((hmc.more (show K + 707 + 2 + 3 ≤ K + 714 by omega)).mono (show n + 101 + 1 ≤ n + 102 by omega)) (HTb.out.turn ⟨hgc, hsc⟩))
     clear hmc hgc hsc HMb HTb HRb
     go_wp2_with fail
     go_end0
     exact ⟨rfl, by rw [HPL.out]; exact HF.out.1, HAL.out.turn HF.out.2⟩
    ·have e3 : ((0 : Int) ≤ v3) = False := eq_false h3
     have HPL := ZH (show placeTo V C f side sg m = m2 by
      unfold placeTo
      simp only []
      rw [← HM1X.out, HM2X.out, ← HV3.out.1, if_neg h3])
     clear h3
     go_wp2_with fail
     go_end0
     exact ⟨rfl, by rw [HPL.out]; exact (HM9.out.more (by omega)).mono (by omega), HAL.out.turn HT9.out⟩
   ·have e2 : ((0 : Int) ≤ v2) = False := eq_false h2
    obtain ⟨m2, hm2⟩ : ∃ x, x = m1 := ⟨_, rfl⟩
    have HM2X := ZH (show (if 0 ≤ varAt V f 2 then addTo m1 (varAt V f 2) ((side : Rat) / ((2 : Int) : Rat) * (sg : Rat)) else m1) = m2 by rw [hm2, ← HV2.out.1, if_neg h2])
    rw [← hm2] at HM3
    have HM8 := ZH (show RMapIn w3 b (n + 101) (K + 707) m2 from (HM3.out.more (by omega)).mono (by omega))
    have HT8 := HT3
    clear h2 hm2 HM3 HT3 s0 s1
    have s0 := HT8.out.2.cell HSC.out.1
    have s1 := HT8.out.2.cell HSC.out.2.1
    go_wp2_with fail
    refine (HIX.out _ (HS.out.stays HT8.out.2) f 3).mono ?_
    rintro e w9 ⟨rfl, hb9⟩
    obtain ⟨v3, hv3⟩ : ∃ x, x = varAt V f 3 := ⟨_, rfl⟩
    have hvb3 := HVB.out f 3
    rw [← hv3] at hvb3 ⊢
    have HV3 := ZH (ZN hv3 hvb3)
    have HT9 := ZH (HT8.out.below hb9)
    have HM9 := ZH (HM8.out.below hb9)
    clear hv3 hvb3 hb9 HM8 HT8 s0 s1
    by_cases h3 : 0 ≤ v3
    ·have e3 : ((0 : Int) ≤ v3) = True := eq_true h3
     have HPL := ZH (show placeTo V C f side sg m = addTo m2 v3 (((1 : Int) : Rat) * (sg : Rat)) by
      unfold placeTo
      simp only []
      rw [← HM1X.out, HM2X.out, ← HV3.out.1, if_pos h3])
     clear h3
     go_wp2_with fail
     refine (ratFrom_any (n := 1) (by omega) (by omega)).mono ?_
     rintro e wb ⟨vb, rfl, hrb, hbb⟩
     have HTb := ZH (HT9.out.below hbb)
     have HMb := ZH (HM9.out.below hbb)
     have HRb := ZH hrb
     clear hrb hbb HT9 HM9
     go_wp2_with fail
     refine (dadd_any (bm := bm) (bs := bs) HMb.out (by have := HN.out; omega) (by have := HN.out; omega) (by have := HV3.out; omega) (by have := HV3.out; have := HV2.out; omega) HRb.out (Nat.le_refl 2) (by have := HN.out; omega) (HTb.out.2.cell HSC.out.2.2.2) (HTb.out.2.cell HSC.out.2.2.1) HSG.out.1 HSG.out.2).mono ?_
     rintro e wc ⟨rfl, hmc, hgc, hsc⟩
     have HF := ZH (ZN ((hmc.more (show K + 707 + 2 + 3 ≤ K + 714 by omega)).mono (show n + 101 + 1 ≤ n + 102 by omega)) (HTb.out.turn ⟨hgc, hsc⟩))
     clear hmc hgc hsc HMb HTb HRb
     go_wp2_with fail
     go_end0
     exact ⟨rfl, by rw [HPL.out]; exact HF.out.1, HAL.out.turn HF.out.2⟩
    ·have e3 : ((0 : Int) ≤ v3) = False := eq_false h3
     have HPL := ZH (show placeTo V C f side sg m = m2 by
      unfold placeTo
      simp only []
      rw [← HM1X.out, HM2X.out, ← HV3.out.1, if_neg h3])
     clear h3
     go_wp2_with fail
     go_end0
     exact ⟨rfl, by rw [HPL.out]; exact (HM9.out.more (by omega)).mono (by omega), HAL.out.turn HT9.out⟩
end Go.Proofs.YtgofihilkobenaaGreatDoor
/- Place, Between. -/
set_option maxRecDepth 100000
namespace Go.Proofs.YtgofihilkobenaaGreatDoor
open Go.RowKit Go.Num Go.Flow Go.Maps Go.WideMaps Go.Dtm
set_option maxHeartbeats 8000000

/-- A form and an error. -/
def FormPost (w : World) (E : Int) (c : List UInt8) (l : List (Nat × List UInt8)) (e : Ending) (w' : World) : Prop := ∃ v, e = .returned (.tuple #[v, .int .i64 E]) ∧ (E = 0 → FormIn w' w.heap.size v c l) ∧ (E ≠ 0 → v = zeroForm) ∧ Below w.heap.size w w'
def placeErr (fs : List Feat) (zs : List Zn) (f side : Int) : Int := if withErr fs zs [f] ≠ 0 then withErr fs zs [f] else sideErr fs f.toNat side
theorem side_small {fs : List Feat} {i : Nat} {side : Int} (h : sideErr fs i side = 0) : -1 ≤ side ∧ side ≤ 1 := by
 unfold sideErr at h
 split at h
 ·cases h
 ·next h1 => omega
theorem below_turned {w a c : World} {b : Nat} (h : Below w.heap.size w a) (k : Turned b a c) (hb : w.heap.size ≤ b) : Below w.heap.size w c :=
 h.grown k.1 h.size (fun q e => by cases e; exact hb)
theorem two_at0 {w : World} {b : Nat} {x y : Value} {t : TypeId} (h : w.heap[b]? = some (.cells #[x, y] t (0, 0))) (u : Value) : (w.setCell ⟨b, 0, none⟩ u).heap[b]? = some (.cells #[u, y] t (0, 0)) := by
 simp [World.setCell, Array.getElem?_modify, h]
theorem Place_any {w : World} (hg : Glob w) {af : Option Addr} {cf : Nat} {az : Option Addr} {cz : Nat} {fs : List Feat} {zs : List Zn} (h : SchemeIn w af cf az cz fs zs) (f side : Int) :
  Calls Tryz.prog 41 #[.agg #[.slice af fs.length cf, .slice az zs.length cz], .int .i64 f, .int .i64 side] w (FormPost w (placeErr fs zs f side) (numText ((0 : Int) : Rat)) (sumTerms (placeTo (varsTo fs zs fs.length) (chainOf fs fs.length f) f side 1 noMap) 48)) := by
 obtain ⟨n, hn⟩ : ∃ n, n = fs.length := ⟨_, rfl⟩
 obtain ⟨nz, hnz⟩ : ∃ n, n = zs.length := ⟨_, rfl⟩
 obtain ⟨wb, hwb⟩ : ∃ wa, wa = (w.alloc (.cells #[.slice af n cf, .slice az nz cz] 26)).alloc (.cells #[.string ⟨#[]⟩, .slice none 0 0] 78) := ⟨_, rfl⟩
 obtain ⟨ba, hba⟩ : ∃ b, b = w.heap.size := ⟨_, rfl⟩
 obtain ⟨br, hbr⟩ : ∃ b, b = w.heap.size + 1 := ⟨_, rfl⟩
 have hlb : Below w.heap.size w wb := by rw [hwb]; exact ((ZR _ w).alloc (Nat.le_refl _) _).alloc (by simp) _
 obtain ⟨k0, k1⟩ := two_made w #[.slice af n cf, .slice az nz cz] #[.string ⟨#[]⟩, .slice none 0 0] 26 78
 rw [← hwb, ← hba] at k0
 rw [← hwb, ← hbr] at k1
 have s0 := ZI k0 0
 have s1 := ZI k0 1
 simp at s0 s1
 have hlw : Below wb.heap.size wb (wb.alloc (.cells #[.int .i64 f] 3)) := (ZR _ wb).alloc (Nat.le_refl _) _
 have hw := with_any ((h.below hlb).below hlw) (ints_one wb f) (by simp)
 obtain ⟨E, hE⟩ : ∃ E, E = withErr fs zs [f] := ⟨_, rfl⟩
 rw [← hE, ← hn, ← hnz] at hw
 have HWC := ZH (show Calls Tryz.prog 83 #[.agg #[.slice af n cf, .slice az nz cz], .slice (some ⟨wb.heap.size, 0, none⟩) 1 1] (wb.alloc (.cells #[.int .i64 f] 3)) fun e w' => e = .returned (.int .i64 E) ∧ Below (wb.alloc (.cells #[.int .i64 f] 3)).heap.size (wb.alloc (.cells #[.int .i64 f] 3)) w' from hw)
 obtain ⟨PE, hPE⟩ : ∃ x, x = placeErr fs zs f side := ⟨_, rfl⟩
 obtain ⟨N0, hN0⟩ : ∃ x, x = numText ((0 : Int) : Rat) := ⟨_, rfl⟩
 obtain ⟨TL, hTL⟩ : ∃ x, x = sumTerms (placeTo (varsTo fs zs fs.length) (chainOf fs fs.length f) f side 1 noMap) 48 := ⟨_, rfl⟩
 rw [← hTL, ← hN0]
 have HTL := ZH (ZN hTL hN0)
 clear hTL hN0
 have HPE := ZH (show PE = if E ≠ 0 then E else sideErr fs f.toNat side by rw [hPE, hE]; rfl)
 have HH := ZH h
 have HG := ZH hg
 have HAL := ZH hlb
 have HLW := ZH hlw
 have HSC := ZH (ZN s0 s1)
 have HKR := ZH k1
 have HGR := ZH (show w.heap.size ≤ br by omega)
 have HE := ZH hE
 have HN := ZH (ZN hn hnz)
 have hmm := @run_makeMap Tryz.prog
 have HW := ZH (ZN hwb (ZN hba hbr))
 rw [← hn, ← hnz, ← hPE]
 clear hw hE hn hnz hlw hlb hwb hba hbr k0 k1 h hPE hg
 go_enter Tryz.func41, Tryz.ntmps41
 go_upto_region 1 with fail
 rw [← HW.out.1, ← HW.out.2.2, ← HW.out.2.1]
 clear HW
 go_wp2_with fail
 refine HWC.out.mono ?_
 rintro e w1 ⟨rfl, hb1⟩
 have hW1 := HLW.out.trans (hb1.mono HLW.out.size)
 have s0 := ZJ hW1 HSC.out.1
 have s1 := ZJ hW1 HSC.out.2
 have HW1 := ZH hW1
 clear hb1 hW1
 by_cases hz : E = 0
 ·have e2 : (E == 0) = true := by rw [hz]; rfl
  obtain ⟨h1, h2, h3⟩ := with_one (HE.out.symm.trans hz)
  obtain ⟨i, rfl⟩ : ∃ i : Nat, f = (i : Int) := ⟨f.toNat, by omega⟩
  have hcs := checkSide_any ((HH.out.below HAL.out).below HW1.out) (show i < fs.length by omega) side
  rw [if_neg (by rw [hz]; simp), Int.toNat_natCast] at HPE
  rw [← HN.out.1, ← HN.out.2, ← HPE.out] at hcs
  have HCS := ZH hcs
  have HC0 := ZH (ZN h1 h3)
  clear hcs hz h1 h2 h3
  go_wp2_with fail
  refine HCS.out.mono ?_
  rintro e w2 ⟨rfl, hb2⟩
  have HW2 := ZH (HW1.out.trans (hb2.mono HW1.out.size))
  have s0 := ZJ HW2.out HSC.out.1
  have s1 := ZJ HW2.out HSC.out.2
  clear hb2
  by_cases hp : PE = 0
  ·have e3 : (PE == 0) = true := by rw [hp]; rfl
   have HSD := ZH (side_small (HPE.out.symm.trans hp))
   have HP0 := ZH hp
   clear hp
   go_upto_region 8 with fail
   obtain ⟨w3, hw3⟩ : ∃ x, x = w2.alloc (.map #[] 0) := ⟨_, rfl⟩
   obtain ⟨bm, hbm⟩ : ∃ b, b = w2.heap.size := ⟨_, rfl⟩
   have hl3 : Below w2.heap.size w2 w3 := by rw [hw3]; exact (ZR _ w2).alloc (Nat.le_refl _) _
   have hm3 : RMapIn w3 bm 0 2 noMap := by rw [hw3, hbm]; exact rmap_made w2 2
   rw [← hw3, ← hbm]
   have HW3 := ZH (HW2.out.trans (hl3.mono HW2.out.size))
   have HM3 := ZH hm3
   have HBM := ZH (show wb.heap.size ≤ bm by rw [hbm]; exact HW2.out.size)
   have s0 := ZJ HW3.out HSC.out.1
   have s1 := ZJ HW3.out HSC.out.2
   have hpl := place_any ((HH.out.below HAL.out).below HW3.out) (check_down HC0.out.1) (by have := (check_small HC0.out.1).1; omega) (by have := (check_small HC0.out.1).2; omega) HC0.out.2 (side := side) (sg := 1) (by have := HSD.out; omega) (by have := HSD.out; omega) (by omega) (by omega) HM3.out (by omega) (by omega) (by omega)
   rw [← HN.out.1, ← HN.out.2] at hpl
   have HPL := ZH hpl
   clear hw3 hbm hl3 hm3 hpl HW2
   go_wp2_with fail
   refine HPL.out.mono ?_
   rintro e w4 ⟨rfl, hm4, ht4⟩
   have hb4 : Below wb.heap.size wb w4 := below_turned HW3.out ht4 HBM.out
   obtain ⟨mm, hmm2⟩ : ∃ x, x = placeTo (varsTo fs zs n) (chainOf fs n (i : Int)) (i : Int) side 1 noMap := ⟨_, rfl⟩
   rw [← hmm2] at hm4
   have hsm := sum_any (HG.out.below (HAL.out.trans (hb4.mono HAL.out.size))) (c := 0) (by omega) (by omega) hm4 (by omega)
   rw [← HTL.out.2, hmm2, HN.out.1, ← HTL.out.1] at hsm
   have HSM := ZH hsm
   clear hsm
   have HW4 := ZH hb4
   clear hb4 hm4 ht4 hmm2 s0 s1
   go_wp2_with fail
   refine HSM.out.mono ?_
   rintro e w5 ⟨v5, rfl, hf5, hb5⟩
   obtain ⟨tv, rfl, ht5⟩ := hf5
   obtain ⟨ao, tn, tc, rfl⟩ := ht5.shape
   have hB5 := HW4.out.trans (hb5.mono HW4.out.size)
   have kz := (hB5.block br (ZL HKR.out)).trans HKR.out
   have z0 := ZI kz 0
   have z1 := ZI kz 1
   have f0 := ZF kz 0
   have f1 := ZF kz 1
   simp at z0 z1
   have hbl : br < w4.heap.size := Nat.lt_of_lt_of_le (ZL HKR.out) HW4.out.size
   obtain ⟨S, hS⟩ : ∃ S : ByteArray, S = ⟨N0.toArray⟩ := ⟨_, rfl⟩
   rw [← hS]
   have hr := (ht5.set hbl 0 (.string S)).set hbl 1 (.slice ao tn tc)
   have hbf := ((HAL.out.trans (hB5.mono HAL.out.size)).setCell (p := ⟨br, 0, none⟩) HGR.out (.string S)).setCell (p := ⟨br, 1, none⟩) HGR.out (.slice ao tn tc)
   have HF := ZH (ZN (World.ownsRow.mono hr (show w.heap.size ≤ w4.heap.size from (HAL.out.trans (HW4.out.mono HAL.out.size)).size)) hbf)
   have HS := ZH hS
   clear hr hbf kz hbl hB5 hb5 ht5 hS
   go_wp2_with fail
   exact bodyPost_ret (v := .tuple #[.agg #[.string S, .slice ao tn tc], .int .i64 0]) (by simp [results, Tryz.results41, go_sem, z0, z1]) rfl ⟨_, by rw [HP0.out], fun _ => ⟨_, by rw [HS.out], HF.out.1⟩, fun h => absurd HP0.out h, HF.out.2⟩
  ·have e3 : (PE == 0) = false := ZQ.2 hp
   have HP0 := ZH hp
   clear hp s0 s1
   have kz := (HW2.out.block br (ZL HKR.out)).trans HKR.out
   have z0 := ZI kz 0
   have z1 := ZI kz 1
   have f0 := ZF kz 0
   have f1 := ZF kz 1
   simp at z0 z1
   have HF := ZH (((HAL.out.trans (HW2.out.mono HAL.out.size)).setCell (p := ⟨br, 0, none⟩) HGR.out (.string ⟨#[]⟩)).setCell (p := ⟨br, 1, none⟩) HGR.out (.slice none 0 0))
   clear kz
   go_wp2_with fail
   exact bodyPost_ret (v := .tuple #[zeroForm, .int .i64 PE]) (by simp [results, Tryz.results41, go_sem, z0, z1, zeroForm]) rfl ⟨_, rfl, fun h => absurd h HP0.out, fun _ => rfl, HF.out⟩
 ·have e2 : (E == 0) = false := ZQ.2 hz
  rw [if_pos hz] at HPE
  have HP0 := ZH hz
  clear hz s0 s1
  have kz := (HW1.out.block br (ZL HKR.out)).trans HKR.out
  have z0 := ZI kz 0
  have z1 := ZI kz 1
  have f0 := ZF kz 0
  have f1 := ZF kz 1
  simp at z0 z1
  have HF := ZH (((HAL.out.trans (HW1.out.mono HAL.out.size)).setCell (p := ⟨br, 0, none⟩) HGR.out (.string ⟨#[]⟩)).setCell (p := ⟨br, 1, none⟩) HGR.out (.slice none 0 0))
  clear kz
  go_wp2_with fail
  exact bodyPost_ret (v := .tuple #[zeroForm, .int .i64 E]) (by simp [results, Tryz.results41, go_sem, z0, z1, zeroForm]) rfl ⟨_, by rw [HPE.out], fun h => absurd (HPE.out.symm.trans h) HP0.out, fun _ => rfl, HF.out⟩
def betweenErr (fs : List Feat) (zs : List Zn) (f side g other : Int) : Int := if withErr fs zs [f, g] ≠ 0 then withErr fs zs [f, g] else if sideErr fs f.toNat side ≠ 0 then sideErr fs f.toNat side else if sideErr fs g.toNat other ≠ 0 then sideErr fs g.toNat other else if (fs.getD f.toNat Feat.none).axis ≠ (fs.getD g.toNat Feat.none).axis then 17 else 0
def betweenMap (fs : List Feat) (zs : List Zn) (f side g other : Int) : Int → Option Rat := placeTo (varsTo fs zs fs.length) (chainOf fs fs.length f) f side (-1) (placeTo (varsTo fs zs fs.length) (chainOf fs fs.length g) g other 1 noMap)
theorem with_two {fs : List Feat} {zs : List Zn} {i j : Int} (h : withErr fs zs [i, j] = 0) : check fs zs = 0 ∧ (0 ≤ i ∧ i < (fs.length : Int)) ∧ 0 ≤ j ∧ j < (fs.length : Int) := by
 unfold withErr at h
 by_cases h1 : check fs zs = 0
 ·rw [if_neg (by rw [h1]; simp)] at h
  split at h
  ·next h2 =>
   rw [List.all_cons, List.all_cons, List.all_nil, Bool.and_true] at h2
   unfold inside at h2
   simp only [Bool.and_eq_true, decide_eq_true_iff] at h2
   exact ⟨h1, h2⟩
  ·cases h
 ·rw [if_pos h1] at h
  exact absurd h h1
theorem Between_any {w : World} (hg : Glob w) {af : Option Addr} {cf : Nat} {az : Option Addr} {cz : Nat} {fs : List Feat} {zs : List Zn} (h : SchemeIn w af cf az cz fs zs) (f side g other : Int) :
  Calls Tryz.prog 42 #[.agg #[.slice af fs.length cf, .slice az zs.length cz], .int .i64 f, .int .i64 side, .int .i64 g, .int .i64 other] w (FormPost w (betweenErr fs zs f side g other) (numText ((0 : Int) : Rat)) (sumTerms (betweenMap fs zs f side g other) 48)) := by
 obtain ⟨n, hn⟩ : ∃ n, n = fs.length := ⟨_, rfl⟩
 obtain ⟨nz, hnz⟩ : ∃ n, n = zs.length := ⟨_, rfl⟩
 obtain ⟨wb, hwb⟩ : ∃ wa, wa = (w.alloc (.cells #[.slice af n cf, .slice az nz cz] 26)).alloc (.cells #[.string ⟨#[]⟩, .slice none 0 0] 78) := ⟨_, rfl⟩
 obtain ⟨ba, hba⟩ : ∃ b, b = w.heap.size := ⟨_, rfl⟩
 obtain ⟨br, hbr⟩ : ∃ b, b = w.heap.size + 1 := ⟨_, rfl⟩
 have hlb : Below w.heap.size w wb := by rw [hwb]; exact ((ZR _ w).alloc (Nat.le_refl _) _).alloc (by simp) _
 obtain ⟨k0, k1⟩ := two_made w #[.slice af n cf, .slice az nz cz] #[.string ⟨#[]⟩, .slice none 0 0] 26 78
 rw [← hwb, ← hba] at k0
 rw [← hwb, ← hbr] at k1
 have s0 := ZI k0 0
 have s1 := ZI k0 1
 simp at s0 s1
 have hlw : Below wb.heap.size wb (wb.alloc (.cells #[.int .i64 f, .int .i64 g] 3)) := (ZR _ wb).alloc (Nat.le_refl _) _
 have hw := with_any ((h.below hlb).below hlw) (ints_two wb f g) (by simp)
 obtain ⟨E, hE⟩ : ∃ E, E = withErr fs zs [f, g] := ⟨_, rfl⟩
 rw [← hE, ← hn, ← hnz] at hw
 have HWC := ZH (show Calls Tryz.prog 83 #[.agg #[.slice af n cf, .slice az nz cz], .slice (some ⟨wb.heap.size, 0, none⟩) 2 2] (wb.alloc (.cells #[.int .i64 f, .int .i64 g] 3)) fun e w' => e = .returned (.int .i64 E) ∧ Below (wb.alloc (.cells #[.int .i64 f, .int .i64 g] 3)).heap.size (wb.alloc (.cells #[.int .i64 f, .int .i64 g] 3)) w' from hw)
 obtain ⟨PE, hPE⟩ : ∃ x, x = betweenErr fs zs f side g other := ⟨_, rfl⟩
 obtain ⟨N0, hN0⟩ : ∃ x, x = numText ((0 : Int) : Rat) := ⟨_, rfl⟩
 obtain ⟨TL, hTL⟩ : ∃ x, x = sumTerms (betweenMap fs zs f side g other) 48 := ⟨_, rfl⟩
 rw [← hTL, ← hN0]
 have HTL := ZH (ZN hTL hN0)
 clear hTL hN0
 have HPE := ZH (show PE = if E ≠ 0 then E else if sideErr fs f.toNat side ≠ 0 then sideErr fs f.toNat side else if sideErr fs g.toNat other ≠ 0 then sideErr fs g.toNat other else if (fs.getD f.toNat Feat.none).axis ≠ (fs.getD g.toNat Feat.none).axis then 17 else 0 by rw [hPE, hE]; rfl)
 have HH := ZH h
 have HG := ZH hg
 have HAL := ZH hlb
 have HLW := ZH hlw
 have HSC := ZH (ZN s0 s1)
 have HKR := ZH k1
 have HGR := ZH (show w.heap.size ≤ br by omega)
 have HE := ZH hE
 have HN := ZH (ZN hn hnz)
 have hmm := @run_makeMap Tryz.prog
 have HW := ZH (ZN hwb (ZN hba hbr))
 have hcap : n ≤ cf ∧ cf ≤ 9223372036854775807 := by rw [hn]; exact ⟨h.feats.1, h.feats.2.1⟩
 rw [← hn, ← hnz, ← hPE]
 clear hw hE hn hnz hlw hlb hwb hba hbr k0 k1 h hPE hg
 go_enter Tryz.func42, Tryz.ntmps42
 go_upto_region 1 with fail
 rw [← HW.out.1, ← HW.out.2.2, ← HW.out.2.1]
 clear HW
 go_wp2_with fail
 refine HWC.out.mono ?_
 rintro e w1 ⟨rfl, hb1⟩
 have hW1 := HLW.out.trans (hb1.mono HLW.out.size)
 have s0 := ZJ hW1 HSC.out.1
 have s1 := ZJ hW1 HSC.out.2
 have HW1 := ZH hW1
 clear hb1 hW1
 by_cases hz : E = 0
 ·have e2 : (E == 0) = true := by rw [hz]; rfl
  obtain ⟨h1, h2, h3⟩ := with_two (HE.out.symm.trans hz)
  obtain ⟨i, rfl⟩ : ∃ i : Nat, f = (i : Int) := ⟨f.toNat, by omega⟩
  obtain ⟨j, rfl⟩ : ∃ i : Nat, g = (i : Int) := ⟨g.toNat, by omega⟩
  rw [if_neg (by rw [hz]; simp), Int.toNat_natCast, Int.toNat_natCast] at HPE
  have hcs := fun (W : World) (hW : SchemeIn W af cf az cz fs zs) => checkSide_any hW (show i < fs.length by omega) side
  have hct := fun (W : World) (hW : SchemeIn W af cf az cz fs zs) => checkSide_any hW (show j < fs.length by omega) other
  obtain ⟨SE, hSE⟩ : ∃ x, x = sideErr fs i side := ⟨_, rfl⟩
  obtain ⟨TE, hTE⟩ : ∃ x, x = sideErr fs j other := ⟨_, rfl⟩
  simp only [← HN.out.1, ← HN.out.2, ← hSE] at hcs
  simp only [← HN.out.1, ← HN.out.2, ← hTE] at hct
  rw [← hSE, ← hTE] at HPE
  have HCS := ZH hcs
  have HCT := ZH hct
  have HST := ZH (ZN hSE hTE)
  have HC0 := ZH (ZN h1 (ZN h2.2 h3.2))
  obtain ⟨bo, o, rfl, hlo, hco⟩ := HH.out.feats.2.2 (by omega)
  have HXI := ZH (hco i (by omega)).2.2.1
  have HXJ := ZH (hco j (by omega)).2.2.1
  obtain ⟨AI, hAI⟩ : ∃ x, x = (fs.getD i Feat.none).axis := ⟨_, rfl⟩
  obtain ⟨AJ, hAJ⟩ : ∃ x, x = (fs.getD j Feat.none).axis := ⟨_, rfl⟩
  rw [← hAI] at HXI HPE
  rw [← hAJ] at HXJ HPE
  clear hcs hct hz h1 h2 h3 hSE hTE hAI hAJ hco
  go_wp2_with fail
  refine (HCS.out w1 ((HH.out.below HAL.out).below HW1.out)).mono ?_
  rintro e w2 ⟨rfl, hb2⟩
  have HW2 := ZH (HW1.out.trans (hb2.mono HW1.out.size))
  have s0 := ZJ HW2.out HSC.out.1
  have s1 := ZJ HW2.out HSC.out.2
  clear hb2
  by_cases hp : SE = 0
  ·have e3 : (SE == 0) = true := by rw [hp]; rfl
   have HSI := ZH (side_small (HST.out.1.symm.trans hp))
   rw [if_neg (by rw [hp]; simp)] at HPE
   clear hp
   go_wp2_with fail
   refine (HCT.out w2 ((HH.out.below HAL.out).below HW2.out)).mono ?_
   rintro e w3 ⟨rfl, hb3⟩
   have HW3 := ZH (HW2.out.trans (hb3.mono HW2.out.size))
   have s0 := ZJ HW3.out HSC.out.1
   have s1 := ZJ HW3.out HSC.out.2
   clear hb3
   by_cases hq : TE = 0
   ·have e4 : (TE == 0) = true := by rw [hq]; rfl
    have HSJ := ZH (side_small (HST.out.2.symm.trans hq))
    rw [if_neg (by rw [hq]; simp)] at HPE
    have x2 := ZJ (HAL.out.trans (HW3.out.mono HAL.out.size)) HXI.out
    have y2 := ZJ (HAL.out.trans (HW3.out.mono HAL.out.size)) HXJ.out
    have hi0 : (0 : Int) ≤ (i : Int) := by omega
    have hi1 : (i : Int) < (n : Int) := by have := HC0.out; have := HN.out.1; omega
    have hj0 : (0 : Int) ≤ (j : Int) := by omega
    have hj1 : (j : Int) < (n : Int) := by have := HC0.out; have := HN.out.1; omega
    clear hq
    go_upto_region 10 with fail
    go_quiet (fail)
    obtain ⟨w5, hw5⟩ : ∃ x, x = w3.drewN nq := ⟨_, rfl⟩
    rw [← hw5]
    have HW5 := ZH (show Below wb.heap.size wb w5 by rw [hw5]; exact HW3.out.trans ((below_drawn w3 nq).mono HW3.out.size))
    clear hw5 x2 y2 hi0 hi1 hj0 hj1 s0 s1
    by_cases hx : AI = AJ
    ·have e5 : (AI != AJ) = false := by rw [hx]; simp
     have HP0 := ZH (show PE = 0 by rw [HPE.out, if_neg (by rw [hx]; simp)])
     clear hx
     go_upto_region 13 with fail
     obtain ⟨w6, hw6⟩ : ∃ x, x = w5.alloc (.map #[] 0) := ⟨_, rfl⟩
     obtain ⟨bm, hbm⟩ : ∃ b, b = w5.heap.size := ⟨_, rfl⟩
     have hl6 : Below w5.heap.size w5 w6 := by rw [hw6]; exact (ZR _ w5).alloc (Nat.le_refl _) _
     have hm6 : RMapIn w6 bm 0 2 noMap := by rw [hw6, hbm]; exact rmap_made w5 2
     rw [← hw6, ← hbm]
     have HW6 := ZH (HW5.out.trans (hl6.mono HW5.out.size))
     have HM6 := ZH hm6
     have HBM := ZH (show wb.heap.size ≤ bm by rw [hbm]; exact HW5.out.size)
     have s0 := ZJ HW6.out HSC.out.1
     have s1 := ZJ HW6.out HSC.out.2
     have hpl := place_any ((HH.out.below HAL.out).below HW6.out) (check_down HC0.out.1) (by have := (check_small HC0.out.1).1; omega) (by have := (check_small HC0.out.1).2; omega) HC0.out.2.2 (side := other) (sg := 1) (by have := HSJ.out; omega) (by have := HSJ.out; omega) (by omega) (by omega) HM6.out (by omega) (by omega) (by omega)
     rw [← HN.out.1, ← HN.out.2] at hpl
     have HPL := ZH hpl
     clear hw6 hbm hl6 hm6 hpl HW5
     go_wp2_with fail
     refine HPL.out.mono ?_
     rintro e w7 ⟨rfl, hm7, ht7⟩
     have hb7 : Below wb.heap.size wb w7 := below_turned HW6.out ht7 HBM.out
     obtain ⟨m1, hm1⟩ : ∃ x, x = placeTo (varsTo fs zs n) (chainOf fs n (j : Int)) (j : Int) other 1 noMap := ⟨_, rfl⟩
     rw [← hm1] at hm7
     have s0 := ZJ hb7 HSC.out.1
     have s1 := ZJ hb7 HSC.out.2
     have hpl := place_any ((HH.out.below HAL.out).below hb7) (check_down HC0.out.1) (by have := (check_small HC0.out.1).1; omega) (by have := (check_small HC0.out.1).2; omega) HC0.out.2.1 (side := side) (sg := -1) (by have := HSI.out; omega) (by have := HSI.out; omega) (by omega) (by omega) hm7 (by omega) (by omega) (by omega)
     rw [← HN.out.1, ← HN.out.2] at hpl
     have HPL2 := ZH hpl
     have HW7 := ZH hb7
     have HM1 := ZH hm1
     clear hpl hb7 hm7 ht7 hm1 HPL
     go_wp2_with fail
     refine HPL2.out.mono ?_
     rintro e w8 ⟨rfl, hm8, ht8⟩
     have hb8 : Below wb.heap.size wb w8 := below_turned HW7.out ht8 HBM.out
     have hsm := sum_any (HG.out.below (HAL.out.trans (hb8.mono HAL.out.size))) (c := 0) (by omega) (by omega) hm8 (by omega)
     rw [← HTL.out.2, HM1.out, HN.out.1] at hsm
     have hsm : Calls Tryz.prog 80 #[.int .i64 0, .map (some bm)] w8 fun e w' => ∃ v, e = .returned v ∧ FormIn w' w8.heap.size v N0 TL ∧ Below w8.heap.size w8 w' := by rw [HTL.out.1]; exact hsm
     have HSM := ZH hsm
     have HW8 := ZH hb8
     clear hsm hb8 hm8 ht8 s0 s1 HPL2
     go_wp2_with fail
     refine HSM.out.mono ?_
     rintro e w9 ⟨v5, rfl, hf5, hb5⟩
     obtain ⟨tv, rfl, ht5⟩ := hf5
     obtain ⟨ao, tn, tc, rfl⟩ := ht5.shape
     have hB5 := HW8.out.trans (hb5.mono HW8.out.size)
     have kz := (hB5.block br (ZL HKR.out)).trans HKR.out
     have z0 := ZI kz 0
     have z1 := ZI kz 1
     have f0 := ZF kz 0
     have f1 := ZF kz 1
     simp at z0 z1
     have hbl : br < w8.heap.size := Nat.lt_of_lt_of_le (ZL HKR.out) HW8.out.size
     obtain ⟨S, hS⟩ : ∃ S : ByteArray, S = ⟨N0.toArray⟩ := ⟨_, rfl⟩
     rw [← hS]
     have hr := (ht5.set hbl 0 (.string S)).set hbl 1 (.slice ao tn tc)
     have hbf := ((HAL.out.trans (hB5.mono HAL.out.size)).setCell (p := ⟨br, 0, none⟩) HGR.out (.string S)).setCell (p := ⟨br, 1, none⟩) HGR.out (.slice ao tn tc)
     have HF := ZH (ZN (World.ownsRow.mono hr (show w.heap.size ≤ w8.heap.size from (HAL.out.trans (HW8.out.mono HAL.out.size)).size)) hbf)
     have HS := ZH hS
     clear hr hbf kz hbl hB5 hb5 ht5 hS
     go_wp2_with fail
     exact bodyPost_ret (v := .tuple #[.agg #[.string S, .slice ao tn tc], .int .i64 0]) (by simp [results, Tryz.results42, go_sem, z0, z1]) rfl ⟨_, by rw [HP0.out], fun _ => ⟨_, by rw [HS.out], HF.out.1⟩, fun h => absurd HP0.out h, HF.out.2⟩
    ·have e5 : (AI != AJ) = true := by simpa using hx
     have HP0 := ZH (show PE = 17 by rw [HPE.out, if_pos hx])
     clear hx

     have kz := (HW5.out.block br (ZL HKR.out)).trans HKR.out
     have z0 := ZI kz 0
     have z1 := ZI kz 1
     have f0 := ZF kz 0
     have f1 := ZF kz 1
     simp at z0 z1
     have HF := ZH (((HAL.out.trans (HW5.out.mono HAL.out.size)).setCell (p := ⟨br, 0, none⟩) HGR.out (.string ⟨#[]⟩)).setCell (p := ⟨br, 1, none⟩) HGR.out (.slice none 0 0))
     clear kz
     go_wp2_with fail
     exact bodyPost_ret (v := .tuple #[zeroForm, .int .i64 17]) (by simp [results, Tryz.results42, go_sem, z0, z1, zeroForm]) rfl ⟨_, by rw [HP0.out], fun h => absurd (HP0.out.symm.trans h) (by omega), fun _ => rfl, HF.out⟩
   ·have e4 : (TE == 0) = false := ZQ.2 hq
    rw [if_pos hq] at HPE
    have HP0 := ZH hq
    clear hq s0 s1
    have kz := (HW3.out.block br (ZL HKR.out)).trans HKR.out
    have z0 := ZI kz 0
    have z1 := ZI kz 1
    have f0 := ZF kz 0
    have f1 := ZF kz 1
    simp at z0 z1
    have HF := ZH (((HAL.out.trans (HW3.out.mono HAL.out.size)).setCell (p := ⟨br, 0, none⟩) HGR.out (.string ⟨#[]⟩)).setCell (p := ⟨br, 1, none⟩) HGR.out (.slice none 0 0))
    clear kz
    go_wp2_with fail
    exact bodyPost_ret (v := .tuple #[zeroForm, .int .i64 TE]) (by simp [results, Tryz.results42, go_sem, z0, z1, zeroForm]) rfl ⟨_, by rw [HPE.out], fun h => absurd (HPE.out.symm.trans h) HP0.out, fun _ => rfl, HF.out⟩
  ·have e3 : (SE == 0) = false := ZQ.2 hp
   rw [if_pos hp] at HPE
   have HP0 := ZH hp
   clear hp s0 s1
   have kz := (HW2.out.block br (ZL HKR.out)).trans HKR.out
   have z0 := ZI kz 0
   have z1 := ZI kz 1
   have f0 := ZF kz 0
   have f1 := ZF kz 1
   simp at z0 z1
   have HF := ZH (((HAL.out.trans (HW2.out.mono HAL.out.size)).setCell (p := ⟨br, 0, none⟩) HGR.out (.string ⟨#[]⟩)).setCell (p := ⟨br, 1, none⟩) HGR.out (.slice none 0 0))
   clear kz
   go_wp2_with fail
   exact bodyPost_ret (v := .tuple #[zeroForm, .int .i64 SE]) (by simp [results, Tryz.results42, go_sem, z0, z1, zeroForm]) rfl ⟨_, by rw [HPE.out], fun h => absurd (HPE.out.symm.trans h) HP0.out, fun _ => rfl, HF.out⟩
 ·have e2 : (E == 0) = false := ZQ.2 hz
  rw [if_pos hz] at HPE
  have HP0 := ZH hz
  clear hz s0 s1
  have kz := (HW1.out.block br (ZL HKR.out)).trans HKR.out
  have z0 := ZI kz 0
  have z1 := ZI kz 1
  have f0 := ZF kz 0
  have f1 := ZF kz 1
  simp at z0 z1
  have HF := ZH (((HAL.out.trans (HW1.out.mono HAL.out.size)).setCell (p := ⟨br, 0, none⟩) HGR.out (.string ⟨#[]⟩)).setCell (p := ⟨br, 1, none⟩) HGR.out (.slice none 0 0))
  clear kz
  go_wp2_with fail
  exact bodyPost_ret (v := .tuple #[zeroForm, .int .i64 E]) (by simp [results, Tryz.results42, go_sem, z0, z1, zeroForm]) rfl ⟨_, by rw [HPE.out], fun h => absurd (HPE.out.symm.trans h) HP0.out, fun _ => rfl, HF.out⟩
end Go.Proofs.YtgofihilkobenaaGreatDoor
