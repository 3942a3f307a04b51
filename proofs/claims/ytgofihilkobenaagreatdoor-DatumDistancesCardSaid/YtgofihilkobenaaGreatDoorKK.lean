/- checkZone. -/
import Derived.Test.YtgofihilkobenaaGreatDoorKJ
import Derived.Deep.LoopGhost
import Derived.Deep.Onto
import Derived.Deep.CutRange
set_option maxRecDepth 100000
namespace Go.Proofs.YtgofihilkobenaaGreatDoor
open Go.RowKit Go.Num Go.Flow Go.Dtm
set_option maxHeartbeats 8000000

theorem ZonesIn.take {w : World} {ao : Option Addr} {c : Nat} {zs : List Zn} {i : Nat} (h : ZonesIn w ao c zs) (hi : i ≤ zs.length) : ZonesIn w ao c (zs.take i) := by
 have hl : (zs.take i).length = i := by rw [List.length_take]; omega
 refine ⟨by rw [hl]; exact Nat.le_trans hi h.1, h.2.1, fun h0 => ?_⟩
 rw [hl] at h0 ⊢
 obtain ⟨b, o, e, hb, hc⟩ := h.2.2 (by omega)
 refine ⟨b, o, e, hb, fun j hj => ?_⟩
 have e2 : (zs.take i).getD j Zn.none = zs.getD j Zn.none := by rw [List.getD_eq_getElem?_getD, List.getD_eq_getElem?_getD, List.getElem?_take, if_pos hj]
 rw [e2]
 exact hc j (by omega)
theorem checkZone_any {w : World} {af : Option Addr} {cf : Nat} {az : Option Addr} {cz : Nat} {fs : List Feat} {zs : List Zn} {i : Nat} (h : SchemeIn w af cf az cz fs zs) (hi : i < zs.length) (hsf : fs.length ≤ 1000000) (hsm : zs.length ≤ 1000000) :
  Calls Tryz.prog 61 #[.agg #[.slice af fs.length cf, .slice az zs.length cz], .int .i64 (i : Int)] w fun e w' => e = .returned (.int .i64 (zoneErr fs zs i)) ∧ Below w.heap.size w w' := by
 obtain ⟨z, hz⟩ : ∃ z, z = zs.getD i Zn.none := ⟨_, rfl⟩
 obtain ⟨fk, hfk⟩ : ∃ k, k = (fs.getD z.feature.toNat Feat.none).kind := ⟨_, rfl⟩
 obtain ⟨n, hn⟩ : ∃ n, n = fs.length := ⟨_, rfl⟩
 obtain ⟨nz, hnz⟩ : ∃ n, n = zs.length := ⟨_, rfl⟩
 have herr : zoneErr fs zs i = if z.kind < 1 ∨ 3 < z.kind then 12 else if z.feature < 0 ∨ (n : Int) ≤ z.feature then 10 else if (z.kind = 2 ∧ fk ≠ 2) ∨ (z.kind = 3 ∧ fk = 2) ∨ (z.bonus = true ∧ (z.kind ≠ 1 ∨ fk ≠ 2)) then 3 else if far z.lower = true ∨ far z.upper = true then 2 else if z.upper < z.lower then 8 else if (zs.take i).any (fun y => decide (y.kind = z.kind) && decide (y.feature = z.feature)) = true then 9 else 0 := by unfold zoneErr; rw [hfk, hn, hz]
 have HERR := ZH herr
 clear herr
 obtain ⟨bo, o, rfl, hlo, hco⟩ := h.zones.2.2 (by omega)
 have HX := hco i hi
 rw [← hz] at HX
 have hcap : zs.length ≤ cz ∧ cz ≤ 9223372036854775807 := ⟨h.zones.1, h.zones.2.1⟩
 have hfe := h.feats.2.2
 rw [← hnz] at hi hsm hcap hco ⊢
 rw [← hn] at hsf hfe ⊢
 obtain ⟨wb, hwb⟩ : ∃ wb, wb = w.alloc (.cells #[.slice af n cf, .slice (some ⟨bo, o, none⟩) nz cz] 26) := ⟨_, rfl⟩
 obtain ⟨ba, hba⟩ : ∃ b, b = w.heap.size := ⟨_, rfl⟩
 have hlb : Below w.heap.size w wb := by rw [hwb]; exact (ZR _ w).alloc (Nat.le_refl _) _
 obtain ⟨wa, hwa⟩ : ∃ wa, wa = wb.alloc (.cells #[.int .i64 z.kind, .int .i64 z.feature, .int .i64 z.lower, .int .i64 z.upper, .bool z.bonus] 30) := ⟨_, rfl⟩
 obtain ⟨bf, hbf⟩ : ∃ b, b = wb.heap.size := ⟨_, rfl⟩
 have hlab : Below wb.heap.size wb wa := by rw [hwa]; exact (ZR _ wb).alloc (Nat.le_refl _) _
 have k1 : wa.heap[bf]? = some (.cells #[.int .i64 z.kind, .int .i64 z.feature, .int .i64 z.lower, .int .i64 z.upper, .bool z.bonus] 30 (0, 0)) := by rw [hwa, hbf]; exact ZW wb _
 have k0 : wb.heap[ba]? = some (.cells #[.slice af n cf, .slice (some ⟨bo, o, none⟩) nz cz] 26 (0, 0)) := by rw [hwb, hba]; exact ZW w _
 have ka := (hlab.block ba (ZL k0)).trans k0
 have hal := hlb.trans (hlab.mono hlb.size)
 have t1 := ZI k0 1
 have s0 := ZI ka 0
 have s1 := ZI ka 1
 have c0 := ZI k1 0
 have c1 := ZI k1 1
 have c2 := ZI k1 2
 have c3 := ZI k1 3
 have c4 := ZI k1 4
 simp at t1 s0 s1 c0 c1 c2 c3 c4
 have x0 := ZJ hlb HX.1
 have x1 := ZJ hlb HX.2.1
 have x2 := ZJ hlb HX.2.2.1
 have x3 := ZJ hlb HX.2.2.2.1
 have x4 := ZJ hlb HX.2.2.2.2
 have HAL := ZH hal
 have HC := ZH (show ZoneAt wa bf 0 z from ⟨c0, c1, c2, c3, c4⟩)
 have HSC := ZH (ZN s0 s1)
 have HZS := ZH (h.zones.below hal)
 have HCO := ZH hfe
 have HW := ZH (ZN hwb (ZN hba (ZN hwa hbf)))
 have HLN := ZH (ZN hnz (ZN hsm (ZN hcap hlo)))
 have HLF := ZH (ZN hn hsf)
 have HFK := ZH hfk
 have hi0 : (0 : Int) ≤ (i : Int) := by omega
 have hi1 : (i : Int) < (nz : Int) := by omega
 clear h hlo hco HX hcap hz hnz hn hfk hfe hwb hba hwa hbf hlb hlab k0 k1 ka hal s0 s1 c0 c1 c2 c3 c4
 go_enter Tryz.func61, Tryz.ntmps61
 go_upto_region 1 with fail
 rw [← HW.out.1, ← HW.out.2.1]
 go_upto_region 2 with fail
 rw [← HW.out.2.2.1, ← HW.out.2.2.2]
 clear HW x0 x1 x2 x3 x4 t1
 have HB0 := ZH (ZR wa.heap.size wa)
 go_upto_region 2 with fail
 have hx := HB0.out
 have x0 := ZJ hx HC.out.1
 have x1 := ZJ hx HC.out.2.1
 have x2 := ZJ hx HC.out.2.2.1
 have x3 := ZJ hx HC.out.2.2.2.1
 have x4 := ZJ hx HC.out.2.2.2.2
 have s0 := ZJ hx HSC.out.1
 have s1 := ZJ hx HSC.out.2
 simp only [Nat.zero_add] at x1 x2 x3 x4
 clear hx
 go_cut [12] from 7 to 20 (fun c wx => c = .bool (decide (z.kind < 1 ∨ 3 < z.kind)) ∧ Below wa.heap.size wa wx)
 case first =>
  by_cases h1 : z.kind < 1
  ·have e1 : (z.kind < 1) = True := eq_true h1
   go_wp2_with fail
   go_meet
   exact ⟨congrArg Value.bool (by rw [ZT (p := z.kind < 1 ∨ 3 < z.kind) (.inl h1)]), HB0.out⟩
  ·have e1 : (z.kind < 1) = False := eq_false h1
   by_cases h2 : 3 < z.kind
   ·have e2 : (3 < z.kind) = True := eq_true h2
    go_wp2_with fail
    go_meet
    exact ⟨congrArg Value.bool (by rw [ZT (p := z.kind < 1 ∨ 3 < z.kind) (.inr h2)]), HB0.out⟩
   ·have e2 : (3 < z.kind) = False := eq_false h2
    go_wp2_with fail
    go_meet
    exact ⟨congrArg Value.bool (by rw [ZU (p := z.kind < 1 ∨ 3 < z.kind) (by omega)]), HB0.out⟩
 case rest =>
  obtain ⟨rfl, hbx⟩ := hcut
  have HB1 := ZH hbx
  clear hbx
  by_cases hX : z.kind < 1 ∨ 3 < z.kind
  ·have HE := ZH (show zoneErr fs zs i = 12 by rw [HERR.out, if_pos hX])
   rw [ZT hX]
   clear hX
   go_wp2_with fail
   go_ret
   exact ⟨by rw [HE.out]; rfl, HAL.out.trans (HB1.out.mono HAL.out.size)⟩
  ·rw [ZU hX]
   have HN1 := ZH hX
   clear hX
   go_upto_region 4 with fail
   have hx := HB1.out
   have x0 := ZJ hx HC.out.1
   have x1 := ZJ hx HC.out.2.1
   have x2 := ZJ hx HC.out.2.2.1
   have x3 := ZJ hx HC.out.2.2.2.1
   have x4 := ZJ hx HC.out.2.2.2.2
   have s0 := ZJ hx HSC.out.1
   have s1 := ZJ hx HSC.out.2
   simp only [Nat.zero_add] at x1 x2 x3 x4
   clear hx
   go_cut [21] from 22 to 32 (fun c wx => c = .bool (decide (z.feature < 0 ∨ (n : Int) ≤ z.feature)) ∧ Below wa.heap.size wa wx)
   case first =>
    by_cases h1 : z.feature < 0
    ·have e1 : (z.feature < 0) = True := eq_true h1
     go_wp2_with fail
     go_meet
     exact ⟨congrArg Value.bool (by rw [ZT (p := z.feature < 0 ∨ (n : Int) ≤ z.feature) (.inl h1)]), HB1.out⟩
    ·have e1 : (z.feature < 0) = False := eq_false h1
     by_cases h2 : (n : Int) ≤ z.feature
     ·have e2 : ((n : Int) ≤ z.feature) = True := eq_true h2
      go_wp2_with fail
      go_meet
      exact ⟨congrArg Value.bool (by rw [ZT (p := z.feature < 0 ∨ (n : Int) ≤ z.feature) (.inr h2)]), HB1.out⟩
     ·have e2 : ((n : Int) ≤ z.feature) = False := eq_false h2
      go_wp2_with fail
      go_meet
      exact ⟨congrArg Value.bool (by rw [ZU (p := z.feature < 0 ∨ (n : Int) ≤ z.feature) (by omega)]), HB1.out⟩
   case rest =>
    obtain ⟨rfl, hbx⟩ := hcut
    have HB2 := ZH hbx
    clear hbx
    by_cases hX : z.feature < 0 ∨ (n : Int) ≤ z.feature
    ·have HE := ZH (show zoneErr fs zs i = 10 by rw [HERR.out, if_neg HN1.out, if_pos hX])
     rw [ZT hX]
     clear hX
     go_wp2_with fail
     go_ret
     exact ⟨by rw [HE.out]; rfl, HAL.out.trans (HB2.out.mono HAL.out.size)⟩
    ·rw [ZU hX]
     have HN2 := ZH hX
     clear hX
     obtain ⟨d, hd⟩ : ∃ d : Nat, d = z.feature.toNat := ⟨_, rfl⟩
     have hdi : z.feature = (d : Int) := by have := HN2.out; omega
     have hlt : d < n := by have := HN2.out; omega
     obtain ⟨bg, og, rfl, -, hcg⟩ := HCO.out (by omega)
     have HX := hcg d hlt
     have y1 := ZJ (HAL.out.trans (HB2.out.mono HAL.out.size)) HX.2.1
     rw [show (fs.getD d Feat.none).kind = fk by rw [HFK.out, hd]] at y1
     have hd0 : (0 : Int) ≤ (d : Int) := by omega
     have hd1 : (d : Int) < (n : Int) := by omega
     have HDD := ZH (ZN hd hdi)
     clear HX hcg
     go_upto_region 6 with fail
     have hx := HB2.out
     have x0 := ZJ hx HC.out.1
     have x1 := ZJ hx HC.out.2.1
     have x2 := ZJ hx HC.out.2.2.1
     have x3 := ZJ hx HC.out.2.2.2.1
     have x4 := ZJ hx HC.out.2.2.2.2
     have s0 := ZJ hx HSC.out.1
     have s1 := ZJ hx HSC.out.2
     simp only [Nat.zero_add] at x1 x2 x3 x4
     rw [hdi] at x1
     clear hd hdi
     obtain ⟨sl, hsl⟩ : ∃ b, decide (fk = 2) = b := ⟨_, rfl⟩
     have HSL := ZH hsl
     clear hsl
     go_cut [6] from 33 to 40 (fun c wx => c = .bool sl ∧ wx = wc)
     case first =>
      go_wp2_with fail
      go_meet
      exact ⟨congrArg Value.bool (by rw [← HSL.out, beq_dec]), rfl⟩
     case rest =>
      obtain ⟨rfl, rfl⟩ := hcut
      clear x0 x1 x2 x3 x4 s0 s1 y1 hx
      go_upto_region 7 with fail
      have hx := HB2.out
      have x0 := ZJ hx HC.out.1
      have x1 := ZJ hx HC.out.2.1
      have x2 := ZJ hx HC.out.2.2.1
      have x3 := ZJ hx HC.out.2.2.2.1
      have x4 := ZJ hx HC.out.2.2.2.2
      have s0 := ZJ hx HSC.out.1
      have s1 := ZJ hx HSC.out.2
      simp only [Nat.zero_add] at x1 x2 x3 x4
      clear hx
      go_cut [41] from 42 to 69 (fun c wx => c = .bool (decide ((z.kind = 2 ∧ fk ≠ 2) ∨ (z.kind = 3 ∧ fk = 2) ∨ (z.bonus = true ∧ (z.kind ≠ 1 ∨ fk ≠ 2)))) ∧ Below wa.heap.size wa wx)
      case first =>
       cases hb : z.bonus with
       | false =>
        rw [hb] at x4
        cases sl with
        | true =>
         have HF := ZH (of_decide_eq_true HSL.out)
         by_cases h1 : z.kind = 2
         ·have e1 : (z.kind == 2) = true := by rw [h1]; rfl
          have e2 : (z.kind == 3) = false := by rw [h1]; rfl
          have e3 : (z.kind == 1) = false := by rw [h1]; rfl
          have e4 : (z.kind != 1) = true := by rw [h1]; rfl
          have K1 := ZH h1
          clear h1
          go_wp2_with fail
          go_meet
          exact ⟨congrArg Value.bool (by first | (rw [ZU (p := (z.kind = 2 ∧ fk ≠ 2) ∨ (z.kind = 3 ∧ fk = 2) ∨ (z.bonus = true ∧ (z.kind ≠ 1 ∨ fk ≠ 2))) (by simp [hb, HF.out, K1.out])]; done) | (rw [ZU (p := (z.kind = 2 ∧ fk ≠ 2) ∨ (z.kind = 3 ∧ fk = 2) ∨ (z.bonus = true ∧ (z.kind ≠ 1 ∨ fk ≠ 2))) (by simp [hb, HF.out, K1.out])]; simp [K1.out])), HB2.out⟩
         ·have e1 : (z.kind == 2) = false := ZQ.2 h1
          have K1 := ZH h1
          clear h1
          by_cases h2 : z.kind = 3
          ·have e2 : (z.kind == 3) = true := by rw [h2]; rfl
           have e3 : (z.kind == 1) = false := by rw [h2]; rfl
           have e4 : (z.kind != 1) = true := by rw [h2]; rfl
           have K2 := ZH h2
           clear h2
           go_wp2_with fail
           go_meet
           exact ⟨congrArg Value.bool (by first | (rw [ZT (p := (z.kind = 2 ∧ fk ≠ 2) ∨ (z.kind = 3 ∧ fk = 2) ∨ (z.bonus = true ∧ (z.kind ≠ 1 ∨ fk ≠ 2))) (by simp [hb, HF.out, K2.out])]; done) | (rw [ZT (p := (z.kind = 2 ∧ fk ≠ 2) ∨ (z.kind = 3 ∧ fk = 2) ∨ (z.bonus = true ∧ (z.kind ≠ 1 ∨ fk ≠ 2))) (by simp [hb, HF.out, K2.out])]; simp [K2.out])), HB2.out⟩
          ·have e2 : (z.kind == 3) = false := ZQ.2 h2
           have h3 : z.kind = 1 := by have := HN1.out; have := K1.out; omega
           have e3 : (z.kind == 1) = true := by rw [h3]; rfl
           have e4 : (z.kind != 1) = false := by rw [h3]; rfl
           have K2 := ZH h2
           have K3 := ZH h3
           clear h2 h3
           go_wp2_with fail
           go_meet
           exact ⟨congrArg Value.bool (by first | (rw [ZU (p := (z.kind = 2 ∧ fk ≠ 2) ∨ (z.kind = 3 ∧ fk = 2) ∨ (z.bonus = true ∧ (z.kind ≠ 1 ∨ fk ≠ 2))) (by simp [hb, HF.out, K3.out])]; done) | (rw [ZU (p := (z.kind = 2 ∧ fk ≠ 2) ∨ (z.kind = 3 ∧ fk = 2) ∨ (z.bonus = true ∧ (z.kind ≠ 1 ∨ fk ≠ 2))) (by simp [hb, HF.out, K3.out])]; simp [K3.out])), HB2.out⟩
        | false =>
         have HF := ZH (of_decide_eq_false HSL.out)
         by_cases h1 : z.kind = 2
         ·have e1 : (z.kind == 2) = true := by rw [h1]; rfl
          have e2 : (z.kind == 3) = false := by rw [h1]; rfl
          have e3 : (z.kind == 1) = false := by rw [h1]; rfl
          have e4 : (z.kind != 1) = true := by rw [h1]; rfl
          have K1 := ZH h1
          clear h1
          go_wp2_with fail
          go_meet
          exact ⟨congrArg Value.bool (by first | (rw [ZT (p := (z.kind = 2 ∧ fk ≠ 2) ∨ (z.kind = 3 ∧ fk = 2) ∨ (z.bonus = true ∧ (z.kind ≠ 1 ∨ fk ≠ 2))) (by simp [hb, HF.out, K1.out])]; done) | (rw [ZT (p := (z.kind = 2 ∧ fk ≠ 2) ∨ (z.kind = 3 ∧ fk = 2) ∨ (z.bonus = true ∧ (z.kind ≠ 1 ∨ fk ≠ 2))) (by simp [hb, HF.out, K1.out])]; simp [K1.out])), HB2.out⟩
         ·have e1 : (z.kind == 2) = false := ZQ.2 h1
          have K1 := ZH h1
          clear h1
          by_cases h2 : z.kind = 3
          ·have e2 : (z.kind == 3) = true := by rw [h2]; rfl
           have e3 : (z.kind == 1) = false := by rw [h2]; rfl
           have e4 : (z.kind != 1) = true := by rw [h2]; rfl
           have K2 := ZH h2
           clear h2
           go_wp2_with fail
           go_meet
           exact ⟨congrArg Value.bool (by first | (rw [ZU (p := (z.kind = 2 ∧ fk ≠ 2) ∨ (z.kind = 3 ∧ fk = 2) ∨ (z.bonus = true ∧ (z.kind ≠ 1 ∨ fk ≠ 2))) (by simp [hb, HF.out, K2.out])]; done) | (rw [ZU (p := (z.kind = 2 ∧ fk ≠ 2) ∨ (z.kind = 3 ∧ fk = 2) ∨ (z.bonus = true ∧ (z.kind ≠ 1 ∨ fk ≠ 2))) (by simp [hb, HF.out, K2.out])]; simp [K2.out])), HB2.out⟩
          ·have e2 : (z.kind == 3) = false := ZQ.2 h2
           have h3 : z.kind = 1 := by have := HN1.out; have := K1.out; omega
           have e3 : (z.kind == 1) = true := by rw [h3]; rfl
           have e4 : (z.kind != 1) = false := by rw [h3]; rfl
           have K2 := ZH h2
           have K3 := ZH h3
           clear h2 h3
           go_wp2_with fail
           go_meet
           exact ⟨congrArg Value.bool (by first | (rw [ZU (p := (z.kind = 2 ∧ fk ≠ 2) ∨ (z.kind = 3 ∧ fk = 2) ∨ (z.bonus = true ∧ (z.kind ≠ 1 ∨ fk ≠ 2))) (by simp [hb, HF.out, K3.out])]; done) | (rw [ZU (p := (z.kind = 2 ∧ fk ≠ 2) ∨ (z.kind = 3 ∧ fk = 2) ∨ (z.bonus = true ∧ (z.kind ≠ 1 ∨ fk ≠ 2))) (by simp [hb, HF.out, K3.out])]; simp [K3.out])), HB2.out⟩
       | true =>
        rw [hb] at x4
        cases sl with
        | true =>
         have HF := ZH (of_decide_eq_true HSL.out)
         by_cases h1 : z.kind = 2
         ·have e1 : (z.kind == 2) = true := by rw [h1]; rfl
          have e2 : (z.kind == 3) = false := by rw [h1]; rfl
          have e3 : (z.kind == 1) = false := by rw [h1]; rfl
          have e4 : (z.kind != 1) = true := by rw [h1]; rfl
          have K1 := ZH h1
          clear h1
          go_wp2_with fail
          go_meet
          exact ⟨congrArg Value.bool (by first | (rw [ZT (p := (z.kind = 2 ∧ fk ≠ 2) ∨ (z.kind = 3 ∧ fk = 2) ∨ (z.bonus = true ∧ (z.kind ≠ 1 ∨ fk ≠ 2))) (by simp [hb, HF.out, K1.out])]; done) | (rw [ZT (p := (z.kind = 2 ∧ fk ≠ 2) ∨ (z.kind = 3 ∧ fk = 2) ∨ (z.bonus = true ∧ (z.kind ≠ 1 ∨ fk ≠ 2))) (by simp [hb, HF.out, K1.out])]; simp [K1.out])), HB2.out⟩
         ·have e1 : (z.kind == 2) = false := ZQ.2 h1
          have K1 := ZH h1
          clear h1
          by_cases h2 : z.kind = 3
          ·have e2 : (z.kind == 3) = true := by rw [h2]; rfl
           have e3 : (z.kind == 1) = false := by rw [h2]; rfl
           have e4 : (z.kind != 1) = true := by rw [h2]; rfl
           have K2 := ZH h2
           clear h2
           go_wp2_with fail
           go_meet
           exact ⟨congrArg Value.bool (by first | (rw [ZT (p := (z.kind = 2 ∧ fk ≠ 2) ∨ (z.kind = 3 ∧ fk = 2) ∨ (z.bonus = true ∧ (z.kind ≠ 1 ∨ fk ≠ 2))) (by simp [hb, HF.out, K2.out])]; done) | (rw [ZT (p := (z.kind = 2 ∧ fk ≠ 2) ∨ (z.kind = 3 ∧ fk = 2) ∨ (z.bonus = true ∧ (z.kind ≠ 1 ∨ fk ≠ 2))) (by simp [hb, HF.out, K2.out])]; simp [K2.out])), HB2.out⟩
          ·have e2 : (z.kind == 3) = false := ZQ.2 h2
           have h3 : z.kind = 1 := by have := HN1.out; have := K1.out; omega
           have e3 : (z.kind == 1) = true := by rw [h3]; rfl
           have e4 : (z.kind != 1) = false := by rw [h3]; rfl
           have K2 := ZH h2
           have K3 := ZH h3
           clear h2 h3
           go_wp2_with fail
           go_meet
           exact ⟨congrArg Value.bool (by first | (rw [ZU (p := (z.kind = 2 ∧ fk ≠ 2) ∨ (z.kind = 3 ∧ fk = 2) ∨ (z.bonus = true ∧ (z.kind ≠ 1 ∨ fk ≠ 2))) (by simp [hb, HF.out, K3.out])]; done) | (rw [ZU (p := (z.kind = 2 ∧ fk ≠ 2) ∨ (z.kind = 3 ∧ fk = 2) ∨ (z.bonus = true ∧ (z.kind ≠ 1 ∨ fk ≠ 2))) (by simp [hb, HF.out, K3.out])]; simp [K3.out])), HB2.out⟩
        | false =>
         have HF := ZH (of_decide_eq_false HSL.out)
         by_cases h1 : z.kind = 2
         ·have e1 : (z.kind == 2) = true := by rw [h1]; rfl
          have e2 : (z.kind == 3) = false := by rw [h1]; rfl
          have e3 : (z.kind == 1) = false := by rw [h1]; rfl
          have e4 : (z.kind != 1) = true := by rw [h1]; rfl
          have K1 := ZH h1
          clear h1
          go_wp2_with fail
          go_meet
          exact ⟨congrArg Value.bool (by first | (rw [ZT (p := (z.kind = 2 ∧ fk ≠ 2) ∨ (z.kind = 3 ∧ fk = 2) ∨ (z.bonus = true ∧ (z.kind ≠ 1 ∨ fk ≠ 2))) (by simp [hb, HF.out, K1.out])]; done) | (rw [ZT (p := (z.kind = 2 ∧ fk ≠ 2) ∨ (z.kind = 3 ∧ fk = 2) ∨ (z.bonus = true ∧ (z.kind ≠ 1 ∨ fk ≠ 2))) (by simp [hb, HF.out, K1.out])]; simp [K1.out])), HB2.out⟩
         ·have e1 : (z.kind == 2) = false := ZQ.2 h1
          have K1 := ZH h1
          clear h1
          by_cases h2 : z.kind = 3
          ·have e2 : (z.kind == 3) = true := by rw [h2]; rfl
           have e3 : (z.kind == 1) = false := by rw [h2]; rfl
           have e4 : (z.kind != 1) = true := by rw [h2]; rfl
           have K2 := ZH h2
           clear h2
           go_wp2_with fail
           go_meet
           exact ⟨congrArg Value.bool (by first | (rw [ZT (p := (z.kind = 2 ∧ fk ≠ 2) ∨ (z.kind = 3 ∧ fk = 2) ∨ (z.bonus = true ∧ (z.kind ≠ 1 ∨ fk ≠ 2))) (by simp [hb, HF.out, K2.out])]; done) | (rw [ZT (p := (z.kind = 2 ∧ fk ≠ 2) ∨ (z.kind = 3 ∧ fk = 2) ∨ (z.bonus = true ∧ (z.kind ≠ 1 ∨ fk ≠ 2))) (by simp [hb, HF.out, K2.out])]; simp [K2.out])), HB2.out⟩
          ·have e2 : (z.kind == 3) = false := ZQ.2 h2
           have h3 : z.kind = 1 := by have := HN1.out; have := K1.out; omega
           have e3 : (z.kind == 1) = true := by rw [h3]; rfl
           have e4 : (z.kind != 1) = false := by rw [h3]; rfl
           have K2 := ZH h2
           have K3 := ZH h3
           clear h2 h3
           go_wp2_with fail
           go_meet
           exact ⟨congrArg Value.bool (by first | (rw [ZT (p := (z.kind = 2 ∧ fk ≠ 2) ∨ (z.kind = 3 ∧ fk = 2) ∨ (z.bonus = true ∧ (z.kind ≠ 1 ∨ fk ≠ 2))) (by simp [hb, HF.out, K3.out])]; done) | (rw [ZT (p := (z.kind = 2 ∧ fk ≠ 2) ∨ (z.kind = 3 ∧ fk = 2) ∨ (z.bonus = true ∧ (z.kind ≠ 1 ∨ fk ≠ 2))) (by simp [hb, HF.out, K3.out])]; simp [K3.out])), HB2.out⟩
      case rest =>
       obtain ⟨rfl, hbx⟩ := hcut
       have HB3 := ZH hbx
       clear hbx
       by_cases hX : (z.kind = 2 ∧ fk ≠ 2) ∨ (z.kind = 3 ∧ fk = 2) ∨ (z.bonus = true ∧ (z.kind ≠ 1 ∨ fk ≠ 2))
       ·have HE := ZH (show zoneErr fs zs i = 3 by rw [HERR.out, if_neg HN1.out, if_neg HN2.out, if_pos hX])
        rw [ZT hX]
        clear hX
        go_wp2_with fail
        go_ret
        exact ⟨by rw [HE.out]; rfl, HAL.out.trans (HB3.out.mono HAL.out.size)⟩
       ·rw [ZU hX]
        have HN3 := ZH hX
        clear hX
        go_upto_region 9 with fail
        have hx := HB3.out
        have x0 := ZJ hx HC.out.1
        have x1 := ZJ hx HC.out.2.1
        have x2 := ZJ hx HC.out.2.2.1
        have x3 := ZJ hx HC.out.2.2.2.1
        have x4 := ZJ hx HC.out.2.2.2.2
        have s0 := ZJ hx HSC.out.1
        have s1 := ZJ hx HSC.out.2
        simp only [Nat.zero_add] at x1 x2 x3 x4
        clear hx
        go_cut [70] from 71 to 78 (fun c wx => c = .bool (decide (far z.lower = true ∨ far z.upper = true)) ∧ Below wa.heap.size wa wx)
        case first =>
         have HP := ZH (far_any z.lower wc)
         cases hp : far z.lower with
         | true =>
          rw [hp] at HP
          go_wp2_with fail
          refine HP.out.mono ?_
          rintro e w1 ⟨rfl, hb1⟩
          have HB1' := ZH (HB3.out.trans (hb1.mono HB3.out.size))
          clear hb1
          go_wp2_with fail
          go_meet
          exact ⟨congrArg Value.bool (by rw [ZT (p := far z.lower = true ∨ far z.upper = true) (.inl hp)]), HB1'.out⟩
         | false =>
          rw [hp] at HP
          go_wp2_with fail
          refine HP.out.mono ?_
          rintro e w1 ⟨rfl, hb1⟩
          have x3 := ZJ hb1 x3
          have HB1' := ZH (HB3.out.trans (hb1.mono HB3.out.size))
          clear hb1
          have HP2 := ZH (far_any z.upper w1)
          go_wp2_with fail
          refine HP2.out.mono ?_
          rintro e w2 ⟨rfl, hb1⟩
          have HB2' := ZH (HB1'.out.trans (hb1.mono HB1'.out.size))
          clear hb1
          cases hp2 : far z.upper with
          | true =>
           go_wp2_with fail
           go_meet
           exact ⟨congrArg Value.bool (by rw [ZT (p := far z.lower = true ∨ far z.upper = true) (.inr hp2)]), HB2'.out⟩
          | false =>
           go_wp2_with fail
           go_meet
           exact ⟨congrArg Value.bool (by rw [ZU (p := far z.lower = true ∨ far z.upper = true) (by rw [hp, hp2]; simp)]), HB2'.out⟩
        case rest =>
         obtain ⟨rfl, hbx⟩ := hcut
         have HB4 := ZH hbx
         clear hbx
         by_cases hX : far z.lower = true ∨ far z.upper = true
         ·have HE := ZH (show zoneErr fs zs i = 2 by rw [HERR.out, if_neg HN1.out, if_neg HN2.out, if_neg HN3.out, if_pos hX])
          rw [ZT hX]
          clear hX
          go_wp2_with fail
          go_ret
          exact ⟨by rw [HE.out]; rfl, HAL.out.trans (HB4.out.mono HAL.out.size)⟩
         ·rw [ZU hX]
          have HN4 := ZH hX
          clear hX
          go_upto_region 11 with fail
          have hx := HB4.out
          have x0 := ZJ hx HC.out.1
          have x1 := ZJ hx HC.out.2.1
          have x2 := ZJ hx HC.out.2.2.1
          have x3 := ZJ hx HC.out.2.2.2.1
          have x4 := ZJ hx HC.out.2.2.2.2
          have s0 := ZJ hx HSC.out.1
          have s1 := ZJ hx HSC.out.2
          simp only [Nat.zero_add] at x1 x2 x3 x4
          clear hx
          go_cut [79] from 80 to 84 (fun c wx => c = .bool (decide (z.upper < z.lower)) ∧ Below wa.heap.size wa wx)
          case first =>
           go_wp2_with fail
           go_meet
           exact ⟨rfl, HB4.out⟩
          case rest =>
           obtain ⟨rfl, hbx⟩ := hcut
           have HB5 := ZH hbx
           clear hbx
           by_cases hX : z.upper < z.lower
           ·have HE := ZH (show zoneErr fs zs i = 8 by rw [HERR.out, if_neg HN1.out, if_neg HN2.out, if_neg HN3.out, if_neg HN4.out, if_pos hX])
            rw [ZT hX]
            clear hX
            go_wp2_with fail
            go_ret
            exact ⟨by rw [HE.out]; rfl, HAL.out.trans (HB5.out.mono HAL.out.size)⟩
           ·rw [ZU hX]
            have HN5 := ZH hX
            clear hX
            go_upto_region 13 with fail
            have hx := HB5.out
            have x0 := ZJ hx HC.out.1
            have x1 := ZJ hx HC.out.2.1
            have x2 := ZJ hx HC.out.2.2.1
            have x3 := ZJ hx HC.out.2.2.2.1
            have x4 := ZJ hx HC.out.2.2.2.2
            have s0 := ZJ hx HSC.out.1
            have s1 := ZJ hx HSC.out.2
            simp only [Nat.zero_add] at x1 x2 x3 x4
            clear hx
            go_cut [85] from 86 to 91 (fun c wx => c = .bool (decide ((zs.take i).any (fun y => decide (y.kind = z.kind) && decide (y.feature = z.feature)) = true)) ∧ Below wa.heap.size wa wx)
            case first =>
             have hq0 : (i : Int) ≤ (nz : Int) := by omega
             have hq1 : (i : Int) ≤ (cz : Int) := by have := HLN.out.2.2.1.1; omega
             have hln : (zs.take i).length = i := by rw [List.length_take]; have := HLN.out.1; omega
             have hcf := sContainsZ_any (w := wc) ((HZS.out.below HB5.out).take (i := i) (by have := HLN.out.1; omega)) (by rw [hln]; omega) (k := 103) (caps := #[.pointer (some ⟨bf, 0, none⟩)]) enters_cz1 (fun y => decide (y.kind = z.kind) && decide (y.feature = z.feature)) (fun W j _ hW => cz1_any _ ((HC.out.below HB5.out).below hW))
             rw [hln] at hcf
             have HCF := ZH hcf
             clear hcf hln
             go_wp2_with fail
             refine HCF.out.mono ?_
             rintro e w1 ⟨rfl, hb1⟩
             have HB1' := ZH (HB5.out.trans (hb1.mono HB5.out.size))
             clear hb1
             cases ha : (zs.take i).any (fun y => decide (y.kind = z.kind) && decide (y.feature = z.feature)) with
             | true =>
              go_wp2_with fail
              go_meet
              exact ⟨congrArg Value.bool (by rw [ZT (p := (zs.take i).any (fun y => decide (y.kind = z.kind) && decide (y.feature = z.feature)) = true) (ha)]), HB1'.out⟩
             | false =>
              go_wp2_with fail
              go_meet
              exact ⟨congrArg Value.bool (by rw [ZU (p := (zs.take i).any (fun y => decide (y.kind = z.kind) && decide (y.feature = z.feature)) = true) (by rw [ha]; simp)]), HB1'.out⟩
            case rest =>
             obtain ⟨rfl, hbx⟩ := hcut
             have HB6 := ZH hbx
             clear hbx
             by_cases hX : (zs.take i).any (fun y => decide (y.kind = z.kind) && decide (y.feature = z.feature)) = true
             ·have HE := ZH (show zoneErr fs zs i = 9 by rw [HERR.out, if_neg HN1.out, if_neg HN2.out, if_neg HN3.out, if_neg HN4.out, if_neg HN5.out, if_pos hX])
              rw [ZT hX]
              clear hX
              go_wp2_with fail
              go_ret
              exact ⟨by rw [HE.out]; rfl, HAL.out.trans (HB6.out.mono HAL.out.size)⟩
             ·rw [ZU hX]
              have HN6 := ZH hX
              clear hX
              have HE := ZH (show zoneErr fs zs i = 0 by rw [HERR.out, if_neg HN1.out, if_neg HN2.out, if_neg HN3.out, if_neg HN4.out, if_neg HN5.out, if_neg HN6.out])
              go_wp2_with fail
              go_ret
              exact ⟨by rw [HE.out]; rfl, HAL.out.trans (HB6.out.mono HAL.out.size)⟩
end Go.Proofs.YtgofihilkobenaaGreatDoor
/- Check. -/
set_option maxRecDepth 100000
namespace Go.Proofs.YtgofihilkobenaaGreatDoor
open Go.RowKit Go.Num Go.Flow Go.Dtm
set_option maxHeartbeats 8000000

theorem firstErr_none {e : Nat → Int} : ∀ {n k : Nat}, (∀ j, k ≤ j → j < k + n → e j = 0) → firstErr e n k = 0
 | 0, _, _ => rfl
 | n + 1, k, h => by
  unfold firstErr
  rw [if_pos (h k (Nat.le_refl _) (by omega))]
  exact firstErr_none fun j h1 h2 => h j (by omega) (by omega)
theorem firstErr_at {e : Nat → Int} : ∀ {n k i : Nat}, k ≤ i → i < k + n → (∀ j, k ≤ j → j < i → e j = 0) → e i ≠ 0 → firstErr e n k = e i
 | 0, k, i, h1, h2, _, _ => by omega
 | n + 1, k, i, h1, h2, h, hi => by
  unfold firstErr
  by_cases hk : k = i
  ·subst hk
   rw [if_neg hi]
  ·rw [if_pos (h k (Nat.le_refl _) (by omega))]
   exact firstErr_at (by omega) (by omega) (fun j h3 h4 => h j (by omega) h4) hi
theorem Check_any {w : World} {af : Option Addr} {cf : Nat} {az : Option Addr} {cz : Nat} {fs : List Feat} {zs : List Zn} (h : SchemeIn w af cf az cz fs zs) :
  Calls Tryz.prog 15 #[.agg #[.slice af fs.length cf, .slice az zs.length cz]] w fun e w' => e = .returned (.int .i64 (check fs zs)) ∧ Below w.heap.size w w' := by
 obtain ⟨n, hn⟩ : ∃ n, n = fs.length := ⟨_, rfl⟩
 obtain ⟨nz, hnz⟩ : ∃ n, n = zs.length := ⟨_, rfl⟩
 have herr : check fs zs = if 16 < n ∨ 32 < nz then 6 else if firstErr (featErr fs) n 0 = 0 then firstErr (zoneErr fs zs) nz 0 else firstErr (featErr fs) n 0 := by unfold check; rw [hn, hnz]
 have HERR := ZH herr
 obtain ⟨wa, hwa⟩ : ∃ wa, wa = w.alloc (.cells #[.slice af n cf, .slice az nz cz] 26) := ⟨_, rfl⟩
 obtain ⟨ba, hba⟩ : ∃ b, b = w.heap.size := ⟨_, rfl⟩
 have hal : Below w.heap.size w wa := by rw [hwa]; exact (ZR _ w).alloc (Nat.le_refl _) _
 have k0 : wa.heap[ba]? = some (.cells #[.slice af n cf, .slice az nz cz] 26 (0, 0)) := by rw [hwa, hba]; exact ZW w _
 have s0 := ZI k0 0
 have s1 := ZI k0 1
 simp at s0 s1
 have HS := ZH (h.below hal)
 have HAL := ZH hal
 have HSC := ZH (ZN s0 s1)
 have HN := ZH (ZN hn hnz)
 have HW := ZH (ZN hwa hba)
 have hcap : fs.length ≤ cf ∧ cf ≤ 9223372036854775807 := ⟨h.feats.1, h.feats.2.1⟩
 have hcaz : zs.length ≤ cz ∧ cz ≤ 9223372036854775807 := ⟨h.zones.1, h.zones.2.1⟩
 rw [← hn] at hcap ⊢
 rw [← hnz] at hcaz ⊢
 clear herr hal hwa hba k0 hn hnz h
 by_cases h1 : 16 < n
 ·have e1 : ((16 : Int) < (n : Int)) = True := eq_true (by omega)
  have HE := ZH (show check fs zs = 6 by rw [HERR.out, if_pos (.inl h1)])
  clear h1
  go_enter Tryz.func15, Tryz.ntmps15
  go_upto_region 1 with fail
  rw [← HW.out.1, ← HW.out.2]
  go_wp2_with fail
  go_ret
  exact ⟨by rw [HE.out]; rfl, HAL.out⟩
 ·have e1 : ((16 : Int) < (n : Int)) = False := eq_false (by omega)
  by_cases h2 : 32 < nz
  ·have e2 : ((32 : Int) < (nz : Int)) = True := eq_true (by omega)
   have HE := ZH (show check fs zs = 6 by rw [HERR.out, if_pos (.inr h2)])
   clear h1 h2
   go_enter Tryz.func15, Tryz.ntmps15
   go_upto_region 1 with fail
   rw [← HW.out.1, ← HW.out.2]
   go_wp2_with fail
   go_ret
   exact ⟨by rw [HE.out]; rfl, HAL.out⟩
  ·have e2 : ((32 : Int) < (nz : Int)) = False := eq_false (by omega)
   have HL := ZH (show ¬ (16 < n ∨ 32 < nz) by omega)
   have hn16 : n ≤ 16 := by omega
   have hz32 : nz ≤ 32 := by omega
   clear h1 h2
   go_enter Tryz.func15, Tryz.ntmps15
   go_upto_region 1 with fail
   rw [← HW.out.1, ← HW.out.2]
   go_upto_region 3 with fail
   go_wp2_with fail
   clear e1 e2
   go_loopw [20] (fun i wr => ∃ k : Nat, k ≤ n ∧ i = .int .i64 k ∧ Hid (∀ j, j < k → featErr fs j = 0) ∧ Hid (Below wa.heap.size wa wr)) (fun i _ => n - (intOf i).toNat)
   case atStart => exact ⟨0, Nat.zero_le _, rfl, ZH fun j hj => absurd hj (by omega), ZH (ZR _ _)⟩
   case round =>
    obtain ⟨k, hkn, rfl, hno, hbw⟩ := hrel
    have s0 := ZJ hbw.out HSC.out.1
    have s1 := ZJ hbw.out HSC.out.2
    by_cases hlt : k < n
    ·have e1 : ((k : Int) < (n : Int)) = True := eq_true (by omega)
     have hc := checkFeature_any (i := k) (HS.out.below hbw.out) (by rw [← HN.out.1]; exact hlt) (by rw [← HN.out.1]; omega)
     rw [← HN.out.1, ← HN.out.2] at hc
     have HC := ZH hc
     clear hc
     go_wp2_with fail
     refine HC.out.mono ?_
     rintro e w1 ⟨rfl, hb1⟩
     have HB1 := ZH (hbw.out.trans (hb1.mono hbw.out.size))
     clear hb1
     obtain ⟨E, hE⟩ : ∃ E, E = featErr fs k := ⟨_, rfl⟩
     rw [← hE]
     by_cases hz : E = 0
     ·have e2 : (E == 0) = true := by rw [hz]; rfl
      have HZ := ZH (show featErr fs k = 0 by rw [← hE]; exact hz)
      clear hE
      go_wp2_with fail
      refine ⟨⟨k + 1, hlt, by congr 1, ZH fun j hj => ?_, ZH HB1.out⟩, by simp [intOf]; omega⟩
      by_cases h : j < k
      ·exact hno.out j h
      ·obtain rfl : j = k := by omega
       exact HZ.out
     ·have e2 : (E == 0) = false := ZQ.2 hz
      have hfe : firstErr (featErr fs) n 0 = E := by rw [hE]; exact firstErr_at (Nat.zero_le _) (by omega) (fun j _ h => hno.out j h) (by rw [← hE]; exact hz)
      have HE := ZH (show check fs zs = E by rw [HERR.out, if_neg HL.out, hfe, if_neg hz])
      clear hE hfe
      go_wp2_with fail
      go_ret
      exact ⟨by rw [HE.out]; rfl, HAL.out.trans (HB1.out.mono HAL.out.size)⟩
    ·have e1 : ((k : Int) < (n : Int)) = False := eq_false (by omega)
     obtain rfl : k = n := by omega
     have HF0 := ZH (firstErr_none (e := featErr fs) (n := k) (k := 0) (fun j _ h => hno.out j (by omega)))
     go_wp2_with fail
     have HBW := ZH hbw.out
     clear s0 s1 hno hbw e1
     go_loopw [33] (fun i wq => ∃ m : Nat, m ≤ nz ∧ i = .int .i64 m ∧ Hid (∀ j, j < m → zoneErr fs zs j = 0) ∧ Hid (Below wa.heap.size wa wq)) (fun i _ => nz - (intOf i).toNat)
     case atStart => exact ⟨0, Nat.zero_le _, rfl, ZH fun j hj => absurd hj (by omega), HBW⟩
     case round =>
      obtain ⟨m, hmn, rfl, hno, hbw⟩ := hrel
      have s0 := ZJ hbw.out HSC.out.1
      have s1 := ZJ hbw.out HSC.out.2
      by_cases hlt : m < nz
      ·have e1 : ((m : Int) < (nz : Int)) = True := eq_true (by omega)
       have hc := checkZone_any (i := m) (HS.out.below hbw.out) (by rw [← HN.out.2]; exact hlt) (by rw [← HN.out.1]; omega) (by rw [← HN.out.2]; omega)
       rw [← HN.out.1, ← HN.out.2] at hc
       have HC := ZH hc
       clear hc
       go_wp2_with fail
       refine HC.out.mono ?_
       rintro e w1 ⟨rfl, hb1⟩
       have HB1 := ZH (hbw.out.trans (hb1.mono hbw.out.size))
       clear hb1
       obtain ⟨E, hE⟩ : ∃ E, E = zoneErr fs zs m := ⟨_, rfl⟩
       rw [← hE]
       by_cases hz : E = 0
       ·have e2 : (E == 0) = true := by rw [hz]; rfl
        have HZ := ZH (show zoneErr fs zs m = 0 by rw [← hE]; exact hz)
        clear hE
        go_wp2_with fail
        refine ⟨⟨m + 1, hlt, by congr 1, ZH fun j hj => ?_, ZH HB1.out⟩, by simp [intOf]; omega⟩
        by_cases h : j < m
        ·exact hno.out j h
        ·obtain rfl : j = m := by omega
         exact HZ.out
       ·have e2 : (E == 0) = false := ZQ.2 hz
        have hfe : firstErr (zoneErr fs zs) nz 0 = E := by rw [hE]; exact firstErr_at (Nat.zero_le _) (by omega) (fun j _ h => hno.out j h) (by rw [← hE]; exact hz)
        have HE := ZH (show check fs zs = E by rw [HERR.out, if_neg HL.out, if_pos HF0.out, hfe])
        clear hE hfe
        go_wp2_with fail
        go_ret
        exact ⟨by rw [HE.out]; rfl, HAL.out.trans (HB1.out.mono HAL.out.size)⟩
      ·have e1 : ((m : Int) < (nz : Int)) = False := eq_false (by omega)
       obtain rfl : m = nz := by omega
       have HF1 := ZH (firstErr_none (e := zoneErr fs zs) (n := m) (k := 0) (fun j _ h => hno.out j (by omega)))
       have HE := ZH (show check fs zs = 0 by rw [HERR.out, if_neg HL.out, if_pos HF0.out, HF1.out])
       go_wp2_with fail
       go_ret
       exact ⟨by rw [HE.out]; rfl, HAL.out.trans (hbw.out.mono HAL.out.size)⟩
end Go.Proofs.YtgofihilkobenaaGreatDoor
/- zone, nominal. -/
set_option maxRecDepth 100000
namespace Go.Proofs.YtgofihilkobenaaGreatDoor
open Go.RowKit Go.Num Go.Flow Go.Dtm
set_option maxHeartbeats 8000000

/-- Whether a zone is the one of a feature and a kind. -/
def isZone (i k : Int) (y : Zn) : Bool := decide (y.feature = i) && decide (y.kind = k)
/-- The index of the zone of a feature and a kind, or -1. -/
def zoneAt (zs : List Zn) (i k : Int) : Int := pos (fun j => isZone i k (zs.getD j Zn.none)) zs.length 0
def zoneOf (zs : List Zn) (i k : Int) : Zn := if zoneAt zs i k < 0 then Zn.none else zs.getD (zoneAt zs i k).toNat Zn.none
theorem zone_any {w : World} {af : Option Addr} {cf : Nat} {az : Option Addr} {cz : Nat} {fs : List Feat} {zs : List Zn} (h : SchemeIn w af cf az cz fs zs) (hsm : zs.length ≤ 1000000) (i k : Int) :
  Calls Tryz.prog 55 #[.agg #[.slice af fs.length cf, .slice az zs.length cz], .int .i64 i, .int .i64 k] w fun e w' => e = .returned (.tuple #[zoneV (zoneOf zs i k), .bool (decide (0 ≤ zoneAt zs i k))]) ∧ Below w.heap.size w w' := by
 obtain ⟨n, hn⟩ : ∃ n, n = fs.length := ⟨_, rfl⟩
 obtain ⟨nz, hnz⟩ : ∃ n, n = zs.length := ⟨_, rfl⟩
 obtain ⟨wa, hwa⟩ : ∃ wa, wa = (((w.alloc (.cells #[.slice af n cf, .slice az nz cz] 26)).alloc (.cells #[.int .i64 i] 3)).alloc (.cells #[.int .i64 k] 3)).alloc (.cells #[.int .i64 0, .int .i64 0, .int .i64 0, .int .i64 0, .bool false] 30) := ⟨_, rfl⟩
 obtain ⟨ba, hba⟩ : ∃ b, b = w.heap.size := ⟨_, rfl⟩
 obtain ⟨bi, hbi⟩ : ∃ b, b = w.heap.size + 1 := ⟨_, rfl⟩
 obtain ⟨bk, hbk⟩ : ∃ b, b = w.heap.size + 2 := ⟨_, rfl⟩
 obtain ⟨br, hbr⟩ : ∃ b, b = w.heap.size + 3 := ⟨_, rfl⟩
 have hal : Below w.heap.size w wa := by rw [hwa]; exact ((((ZR _ w).alloc (Nat.le_refl _) _).alloc (by simp) _).alloc (by simp; omega) _).alloc (by simp; omega) _
 obtain ⟨k0, k1, k2, k3⟩ := four_made w #[.slice af n cf, .slice az nz cz] #[.int .i64 i] #[.int .i64 k] #[.int .i64 0, .int .i64 0, .int .i64 0, .int .i64 0, .bool false] 26 3 3 30
 rw [← hwa, ← hba] at k0
 rw [← hwa, ← hbi] at k1
 rw [← hwa, ← hbk] at k2
 rw [← hwa, ← hbr] at k3
 have s1 := ZI k0 1
 have i0 := ZI k1 0
 have i1 := ZI k2 0
 simp at s1 i0 i1
 have hix := sIndexZ_any (w := wa) (h.zones.below hal) hsm (k := 99) (caps := #[.pointer (some ⟨bi, 0, none⟩), .pointer (some ⟨bk, 0, none⟩)]) enters_z1 (fun j => isZone i k (zs.getD j Zn.none)) (fun W j _ hW => z1_any _ (ZJ hW i0) (ZJ hW i1))
 have HR := ZH (show zoneAt zs i k = pos (fun j => isZone i k (zs.getD j Zn.none)) zs.length 0 from rfl)
 have hzn := h.zones
 have hlt := pos_le (p := fun j => isZone i k (zs.getD j Zn.none)) (n := zs.length) (k := 0)
 have HZO := ZH (show zoneOf zs i k = if zoneAt zs i k < 0 then Zn.none else zs.getD (zoneAt zs i k).toNat Zn.none from rfl)
 rw [← HR.out] at hix hlt
 obtain ⟨r, hr⟩ : ∃ r, r = zoneAt zs i k := ⟨_, rfl⟩
 rw [← hr] at hix hlt HZO ⊢
 rw [← hnz] at hix hlt hsm ⊢
 rw [← hn]
 have HIX := ZH hix
 have HAL := ZH hal
 have HK := ZH (ZN k0 k3)
 have HGbr := ZH (show w.heap.size ≤ br by omega)
 have HN := ZH hnz
 have HZS := ZH hzn
 have HW := ZH (ZN hwa (ZN hba (ZN hbi (ZN hbk hbr))))
 have hcap : nz ≤ cz ∧ cz ≤ 9223372036854775807 := by rw [hnz]; exact ⟨hzn.1, hzn.2.1⟩
 clear hix hwa hba hbi hbk hbr hal k0 k1 k2 k3 h hzn i0 i1 hnz hn hr HR
 go_enter Tryz.func55, Tryz.ntmps55
 go_upto_region 1 with fail
 rw [← HW.out.1, ← HW.out.2.2.2.2, ← HW.out.2.2.2.1, ← HW.out.2.2.1, ← HW.out.2.1]
 clear HW
 go_wp2_with fail
 refine HIX.out.mono ?_
 rintro e w1 ⟨rfl, hb1⟩
 have hk0 := (hb1.block ba (ZL HK.out.1)).trans HK.out.1
 have hk3 := (hb1.block br (ZL HK.out.2)).trans HK.out.2
 have s1 := ZI hk0 1
 have r0 := ZI hk3 0
 have r1 := ZI hk3 1
 have r2 := ZI hk3 2
 have r3 := ZI hk3 3
 have r4 := ZI hk3 4
 have f0 := ZF hk3 0
 have f1 := ZF hk3 1
 have f2 := ZF hk3 2
 have f3 := ZF hk3 3
 have f4 := ZF hk3 4
 simp at s1 r0 r1 r2 r3 r4
 have hB1 := HAL.out.trans (hb1.mono HAL.out.size)
 have HB1 := ZH hB1
 clear hk0 hk3 hb1 hB1
 by_cases hneg : r < 0
 ·have e1 : (r < 0) = True := eq_true hneg
  have HE := ZH (show decide (0 ≤ r) = false from ZU (by omega))
  rw [if_pos hneg] at HZO
  clear hneg
  go_wp2_with fail
  exact bodyPost_ret (v := .tuple #[zoneV Zn.none, .bool false]) (by simp [results, Tryz.results55, go_sem, r0, r1, r2, r3, r4, zoneV, Zn.none]) rfl ⟨by rw [HZO.out, HE.out], ((((HB1.out.setCell HGbr.out _).setCell HGbr.out _).setCell HGbr.out _).setCell HGbr.out _).setCell HGbr.out _⟩
 ·have e1 : (r < 0) = False := eq_false hneg
  have HE := ZH (show decide (0 ≤ r) = true from ZT (by omega))
  obtain ⟨m, rfl⟩ : ∃ m : Nat, r = (m : Int) := ⟨r.toNat, by omega⟩
  have hm : m < nz := by omega
  obtain ⟨b, o, rfl, -, hc⟩ := HZS.out.2.2 (by rw [← HN.out]; omega)
  have HX := hc m (by rw [← HN.out]; exact hm)
  rw [if_neg hneg, Int.toNat_natCast] at HZO
  obtain ⟨z, hz⟩ : ∃ z, z = zoneOf zs i k := ⟨_, rfl⟩
  rw [← HZO.out, ← hz] at HX
  have HZZ := ZH hz
  clear hz
  have x0 := ZJ HB1.out HX.1
  have x1 := ZJ HB1.out HX.2.1
  have x2 := ZJ HB1.out HX.2.2.1
  have x3 := ZJ HB1.out HX.2.2.2.1
  have x4 := ZJ HB1.out HX.2.2.2.2
  have hm0 : (0 : Int) ≤ (m : Int) := by omega
  have hm1 : (m : Int) < (nz : Int) := by omega
  clear HX hc hneg
  go_wp2_with fail
  exact bodyPost_ret (v := .tuple #[zoneV z, .bool true]) (by simp [results, Tryz.results55, go_sem, r0, r1, r2, r3, r4, zoneV]) rfl ⟨by rw [HE.out, HZZ.out], ((((HB1.out.setCell HGbr.out _).setCell HGbr.out _).setCell HGbr.out _).setCell HGbr.out _).setCell HGbr.out _⟩
def nominalOf (fs : List Feat) (i : Nat) (k : Int) : Int := if k = 1 then (fs.getD i Feat.none).place else if k = 2 then (fs.getD i Feat.none).wide else 0
theorem nominal_any {w : World} {af : Option Addr} {cf : Nat} {az : Option Addr} {cz : Nat} {fs : List Feat} {zs : List Zn} (h : SchemeIn w af cf az cz fs zs) {i : Nat} (hi : i < fs.length) (k : Int) :
  Calls Tryz.prog 56 #[.agg #[.slice af fs.length cf, .slice az zs.length cz], .agg #[.int .i64 (i : Int), .int .i64 k]] w fun e w' => e = .returned (.int .i64 (nominalOf fs i k)) ∧ Below w.heap.size w w' := by
 obtain ⟨n, hn⟩ : ∃ n, n = fs.length := ⟨_, rfl⟩
 obtain ⟨nz, hnz⟩ : ∃ n, n = zs.length := ⟨_, rfl⟩
 obtain ⟨f, hf⟩ : ∃ f, f = fs.getD i Feat.none := ⟨_, rfl⟩
 have HE := ZH (show nominalOf fs i k = if k = 1 then f.place else if k = 2 then f.wide else 0 by rw [hf]; rfl)
 obtain ⟨b, o, rfl, -, hc⟩ := h.feats.2.2 (by omega)
 have HX := hc i hi
 rw [← hf] at HX
 have hcap : fs.length ≤ cf ∧ cf ≤ 9223372036854775807 := ⟨h.feats.1, h.feats.2.1⟩
 rw [← hn] at hi hcap ⊢
 rw [← hnz]
 obtain ⟨wa, hwa⟩ : ∃ wa, wa = (w.alloc (.cells #[.slice (some ⟨b, o, none⟩) n cf, .slice az nz cz] 26)).alloc (.cells #[.int .i64 (i : Int), .int .i64 k] 120) := ⟨_, rfl⟩
 obtain ⟨ba, hba⟩ : ∃ b, b = w.heap.size := ⟨_, rfl⟩
 obtain ⟨bv, hbv⟩ : ∃ b, b = w.heap.size + 1 := ⟨_, rfl⟩
 have hal : Below w.heap.size w wa := by rw [hwa]; exact ((ZR _ w).alloc (Nat.le_refl _) _).alloc (by simp) _
 obtain ⟨k0, k1⟩ := two_made w #[.slice (some ⟨b, o, none⟩) n cf, .slice az nz cz] #[.int .i64 (i : Int), .int .i64 k] 26 120
 rw [← hwa, ← hba] at k0
 rw [← hwa, ← hbv] at k1
 have s0 := ZI k0 0
 have v0 := ZI k1 0
 have v1 := ZI k1 1
 simp at s0 v0 v1
 have x4 := ZJ hal HX.2.2.2.2.1
 have x5 := ZJ hal HX.2.2.2.2.2
 have HAL := ZH hal
 have HW := ZH (ZN hwa (ZN hba hbv))
 have hi0 : (0 : Int) ≤ (i : Int) := by omega
 have hi1 : (i : Int) < (n : Int) := by omega
 clear hal hwa hba hbv k0 k1 HX hc hf hn hnz h
 by_cases h1 : k = 1
 ·have e1 : (k == 1) = true := by rw [h1]; rfl
  rw [if_pos h1] at HE
  clear h1
  go_enter Tryz.func56, Tryz.ntmps56
  go_upto_region 1 with fail
  rw [← HW.out.1, ← HW.out.2.2, ← HW.out.2.1]
  clear HW
  go_wp2_with fail
  go_ret
  exact ⟨by rw [HE.out]; rfl, HAL.out⟩
 ·have e1 : (k == 1) = false := ZQ.2 h1
  rw [if_neg h1] at HE
  clear h1
  by_cases h2 : k = 2
  ·have e2 : (k == 2) = true := by rw [h2]; rfl
   rw [if_pos h2] at HE
   clear h2
   go_enter Tryz.func56, Tryz.ntmps56
   go_upto_region 1 with fail
   rw [← HW.out.1, ← HW.out.2.2, ← HW.out.2.1]
   clear HW
   go_wp2_with fail
   go_ret
   exact ⟨by rw [HE.out]; rfl, HAL.out⟩
  ·have e2 : (k == 2) = false := ZQ.2 h2
   rw [if_neg h2] at HE
   clear h2
   go_enter Tryz.func56, Tryz.ntmps56
   go_upto_region 1 with fail
   rw [← HW.out.1, ← HW.out.2.2, ← HW.out.2.1]
   clear HW
   go_wp2_with fail
   go_ret
   exact ⟨by rw [HE.out]; rfl, HAL.out⟩
end Go.Proofs.YtgofihilkobenaaGreatDoor
/- variables. -/
set_option maxRecDepth 100000
namespace Go.Proofs.YtgofihilkobenaaGreatDoor
open Go.RowKit Go.Num Go.Flow Go.Dtm
set_option maxHeartbeats 8000000

/-- The variables of a feature, and of the first k features. -/
def varsAt (fs : List Feat) (zs : List Zn) (i : Nat) : List (Nat × Int) := (i, 1) :: (if (fs.getD i Feat.none).kind = 2 then [(i, 2)] else []) ++ (if 0 ≤ zoneAt zs i 3 then [(i, 3)] else [])
def varsTo (fs : List Feat) (zs : List Zn) : Nat → List (Nat × Int)
 | 0 => []
 | k + 1 => varsTo fs zs k ++ varsAt fs zs k
theorem vars_len (fs : List Feat) (zs : List Zn) : ∀ k, (varsTo fs zs k).length ≤ 3 * k
 | 0 => by simp [varsTo]
 | k + 1 => by
  have h := vars_len fs zs k
  have h2 : (varsAt fs zs k).length ≤ 3 := by
   unfold varsAt
   split <;> split <;> simp
  rw [varsTo, List.length_append]
  omega
def varCells (l : List (Nat × Int)) : List Value := l.flatMap fun p => [.int .i64 (p.1 : Int), .int .i64 p.2]
theorem varCells_snoc (l m : List (Nat × Int)) : varCells (l ++ m) = varCells l ++ varCells m := by unfold varCells; rw [List.flatMap_append]
/-- A row of variables. -/
def VarRow (w : World) (B : Nat) (v : Value) (l : List (Nat × Int)) : Prop := w.ownsRow B 120 2 v l.length (varCells l)
theorem VarRow.below {w w' : World} {B : Nat} {v : Value} {l : List (Nat × Int)} (h : VarRow w B v l) (hb : Below w.heap.size w w') : VarRow w' B v l := by
 rcases h.2 with h1 | ⟨g, cap, cur, h1, h2, h3, h4⟩
 ·exact ⟨h.1, .inl h1⟩
 ·exact ⟨h.1, .inr ⟨g, cap, cur, h1, h2, (hb.block g (ZL h3)).trans h3, h4⟩⟩
theorem VarRow.snoc {w : World} {B : Nat} {v : Value} {l : List (Nat × Int)} {p : Nat × Int} (h : w.ownsRow B 120 2 v (l.length + 1) (varCells l ++ [.int .i64 (p.1 : Int), .int .i64 p.2])) : VarRow w B v (l ++ [p]) := by
 unfold VarRow
 rw [List.length_append, varCells_snoc]
 exact h
theorem infoVar : (Tryz.prog.info? 120).map (fun i => (i.zero, i.size, i.bytes)) = some (some (.agg #[.int .i64 0, .int .i64 0]), 2, 16) := by kernel_rfl
theorem variables_any {w : World} {af : Option Addr} {cf : Nat} {az : Option Addr} {cz : Nat} {fs : List Feat} {zs : List Zn} (h : SchemeIn w af cf az cz fs zs) (hsf : fs.length ≤ 1000) (hsm : zs.length ≤ 1000000) :
  Calls Tryz.prog 54 #[.agg #[.slice af fs.length cf, .slice az zs.length cz]] w fun e w' => ∃ v, e = .returned v ∧ VarRow w' w.heap.size v (varsTo fs zs fs.length) ∧ Below w.heap.size w w' := by
 obtain ⟨n, hn⟩ : ∃ n, n = fs.length := ⟨_, rfl⟩
 obtain ⟨nz, hnz⟩ : ∃ n, n = zs.length := ⟨_, rfl⟩
 obtain ⟨wa, hwa⟩ : ∃ wa, wa = w.alloc (.cells #[.slice af n cf, .slice az nz cz] 26) := ⟨_, rfl⟩
 obtain ⟨ba, hba⟩ : ∃ b, b = w.heap.size := ⟨_, rfl⟩
 have hal : Below w.heap.size w wa := by rw [hwa]; exact (ZR _ w).alloc (Nat.le_refl _) _
 have k0 : wa.heap[ba]? = some (.cells #[.slice af n cf, .slice az nz cz] 26 (0, 0)) := by rw [hwa, hba]; exact ZW w _
 have s0 := ZI k0 0
 have s1 := ZI k0 1
 simp at s0 s1
 have HS := ZH (h.below hal)
 have HAL := ZH hal
 have HSC := ZH (ZN s0 s1)
 have HN := ZH (ZN hn (ZN hnz hsm))
 have HW := ZH (ZN hwa hba)
 have hcap : fs.length ≤ cf ∧ cf ≤ 9223372036854775807 := ⟨h.feats.1, h.feats.2.1⟩
 obtain ⟨i0, hi, hz0, hz1, hz2⟩ := info_parts infoVar
 have HI := ZH (ZN hi (ZN hz0 (ZN hz1 hz2)))
 rw [← hn] at hcap hsf ⊢
 rw [← hnz]
 clear hal hwa hba k0 hn hnz h hi hz0 hz1 hz2 hsm
 go_enter Tryz.func54, Tryz.ntmps54
 go_upto_region 1 with fail
 rw [← HW.out.1, ← HW.out.2]
 clear HW
 go_wp2_with fail
 clear s0 s1
 go_loopg [11, 3] n (fun gk i v wr => ∃ k : Nat, k + gk = n ∧ i = .int .i64 k ∧ Hid (VarRow wr wa.heap.size v (varsTo fs zs k)) ∧ Hid (Below wa.heap.size wa wr))
 case atStart => exact ⟨0, by omega, rfl, ZH (World.ownsRow_nil _ _ _ _), ZH (ZR _ _)⟩
 case round =>
  obtain ⟨k, hkn, rfl, hrow, hbw⟩ := hrel
  have s0 := ZJ hbw.out HSC.out.1
  have s1 := ZJ hbw.out HSC.out.2
  by_cases hlt : k < n
  ·have e1 : ((k : Int) < (n : Int)) = True := eq_true (by omega)
   obtain ⟨f, hf⟩ : ∃ f, f = fs.getD k Feat.none := ⟨_, rfl⟩
   have hfe := (HS.out.feats.below hbw.out).2.2 (by rw [← HN.out.1]; omega)
   obtain ⟨b, o, rfl, -, hc⟩ := hfe
   have HX := hc k (by rw [← HN.out.1]; exact hlt)
   rw [← hf] at HX
   obtain ⟨x0, x1, x2, x3, x4, x5⟩ := HX
   have hi0 : (0 : Int) ≤ (k : Int) := by omega
   have hi1 : (k : Int) < (n : Int) := by omega
   have HF := ZH hf
   have HLT := ZH hlt
   have hln := vars_len fs zs k
   have HLN := ZH hln
   clear hc hf hln
   go_upto_region 5 with fail
   obtain ⟨w1, hw1⟩ : ∃ x, x = wr.alloc (.cells #[.string f.name, .int .i64 f.kind, .int .i64 f.axis, .int .i64 f.datum, .int .i64 f.place, .int .i64 f.wide] 28) := ⟨_, rfl⟩
   obtain ⟨bf, hbf⟩ : ∃ b, b = wr.heap.size := ⟨_, rfl⟩
   rw [← hw1, ← hbf]
   have hl1 : Below wr.heap.size wr w1 := by rw [hw1]; exact (ZR _ wr).alloc (Nat.le_refl _) _
   have kf : w1.heap[bf]? = some (.cells #[.string f.name, .int .i64 f.kind, .int .i64 f.axis, .int .i64 f.datum, .int .i64 f.place, .int .i64 f.wide] 28 (0, 0)) := by rw [hw1, hbf]; exact ZW wr _
   have c1 := ZI kf 1
   simp at c1
   have HC1 := ZH c1
   have HOB := ZH (show ∀ q, u3.ownBlock = some q → q < bf from fun q e => by rw [hbf]; exact (World.ownsRow.lt hrow.out q e).2)
   have HBF := ZH (ZL kf)
   have HR1 := ZH (hrow.out.below hl1)
   have HB1 := ZH (hbw.out.trans (hl1.mono hbw.out.size))
   clear x0 x1 x2 x3 x4 x5 s0 s1 hw1 hbf hl1 kf c1 hrow hbw e1
   go_wp2_with (at_builtin; refine wpList_append_own _ rfl _ _ 117 rfl wa.heap.size 120 i0 _ 2 16 Tryz.underlying117 HI.out.1 HI.out.2.1 HI.out.2.2.1 HI.out.2.2.2 rfl (by decide) _ _ _ rfl (World.ownsRow.alloc HR1.out _) ⟨w1.heap.size, 0, none⟩ 1 1 [.int .i64 (k : Int), .int .i64 1] rfl rfl ?c1 ?c2 ?c3 ?c4 ?c5 ?_)
   case c1 => exact World.news_of_block (ZW w1 _)
   case c2 => simp [Value.oneCell']
   case c3 => have := HLN.out; unfold maxLen; omega
   case c4 => have := HLN.out; omega
   case c5 => have := HB1.out.size; simp; omega
   intro v2 w2 hown2 hg2 _
   have hb2 := (HB1.out.alloc (by have := HB1.out.size; omega) (.cells #[.int .i64 (k : Int), .int .i64 1] 120)).grown hg2 (by have := HB1.out.size; simp; omega) (fun q e => (World.ownsRow.lt HR1.out q e).1)
   have c1 := (hg2.cell_far ⟨bf, 1, none⟩ (by have := HBF.out; simp; omega) (fun e => by have := HOB.out bf e.symm; omega)).trans (ZJ ((ZR _ w1).alloc (Nat.le_refl _) (.cells #[.int .i64 (k : Int), .int .i64 1] 120)) HC1.out)
   have HR2 := ZH (VarRow.snoc (p := (k, 1)) hown2)
   have HB2 := ZH hb2
   clear hown2 hb2 hg2
   obtain ⟨L, hL⟩ : ∃ L, L = varsTo fs zs k ++ ((k, 1) :: if f.kind = 2 then [(k, 2)] else []) := ⟨_, rfl⟩
   have HLD := ZH hL
   clear hL
   go_upto_if 23 with fail
   go_cut [3, 11] from 11 to 41 (fun v i wx => i = .int .i64 (k : Int) ∧ VarRow wx wa.heap.size v L ∧ Below wa.heap.size wa wx)
   case first =>
    by_cases hk2 : f.kind = 2
    ·have e2 : (f.kind == 2) = true := by rw [hk2]; rfl
     go_wp2_with (at_builtin; refine wpList_append_own _ rfl _ _ 117 rfl wa.heap.size 120 i0 _ 2 16 Tryz.underlying117 HI.out.1 HI.out.2.1 HI.out.2.2.1 HI.out.2.2.2 rfl (by decide) _ _ _ rfl (World.ownsRow.alloc HR2.out _) ⟨w2.heap.size, 0, none⟩ 1 1 [.int .i64 (k : Int), .int .i64 2] rfl rfl ?c1 ?c2 ?c3 ?c4 ?c5 ?_)
     case c1 => exact World.news_of_block (ZW w2 _)
     case c2 => simp [Value.oneCell']
     case c3 => have := HLN.out; rw [List.length_append]; unfold maxLen; simp; omega
     case c4 => have := HLN.out; rw [List.length_append]; simp; omega
     case c5 => have := HB2.out.size; simp; omega
     intro v3 w3 hown3 hg3 _
     have hb3 := (HB2.out.alloc (by have := HB2.out.size; omega) (.cells #[.int .i64 (k : Int), .int .i64 2] 120)).grown hg3 (by have := HB2.out.size; simp; omega) (fun q e => (World.ownsRow.lt HR2.out q e).1)
     have hr3 := VarRow.snoc (l := varsTo fs zs k ++ [(k, 1)]) (p := (k, 2)) (by rw [List.length_append]; exact hown3)
     have HR3 := ZH (ZN hr3 hb3)
     clear hown3 hb3 hg3 hr3
     go_wp2_with fail
     go_meet
     refine ⟨rfl, ?_, HR3.out.2⟩
     rw [HLD.out, if_pos hk2]
     have := HR3.out.1
     rw [List.append_assoc] at this
     exact this
    ·have e2 : (f.kind == 2) = false := ZQ.2 hk2
     go_wp2_with fail
     go_meet
     refine ⟨rfl, ?_, HB2.out⟩
     rw [HLD.out, if_neg hk2]
     exact HR2.out
   case rest =>
    obtain ⟨rfl, hr4, hb4⟩ := hcut
    have s0 := ZJ hb4 HSC.out.1
    have s1 := ZJ hb4 HSC.out.2
    have hz := zone_any (HS.out.below hb4) HN.out.2.2 (k : Int) 3
    rw [← HN.out.1, ← HN.out.2.1] at hz
    have HZ := ZH hz
    have HR4 := ZH hr4
    have HB4 := ZH hb4
    clear hr4 hb4 hz
    go_wp2_with fail
    refine HZ.out.mono ?_
    rintro e w5 ⟨rfl, hb5⟩
    have HR5 := ZH (HR4.out.below hb5)
    have HB5 := ZH (HB4.out.trans (hb5.mono HB4.out.size))
    clear hb5
    unfold zoneV
    go_upto_region 9 with fail
    generalize zoneOf zs (k : Int) 3 = z at *
    obtain ⟨w6, hw6⟩ : ∃ x, x = w5.alloc (.cells #[.int .i64 z.kind, .int .i64 z.feature, .int .i64 z.lower, .int .i64 z.upper, .bool z.bonus] 30) := ⟨_, rfl⟩
    rw [← hw6]
    have hl6 : Below w5.heap.size w5 w6 := by rw [hw6]; exact (ZR _ w5).alloc (Nat.le_refl _) _
    have HR6 := ZH (HR5.out.below hl6)
    have HB6 := ZH (HB5.out.trans (hl6.mono HB5.out.size))
    clear hw6 hl6 s0 s1
    have hln := vars_len fs zs k
    have hll : L.length ≤ 3 * k + 2 := by
     rw [HLD.out, List.length_append]
     split <;> simp <;> omega
    have HLL := ZH hll
    clear hln hll
    cases hz3 : decide (0 ≤ zoneAt zs (k : Int) 3) with
    | true =>
     go_wp2_with (at_builtin; refine wpList_append_own _ rfl _ _ 117 rfl wa.heap.size 120 i0 _ 2 16 Tryz.underlying117 HI.out.1 HI.out.2.1 HI.out.2.2.1 HI.out.2.2.2 rfl (by decide) _ _ _ rfl (World.ownsRow.alloc HR6.out _) ⟨w6.heap.size, 0, none⟩ 1 1 [.int .i64 (k : Int), .int .i64 3] rfl rfl ?c1 ?c2 ?c3 ?c4 ?c5 ?_)
     case c1 => exact World.news_of_block (ZW w6 _)
     case c2 => simp [Value.oneCell']
     case c3 => have := HLL.out; have := HLT.out; unfold maxLen; omega
     case c4 => have := HLL.out; have := HLT.out; omega
     case c5 => have := HB6.out.size; simp; omega
     intro v7 w7 hown7 hg7 _
     have hb7 := (HB6.out.alloc (by have := HB6.out.size; omega) (.cells #[.int .i64 (k : Int), .int .i64 3] 120)).grown hg7 (by have := HB6.out.size; simp; omega) (fun q e => (World.ownsRow.lt HR6.out q e).1)
     have hr7 := VarRow.snoc (p := (k, 3)) hown7
     have HR7 := ZH (ZN hr7 hb7)
     clear hown7 hb7 hg7 hr7
     go_wp2_with fail
     go_roundg (n - (k + 1))
     case measure => have := HLT.out; omega
     case rel =>
      refine ⟨k + 1, by have := HLT.out; omega, by congr 1, ZH ?_, ZH HR7.out.2⟩
      have := HR7.out.1
      rw [varsTo, varsAt, ← HF.out, if_pos (of_decide_eq_true hz3), ← List.append_assoc, ← HLD.out]
      exact this
    | false =>
     go_wp2_with fail
     go_roundg (n - (k + 1))
     case measure => have := HLT.out; omega
     case rel =>
      refine ⟨k + 1, by have := HLT.out; omega, by congr 1, ZH ?_, ZH HB6.out⟩
      have := HR6.out
      rw [varsTo, varsAt, ← HF.out, if_neg (of_decide_eq_false hz3), List.append_nil, ← HLD.out]
      exact this
  ·have e1 : ((k : Int) < (n : Int)) = False := eq_false (by omega)
   obtain rfl : k = n := by omega
   go_wp2_with fail
   go_ret
   exact ⟨_, rfl, World.ownsRow.mono hrow.out HAL.out.size, HAL.out.trans (hbw.out.mono HAL.out.size)⟩
end Go.Proofs.YtgofihilkobenaaGreatDoor
