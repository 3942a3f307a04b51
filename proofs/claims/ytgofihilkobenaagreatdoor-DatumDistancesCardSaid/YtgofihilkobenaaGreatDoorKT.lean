/- The document's model: check. -/
import Derived.Test.YtgofihilkobenaaGreatDoorKS
set_option maxRecDepth 100000
namespace Go.Proofs.YtgofihilkobenaaGreatDoor
open Go.RowKit Go.Num Go.Flow Go.Dtm
set_option maxHeartbeats 16000000

theorem zone_dup {zs : List Zn} {i : Nat} {z : Zn} (hi : i < zs.length) (hz : z = zs.getD i Zn.none) : (zoneAt zs z.feature z.kind ≠ (i : Int)) ↔ (zs.take i).any (fun y => decide (y.kind = z.kind) && decide (y.feature = z.feature)) = true := by
 have hself : isZone z.feature z.kind (zs.getD i Zn.none) = true := by rw [← hz]; unfold isZone; simp
 unfold zoneAt
 rcases pos_cases (fun j => isZone z.feature z.kind (zs.getD j Zn.none)) zs.length 0 with ⟨h1, h2⟩ | ⟨j, h1, h2, h3, h4, h5⟩
 ·have := h2 i (Nat.zero_le _) (by omega)
  simp only [hself] at this
  cases this
 ·rw [h1]
  have hji : j ≤ i := by
   rcases Nat.lt_or_ge i j with h | h
   ·have := h5 i (Nat.zero_le _) h
    simp only [hself] at this
    cases this
   ·exact h
  constructor
  ·intro hne
   have hlt : j < i := by omega
   rw [List.any_eq_true]
   refine ⟨zs[j]'(by omega), List.mem_take_iff_getElem.2 ⟨j, by omega, rfl⟩, ?_⟩
   have h := h4
   simp only [List.getD_eq_getElem?_getD, List.getElem?_eq_getElem (show j < zs.length by omega), Option.getD_some] at h
   unfold isZone at h
   rw [Bool.and_comm]
   exact h
  ·intro h
   obtain ⟨x, hx, hq⟩ := List.any_eq_true.1 h
   obtain ⟨k, hk, rfl⟩ := List.mem_take_iff_getElem.1 hx
   intro he
   have h6 := h5 k (Nat.zero_le _) (by omega)
   simp only [List.getD_eq_getElem?_getD, List.getElem?_eq_getElem (show k < zs.length by omega), Option.getD_some] at h6
   unfold isZone at h6
   rw [Bool.and_comm] at hq
   rw [hq] at h6
   cases h6

theorem qcheck_any {w : World} {af : Option Addr} {cf : Nat} {az : Option Addr} {cz : Nat} {fs : List Feat} {zs : List Zn} (h : SchemeIn w af cf az cz fs zs) :
  Calls Tryz.prog 14 #[.agg #[.slice af fs.length cf, .slice az zs.length cz]] w fun e w' => e = .returned (.int .i64 (check fs zs)) ∧ Below w.heap.size w w' := by
 obtain ⟨n, hn⟩ : ∃ n, n = fs.length := ⟨_, rfl⟩
 obtain ⟨nz, hnz⟩ : ∃ n, n = zs.length := ⟨_, rfl⟩
 have herr : check fs zs = if 16 < n ∨ 32 < nz then 6 else if firstErr (featErr fs) n 0 = 0 then firstErr (zoneErr fs zs) nz 0 else firstErr (featErr fs) n 0 := by unfold check; rw [hn, hnz]
 have HERR := ZH herr
 obtain ⟨wa, hwa⟩ : ∃ wa, wa = w.alloc (.cells #[.slice af n cf, .slice az nz cz] 26) := ⟨_, rfl⟩
 obtain ⟨ba, hba⟩ : ∃ b, b = w.heap.size := ⟨_, rfl⟩
 have hal : Below w.heap.size w wa := by rw [hwa]; exact (ZR _ w).alloc (Nat.le_refl _) _
 have k0 : wa.heap[ba]? = some (.cells #[.slice af n cf, .slice az nz cz] 26 (0, 0)) := by rw [hwa, hba]; exact ZW w _
 have s0 := ZI k0 0
 have s1 := ZI k0 1
 simp at s0 s1
 have HS := ZH (h.below hal)
 have HAL := ZH hal
 have HSC := ZH (ZN s0 s1)
 have HN := ZH (ZN hn hnz)
 have HW := ZH (ZN hwa hba)
 have hcap : fs.length ≤ cf ∧ cf ≤ 9223372036854775807 := ⟨h.feats.1, h.feats.2.1⟩
 have hcaz : zs.length ≤ cz ∧ cz ≤ 9223372036854775807 := ⟨h.zones.1, h.zones.2.1⟩
 rw [← hn] at hcap ⊢
 rw [← hnz] at hcaz ⊢
 clear herr hal hwa hba k0 hn hnz h
 by_cases h1 : 16 < n
 ·have e1 : ((16 : Int) < (n : Int)) = True := eq_true (by omega)
  have HE := ZH (show check fs zs = 6 by rw [HERR.out, if_pos (.inl h1)])
  clear h1
  go_enter Tryz.func14, Tryz.ntmps14
  go_upto_region 1 with fail
  rw [← HW.out.1, ← HW.out.2]
  go_wp2_with fail
  go_ret
  exact ⟨by rw [HE.out]; rfl, HAL.out⟩
 ·have e1 : ((16 : Int) < (n : Int)) = False := eq_false (by omega)
  by_cases h2 : 32 < nz
  ·have e2 : ((32 : Int) < (nz : Int)) = True := eq_true (by omega)
   have HE := ZH (show check fs zs = 6 by rw [HERR.out, if_pos (.inr h2)])
   clear h1 h2
   go_enter Tryz.func14, Tryz.ntmps14
   go_upto_region 1 with fail
   rw [← HW.out.1, ← HW.out.2]
   go_wp2_with fail
   go_ret
   exact ⟨by rw [HE.out]; rfl, HAL.out⟩
  ·have e2 : ((32 : Int) < (nz : Int)) = False := eq_false (by omega)
   have HL := ZH (show ¬ (16 < n ∨ 32 < nz) by omega)
   have hn16 : n ≤ 16 := by omega
   have hz32 : nz ≤ 32 := by omega
   clear h1 h2
   go_enter Tryz.func14, Tryz.ntmps14
   go_upto_region 1 with fail
   rw [← HW.out.1, ← HW.out.2]
   go_upto_region 3 with fail
   go_wp2_with fail
   clear e1 e2
   go_loopw [21] (fun i wr => ∃ k : Nat, k ≤ n ∧ i = .int .i64 k ∧ Hid (∀ j, j < k → featErr fs j = 0) ∧ Hid (Below wa.heap.size wa wr)) (fun i _ => n - (intOf i).toNat)
   case atStart => exact ⟨0, Nat.zero_le _, rfl, ZH fun j hj => absurd hj (by omega), ZH (ZR _ _)⟩
   case round =>
    obtain ⟨k, hkn, rfl, hno, hbw⟩ := hrel
    have s0 := ZJ hbw.out HSC.out.1
    have s1 := ZJ hbw.out HSC.out.2
    by_cases hlt : k < n
    ·have e1 : ((k : Int) < (n : Int)) = True := eq_true (by omega)
     have hc := qfeature_any (i := k) (HS.out.below hbw.out) (by rw [← HN.out.1]; exact hlt) (by rw [← HN.out.1]; omega)
     rw [← HN.out.1, ← HN.out.2] at hc
     have HC := ZH hc
     clear hc
     go_wp2_with fail
     refine HC.out.mono ?_
     rintro e w1 ⟨rfl, hb1⟩
     have HB1 := ZH (hbw.out.trans (hb1.mono hbw.out.size))
     clear hb1
     obtain ⟨E, hE⟩ : ∃ E, E = featErr fs k := ⟨_, rfl⟩
     rw [← hE]
     by_cases hz : E = 0
     ·have e2 : (E == 0) = true := by rw [hz]; rfl
      have HZ := ZH (show featErr fs k = 0 by rw [← hE]; exact hz)
      clear hE
      go_wp2_with fail
      refine ⟨⟨k + 1, hlt, by congr 1, ZH fun j hj => ?_, ZH HB1.out⟩, by simp [intOf]; omega⟩
      by_cases h : j < k
      ·exact hno.out j h
      ·obtain rfl : j = k := by omega
       exact HZ.out
     ·have e2 : (E == 0) = false := ZQ.2 hz
      have hfe : firstErr (featErr fs) n 0 = E := by rw [hE]; exact firstErr_at (Nat.zero_le _) (by omega) (fun j _ h => hno.out j h) (by rw [← hE]; exact hz)
      have HE := ZH (show check fs zs = E by rw [HERR.out, if_neg HL.out, hfe, if_neg hz])
      clear hE hfe
      go_wp2_with fail
      go_ret
      exact ⟨by rw [HE.out]; rfl, HAL.out.trans (HB1.out.mono HAL.out.size)⟩
    ·have e1 : ((k : Int) < (n : Int)) = False := eq_false (by omega)
     obtain rfl : k = n := by omega
     have HF0 := ZH (firstErr_none (e := featErr fs) (n := k) (k := 0) (fun j _ h => hno.out j (by omega)))
     go_wp2_with fail
     have HBW := ZH hbw.out
     clear s0 s1 hno hbw e1
     go_loopg [34] nz (fun gk i wq => ∃ m : Nat, m + gk = nz ∧ i = .int .i64 m ∧ Hid (∀ j, j < m → zoneErr fs zs j = 0) ∧ Hid (Below wa.heap.size wa wq))
     case atStart => exact ⟨0, by omega, rfl, ZH fun j hj => absurd hj (by omega), HBW⟩
     case round =>
      obtain ⟨m, hmn, rfl, hno, hbw⟩ := hrel
      by_cases hlt : m < nz
      ·have e1 : ((m : Int) < (nz : Int)) = True := eq_true (by omega)
       obtain ⟨z, hz⟩ : ∃ z, z = zs.getD m Zn.none := ⟨_, rfl⟩
       obtain ⟨fk, hfk⟩ : ∃ k, k = (fs.getD z.feature.toNat Feat.none).kind := ⟨_, rfl⟩
       have HZE := ZH (show zoneErr fs zs m = if z.kind < 1 ∨ 3 < z.kind then 12 else if z.feature < 0 ∨ (k : Int) ≤ z.feature then 10 else if (z.kind = 2 ∧ fk ≠ 2) ∨ (z.kind = 3 ∧ fk = 2) ∨ (z.bonus = true ∧ (z.kind ≠ 1 ∨ fk ≠ 2)) then 3 else if far z.lower = true ∨ far z.upper = true then 2 else if z.upper < z.lower then 8 else if (zs.take m).any (fun y => decide (y.kind = z.kind) && decide (y.feature = z.feature)) = true then 9 else 0 by unfold zoneErr; rw [hfk, HN.out.1, hz])
       obtain ⟨b, o, rfl, hlb, hcc⟩ := HS.out.zones.2.2 (by rw [← HN.out.2]; omega)
       have HX := hcc m (by rw [← HN.out.2]; exact hlt)
       rw [← hz] at HX
       have x0 := ZJ hbw.out HX.1
       have x1 := ZJ hbw.out HX.2.1
       have x2 := ZJ hbw.out HX.2.2.1
       have x3 := ZJ hbw.out HX.2.2.2.1
       have x4 := ZJ hbw.out HX.2.2.2.2
       have hi0 : (0 : Int) ≤ (m : Int) := by omega
       have hi1 : (m : Int) < (nz : Int) := by omega
       have HFK := ZH hfk
       have HZD := ZH hz
       have HLT := ZH hlt
       clear HX hcc hz hfk
       go_upto_region 13 with fail
       obtain ⟨wz, hwz⟩ : ∃ x, x = wr.alloc (.cells #[.int .i64 z.kind, .int .i64 z.feature, .int .i64 z.lower, .int .i64 z.upper, .bool z.bonus] 30) := ⟨_, rfl⟩
       obtain ⟨bf, hbf⟩ : ∃ b, b = wr.heap.size := ⟨_, rfl⟩
       rw [← hwz, ← hbf]
       have hl1 : Below wr.heap.size wr wz := by rw [hwz]; exact (ZR _ wr).alloc (Nat.le_refl _) _
       have kz : wz.heap[bf]? = some (.cells #[.int .i64 z.kind, .int .i64 z.feature, .int .i64 z.lower, .int .i64 z.upper, .bool z.bonus] 30 (0, 0)) := by rw [hwz, hbf]; exact ZW wr _
       have c0 := ZI kz 0
       have c1 := ZI kz 1
       have c2 := ZI kz 2
       have c3 := ZI kz 3
       have c4 := ZI kz 4
       simp at c0 c1 c2 c3 c4
       have HC := ZH (show ZoneAt wz bf 0 z from ⟨c0, c1, c2, c3, c4⟩)
       have HZB := ZH (hbw.out.trans (hl1.mono hbw.out.size))
       have HB0 := ZH (ZR wz.heap.size wz)
       have HSZ := ZH (ZN (ZJ HZB.out HSC.out.1) (ZJ HZB.out HSC.out.2))
       clear x0 x1 x2 x3 x4 hwz hbf hl1 kz c0 c1 c2 c3 c4 hbw e1
       have hx := HB0.out
       have x0 := ZJ hx HC.out.1
       have x1 := ZJ hx HC.out.2.1
       have x2 := ZJ hx HC.out.2.2.1
       have x3 := ZJ hx HC.out.2.2.2.1
       have x4 := ZJ hx HC.out.2.2.2.2
       have s0 := ZJ hx HSZ.out.1
       have s1 := ZJ hx HSZ.out.2
       simp only [Nat.zero_add] at x1 x2 x3 x4
       clear hx
       go_cut [46, 34] from 34 to 115 (fun c x wx => c = .bool (decide (z.kind < 1 ∨ 3 < z.kind)) ∧ x = .int .i64 (m : Int) ∧ Below wz.heap.size wz wx)
       case first =>
        by_cases h1 : z.kind < 1
        ·have e1 : (z.kind < 1) = True := eq_true h1
         go_wp2_with fail
         go_meet
         exact ⟨congrArg Value.bool (by rw [ZT (p := z.kind < 1 ∨ 3 < z.kind) (.inl h1)]), rfl, HB0.out⟩
        ·have e1 : (z.kind < 1) = False := eq_false h1
         by_cases h2 : 3 < z.kind
         ·have e2 : (3 < z.kind) = True := eq_true h2
          go_wp2_with fail
          go_meet
          exact ⟨congrArg Value.bool (by rw [ZT (p := z.kind < 1 ∨ 3 < z.kind) (.inr h2)]), rfl, HB0.out⟩
         ·have e2 : (3 < z.kind) = False := eq_false h2
          go_wp2_with fail
          go_meet
          exact ⟨congrArg Value.bool (by rw [ZU (p := z.kind < 1 ∨ 3 < z.kind) (by omega)]), rfl, HB0.out⟩
       case rest =>
        obtain ⟨rfl, rfl, hbx⟩ := hcut
        have HB1 := ZH hbx
        clear hbx
        by_cases hX : z.kind < 1 ∨ 3 < z.kind
        ·have hze : zoneErr fs zs m = 12 := by rw [HZE.out, if_pos hX]
         have hfe : firstErr (zoneErr fs zs) nz 0 = 12 := by rw [← hze]; exact firstErr_at (Nat.zero_le _) (by have := HLT.out; omega) (fun j _ h => hno.out j h) (by rw [hze]; decide)
         have HE := ZH (show check fs zs = 12 by rw [HERR.out, if_neg HL.out, if_pos HF0.out, hfe])
         rw [ZT hX]
         clear hX hze hfe
         go_wp2_with fail
         go_ret
         exact ⟨by rw [HE.out]; rfl, HAL.out.trans ((HZB.out.trans (HB1.out.mono HZB.out.size)).mono HAL.out.size)⟩
        ·rw [ZU hX]
         have HN1 := ZH hX
         clear hX
         go_upto_region 15 with fail
         have hx := HB1.out
         have x0 := ZJ hx HC.out.1
         have x1 := ZJ hx HC.out.2.1
         have x2 := ZJ hx HC.out.2.2.1
         have x3 := ZJ hx HC.out.2.2.2.1
         have x4 := ZJ hx HC.out.2.2.2.2
         have s0 := ZJ hx HSZ.out.1
         have s1 := ZJ hx HSZ.out.2
         simp only [Nat.zero_add] at x1 x2 x3 x4
         clear hx
         go_cut [57, 34] from 34 to 115 (fun c x wx => c = .bool (decide (z.feature < 0 ∨ (k : Int) ≤ z.feature)) ∧ x = .int .i64 (m : Int) ∧ Below wz.heap.size wz wx)
         case first =>
          by_cases h1 : z.feature < 0
          ·have e1 : (z.feature < 0) = True := eq_true h1
           go_wp2_with fail
           go_meet
           exact ⟨congrArg Value.bool (by rw [ZT (p := z.feature < 0 ∨ (k : Int) ≤ z.feature) (.inl h1)]), rfl, HB1.out⟩
          ·have e1 : (z.feature < 0) = False := eq_false h1
           by_cases h2 : (k : Int) ≤ z.feature
           ·have e2 : ((k : Int) ≤ z.feature) = True := eq_true h2
            go_wp2_with fail
            go_meet
            exact ⟨congrArg Value.bool (by rw [ZT (p := z.feature < 0 ∨ (k : Int) ≤ z.feature) (.inr h2)]), rfl, HB1.out⟩
           ·have e2 : ((k : Int) ≤ z.feature) = False := eq_false h2
            go_wp2_with fail
            go_meet
            exact ⟨congrArg Value.bool (by rw [ZU (p := z.feature < 0 ∨ (k : Int) ≤ z.feature) (by omega)]), rfl, HB1.out⟩
         case rest =>
          obtain ⟨rfl, rfl, hbx⟩ := hcut
          have HB2 := ZH hbx
          clear hbx
          by_cases hX : z.feature < 0 ∨ (k : Int) ≤ z.feature
          ·have hze : zoneErr fs zs m = 10 := by rw [HZE.out, if_neg HN1.out, if_pos hX]
           have hfe : firstErr (zoneErr fs zs) nz 0 = 10 := by rw [← hze]; exact firstErr_at (Nat.zero_le _) (by have := HLT.out; omega) (fun j _ h => hno.out j h) (by rw [hze]; decide)
           have HE := ZH (show check fs zs = 10 by rw [HERR.out, if_neg HL.out, if_pos HF0.out, hfe])
           rw [ZT hX]
           clear hX hze hfe
           go_wp2_with fail
           go_ret
           exact ⟨by rw [HE.out]; rfl, HAL.out.trans ((HZB.out.trans (HB2.out.mono HZB.out.size)).mono HAL.out.size)⟩
          ·rw [ZU hX]
           have HN2 := ZH hX
           clear hX
           obtain ⟨d, hd⟩ : ∃ d : Nat, d = z.feature.toNat := ⟨_, rfl⟩
           have hdi : z.feature = (d : Int) := by have := HN2.out; omega
           have hdk : d < k := by have := HN2.out; omega
           obtain ⟨bg, og, rfl, -, hcg⟩ := HS.out.feats.2.2 (by rw [← HN.out.1]; omega)
           have HX := hcg d (by rw [← HN.out.1]; exact hdk)
           have y1 := ZJ (HZB.out.trans (HB2.out.mono HZB.out.size)) HX.2.1
           rw [show (fs.getD d Feat.none).kind = fk by rw [HFK.out, hd]] at y1
           have hd0 : (0 : Int) ≤ (d : Int) := by omega
           have hd1 : (d : Int) < (k : Int) := by omega
           clear HX hcg
           go_upto_region 17 with fail
           have hx := HB2.out
           have x0 := ZJ hx HC.out.1
           have x1 := ZJ hx HC.out.2.1
           have x2 := ZJ hx HC.out.2.2.1
           have x3 := ZJ hx HC.out.2.2.2.1
           have x4 := ZJ hx HC.out.2.2.2.2
           have s0 := ZJ hx HSZ.out.1
           have s1 := ZJ hx HSZ.out.2
           simp only [Nat.zero_add] at x1 x2 x3 x4
           rw [hdi] at x1
           clear hd hdi
           obtain ⟨sl, hsl⟩ : ∃ b, decide (fk = 2) = b := ⟨_, rfl⟩
           have HSL := ZH hsl
           clear hsl
           go_cut [7, 34] from 34 to 115 (fun c x wx => c = .bool sl ∧ x = .int .i64 (m : Int) ∧ wx = wc)
           case first =>
            go_wp2_with fail
            go_meet
            exact ⟨congrArg Value.bool (by rw [← HSL.out, beq_dec]), rfl, rfl⟩
           case rest =>
            obtain ⟨rfl, rfl, rfl⟩ := hcut
            clear x0 x1 x2 x3 x4 s0 s1 y1 hx
            go_upto_region 18 with fail
            have hx := HB2.out
            have x0 := ZJ hx HC.out.1
            have x1 := ZJ hx HC.out.2.1
            have x2 := ZJ hx HC.out.2.2.1
            have x3 := ZJ hx HC.out.2.2.2.1
            have x4 := ZJ hx HC.out.2.2.2.2
            have s0 := ZJ hx HSZ.out.1
            have s1 := ZJ hx HSZ.out.2
            simp only [Nat.zero_add] at x1 x2 x3 x4
            clear hx
            go_cut [66, 34] from 34 to 115 (fun c x wx => c = .bool (decide (z.kind = 2 ∧ fk ≠ 2)) ∧ x = .int .i64 (m : Int) ∧ Below wz.heap.size wz wx)
            case first =>
             by_cases h1 : z.kind = 2
             ·have e1 : (z.kind == 2) = true := by rw [h1]; rfl
              have K1 := ZH h1
              clear h1
              cases sl with
              | true =>
               have HF := ZH (of_decide_eq_true HSL.out)
               go_wp2_with fail
               go_meet
               exact ⟨congrArg Value.bool (by first | (rw [ZU (p := z.kind = 2 ∧ fk ≠ 2) (by simp [K1.out, HF.out])]; done) | (rw [ZU (p := z.kind = 2 ∧ fk ≠ 2) (by simp [K1.out, HF.out])]; simp [K1.out])), rfl, HB2.out⟩
              | false =>
               have HF := ZH (of_decide_eq_false HSL.out)
               go_wp2_with fail
               go_meet
               exact ⟨congrArg Value.bool (by first | (rw [ZT (p := z.kind = 2 ∧ fk ≠ 2) (by simp [K1.out, HF.out])]; done) | (rw [ZT (p := z.kind = 2 ∧ fk ≠ 2) (by simp [K1.out, HF.out])]; simp [K1.out])), rfl, HB2.out⟩
             ·have e1 : (z.kind == 2) = false := ZQ.2 h1
              have K1 := ZH h1
              clear h1
              go_wp2_with fail
              go_meet
              exact ⟨congrArg Value.bool (by rw [ZU (p := z.kind = 2 ∧ fk ≠ 2) (fun h => K1.out h.1)]), rfl, HB2.out⟩
            case rest =>
             obtain ⟨rfl, rfl, hbx⟩ := hcut
             have HB3 := ZH hbx
             clear hbx
             by_cases hX : z.kind = 2 ∧ fk ≠ 2
             ·have hze : zoneErr fs zs m = 3 := by rw [HZE.out, if_neg HN1.out, if_neg HN2.out, if_pos (.inl hX)]
              have hfe : firstErr (zoneErr fs zs) nz 0 = 3 := by rw [← hze]; exact firstErr_at (Nat.zero_le _) (by have := HLT.out; omega) (fun j _ h => hno.out j h) (by rw [hze]; decide)
              have HE := ZH (show check fs zs = 3 by rw [HERR.out, if_neg HL.out, if_pos HF0.out, hfe])
              rw [ZT hX]
              clear hX hze hfe
              go_wp2_with fail
              go_ret
              exact ⟨by rw [HE.out]; rfl, HAL.out.trans ((HZB.out.trans (HB3.out.mono HZB.out.size)).mono HAL.out.size)⟩
             ·rw [ZU hX]
              have HN3 := ZH hX
              clear hX
              go_upto_region 19 with fail
              have hx := HB3.out
              have x0 := ZJ hx HC.out.1
              have x1 := ZJ hx HC.out.2.1
              have x2 := ZJ hx HC.out.2.2.1
              have x3 := ZJ hx HC.out.2.2.2.1
              have x4 := ZJ hx HC.out.2.2.2.2
              have s0 := ZJ hx HSZ.out.1
              have s1 := ZJ hx HSZ.out.2
              simp only [Nat.zero_add] at x1 x2 x3 x4
              clear hx
              go_cut [66, 34] from 34 to 115 (fun c x wx => c = .bool (decide (z.kind = 3 ∧ fk = 2)) ∧ x = .int .i64 (m : Int) ∧ Below wz.heap.size wz wx)
              case first =>
               by_cases h1 : z.kind = 3
               ·have e1 : (z.kind == 3) = true := by rw [h1]; rfl
                have K1 := ZH h1
                clear h1
                cases sl with
                | true =>
                 have HF := ZH (of_decide_eq_true HSL.out)
                 go_wp2_with fail
                 go_meet
                 exact ⟨congrArg Value.bool (by first | (rw [ZT (p := z.kind = 3 ∧ fk = 2) (by simp [K1.out, HF.out])]; done) | (rw [ZT (p := z.kind = 3 ∧ fk = 2) (by simp [K1.out, HF.out])]; simp [K1.out])), rfl, HB3.out⟩
                | false =>
                 have HF := ZH (of_decide_eq_false HSL.out)
                 go_wp2_with fail
                 go_meet
                 exact ⟨congrArg Value.bool (by first | (rw [ZU (p := z.kind = 3 ∧ fk = 2) (by simp [K1.out, HF.out])]; done) | (rw [ZU (p := z.kind = 3 ∧ fk = 2) (by simp [K1.out, HF.out])]; simp [K1.out])), rfl, HB3.out⟩
               ·have e1 : (z.kind == 3) = false := ZQ.2 h1
                have K1 := ZH h1
                clear h1
                go_wp2_with fail
                go_meet
                exact ⟨congrArg Value.bool (by rw [ZU (p := z.kind = 3 ∧ fk = 2) (fun h => K1.out h.1)]), rfl, HB3.out⟩
              case rest =>
               obtain ⟨rfl, rfl, hbx⟩ := hcut
               have HB4 := ZH hbx
               clear hbx
               by_cases hX : z.kind = 3 ∧ fk = 2
               ·have hze : zoneErr fs zs m = 3 := by rw [HZE.out, if_neg HN1.out, if_neg HN2.out, if_pos (.inr (.inl hX))]
                have hfe : firstErr (zoneErr fs zs) nz 0 = 3 := by rw [← hze]; exact firstErr_at (Nat.zero_le _) (by have := HLT.out; omega) (fun j _ h => hno.out j h) (by rw [hze]; decide)
                have HE := ZH (show check fs zs = 3 by rw [HERR.out, if_neg HL.out, if_pos HF0.out, hfe])
                rw [ZT hX]
                clear hX hze hfe
                go_wp2_with fail
                go_ret
                exact ⟨by rw [HE.out]; rfl, HAL.out.trans ((HZB.out.trans (HB4.out.mono HZB.out.size)).mono HAL.out.size)⟩
               ·rw [ZU hX]
                have HN4 := ZH hX
                clear hX
                go_upto_region 20 with fail
                have hx := HB4.out
                have x0 := ZJ hx HC.out.1
                have x1 := ZJ hx HC.out.2.1
                have x2 := ZJ hx HC.out.2.2.1
                have x3 := ZJ hx HC.out.2.2.2.1
                have x4 := ZJ hx HC.out.2.2.2.2
                have s0 := ZJ hx HSZ.out.1
                have s1 := ZJ hx HSZ.out.2
                simp only [Nat.zero_add] at x1 x2 x3 x4
                clear hx
                go_cut [66, 34] from 34 to 115 (fun c x wx => c = .bool (decide (z.bonus = true ∧ (z.kind ≠ 1 ∨ fk ≠ 2))) ∧ x = .int .i64 (m : Int) ∧ Below wz.heap.size wz wx)
                case first =>
                 cases hb : z.bonus with
                 | false =>
                  rw [hb] at x4
                  go_wp2_with fail
                  go_meet
                  exact ⟨congrArg Value.bool (by rw [ZU (p := z.bonus = true ∧ (z.kind ≠ 1 ∨ fk ≠ 2)) (by simp [hb])]), rfl, HB4.out⟩
                 | true =>
                  rw [hb] at x4
                  by_cases h1 : z.kind = 1
                  ·have e1 : (z.kind != 1) = false := by rw [h1]; rfl
                   have K1 := ZH h1
                   clear h1
                   cases sl with
                   | true =>
                    have HF := ZH (of_decide_eq_true HSL.out)
                    go_wp2_with fail
                    go_meet
                    exact ⟨congrArg Value.bool (by first | (rw [ZU (p := z.bonus = true ∧ (z.kind ≠ 1 ∨ fk ≠ 2)) (by simp [hb, K1.out, HF.out])]; done) | (rw [ZU (p := z.bonus = true ∧ (z.kind ≠ 1 ∨ fk ≠ 2)) (by simp [hb, K1.out, HF.out])]; simp [K1.out])), rfl, HB4.out⟩
                   | false =>
                    have HF := ZH (of_decide_eq_false HSL.out)
                    go_wp2_with fail
                    go_meet
                    exact ⟨congrArg Value.bool (by first | (rw [ZT (p := z.bonus = true ∧ (z.kind ≠ 1 ∨ fk ≠ 2)) (by simp [hb, K1.out, HF.out])]; done) | (rw [ZT (p := z.bonus = true ∧ (z.kind ≠ 1 ∨ fk ≠ 2)) (by simp [hb, K1.out, HF.out])]; simp [K1.out])), rfl, HB4.out⟩
                  ·have e1 : (z.kind != 1) = true := by unfold bne; rw [ZQ.2 h1]; rfl
                   have K1 := ZH h1
                   clear h1
                   go_wp2_with fail
                   go_meet
                   exact ⟨congrArg Value.bool (by first | (rw [ZT (p := z.bonus = true ∧ (z.kind ≠ 1 ∨ fk ≠ 2)) (⟨hb, .inl K1.out⟩)]; done) | (rw [ZT (p := z.bonus = true ∧ (z.kind ≠ 1 ∨ fk ≠ 2)) (⟨hb, .inl K1.out⟩)]; simp [K1.out])), rfl, HB4.out⟩
                case rest =>
                 obtain ⟨rfl, rfl, hbx⟩ := hcut
                 have HB5 := ZH hbx
                 clear hbx
                 by_cases hX : z.bonus = true ∧ (z.kind ≠ 1 ∨ fk ≠ 2)
                 ·have hze : zoneErr fs zs m = 3 := by rw [HZE.out, if_neg HN1.out, if_neg HN2.out, if_pos (.inr (.inr hX))]
                  have hfe : firstErr (zoneErr fs zs) nz 0 = 3 := by rw [← hze]; exact firstErr_at (Nat.zero_le _) (by have := HLT.out; omega) (fun j _ h => hno.out j h) (by rw [hze]; decide)
                  have HE := ZH (show check fs zs = 3 by rw [HERR.out, if_neg HL.out, if_pos HF0.out, hfe])
                  rw [ZT hX]
                  clear hX hze hfe
                  go_wp2_with fail
                  go_ret
                  exact ⟨by rw [HE.out]; rfl, HAL.out.trans ((HZB.out.trans (HB5.out.mono HZB.out.size)).mono HAL.out.size)⟩
                 ·rw [ZU hX]
                  have HN5 := ZH hX
                  clear hX
                  have HNF := ZH (show ¬ ((z.kind = 2 ∧ fk ≠ 2) ∨ (z.kind = 3 ∧ fk = 2) ∨ (z.bonus = true ∧ (z.kind ≠ 1 ∨ fk ≠ 2))) from fun h => h.elim HN3.out (fun h => h.elim HN4.out HN5.out))
                  go_upto_region 22 with fail
                  have hx := HB5.out
                  have x0 := ZJ hx HC.out.1
                  have x1 := ZJ hx HC.out.2.1
                  have x2 := ZJ hx HC.out.2.2.1
                  have x3 := ZJ hx HC.out.2.2.2.1
                  have x4 := ZJ hx HC.out.2.2.2.2
                  have s0 := ZJ hx HSZ.out.1
                  have s1 := ZJ hx HSZ.out.2
                  simp only [Nat.zero_add] at x1 x2 x3 x4
                  clear hx
                  go_cut [91, 34] from 34 to 115 (fun c x wx => c = .bool (decide (far z.lower = true ∨ far z.upper = true)) ∧ x = .int .i64 (m : Int) ∧ Below wz.heap.size wz wx)
                  case first =>
                   have HP := ZH (qfar_any z.lower wc)
                   cases hp : far z.lower with
                   | true =>
                    rw [hp] at HP
                    go_wp2_with fail
                    refine HP.out.mono ?_
                    rintro e w1 ⟨rfl, hb1⟩
                    have HB1' := ZH (HB5.out.trans (hb1.mono HB5.out.size))
                    clear hb1
                    go_wp2_with fail
                    go_meet
                    exact ⟨congrArg Value.bool (by rw [ZT (p := far z.lower = true ∨ far z.upper = true) (.inl hp)]), rfl, HB1'.out⟩
                   | false =>
                    rw [hp] at HP
                    go_wp2_with fail
                    refine HP.out.mono ?_
                    rintro e w1 ⟨rfl, hb1⟩
                    have x3 := ZJ hb1 x3
                    have HB1' := ZH (HB5.out.trans (hb1.mono HB5.out.size))
                    clear hb1
                    have HP2 := ZH (qfar_any z.upper w1)
                    go_wp2_with fail
                    refine HP2.out.mono ?_
                    rintro e w2 ⟨rfl, hb1⟩
                    have HB2' := ZH (HB1'.out.trans (hb1.mono HB1'.out.size))
                    clear hb1
                    cases hp2 : far z.upper with
                    | true =>
                     go_wp2_with fail
                     go_meet
                     exact ⟨congrArg Value.bool (by rw [ZT (p := far z.lower = true ∨ far z.upper = true) (.inr hp2)]), rfl, HB2'.out⟩
                    | false =>
                     go_wp2_with fail
                     go_meet
                     exact ⟨congrArg Value.bool (by rw [ZU (p := far z.lower = true ∨ far z.upper = true) (by rw [hp, hp2]; simp)]), rfl, HB2'.out⟩
                  case rest =>
                   obtain ⟨rfl, rfl, hbx⟩ := hcut
                   have HB6 := ZH hbx
                   clear hbx
                   by_cases hX : far z.lower = true ∨ far z.upper = true
                   ·have hze : zoneErr fs zs m = 2 := by rw [HZE.out, if_neg HN1.out, if_neg HN2.out, if_neg HNF.out, if_pos hX]
                    have hfe : firstErr (zoneErr fs zs) nz 0 = 2 := by rw [← hze]; exact firstErr_at (Nat.zero_le _) (by have := HLT.out; omega) (fun j _ h => hno.out j h) (by rw [hze]; decide)
                    have HE := ZH (show check fs zs = 2 by rw [HERR.out, if_neg HL.out, if_pos HF0.out, hfe])
                    rw [ZT hX]
                    clear hX hze hfe
                    go_wp2_with fail
                    go_ret
                    exact ⟨by rw [HE.out]; rfl, HAL.out.trans ((HZB.out.trans (HB6.out.mono HZB.out.size)).mono HAL.out.size)⟩
                   ·rw [ZU hX]
                    have HN6 := ZH hX
                    clear hX
                    go_upto_region 24 with fail
                    have hx := HB6.out
                    have x0 := ZJ hx HC.out.1
                    have x1 := ZJ hx HC.out.2.1
                    have x2 := ZJ hx HC.out.2.2.1
                    have x3 := ZJ hx HC.out.2.2.2.1
                    have x4 := ZJ hx HC.out.2.2.2.2
                    have s0 := ZJ hx HSZ.out.1
                    have s1 := ZJ hx HSZ.out.2
                    simp only [Nat.zero_add] at x1 x2 x3 x4
                    clear hx
                    go_cut [100, 34] from 34 to 115 (fun c x wx => c = .bool (decide (z.upper < z.lower)) ∧ x = .int .i64 (m : Int) ∧ Below wz.heap.size wz wx)
                    case first =>
                     go_wp2_with fail
                     go_meet
                     exact ⟨rfl, rfl, HB6.out⟩
                    case rest =>
                     obtain ⟨rfl, rfl, hbx⟩ := hcut
                     have HB7 := ZH hbx
                     clear hbx
                     by_cases hX : z.upper < z.lower
                     ·have hze : zoneErr fs zs m = 8 := by rw [HZE.out, if_neg HN1.out, if_neg HN2.out, if_neg HNF.out, if_neg HN6.out, if_pos hX]
                      have hfe : firstErr (zoneErr fs zs) nz 0 = 8 := by rw [← hze]; exact firstErr_at (Nat.zero_le _) (by have := HLT.out; omega) (fun j _ h => hno.out j h) (by rw [hze]; decide)
                      have HE := ZH (show check fs zs = 8 by rw [HERR.out, if_neg HL.out, if_pos HF0.out, hfe])
                      rw [ZT hX]
                      clear hX hze hfe
                      go_wp2_with fail
                      go_ret
                      exact ⟨by rw [HE.out]; rfl, HAL.out.trans ((HZB.out.trans (HB7.out.mono HZB.out.size)).mono HAL.out.size)⟩
                     ·rw [ZU hX]
                      have HN7 := ZH hX
                      clear hX
                      go_upto_region 26 with fail
                      have hx := HB7.out
                      have x0 := ZJ hx HC.out.1
                      have x1 := ZJ hx HC.out.2.1
                      have x2 := ZJ hx HC.out.2.2.1
                      have x3 := ZJ hx HC.out.2.2.2.1
                      have x4 := ZJ hx HC.out.2.2.2.2
                      have s0 := ZJ hx HSZ.out.1
                      have s1 := ZJ hx HSZ.out.2
                      simp only [Nat.zero_add] at x1 x2 x3 x4
                      clear hx
                      go_cut [106, 34] from 34 to 115 (fun c x wx => c = .bool (decide (zoneAt zs z.feature z.kind ≠ (m : Int))) ∧ x = .int .i64 (m : Int) ∧ Below wz.heap.size wz wx)
                      case first =>
                       have hq := qzone_any (HS.out.below (HZB.out.trans (HB7.out.mono HZB.out.size))) (by rw [← HN.out.2]; omega) z.feature z.kind
                       rw [← HN.out.1, ← HN.out.2] at hq
                       have HQ := ZH hq
                       clear hq
                       go_wp2_with fail
                       refine HQ.out.mono ?_
                       rintro e w2 ⟨rfl, hb2⟩
                       have HB8' := ZH (HB7.out.trans (hb2.mono HB7.out.size))
                       clear hb2
                       go_wp2_with fail
                       go_meet
                       exact ⟨congrArg Value.bool bne_dec, rfl, HB8'.out⟩
                      case rest =>
                       obtain ⟨rfl, rfl, hbx⟩ := hcut
                       have HB8 := ZH hbx
                       clear hbx
                       by_cases hX : zoneAt zs z.feature z.kind ≠ (m : Int)
                       ·have hze : zoneErr fs zs m = 9 := by rw [HZE.out, if_neg HN1.out, if_neg HN2.out, if_neg HNF.out, if_neg HN6.out, if_neg HN7.out, if_pos ((zone_dup (by rw [← HN.out.2]; exact HLT.out) HZD.out).1 hX)]
                        have hfe : firstErr (zoneErr fs zs) nz 0 = 9 := by rw [← hze]; exact firstErr_at (Nat.zero_le _) (by have := HLT.out; omega) (fun j _ h => hno.out j h) (by rw [hze]; decide)
                        have HE := ZH (show check fs zs = 9 by rw [HERR.out, if_neg HL.out, if_pos HF0.out, hfe])
                        rw [ZT hX]
                        clear hX hze hfe
                        go_wp2_with fail
                        go_ret
                        exact ⟨by rw [HE.out]; rfl, HAL.out.trans ((HZB.out.trans (HB8.out.mono HZB.out.size)).mono HAL.out.size)⟩
                       ·rw [ZU hX]
                        have HN8 := ZH hX
                        clear hX
                        have hze : zoneErr fs zs m = 0 := by rw [HZE.out, if_neg HN1.out, if_neg HN2.out, if_neg HNF.out, if_neg HN6.out, if_neg HN7.out, if_neg (fun h => HN8.out ((zone_dup (by rw [← HN.out.2]; exact HLT.out) HZD.out).2 h))]
                        have HZ0 := ZH hze
                        clear hze
                        go_wp2_with fail
                        go_roundg (nz - (m + 1))
                        case measure => have := HLT.out; omega
                        case rel =>
                         refine ⟨m + 1, by have := HLT.out; omega, by congr 1, ZH fun j hj => ?_, ZH (HZB.out.trans (HB8.out.mono HZB.out.size))⟩
                         by_cases h : j < m
                         ·exact hno.out j h
                         ·obtain rfl : j = m := by omega
                          exact HZ0.out
      ·have e1 : ((m : Int) < (nz : Int)) = False := eq_false (by omega)
       obtain rfl : m = nz := by omega
       have HF1 := ZH (firstErr_none (e := zoneErr fs zs) (n := m) (k := 0) (fun j _ h => hno.out j (by omega)))
       have HE := ZH (show check fs zs = 0 by rw [HERR.out, if_neg HL.out, if_pos HF0.out, HF1.out])
       go_wp2_with fail
       go_ret
       exact ⟨by rw [HE.out]; rfl, HAL.out.trans (hbw.out.mono HAL.out.size)⟩
end Go.Proofs.YtgofihilkobenaaGreatDoor
/- The document's model: few, fine. -/
set_option maxRecDepth 100000
namespace Go.Proofs.YtgofihilkobenaaGreatDoor
open Go.RowKit Go.Num Go.Flow Go.Dtm
set_option maxHeartbeats 8000000

theorem enters_few1 (args : Array Value) (w : World) : (callFunc 96 args).run Tryz.prog w = .ok (.enter 96 args) w := by
 exact enters_of Tryz.func96 (by kernel_rfl) rfl args w
def longName (f : Feat) : Bool := decide (40 < f.name.size)
theorem few1_any {W : World} (g : Feat) : Calls Tryz.prog 96 (#[featV g] ++ #[]) W fun e w' => e = .returned (.bool (longName g)) ∧ Below W.heap.size W w' := by
 unfold featV
 have HAL := ZH (show Below W.heap.size W (W.alloc (.cells #[.string g.name, .int .i64 g.kind, .int .i64 g.axis, .int .i64 g.datum, .int .i64 g.place, .int .i64 g.wide] 28)) from (ZR _ W).alloc (Nat.le_refl _) _)
 show Calls Tryz.prog 96 #[_] W _
 by_cases h : 40 < g.name.size
 ·have e1 : ((40 : Int) < (g.name.size : Int)) = True := eq_true (by omega)
  have HE := ZH (show longName g = true from ZT h)
  clear h
  go_enter Tryz.func96, Tryz.ntmps96
  go_wp2_with fail
  go_ret
  exact ⟨by rw [HE.out]; rfl, HAL.out⟩
 ·have e1 : ((40 : Int) < (g.name.size : Int)) = False := eq_false (by omega)
  have HE := ZH (show longName g = false from ZU h)
  clear h
  go_enter Tryz.func96, Tryz.ntmps96
  go_wp2_with fail
  go_ret
  exact ⟨by rw [HE.out]; rfl, HAL.out⟩
/-- Whether a scheme is small, or too large by one. -/
def fewOf (fs : List Feat) (zs : List Zn) : Bool :=
 if 17 < fs.length ∨ 33 < zs.length then false
 else if fs.any longName = true then false
 else decide ((fs.length ≤ 6 ∧ zs.length ≤ 8) ∨ check fs zs = 6)
theorem qfew_any {w : World} {af : Option Addr} {cf : Nat} {az : Option Addr} {cz : Nat} {fs : List Feat} {zs : List Zn} (h : SchemeIn w af cf az cz fs zs) :
  Calls Tryz.prog 50 #[.agg #[.slice af fs.length cf, .slice az zs.length cz]] w fun e w' => e = .returned (.bool (fewOf fs zs)) ∧ Below w.heap.size w w' := by
 obtain ⟨n, hn⟩ : ∃ n, n = fs.length := ⟨_, rfl⟩
 obtain ⟨nz, hnz⟩ : ∃ n, n = zs.length := ⟨_, rfl⟩
 obtain ⟨E, hE⟩ : ∃ E, E = check fs zs := ⟨_, rfl⟩
 have HF := ZH (show fewOf fs zs = if 17 < n ∨ 33 < nz then false else if fs.any longName = true then false else decide ((n ≤ 6 ∧ nz ≤ 8) ∨ E = 6) by rw [hn, hnz, hE]; rfl)
 obtain ⟨wa, hwa⟩ : ∃ wa, wa = w.alloc (.cells #[.slice af n cf, .slice az nz cz] 26) := ⟨_, rfl⟩
 obtain ⟨ba, hba⟩ : ∃ b, b = w.heap.size := ⟨_, rfl⟩
 have hal : Below w.heap.size w wa := by rw [hwa]; exact (ZR _ w).alloc (Nat.le_refl _) _
 have k0 : wa.heap[ba]? = some (.cells #[.slice af n cf, .slice az nz cz] 26 (0, 0)) := by rw [hwa, hba]; exact ZW w _
 have s0 := ZI k0 0
 have s1 := ZI k0 1
 simp at s0 s1
 have HS := ZH (h.below hal)
 have HAL := ZH hal
 have HSC := ZH (ZN s0 s1)
 have HN := ZH (ZN hn (ZN hnz hE))
 have HW := ZH (ZN hwa hba)
 rw [← hn, ← hnz]
 clear hal hwa hba k0 hn hnz h hE
 by_cases h1 : 17 < n
 ·have e1 : ((17 : Int) < (n : Int)) = True := eq_true (by omega)
  have HE := ZH (show fewOf fs zs = false by rw [HF.out, if_pos (.inl h1)])
  clear h1
  go_enter Tryz.func50, Tryz.ntmps50
  go_upto_region 1 with fail
  rw [← HW.out.1, ← HW.out.2]
  go_wp2_with fail
  go_ret
  exact ⟨by rw [HE.out]; rfl, HAL.out⟩
 ·have e1 : ((17 : Int) < (n : Int)) = False := eq_false (by omega)
  by_cases h2 : 33 < nz
  ·have e2 : ((33 : Int) < (nz : Int)) = True := eq_true (by omega)
   have HE := ZH (show fewOf fs zs = false by rw [HF.out, if_pos (.inr h2)])
   clear h1 h2
   go_enter Tryz.func50, Tryz.ntmps50
   go_upto_region 1 with fail
   rw [← HW.out.1, ← HW.out.2]
   go_wp2_with fail
   go_ret
   exact ⟨by rw [HE.out]; rfl, HAL.out⟩
  ·have e2 : ((33 : Int) < (nz : Int)) = False := eq_false (by omega)
   have hc := sContainsF_any (w := wa) HS.out.feats (by rw [← HN.out.1]; omega) (k := 96) (caps := #[]) enters_few1 longName (fun W j _ _ => few1_any _)
   rw [← HN.out.1] at hc
   have HC := ZH hc
   have HF2 := ZH (show fewOf fs zs = if fs.any longName = true then false else decide ((n ≤ 6 ∧ nz ≤ 8) ∨ E = 6) by rw [HF.out, if_neg (by omega)])
   clear hc h1 h2
   go_enter Tryz.func50, Tryz.ntmps50
   go_upto_region 1 with fail
   rw [← HW.out.1, ← HW.out.2]
   go_wp2_with fail
   refine HC.out.mono ?_
   rintro e w1 ⟨rfl, hb1⟩
   have s0 := ZJ hb1 HSC.out.1
   have s1 := ZJ hb1 HSC.out.2
   have HB1 := ZH hb1
   clear hb1
   cases ha : fs.any longName with
   | true =>
    rw [if_pos ha] at HF2
    go_wp2_with fail
    go_ret
    exact ⟨by rw [HF2.out]; rfl, HAL.out.trans (HB1.out.mono HAL.out.size)⟩
   | false =>
    rw [if_neg (by rw [ha]; simp)] at HF2
    have hk := qcheck_any (HS.out.below HB1.out)
    rw [← HN.out.1, ← HN.out.2.1, ← HN.out.2.2] at hk
    have HK := ZH hk
    clear hk
    by_cases h3 : n ≤ 6 ∧ nz ≤ 8
    ·have e3 : ((n : Int) ≤ 6) = True := eq_true (by omega)
     have e4 : ((nz : Int) ≤ 8) = True := eq_true (by omega)
     have HE := ZH (show fewOf fs zs = true by rw [HF2.out]; exact ZT (.inl h3))
     clear h3
     go_wp2_with fail
     go_ret
     exact ⟨by rw [HE.out]; rfl, HAL.out.trans (HB1.out.mono HAL.out.size)⟩
    ·have HE := ZH (show fewOf fs zs = decide (E = 6) by rw [HF2.out]; exact decide_eq_decide.2 ⟨fun h => h.resolve_left h3, .inr⟩)
     by_cases h4 : n ≤ 6
     ·have e3 : ((n : Int) ≤ 6) = True := eq_true (by omega)
      have e4 : ((nz : Int) ≤ 8) = False := eq_false (by omega)
      clear h3 h4
      go_wp2_with fail
      refine HK.out.mono ?_
      rintro e w2 ⟨rfl, hb2⟩
      have HB2 := ZH (HB1.out.trans (hb2.mono HB1.out.size))
      clear hb2
      go_wp2_with fail
      go_ret
      exact ⟨by rw [HE.out, ← beq_dec]; rfl, HAL.out.trans (HB2.out.mono HAL.out.size)⟩
     ·have e3 : ((n : Int) ≤ 6) = False := eq_false (by omega)
      clear h3 h4
      go_wp2_with fail
      refine HK.out.mono ?_
      rintro e w2 ⟨rfl, hb2⟩
      have HB2 := ZH (HB1.out.trans (hb2.mono HB1.out.size))
      clear hb2
      go_wp2_with fail
      go_ret
      exact ⟨by rw [HE.out, ← beq_dec]; rfl, HAL.out.trans (HB2.out.mono HAL.out.size)⟩
theorem qfine_any {w : World} {af : Option Addr} {cf : Nat} {az : Option Addr} {cz : Nat} {fs : List Feat} {zs : List Zn} (h : SchemeIn w af cf az cz fs zs) :
  Calls Tryz.prog 16 #[.agg #[.slice af fs.length cf, .slice az zs.length cz]] w fun e w' => e = .returned (.bool (fewOf fs zs && decide (check fs zs = 0))) ∧ Below w.heap.size w w' := by
 obtain ⟨n, hn⟩ : ∃ n, n = fs.length := ⟨_, rfl⟩
 obtain ⟨nz, hnz⟩ : ∃ n, n = zs.length := ⟨_, rfl⟩
 obtain ⟨E, hE⟩ : ∃ E, E = check fs zs := ⟨_, rfl⟩
 rw [← hE]
 obtain ⟨wa, hwa⟩ : ∃ wa, wa = w.alloc (.cells #[.slice af n cf, .slice az nz cz] 26) := ⟨_, rfl⟩
 obtain ⟨ba, hba⟩ : ∃ b, b = w.heap.size := ⟨_, rfl⟩
 have hal : Below w.heap.size w wa := by rw [hwa]; exact (ZR _ w).alloc (Nat.le_refl _) _
 have k0 : wa.heap[ba]? = some (.cells #[.slice af n cf, .slice az nz cz] 26 (0, 0)) := by rw [hwa, hba]; exact ZW w _
 have s0 := ZI k0 0
 have s1 := ZI k0 1
 simp at s0 s1
 have hf := qfew_any (h.below hal)
 rw [← hn, ← hnz] at hf
 have HFW := ZH hf
 have HS := ZH (h.below hal)
 have HAL := ZH hal
 have HSC := ZH (ZN s0 s1)
 have HN := ZH (ZN hn (ZN hnz hE))
 have HW := ZH (ZN hwa hba)
 rw [← hn, ← hnz]
 clear hal hwa hba k0 hn hnz h hE hf
 go_enter Tryz.func16, Tryz.ntmps16
 go_upto_region 1 with fail
 rw [← HW.out.1, ← HW.out.2]
 go_wp2_with fail
 refine HFW.out.mono ?_
 rintro e w1 ⟨rfl, hb1⟩
 have s0 := ZJ hb1 HSC.out.1
 have s1 := ZJ hb1 HSC.out.2
 have HB1 := ZH hb1
 clear hb1
 cases hfew : fewOf fs zs with
 | false =>
  go_wp2_with fail
  go_ret
  exact ⟨by rw [hfew]; rfl, HAL.out.trans (HB1.out.mono HAL.out.size)⟩
 | true =>
  have hk := qcheck_any (HS.out.below HB1.out)
  rw [← HN.out.1, ← HN.out.2.1, ← HN.out.2.2] at hk
  have HK := ZH hk
  clear hk
  go_wp2_with fail
  refine HK.out.mono ?_
  rintro e w2 ⟨rfl, hb2⟩
  have HB2 := ZH (HB1.out.trans (hb2.mono HB1.out.size))
  clear hb2
  go_wp2_with fail
  go_ret
  exact ⟨by rw [hfew, ← beq_dec]; rfl, HAL.out.trans (HB2.out.mono HAL.out.size)⟩
end Go.Proofs.YtgofihilkobenaaGreatDoor
