/- dimension.Nominal; the law's equal. -/
import Derived.Test.YtdgimcmappmjdaaGreatDoorRRowM
import Derived.Test.YtdgimcmappmjdaaGreatDoorKD
import Derived.Test.YtdgimcmappmjdaaGreatDoorKY
import Derived.Test.YtdgimcmappmjdaaGreatDoorKZ
import Derived.Test.YtdgimcmappmjdaaGreatDoorKW
set_option linter.unusedSimpArgs false
set_option linter.unusedVariables false
set_option maxRecDepth 100000
namespace Go.Proofs.YtdgimcmappmjdaaGreatDoor
open Go.RowKit Go.Num Go.Flow
set_option maxHeartbeats 8000000
set_option linter.unusedVariables false

def nomTo (D : List Dm) (k : Nat) : List Rat := (List.range k).map fun j => (((D.getD j Dm.none).nominal : Int) : Rat)
theorem nomTo_succ (D : List Dm) (k : Nat) : nomTo D (k + 1) = nomTo D k ++ [(((D.getD k Dm.none).nominal : Int) : Rat)] := by
 unfold nomTo
 rw [List.range_succ, List.map_append]
 rfl
theorem nomTo_len (D : List Dm) (k : Nat) : (nomTo D k).length = k := by unfold nomTo; simp
theorem nomTo_getD (D : List Dm) {n j : Nat} (hj : j < n) : (nomTo D n).getD j 0 = (((D.getD j Dm.none).nominal : Int) : Rat) := by
 unfold nomTo
 simp [List.getD_eq_getElem?_getD, hj]
theorem mNominal_any {w : World} {ad : Option Addr} {cd : Nat} {D : List Dm} (hd : DimsIn w ad cd D) (hl : D.length ≤ 1000) (hD : ∀ j, j < D.length → -9223372036854775808 ≤ (D.getD j Dm.none).nominal ∧ (D.getD j Dm.none).nominal ≤ 9223372036854775807) :
  Calls Tryz.prog 20 #[.slice ad D.length cd] w fun e w' => ∃ v, e = .returned v ∧ RatApp w' w.heap.size v (nomTo D D.length) 2 ∧ Below w.heap.size w w' := by
 obtain ⟨n, hn⟩ : ∃ n, n = D.length := ⟨_, rfl⟩
 have hcap : n ≤ cd ∧ cd ≤ 9223372036854775807 := by rw [hn]; exact ⟨hd.1, hd.2.1⟩
 have HD := ZH hd.2.2
 have HDB := ZH hD
 have HN := ZH (ZN hn hl)
 rw [← hn]
 clear hd hD hl hn
 go_enter Tryz.func20, Tryz.ntmps20
 go_wp2_with fail
 go_loopg [3, 8] n (fun gk v i wr => ∃ k : Nat, k + gk = n ∧ i = .int .i64 k ∧ Hid (RatApp wr w.heap.size v (nomTo D k) 2) ∧ Hid (Below w.heap.size w wr))
 case atStart => exact ⟨0, by omega, rfl, ZH (ratApp_nil _ _ _), ZH (ZR _ _)⟩
 case round =>
  obtain ⟨k, hk, rfl, hrow, hbw⟩ := hrel
  by_cases hlt : k < n
  ·have e1 : ((k : Int) < (n : Int)) = True := eq_true (by omega)
   obtain ⟨db, dof, rfl, -, hdc⟩ := HD.out (by have := HN.out.1; omega)
   obtain ⟨d, hdd⟩ : ∃ x, x = D.getD k Dm.none := ⟨_, rfl⟩
   have hx := hdc k (by have := HN.out.1; omega)
   have hdb := HDB.out k (by have := HN.out.1; omega)
   rw [← hdd] at hx hdb
   have x0 := ZJ hbw.out hx.1
   have x1 := ZJ hbw.out hx.2.1
   have x2 := ZJ hbw.out hx.2.2.1
   have x3 := ZJ hbw.out hx.2.2.2
   have hk0 : (0 : Int) ≤ (k : Int) := by omega
   have hk1 : (k : Int) < (n : Int) := by omega
   have HLT := ZH (ZN hlt (ZN hdb (ZN (show k + gk = n from hk) (show nomTo D (k + 1) = nomTo D k ++ [((d.nominal : Int) : Rat)] by rw [nomTo_succ, hdd]))))
   have HROW := ZH hrow.out
   have HBW := ZH hbw.out
   obtain ⟨w1, bd, hw1, hbd, hl1, k1⟩ := new_box wr #[.string d.name, .int .i64 d.nominal, .int .i64 d.lower, .int .i64 d.upper] 23
   have HW1 := ZH (ZN hw1 hbd)
   have HK1 := ZH k1
   have HL1 := ZH hl1
   clear hw1 hbd hl1 k1 hdc hdd hx hdb hlt hrow hbw hk
   go_upto_region 5 with fail
   rw [← HW1.out.1, ← HW1.out.2]
   clear HW1 x0 x1 x2 x3
   obtain ⟨x0, x1, x2, x3⟩ := cells4 (ZR _ w1) HK1.out
   go_wp2_with fail
   refine (rFrom_any (w := w1) (n := d.nominal) HLT.out.2.1.1 HLT.out.2.1.2).mono ?_
   rintro e w2 ⟨vq, rfl, hvq, hb2⟩
   have hq := rt_int hvq
   obtain ⟨s1, a1, c1, l1, s2, a2, c2, l2, rfl⟩ := rt_shape hq
   have hb12 : Below wr.heap.size wr (w2.alloc (.cells #[.bool s1, .slice a1 c1 l1, .bool s2, .slice a2 c2 l2] 43)) := (HL1.out.trans (hb2.mono HL1.out.size)).trans (((ZR _ w2).alloc (Nat.le_refl _) _).mono (Nat.le_trans HL1.out.size hb2.size))
   obtain ⟨v9, w9, hrun, hrow9, hb9⟩ := append_rat (HROW.out.below hb12) (by rw [nomTo_len]; have h1 := HLT.out.1; have h2 := HN.out; omega) (ZW w2 _) (hq.below ((ZR _ w2).alloc (Nat.le_refl _) _)) (show w.heap.size ≤ _ from Nat.le_trans HBW.out.size hb12.size) 34
   have HE := ZH (show RatApp w9 w.heap.size v9 (nomTo D (k + 1)) 2 ∧ Below w.heap.size w w9 from ⟨by rw [HLT.out.2.2.2]; exact hrow9, (HBW.out.trans (hb12.mono HBW.out.size)).trans hb9⟩)
   clear hvq hb2 hq hb12 hrow9 hb9 x0 x1 x2 x3
   go_wp2_with (at_builtin; refine wpList_append_run _ rfl _ _ 34 rfl _ _ rfl rfl hrun ?_)
   go_roundg (n - (k + 1))
   case measure => have h1 := HLT.out.1; have h2 := HLT.out.2.2.1; omega
   case rel => exact ⟨k + 1, by have h1 := HLT.out.1; omega, by first | (congr 1; done) | (congr 1; exact IntWalk.wrap64_in ((k : Int) + 1) (by have h1 := HLT.out.1; have h2 := HN.out; omega)), ZH HE.out.1, ZH HE.out.2⟩
  ·obtain rfl : k = n := by omega
   have HF := ZH (show RatApp wr w.heap.size _ (nomTo D k) 2 ∧ Below w.heap.size w wr from ⟨hrow.out, hbw.out⟩)
   clear hrow hbw hlt hk
   go_wp2_with fail
   go_ret
   exact ⟨_, rfl, HF.out⟩
theorem pequal_any {w : World} {va vb : Value} {r s : Rat} {k m : Nat} (ha : RtIn w va r k) (hb : RtIn w vb s m) (hk : 2 ≤ k) (hm : 2 ≤ m) (hkm : k + m ≤ 900000) : Calls Tryz.prog 22 #[va, vb] w fun e w' => e = .returned (.bool (decide (cmpQ r s = 0))) ∧ Below w.heap.size w w' := by
 obtain ⟨s1, a1, c1, l1, s2, a2, c2, l2, rfl⟩ := rt_shape ha
 obtain ⟨s3, a3, c3, l3, s4, a4, c4, l4, rfl⟩ := rt_shape hb
 obtain ⟨wa, ba, bb, hwa, hba, hbb, hal, k0, k1⟩ := new_two w #[.bool s1, .slice a1 c1 l1, .bool s2, .slice a2 c2 l2] #[.bool s3, .slice a3 c3 l3, .bool s4, .slice a4 c4 l4] 43 43
 have HW := ZH (ZN hwa (ZN hba hbb))
 have HK := ZH (ZN k0 k1)
 have HAL := ZH hal
 have HC := ZH (ratCompare_any (ha.below hal) (hb.below hal) hk hm hkm)
 clear hwa hba hbb hal k0 k1 ha hb
 go_enter Tryz.func22, Tryz.ntmps22
 go_upto_region 1 with fail
 rw [← HW.out.1, ← HW.out.2.2, ← HW.out.2.1]
 clear HW
 obtain ⟨x0, x1, x2, x3⟩ := cells4 (ZR _ wa) HK.out.1
 obtain ⟨y0, y1, y2, y3⟩ := cells4 (ZR _ wa) HK.out.2
 go_wp2_with fail
 refine HC.out.mono ?_
 rintro e w1 ⟨rfl, hb1⟩
 obtain ⟨C, hC⟩ : ∃ x, x = cmpQ r s := ⟨_, rfl⟩
 rw [← hC]
 have HF := ZH (HAL.out.trans (hb1.mono HAL.out.size))
 have HCC := ZH hC
 clear hb1 hC x0 x1 x2 x3 y0 y1 y2 y3
 go_wp2_with fail
 go_ret
 exact ⟨by rw [← HCC.out]; rfl, HF.out⟩
end Go.Proofs.YtdgimcmappmjdaaGreatDoor
