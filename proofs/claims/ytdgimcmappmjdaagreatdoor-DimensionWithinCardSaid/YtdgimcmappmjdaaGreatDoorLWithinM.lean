/- DimensionWithin: the walk and the plain law. -/
import Derived.Test.YtdgimcmappmjdaaGreatDoorK6
import Derived.Test.YtdgimcmappmjdaaGreatDoorK8
import Derived.Test.YtdgimcmappmjdaaGreatDoorDWithinM
import Derived.Test.YtdgimcmappmjdaaGreatDoorRRowM
import Derived.Test.YtdgimcmappmjdaaGreatDoorKI
import Derived.Test.YtdgimcmappmjdaaGreatDoorKH
set_option linter.unusedSimpArgs false
set_option linter.unusedVariables false
set_option maxRecDepth 100000
namespace Go.Proofs.YtdgimcmappmjdaaGreatDoor
open Go.RowKit Go.Num Go.Flow Go.Dtm
set_option maxHeartbeats 8000000
set_option linter.unusedVariables false

def xAt (l : List Trip) (ns : List Int) (i : Nat) : Int := 2 * (chainDim l i).nominal + ns.getD i 0
def valAt (l : List Trip) (ns : List Int) (i : Nat) : Rat := (xAt l ns i : Rat) / ((2 : Int) : Rat)
def vals (l : List Trip) (ns : List Int) (k : Nat) : List Rat := (List.range k).map (valAt l ns)
def okAt (l : List Trip) (ns : List Int) (i : Nat) : Bool := decide (2 * (chainDim l i).lower ≤ ns.getD i 0) && decide (ns.getD i 0 ≤ 2 * (chainDim l i).upper)
def wantTo (l : List Trip) (ns : List Int) (k : Nat) : Bool := (List.range k).all (okAt l ns)
theorem vals_succ (l : List Trip) (ns : List Int) (k : Nat) : vals l ns (k + 1) = vals l ns k ++ [valAt l ns k] := by
 unfold vals
 rw [List.range_succ, List.map_append]
 rfl
theorem vals_len (l : List Trip) (ns : List Int) (k : Nat) : (vals l ns k).length = k := by unfold vals; simp
theorem wantTo_succ (l : List Trip) (ns : List Int) (k : Nat) : wantTo l ns (k + 1) = (wantTo l ns k && okAt l ns k) := by
 unfold wantTo
 rw [List.range_succ, List.all_append]
 simp
theorem half_lt (x s : Int) : ((x : Rat) / ((2 : Int) : Rat) < (s : Rat)) ↔ x < 2 * s := by
 rw [Rat.div_lt_iff (by decide)]
 rw [← Rat.intCast_mul, Rat.intCast_lt_intCast]
 omega
theorem lt_half (x s : Int) : ((s : Rat) < (x : Rat) / ((2 : Int) : Rat)) ↔ 2 * s < x := by
 rw [Rat.lt_div_iff (by decide)]
 rw [← Rat.intCast_mul, Rat.intCast_lt_intCast]
 omega
theorem cmpq_neg {r s : Rat} : cmpQ r s < 0 ↔ r < s := by
 unfold cmpQ
 split
 ·simp_all
 ·split <;> simp_all
theorem cmpq_pos {r s : Rat} : 0 < cmpQ r s ↔ s < r := by
 unfold cmpQ
 split
 ·rename_i h
  have h2 : ¬ s < r := Rat.not_lt.2 (Rat.le_of_lt h)
  simp [h2]
 ·split <;> simp_all
theorem chain_getD (l : List Trip) {n j : Nat} (hj : j < n) : (chainDims l n).getD j Dm.none = chainDim l j := by
 unfold chainDims
 simp [List.getD_eq_getElem?_getD, hj]
theorem vals_getD (l : List Trip) (ns : List Int) {n j : Nat} (hj : j < n) : (vals l ns n).getD j 0 = valAt l ns j := by
 unfold vals
 simp [List.getD_eq_getElem?_getD, hj]
theorem out_ok (l : List Trip) (ns : List Int) {n j : Nat} (hj : j < n) : outAt (chainDims l n) (vals l ns n) j = !okAt l ns j := by
 unfold outAt okAt
 rw [chain_getD l hj, vals_getD l ns hj, Bool.not_and]
 unfold valAt
 congr 1
 ·rw [← decide_not]
  refine decide_eq_decide.2 ?_
  rw [cmpq_neg, half_lt]
  unfold xAt
  omega
 ·rw [← decide_not]
  refine decide_eq_decide.2 ?_
  rw [cmpq_pos, lt_half]
  unfold xAt
  omega
theorem within_want (l : List Trip) (ns : List Int) (n : Nat) : withinQ (chainDims l n) (vals l ns n) = wantTo l ns n := by
 unfold withinQ
 rw [vals_len, chainDims_len, ZT rfl, Bool.true_and]
 unfold wantTo
 rcases pos_cases (outAt (chainDims l n) (vals l ns n)) n 0 with ⟨h1, h2⟩ | ⟨i, h1, -, h3, h4, -⟩
 ·rw [h1]
  symm
  rw [ZT (by decide), List.all_eq_true]
  intro x hx
  have hx' : x < n := List.mem_range.1 hx
  have := h2 x (by omega) (by omega)
  rw [out_ok l ns hx'] at this
  simpa using this
 ·rw [h1]
  have h3' : i < n := by omega
  rw [out_ok l ns h3'] at h4
  rw [ZU (by omega)]
  symm
  rw [Bool.eq_false_iff]
  intro h
  have := List.all_eq_true.1 h i (List.mem_range.2 h3')
  rw [this] at h4
  simp at h4
theorem within_len {D : List Dm} {rs : List Rat} (h : rs.length ≠ D.length) : withinQ D rs = false := by
 unfold withinQ
 rw [ZU h, Bool.false_and]
theorem chain_bound (l : List Trip) (hl : ∀ j, j < l.length → tripOk (l.getD j (0, 0, 0))) (i : Nat) : (0 ≤ (chainDim l i).nominal ∧ (chainDim l i).nominal ≤ 255) ∧ (-63 ≤ (chainDim l i).lower ∧ (chainDim l i).lower ≤ 0) ∧ (0 ≤ (chainDim l i).upper ∧ (chainDim l i).upper ≤ 63) := by
 unfold chainDim
 split
 ·rename_i h
  have h2 := hl i h
  obtain ⟨⟨a1, a2⟩, ⟨b1, b2⟩, ⟨c1, c2⟩⟩ := h2
  unfold tripAt
  simp only
  omega
 ·simp
theorem chain_ok {w : World} {v : Value} {l : List Trip} (h : ChainIn w v l) : ∀ j, j < l.length → tripOk (l.getD j (0, 0, 0)) := by
 obtain ⟨ao, c, -, h1, h2, h3⟩ := h
 intro j hj
 obtain ⟨b, off, -, -, hc⟩ := h3 (by omega)
 exact (hc j hj).2.2.2
theorem nums_ok {w : World} {v : Value} {l : List Int} (h : NumsIn w v l) (j : Nat) : -32768 ≤ l.getD j 0 ∧ l.getD j 0 ≤ 32767 := by
 obtain ⟨ao, c, -, h1, h2, h3⟩ := h
 by_cases hj : j < l.length
 ·obtain ⟨b, off, -, -, hc⟩ := h3 (by omega)
  exact (hc j hj).2
 ·rw [List.getD_eq_getElem?_getD, List.getElem?_eq_none (by omega)]
  simp
/-- A list of rationals without its first one. -/
theorem ratsAt_tail {w : World} {b off c : Nat} {r : Rat} {rs : List Rat} {K : Nat} (h : RatsAt w (some ⟨b, off, none⟩) c (r :: rs) K) (hn : 0 < rs.length) : RatsAt w (some ⟨b, off + 4, none⟩) (c - 1) rs K := by
 obtain ⟨h1, h2, h3⟩ := h
 obtain ⟨b', off', e, hl, hc⟩ := h3 (by simp)
 simp only [Option.some.injEq, Addr.mk.injEq, and_true] at e
 obtain ⟨rfl, rfl⟩ := e
 simp only [List.length_cons] at h1 hc
 refine ⟨by omega, by omega, fun _ => ⟨b, off + 4, rfl, hl, fun j hj => ?_⟩⟩
 have := hc (j + 1) (by omega)
 rw [show off + (j + 1) * 4 = off + 4 + j * 4 by omega] at this
 simpa using this
/-- append under a guard that holds. -/
theorem wpList_append_on {P : Program} (w : World) {ops : Array Oper} {rest : List Oper} {o : Oper} {a : Act} {Q : Exit → Act → World → Prop} (hgd : Region.wanted o (yielded ops a.tmps) = true) (s x : Operand) (t : TypeId)
  (ho : o.op = .call { callee := .builtin .append, args := #[s, x], argTypes := #[t, t] }) (v xv : Value) (hs : a.eval s = v) (hx : a.eval x = xv) {v' : Value} {w' : World} (hr : (Builtin.append_ #[t, t] o.type #[v, xv]).run P w = .ok v' w')
  (h : wpList P ops Q rest (a.put o.dst v') w') : wpList P ops Q (o :: rest) a w :=
 wpList_step fun K hK => by
  rw [if_pos hgd]
  unfold Oper.wp execOp
  simp only [ho, resolve, invoke, builtin, Sem.run_bind, Sem.run_pure, Result.andThen_ok, List.map_toArray, List.map_cons, List.map_nil, hs, hx, hr]
  exact hK _ _ h
theorem said_DimensionWithin {w : World} (hG : Glob w) {v0 v1 : Value} {l : List Trip} {ns : List Int} (hc : ChainIn w v0 l) (hns : NumsIn w v1 ns) (less : Bool) : Calls Tryz.prog 6 #[v0, v1, .bool less] w fun e w' => e = .returned (.bool true) ∧ Below w.heap.size w w' := by
 have HLO := ZH (chain_ok hc)
 have HNO := ZH (nums_ok hns)
 have HC := ZH hc
 obtain ⟨ao, c, rfl, h1, h2, h3⟩ := hc
 obtain ⟨an, cn, rfl, m1, m2, m3⟩ := hns
 obtain ⟨n, hn⟩ : ∃ n, n = l.length := ⟨_, rfl⟩
 obtain ⟨m, hm⟩ : ∃ n, n = ns.length := ⟨_, rfl⟩
 obtain ⟨wa, ba, hwa, hba, hal, k0⟩ := new_box w #[.slice ao n c] 48
 have hcap : n ≤ c ∧ c ≤ 9223372036854775807 := by rw [hn]; exact ⟨h1, h2⟩
 have hcap2 : m ≤ cn ∧ cn ≤ 9223372036854775807 := by rw [hm]; exact ⟨m1, m2⟩
 have HNS := ZH m3
 rw [← hn] at HC
 have HNM := ZH (ZN hn hm)
 have HG := ZH (hG.below hal)
 have HW := ZH (ZN hwa hba)
 have HK := ZH k0
 have HAL := ZH hal
 rw [← hn, ← hm]
 clear hwa hba hal k0 hG h1 h2 h3 m1 m2 m3 hn hm
 go_enter Tryz.func6, Tryz.ntmps6
 go_upto_region 1 with fail
 rw [← HW.out.1, ← HW.out.2]
 clear HW
 go_wp2_with fail
 refine (pknown_any HG.out).mono ?_
 rintro e w1 ⟨rfl, hb1⟩
 have HB1 := ZH hb1
 have HKN := ZH (pknown_any (HG.out.below hb1))
 have x0 := cells1 hb1 HK.out
 clear hb1
 have e0 : (6 < (n : Int)) = (6 < n) := propext (by omega)
 have e00 : (8 < (m : Int)) = (8 < m) := propext (by omega)
 by_cases hn6 : 6 < n
 ·have e1 : ((6 : Int) < (n : Int)) = True := eq_true (by omega)
  clear e0 e00
  go_wp2_with fail
  refine HKN.out.mono ?_
  rintro e w2 ⟨rfl, hb2⟩
  have HF := ZH (HAL.out.trans ((HB1.out.trans (hb2.mono HB1.out.size)).mono HAL.out.size))
  clear hb2
  go_wp2_with fail
  go_ret
  exact ⟨rfl, HF.out⟩
 have e1 : ((6 : Int) < (n : Int)) = False := eq_false (by omega)
 by_cases hm8 : 8 < m
 ·have e2 : ((8 : Int) < (m : Int)) = True := eq_true (by omega)
  clear e0 e00
  go_wp2_with fail
  refine HKN.out.mono ?_
  rintro e w2 ⟨rfl, hb2⟩
  have HF := ZH (HAL.out.trans ((HB1.out.trans (hb2.mono HB1.out.size)).mono HAL.out.size))
  clear hb2
  go_wp2_with fail
  go_ret
  exact ⟨rfl, HF.out⟩
 have e2 : ((8 : Int) < (m : Int)) = False := eq_false (by omega)
 clear e0 e00 HKN
 have HSZ := ZH (show n ≤ 6 ∧ m ≤ 8 by omega)
 go_wp2_with fail
 refine (pDimensions_any ((HC.out.below HAL.out).below HB1.out)).mono ?_
 rintro e w2 ⟨vd, rfl, hrow2, hb2⟩
 obtain ⟨ad, cd, rfl, hdi⟩ := dims_read hrow2
 obtain ⟨CL, hCL⟩ : ∃ x, x = chainLen l := ⟨_, rfl⟩
 have hcl4 : 1 ≤ CL ∧ CL ≤ 4 := by rw [hCL]; unfold chainLen; split <;> omega
 rw [← hCL] at hdi
 have hlen : (chainDims l CL).length = CL := chainDims_len l CL
 have HDI := ZH hdi
 have hcap3 : CL ≤ cd ∧ cd ≤ 9223372036854775807 := by have := hdi; exact ⟨by have := this.1; omega, this.2.1⟩
 rw [← hCL, hlen]
 have HCL := ZH (ZN hcl4 hlen)
 have HB2 := ZH (HAL.out.trans ((HB1.out.trans (hb2.mono HB1.out.size)).mono HAL.out.size))
 have HBD := ZH (chain_bound l HLO.out)
 have HN2 := ZH (show 0 < m → ∃ b off, an = some ⟨b, off, none⟩ ∧ ∀ j, j < m → w2.cell? ⟨b, off + j, none⟩ = some (.int .i16 (ns.getD j 0)) from fun h0 => by
  obtain ⟨b, off, e, hl, hc⟩ := HNS.out (by have := HNM.out.2; omega)
  exact ⟨b, off, e, fun j hj => ZJ HB2.out (hc j (by have := HNM.out.2; omega)).1⟩)
 have HGE := ZH (show ∀ j, m ≤ j → ns.getD j 0 = 0 from fun j hj => by
  rw [List.getD_eq_getElem?_getD, List.getElem?_eq_none (by have := HNM.out.2; omega)]
  rfl)
 clear hrow2 hb2 hdi hCL hcl4 hlen HC HNS HNM HB1 HAL HK HG x0 e1 e2 hn6 hm8 hcap
 go_wp2_with fail
 go_loopg [8, 9, 10] CL (fun gk vv wn i wr => ∃ k : Nat, k + gk = CL ∧ i = .int .i64 k ∧ wn = .bool (wantTo l ns k) ∧ Hid (RatApp wr w2.heap.size vv (vals l ns k) 4) ∧ Hid (Below w2.heap.size w2 wr))
 case atStart => exact ⟨0, by omega, rfl, rfl, ZH (ratApp_nil _ _ _), ZH (ZR _ _)⟩
 case round =>
  obtain ⟨k, hk, rfl, rfl, hrow, hbw⟩ := hrel
  by_cases hlt : k < CL
  ·have e1 : ((k : Int) < (CL : Int)) = True := eq_true (by omega)
   obtain ⟨X, hX⟩ : ∃ x, x = ns.getD k 0 := ⟨_, rfl⟩
   obtain ⟨d, hd⟩ : ∃ x, x = chainDim l k := ⟨_, rfl⟩
   obtain ⟨B0, hB0⟩ : ∃ x, x = wantTo l ns k := ⟨_, rfl⟩
   have hdd := HBD.out k
   have hxx := HNO.out k
   rw [← hd] at hdd
   rw [← hX] at hxx
   have HX := ZH (ZN hX (ZN hd (ZN hB0 hlt)))
   have HXX := ZH (ZN hxx hdd)
   have HROW := ZH hrow.out
   have HBW := ZH hbw.out
   have HV := ZH (show valAt l ns k = ((2 * d.nominal + X : Int) : Rat) / ((2 : Int) : Rat) by rw [hd, hX]; rfl)
   have HWS := ZH (show wantTo l ns (k + 1) = (B0 && (decide (2 * d.lower ≤ X) && decide (X ≤ 2 * d.upper))) by rw [wantTo_succ, hB0, hd, hX]; rfl)
   obtain ⟨db, dof, rfl, -, hdc⟩ := HDI.out.2.2 (by have := HCL.out.2; have := HX.out.2.2.2; omega)
   have hx := hdc k (by have := HCL.out.2; omega)
   rw [chain_getD l hlt, ← hd] at hx
   have HDC := ZH hx
   rw [← hB0]
   have hk0 : (0 : Int) ≤ (k : Int) := by omega
   have hk1 : (k : Int) < (CL : Int) := by omega
   clear hX hd hB0 hdd hxx hdc hx hlt hrow hbw
   by_cases hkm : k < m
   ·have e2 : ((k : Int) < (m : Int)) = True := eq_true (by omega)
    obtain ⟨nb, nof, rfl, hnc⟩ := HN2.out (by omega)
    have q0 := ZJ HBW.out (hnc k hkm)
    rw [← HX.out.1] at q0
    clear hnc
    have u0 : IntKind.i64.wrap X = X := IntWalk.i64_in _ (by have := HXX.out.1; omega)
    go_upto_region 12 with fail
    clear q0 u0 e2
    obtain ⟨y0, y1, y2, y3⟩ := HDC.out
    have y0 := ZJ HBW.out y0
    have y1 := ZJ HBW.out y1
    have y2 := ZJ HBW.out y2
    have y3 := ZJ HBW.out y3
    have t1 := HXX.out.1
    have t2 := HXX.out.2
    have u1 : IntKind.i64.wrap (2 * d.nominal) = 2 * d.nominal := IntWalk.i64_in _ (by omega)
    have u2 : IntKind.i64.wrap (2 * d.nominal + X) = 2 * d.nominal + X := IntWalk.i64_in _ (by omega)
    clear t1 t2
    go_wp2_with fail
    refine (rFrom_any (w := wr) (n := 2 * d.nominal + X) (by have := HXX.out; omega) (by have := HXX.out; omega)).mono ?_
    rintro e w3 ⟨va, rfl, hva, hb3⟩
    have HVA := ZH (rt_int hva)
    have HB3 := ZH hb3
    clear hva hb3 y0 y1 y2 y3 u1 u2
    go_wp2_with fail
    refine (rFrom_any (w := w3) (n := 2) (by omega) (by omega)).mono ?_
    rintro e w4 ⟨vb, rfl, hvb, hb4⟩
    have HVB := ZH (rt_int hvb)
    have HVA4 := ZH (HVA.out.below hb4)
    have HB4 := ZH (HB3.out.trans (hb4.mono HB3.out.size))
    clear hvb hb4 HVA HB3
    go_wp2_with fail
    refine (ratDiv_any HVA4.out HVB.out (by omega) (by omega) (by omega)).mono ?_
    rintro e w5 ⟨vq, rfl, hvq, hb5⟩
    obtain ⟨s1, a1, c1, l1, s2, a2, c2, l2, rfl⟩ := rt_shape hvq
    have HQ := ZH hvq
    have HB5 := ZH (HB4.out.trans (hb5.mono HB4.out.size))
    clear hvq hb5 HVA4 HVB HB4
    rw [show divErr ((2 : Int) : Rat) = 0 from by decide]
    obtain ⟨w6, b6, hw6, hb6, hl6, k6⟩ := new_box w5 #[.bool s1, .slice a1 c1 l1, .bool s2, .slice a2 c2 l2] 43
    have HW6 := ZH (ZN hw6 hb6)
    have HK6 := ZH k6
    have HL6 := ZH hl6
    clear hw6 hb6 k6 hl6
    go_upto_region 13 with fail
    rw [← HW6.out.1, ← HW6.out.2]
    clear HW6
    obtain ⟨z0, z1, z2, z3⟩ := cells4 (ZR _ w6) HK6.out
    have HL7 := ZH (show Below w6.heap.size w6 (w6.alloc (.cells #[.bool s1, .slice a1 c1 l1, .bool s2, .slice a2 c2 l2] 43)) from (ZR _ w6).alloc (Nat.le_refl _) _)
    have hr7 : Below wr.heap.size wr (w6.alloc (.cells #[.bool s1, .slice a1 c1 l1, .bool s2, .slice a2 c2 l2] 43)) := (HB5.out.trans (HL6.out.mono HB5.out.size)).trans (HL7.out.mono (Nat.le_trans HB5.out.size HL6.out.size))
    obtain ⟨v9, w9, hrun, hrow9, hb9⟩ := append_rat (HROW.out.below hr7) (by rw [vals_len]; have := HX.out.2.2.2; have := HCL.out.1; omega) (ZW w6 _) ((HQ.out.below HL6.out).below HL7.out) (show w2.heap.size ≤ _ from Nat.le_trans HBW.out.size hr7.size) 34
    have hb29 := (HBW.out.trans (hr7.mono HBW.out.size)).trans hb9
    have HE := ZH (show RatApp w9 w2.heap.size v9 (vals l ns (k + 1)) 4 ∧ Below w2.heap.size w2 w9 from ⟨by rw [vals_succ, HV.out]; exact hrow9, hb29⟩)
    obtain ⟨y0, y1, y2, y3⟩ := HDC.out
    have y2 := ZJ hb29 y2
    have y3 := ZJ hb29 y3
    have t2 := HXX.out.2
    have u1 : IntKind.i64.wrap (2 * d.lower) = 2 * d.lower := IntWalk.i64_in _ (by omega)
    have u2 : IntKind.i64.wrap (2 * d.upper) = 2 * d.upper := IntWalk.i64_in _ (by omega)
    clear t2 hr7 hrow9 hb9 hb29 y0 y1
    have HMS := ZH (show CL - (k + 1) < gk ∧ k + 1 + (CL - (k + 1)) = CL by have := HX.out.2.2.2; omega)
    go_upto_region 14 with (at_builtin; refine wpList_append_run _ rfl _ _ 34 rfl _ _ rfl rfl hrun ?_)
    cases B0 with
    | false =>
     go_wp2_with fail
     go_roundg (CL - (k + 1))
     case measure => exact HMS.out.1
     case rel => exact ⟨k + 1, HMS.out.2, by first | (congr 1; done) | (congr 1; exact IntWalk.wrap64_in ((k : Int) + 1) (by have := HX.out.2.2.2; have := HCL.out.1; omega)), by rw [HWS.out]; rfl, ZH HE.out.1, ZH HE.out.2⟩
    | true =>
     by_cases hlo : 2 * d.lower ≤ X
     ·have f1 : (2 * d.lower ≤ X) = True := eq_true hlo
      clear hlo
      by_cases hup : X ≤ 2 * d.upper
      ·have f2 : (X ≤ 2 * d.upper) = True := eq_true hup
       clear hup
       go_wp2_with fail
       go_roundg (CL - (k + 1))
       case measure => exact HMS.out.1
       case rel => exact ⟨k + 1, HMS.out.2, by first | (congr 1; done) | (congr 1; exact IntWalk.wrap64_in ((k : Int) + 1) (by have := HX.out.2.2.2; have := HCL.out.1; omega)), by rw [HWS.out]; simp [f1, f2], ZH HE.out.1, ZH HE.out.2⟩
      ·have f2 : (X ≤ 2 * d.upper) = False := eq_false hup
       clear hup
       go_wp2_with fail
       go_roundg (CL - (k + 1))
       case measure => exact HMS.out.1
       case rel => exact ⟨k + 1, HMS.out.2, by first | (congr 1; done) | (congr 1; exact IntWalk.wrap64_in ((k : Int) + 1) (by have := HX.out.2.2.2; have := HCL.out.1; omega)), by rw [HWS.out]; simp [f1, f2], ZH HE.out.1, ZH HE.out.2⟩
     ·have f1 : (2 * d.lower ≤ X) = False := eq_false hlo
      clear hlo
      go_wp2_with fail
      go_roundg (CL - (k + 1))
      case measure => exact HMS.out.1
      case rel => exact ⟨k + 1, HMS.out.2, by first | (congr 1; done) | (congr 1; exact IntWalk.wrap64_in ((k : Int) + 1) (by have := HX.out.2.2.2; have := HCL.out.1; omega)), by rw [HWS.out]; simp [f1], ZH HE.out.1, ZH HE.out.2⟩
   ·have e2 : ((k : Int) < (m : Int)) = False := eq_false (by omega)
    have hX0 : (0 : Int) = X := by rw [HX.out.1]; exact (HGE.out k (by omega)).symm
    go_upto_region 12 with fail
    rw [hX0]
    clear e2 hX0
    obtain ⟨y0, y1, y2, y3⟩ := HDC.out
    have y0 := ZJ HBW.out y0
    have y1 := ZJ HBW.out y1
    have y2 := ZJ HBW.out y2
    have y3 := ZJ HBW.out y3
    have t1 := HXX.out.1
    have t2 := HXX.out.2
    have u1 : IntKind.i64.wrap (2 * d.nominal) = 2 * d.nominal := IntWalk.i64_in _ (by omega)
    have u2 : IntKind.i64.wrap (2 * d.nominal + X) = 2 * d.nominal + X := IntWalk.i64_in _ (by omega)
    clear t1 t2
    go_wp2_with fail
    refine (rFrom_any (w := wr) (n := 2 * d.nominal + X) (by have := HXX.out; omega) (by have := HXX.out; omega)).mono ?_
    rintro e w3 ⟨va, rfl, hva, hb3⟩
    have HVA := ZH (rt_int hva)
    have HB3 := ZH hb3
    clear hva hb3 y0 y1 y2 y3 u1 u2
    go_wp2_with fail
    refine (rFrom_any (w := w3) (n := 2) (by omega) (by omega)).mono ?_
    rintro e w4 ⟨vb, rfl, hvb, hb4⟩
    have HVB := ZH (rt_int hvb)
    have HVA4 := ZH (HVA.out.below hb4)
    have HB4 := ZH (HB3.out.trans (hb4.mono HB3.out.size))
    clear hvb hb4 HVA HB3
    go_wp2_with fail
    refine (ratDiv_any HVA4.out HVB.out (by omega) (by omega) (by omega)).mono ?_
    rintro e w5 ⟨vq, rfl, hvq, hb5⟩
    obtain ⟨s1, a1, c1, l1, s2, a2, c2, l2, rfl⟩ := rt_shape hvq
    have HQ := ZH hvq
    have HB5 := ZH (HB4.out.trans (hb5.mono HB4.out.size))
    clear hvq hb5 HVA4 HVB HB4
    rw [show divErr ((2 : Int) : Rat) = 0 from by decide]
    obtain ⟨w6, b6, hw6, hb6, hl6, k6⟩ := new_box w5 #[.bool s1, .slice a1 c1 l1, .bool s2, .slice a2 c2 l2] 43
    have HW6 := ZH (ZN hw6 hb6)
    have HK6 := ZH k6
    have HL6 := ZH hl6
    clear hw6 hb6 k6 hl6
    go_upto_region 13 with fail
    rw [← HW6.out.1, ← HW6.out.2]
    clear HW6
    obtain ⟨z0, z1, z2, z3⟩ := cells4 (ZR _ w6) HK6.out
    have HL7 := ZH (show Below w6.heap.size w6 (w6.alloc (.cells #[.bool s1, .slice a1 c1 l1, .bool s2, .slice a2 c2 l2] 43)) from (ZR _ w6).alloc (Nat.le_refl _) _)
    have hr7 : Below wr.heap.size wr (w6.alloc (.cells #[.bool s1, .slice a1 c1 l1, .bool s2, .slice a2 c2 l2] 43)) := (HB5.out.trans (HL6.out.mono HB5.out.size)).trans (HL7.out.mono (Nat.le_trans HB5.out.size HL6.out.size))
    obtain ⟨v9, w9, hrun, hrow9, hb9⟩ := append_rat (HROW.out.below hr7) (by rw [vals_len]; have := HX.out.2.2.2; have := HCL.out.1; omega) (ZW w6 _) ((HQ.out.below HL6.out).below HL7.out) (show w2.heap.size ≤ _ from Nat.le_trans HBW.out.size hr7.size) 34
    have hb29 := (HBW.out.trans (hr7.mono HBW.out.size)).trans hb9
    have HE := ZH (show RatApp w9 w2.heap.size v9 (vals l ns (k + 1)) 4 ∧ Below w2.heap.size w2 w9 from ⟨by rw [vals_succ, HV.out]; exact hrow9, hb29⟩)
    obtain ⟨y0, y1, y2, y3⟩ := HDC.out
    have y2 := ZJ hb29 y2
    have y3 := ZJ hb29 y3
    have t2 := HXX.out.2
    have u1 : IntKind.i64.wrap (2 * d.lower) = 2 * d.lower := IntWalk.i64_in _ (by omega)
    have u2 : IntKind.i64.wrap (2 * d.upper) = 2 * d.upper := IntWalk.i64_in _ (by omega)
    clear t2 hr7 hrow9 hb9 hb29 y0 y1
    have HMS := ZH (show CL - (k + 1) < gk ∧ k + 1 + (CL - (k + 1)) = CL by have := HX.out.2.2.2; omega)
    go_upto_region 14 with (at_builtin; refine wpList_append_run _ rfl _ _ 34 rfl _ _ rfl rfl hrun ?_)
    cases B0 with
    | false =>
     go_wp2_with fail
     go_roundg (CL - (k + 1))
     case measure => exact HMS.out.1
     case rel => exact ⟨k + 1, HMS.out.2, by first | (congr 1; done) | (congr 1; exact IntWalk.wrap64_in ((k : Int) + 1) (by have := HX.out.2.2.2; have := HCL.out.1; omega)), by rw [HWS.out]; rfl, ZH HE.out.1, ZH HE.out.2⟩
    | true =>
     by_cases hlo : 2 * d.lower ≤ X
     ·have f1 : (2 * d.lower ≤ X) = True := eq_true hlo
      clear hlo
      by_cases hup : X ≤ 2 * d.upper
      ·have f2 : (X ≤ 2 * d.upper) = True := eq_true hup
       clear hup
       go_wp2_with fail
       go_roundg (CL - (k + 1))
       case measure => exact HMS.out.1
       case rel => exact ⟨k + 1, HMS.out.2, by first | (congr 1; done) | (congr 1; exact IntWalk.wrap64_in ((k : Int) + 1) (by have := HX.out.2.2.2; have := HCL.out.1; omega)), by rw [HWS.out]; simp [f1, f2], ZH HE.out.1, ZH HE.out.2⟩
      ·have f2 : (X ≤ 2 * d.upper) = False := eq_false hup
       clear hup
       go_wp2_with fail
       go_roundg (CL - (k + 1))
       case measure => exact HMS.out.1
       case rel => exact ⟨k + 1, HMS.out.2, by first | (congr 1; done) | (congr 1; exact IntWalk.wrap64_in ((k : Int) + 1) (by have := HX.out.2.2.2; have := HCL.out.1; omega)), by rw [HWS.out]; simp [f1, f2], ZH HE.out.1, ZH HE.out.2⟩
     ·have f1 : (2 * d.lower ≤ X) = False := eq_false hlo
      clear hlo
      go_wp2_with fail
      go_roundg (CL - (k + 1))
      case measure => exact HMS.out.1
      case rel => exact ⟨k + 1, HMS.out.2, by first | (congr 1; done) | (congr 1; exact IntWalk.wrap64_in ((k : Int) + 1) (by have := HX.out.2.2.2; have := HCL.out.1; omega)), by rw [HWS.out]; simp [f1], ZH HE.out.1, ZH HE.out.2⟩
  ·obtain rfl : k = CL := by omega
   obtain ⟨av, cv, rfl, hrd⟩ := hrow.out.reads
   rw [vals_len]
   have hcap4 : k ≤ cv ∧ cv ≤ 9223372036854775807 := by have h := hrd.1; rw [vals_len] at h; exact ⟨h, hrd.2.1⟩
   have HRD := ZH hrd
   have HROW := ZH hrow.out
   have HBW := ZH hbw.out
   have HDR := ZH (show DimsIn wr ad cd (chainDims l k) from HDI.out.below hbw.out)
   have HDB := ZH (show ∀ j, j < (chainDims l k).length → (-1000000000 ≤ ((chainDims l k).getD j Dm.none).nominal ∧ ((chainDims l k).getD j Dm.none).nominal ≤ 1000000000) ∧ (-1000000000 ≤ ((chainDims l k).getD j Dm.none).lower ∧ ((chainDims l k).getD j Dm.none).lower ≤ 1000000000) ∧ (-1000000000 ≤ ((chainDims l k).getD j Dm.none).upper ∧ ((chainDims l k).getD j Dm.none).upper ≤ 1000000000) from fun j hj => by
    rw [chainDims_len] at hj
    rw [chain_getD l hj]
    have := HBD.out j
    omega)
   have HF := ZH (HB2.out.trans (hbw.out.mono HB2.out.size))
   clear hrd hrow hbw hlt hk
   cases less with
   | false =>
    have hw := mWithin_any HDR.out (by rw [chainDims_len]; have := HCL.out.1; omega) HDB.out HRD.out (by omega) (by omega)
    rw [chainDims_len, vals_len, within_want] at hw
    have HWI := ZH hw
    obtain ⟨B0, hB0⟩ : ∃ x, x = wantTo l ns k := ⟨_, rfl⟩
    rw [← hB0] at HWI ⊢
    clear hw hB0
    go_wp2_with fail
    refine HWI.out.mono ?_
    rintro e w3 ⟨rfl, hb3⟩
    have HFF := ZH (HF.out.trans (hb3.mono HF.out.size))
    clear hb3
    go_wp2_with fail
    go_ret
    exact ⟨by simp, HFF.out⟩
   | true =>
    have hk0 : 0 < k := by have := HCL.out.1; omega
    obtain ⟨vb, rfl⟩ : ∃ b, av = some ⟨b, 0, none⟩ := by
     obtain ⟨qs, -, hr, -⟩ := HROW.out
     obtain ⟨ao', c', e', -, -, h5⟩ := row_cells hr.1
     obtain ⟨g, rfl, -⟩ := h5 (by rw [vals_len]; exact hk0)
     simp only [Value.slice.injEq] at e'
     exact ⟨g, e'.1⟩
    obtain ⟨r0, rt, hrt, hrl⟩ : ∃ r0 rt, vals l ns k = r0 :: rt ∧ rt.length = k - 1 := by
     have h9 := vals_len l ns k
     cases hv : vals l ns k with
     | nil => rw [hv] at h9; simp at h9; omega
     | cons a t => exact ⟨a, t, rfl, by rw [hv] at h9; simp at h9; omega⟩
    by_cases hcv : cv = 1
    ·have htl : RatsAt wr (some ⟨vb, 0, none⟩) (cv - 1) rt 4 := ⟨by have := hcap4; omega, by unfold maxLen; omega, fun h => by have := hcap4; omega⟩
     have hw1 := mWithin_any HDR.out (by rw [chainDims_len]; have := HCL.out.1; omega) HDB.out htl (by omega) (by omega)
     rw [chainDims_len, hrl, within_len (by rw [chainDims_len]; omega)] at hw1
     have HW1 := ZH hw1
     have hk1 : (1 : Int) ≤ (k : Int) := by omega
     clear hw1 htl hrt hrl rt r0
     have ecv : (cv = 1) = True := eq_true hcv
     clear hcv
     go_wp2_with fail
     refine HW1.out.mono ?_
     rintro e w3 ⟨rfl, hb3⟩
     have HL7 := ZH (show Below w3.heap.size w3 (w3.alloc (.cells #[.bool false, .slice none 0 0, .bool false, .slice none 0 0] 43)) from (ZR _ w3).alloc (Nat.le_refl _) _)
     have hr7 : Below wr.heap.size wr (w3.alloc (.cells #[.bool false, .slice none 0 0, .bool false, .slice none 0 0] 43)) := hb3.trans (HL7.out.mono hb3.size)
     obtain ⟨v9, w9, hrun, hrow9, hb9⟩ := append_rat (r := 0) (HROW.out.below hr7) (by rw [vals_len]; have := HCL.out.1; omega) (ZW w3 _) (zero_rt _ 4) (show w2.heap.size ≤ _ from Nat.le_trans HBW.out.size hr7.size) 34
     have hb29 := (HBW.out.trans (hr7.mono HBW.out.size)).trans hb9
     obtain ⟨a9, c9, rfl, hrd9⟩ := hrow9.reads
     have hl9 : (vals l ns k ++ [(0 : Rat)]).length = k + 1 := by rw [List.length_append, vals_len]; rfl
     have hw2 := mWithin_any (HDI.out.below hb29) (by rw [chainDims_len]; have := HCL.out.1; omega) HDB.out hrd9 (by omega) (by omega)
     rw [chainDims_len, hl9, within_len (by rw [chainDims_len, hl9]; omega)] at hw2
     rw [hl9] at hrun
     rw [vals_len] at hrun
     have HW2 := ZH hw2
     have HF9 := ZH (HB2.out.trans (hb29.mono HB2.out.size))
     clear hb3 hr7 hrow9 hb9 hb29 hrd9 hl9 hw2
     go_wp2_with (at_builtin; refine wpList_append_on _ rfl _ _ 34 rfl _ _ rfl rfl hrun ?_)
     refine HW2.out.mono ?_
     rintro e w4 ⟨rfl, hb4⟩
     have HFF := ZH (HF9.out.trans (hb4.mono HF9.out.size))
     clear hb4
     go_wp2_with fail
     go_ret
     exact ⟨rfl, HFF.out⟩
    ·have htl : RatsAt wr (some ⟨vb, 4, none⟩) (cv - 1) rt 4 := by
      have h9 := HRD.out
      rw [hrt] at h9
      rcases Nat.eq_zero_or_pos rt.length with h0 | h0
      ·exact ⟨by omega, by have := hcap4; unfold maxLen; omega, fun h => by omega⟩
      ·have := ratsAt_tail h9 h0
       simpa using this
     have hw1 := mWithin_any HDR.out (by rw [chainDims_len]; have := HCL.out.1; omega) HDB.out htl (by omega) (by omega)
     rw [chainDims_len, hrl, within_len (by rw [chainDims_len]; omega)] at hw1
     have HW1 := ZH hw1
     have hk1 : (1 : Int) ≤ (k : Int) := by omega
     clear hw1 htl hrt hrl rt r0
     have ecv : (cv = 1) = False := eq_false hcv
     clear hcv
     go_wp2_with fail
     refine HW1.out.mono ?_
     rintro e w3 ⟨rfl, hb3⟩
     have HL7 := ZH (show Below w3.heap.size w3 (w3.alloc (.cells #[.bool false, .slice none 0 0, .bool false, .slice none 0 0] 43)) from (ZR _ w3).alloc (Nat.le_refl _) _)
     have hr7 : Below wr.heap.size wr (w3.alloc (.cells #[.bool false, .slice none 0 0, .bool false, .slice none 0 0] 43)) := hb3.trans (HL7.out.mono hb3.size)
     obtain ⟨v9, w9, hrun, hrow9, hb9⟩ := append_rat (r := 0) (HROW.out.below hr7) (by rw [vals_len]; have := HCL.out.1; omega) (ZW w3 _) (zero_rt _ 4) (show w2.heap.size ≤ _ from Nat.le_trans HBW.out.size hr7.size) 34
     have hb29 := (HBW.out.trans (hr7.mono HBW.out.size)).trans hb9
     obtain ⟨a9, c9, rfl, hrd9⟩ := hrow9.reads
     have hl9 : (vals l ns k ++ [(0 : Rat)]).length = k + 1 := by rw [List.length_append, vals_len]; rfl
     have hw2 := mWithin_any (HDI.out.below hb29) (by rw [chainDims_len]; have := HCL.out.1; omega) HDB.out hrd9 (by omega) (by omega)
     rw [chainDims_len, hl9, within_len (by rw [chainDims_len, hl9]; omega)] at hw2
     rw [hl9] at hrun
     rw [vals_len] at hrun
     have HW2 := ZH hw2
     have HF9 := ZH (HB2.out.trans (hb29.mono HB2.out.size))
     clear hb3 hr7 hrow9 hb9 hb29 hrd9 hl9 hw2
     go_wp2_with (at_builtin; refine wpList_append_on _ rfl _ _ 34 rfl _ _ rfl rfl hrun ?_)
     refine HW2.out.mono ?_
     rintro e w4 ⟨rfl, hb4⟩
     have HFF := ZH (HF9.out.trans (hb4.mono HF9.out.size))
     clear hb4
     go_wp2_with fail
     go_ret
     exact ⟨rfl, HFF.out⟩
end Go.Proofs.YtdgimcmappmjdaaGreatDoor
