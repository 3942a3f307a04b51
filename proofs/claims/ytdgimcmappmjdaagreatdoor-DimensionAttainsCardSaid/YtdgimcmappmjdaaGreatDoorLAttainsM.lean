/- DimensionAttains: the walk and the plain law. -/
import Derived.Test.YtdgimcmappmjdaaGreatDoorK6
import Derived.Test.YtdgimcmappmjdaaGreatDoorPChainM
import Derived.Test.YtdgimcmappmjdaaGreatDoorPGFormM
import Derived.Test.YtdgimcmappmjdaaGreatDoorPFactorM
import Derived.Test.YtdgimcmappmjdaaGreatDoorDValueM
import Derived.Test.YtdgimcmappmjdaaGreatDoorMBoundsM
import Derived.Test.YtdgimcmappmjdaaGreatDoorMNominalM
import Derived.Test.YtdgimcmappmjdaaGreatDoorKW
import Derived.Test.YtdgimcmappmjdaaGreatDoorRRow2M
set_option linter.unusedSimpArgs false
set_option linter.unusedVariables false
set_option maxRecDepth 100000
namespace Go.Proofs.YtdgimcmappmjdaaGreatDoor
open List renaming setIfInBounds_toArray → zLa, set_cons_zero → zLb, set_cons_succ → zLc
open FlowR renaming putSel → zFp
open Act renaming put → zAp
open Nat renaming zero_add → zNz
open Go.RowKit Go.Num Go.Flow Go.Dtm
open Go.Gx (LF GEx bnd ends LD Den Over)
set_option maxHeartbeats 16000000
set_option linter.unusedVariables false

theorem growF_lite {d : Nat} (hd : d ≤ 4) (l : List Int) : Lite (.form (growF d l)) ∧ LiteF (growF d l) := by
 have h := growF_fine hd l
 have h1 : (growF d l).wt ≤ 1099511627776 := Std.le_trans h.2 (by grind)
 have h2 := Go.Gx.ld_more h.1 19
 exact ⟨⟨by rw [Den]; exact h2, by rw [Go.Gx.wt]; exact h1⟩, h2, h1⟩
def endAt (least : Bool) (t : List Rat) (D : List Dm) (i : Nat) : Int := if decide (t.getD i 0 < 0) = least then (D.getD i Dm.none).nominal + (D.getD i Dm.none).upper else (D.getD i Dm.none).nominal + (D.getD i Dm.none).lower
def endTo (least : Bool) (t : List Rat) (D : List Dm) (k : Nat) : List Rat := (List.range k).map fun i => ((endAt least t D i : Int) : Rat)
theorem endTo_succ (least : Bool) (t : List Rat) (D : List Dm) (k : Nat) : endTo least t D (k + 1) = endTo least t D k ++ [((endAt least t D k : Int) : Rat)] := by
 unfold endTo
 rw [List.range_succ, List.map_append]
 rfl
theorem endTo_len (least : Bool) (t : List Rat) (D : List Dm) (k : Nat) : (endTo least t D k).length = k := by unfold endTo; simp
theorem ends_getD (least : Bool) : ∀ {t : List Rat} {B : List (Rat × Rat)} {i : Nat}, i < t.length → i < B.length → (ends least t B).getD i 0 = if decide (t.getD i 0 < 0) = least then (B.getD i (0, 0)).2 else (B.getD i (0, 0)).1
 | [], _, i, h, _ => by simp at h
 | _ :: _, [], i, _, h => by simp at h
 | k :: t, p :: B, 0, _, _ => by
  rw [ends]
  simp only [List.getD_cons_zero]
 | k :: t, p :: B, i + 1, h1, h2 => by
  rw [ends]
  simp only [List.getD_cons_succ]
  exact ends_getD least (by simpa using h1) (by simpa using h2)
theorem ends_len (least : Bool) : ∀ {t : List Rat} {B : List (Rat × Rat)}, t.length = B.length → (ends least t B).length = t.length
 | [], [], _ => rfl
 | [], _ :: _, h => by simp at h
 | _ :: _, [], h => by simp at h
 | k :: t, p :: B, h => by rw [ends, List.length_cons, ends_len least (by simpa using h), List.length_cons]
theorem endTo_all (least : Bool) {t : List Rat} {D : List Dm} (h : t.length = D.length) : endTo least t D D.length = ends least t (boxes D) := by
 have hb : (boxes D).length = D.length := by unfold boxes; simp
 refine List.ext_getElem (by rw [endTo_len, ends_len least (by omega)]; omega) fun i h1 h2 => ?_
 rw [endTo_len] at h1
 have e1 : (endTo least t D D.length)[i] = ((endAt least t D i : Int) : Rat) := by
  have h3 : (endTo least t D D.length).getD i 0 = ((endAt least t D i : Int) : Rat) := by unfold endTo; simp [List.getD_eq_getElem?_getD, h1]
  rw [← h3, List.getD_eq_getElem?_getD, List.getElem?_eq_getElem (by rw [endTo_len]; exact h1)]
  rfl
 have e2 : (ends least t (boxes D))[i] = (ends least t (boxes D)).getD i 0 := by rw [List.getD_eq_getElem?_getD, List.getElem?_eq_getElem h2]; rfl
 rw [e1, e2, ends_getD least (by omega) (by omega), boxes_at h1, endAt]
 split <;> rfl
theorem cmp_ltz (r : Rat) : cmpI r.num 0 < 0 ↔ r < 0 := by
 have h1 : cmpI r.num 0 < 0 ↔ r.num < 0 := by
  unfold cmpI
  split
  ·simp_all
  ·split <;> simp_all
 have h2 := Rat.num_nonneg (q := r)
 rw [h1]
 constructor
 ·intro h
  exact Rat.not_le.1 fun h3 => by have := h2.2 h3; omega
 ·intro h
  have h3 : ¬ (0 ≤ r.num) := fun h3 => Rat.not_le.2 h (h2.1 h3)
  omega
theorem oper_append {P : Program} {o : Oper} {a : Act} {w : World} {K : Act → World → Prop} {Q : Exit → Act → World → Prop} (s x : Operand) (t : TypeId) (ho : o.op = .call { callee := .builtin .append, args := #[s, x], argTypes := #[t, t] }) (v xv : Value) (hs : a.eval s = v) (hx : a.eval x = xv) {v' : Value} {w' : World} (hr : (Builtin.append_ #[t, t] o.type #[v, xv]).run P w = .ok v' w') (h : K (a.put o.dst v') w') : Oper.wp P o a w K Q := by
 unfold Oper.wp execOp
 simp only [ho, resolve, invoke, builtin, Sem.run_bind, Sem.run_pure, Result.andThen_ok, List.map_toArray, List.map_cons, List.map_nil, hs, hx, hr]
 exact h
theorem grown_trans {u v z : World} {row : Option Nat} (h : u.grownBy v row) (k : v.grownBy z row) : u.grownBy z row := ⟨k.os.trans h.os, k.tape.trans h.tape, k.output.trans h.output, Nat.le_trans h.size k.size, fun q hq hn => (k.block q (Nat.lt_of_lt_of_le hq h.size) hn).trans (h.block q hq hn)⟩
theorem grown_more {u v z : World} {row : Option Nat} (h : u.grownBy v row) (k : Below v.heap.size v z) : u.grownBy z row := grown_trans h ⟨k.os, k.tape, k.output, k.size, fun q hq _ => k.block q hq⟩
theorem cmpq_self (a : Rat) : cmpQ a a = 0 := by
 unfold cmpQ
 rw [if_neg (Rat.not_lt.2 Rat.le_refl)]
 exact if_neg (Rat.not_lt.2 Rat.le_refl)
theorem said_DimensionAttains {w : World} (hG : Glob w) {v0 v1 : Value} {l : List Trip} {ns : List Int} (hc : ChainIn w v0 l) (hns : PartsIn w v1 ns) : Calls Tryz.prog 5 #[v0, v1] w fun e w' => e = .returned (.bool true) ∧ Below w.heap.size w w' := by
 have HLO := ZH (chain_ok hc)
 have HC := ZH hc
 have HNS := ZH hns
 obtain ⟨ao, c, rfl, h1, h2, h3⟩ := hc
 obtain ⟨an, cn, rfl, m1, m2, m3⟩ := hns
 obtain ⟨n, hn⟩ : ∃ n, n = l.length := ⟨_, rfl⟩
 obtain ⟨m, hm⟩ : ∃ n, n = ns.length := ⟨_, rfl⟩
 obtain ⟨wa, ba, hwa, hba, hal, k0⟩ := new_box w #[.slice ao n c] 48
 have hcap : n ≤ c ∧ c ≤ 9223372036854775807 := by rw [hn]; exact ⟨h1, h2⟩
 have hcap2 : m ≤ cn ∧ cn ≤ 9223372036854775807 := by rw [hm]; exact ⟨m1, m2⟩
 rw [← hn] at HC
 rw [← hm] at HNS
 have HNM := ZH (ZN hn hm)
 have HG := ZH (hG.below hal)
 have HW := ZH (ZN hwa hba)
 have HK := ZH k0
 have HAL := ZH hal
 rw [← hn, ← hm]
 clear hwa hba hal k0 hG h1 h2 h3 m1 m2 m3 hn hm
 go_enter Tryz.func5, Tryz.ntmps5
 go_upto_region 1 with fail
 rw [← HW.out.1, ← HW.out.2]
 clear HW
 go_wp2_with fail
 refine (pknown_any HG.out).mono ?_
 rintro e w1 ⟨rfl, hb1⟩
 have HB1 := ZH hb1
 have HKN := ZH (pknown_any (HG.out.below hb1))
 have x0 := cells1 hb1 HK.out
 clear hb1
 have e0 : (6 < (n : Int)) = (6 < n) := propext (by omega)
 have e00 : (100 < (m : Int)) = (100 < m) := propext (by omega)
 by_cases hn6 : 6 < n
 ·have e1 : ((6 : Int) < (n : Int)) = True := eq_true (by omega)
  clear e0 e00
  go_wp2_with fail
  refine HKN.out.mono ?_
  rintro e w2 ⟨rfl, hb2⟩
  have HF := ZH (HAL.out.trans ((HB1.out.trans (hb2.mono HB1.out.size)).mono HAL.out.size))
  clear hb2
  go_wp2_with fail
  go_ret
  exact ⟨rfl, HF.out⟩
 have e1 : ((6 : Int) < (n : Int)) = False := eq_false (by omega)
 by_cases hm8 : 100 < m
 ·have e2 : ((100 : Int) < (m : Int)) = True := eq_true (by omega)
  clear e0 e00
  go_wp2_with fail
  refine HKN.out.mono ?_
  rintro e w2 ⟨rfl, hb2⟩
  have HF := ZH (HAL.out.trans ((HB1.out.trans (hb2.mono HB1.out.size)).mono HAL.out.size))
  clear hb2
  go_wp2_with fail
  go_ret
  exact ⟨rfl, HF.out⟩
 have e2 : ((100 : Int) < (m : Int)) = False := eq_false (by omega)
 clear e0 e00 HKN
 have HSZ := ZH (show n ≤ 6 ∧ m ≤ 100 by omega)
 go_wp2_with fail
 refine (pDimensions_any ((HC.out.below HAL.out).below HB1.out)).mono ?_
 rintro e w2 ⟨vd, rfl, hrow2, hb2⟩
 obtain ⟨ad, cd, rfl, hdi⟩ := dims_read hrow2
 obtain ⟨CL, hCL⟩ : ∃ x, x = chainLen l := ⟨_, rfl⟩
 have hcl4 : 1 ≤ CL ∧ CL ≤ 4 := by rw [hCL]; unfold chainLen; split <;> omega
 rw [← hCL] at hdi
 have hlen : (chainDims l CL).length = CL := chainDims_len l CL
 have hcap3 : CL ≤ cd ∧ cd ≤ 9223372036854775807 := by have := hdi; exact ⟨by have := this.1; omega, this.2.1⟩
 rw [← hCL, hlen]
 obtain ⟨D, hD⟩ : ∃ x, x = chainDims l CL := ⟨_, rfl⟩
 rw [← hD] at hdi hlen
 have HDI := ZH hdi
 have HCL := ZH (ZN hcl4 hlen)
 have HB2 := ZH (HAL.out.trans ((HB1.out.trans (hb2.mono HB1.out.size)).mono HAL.out.size))
 have HBD := ZH (show ∀ j, j < CL → (0 ≤ (D.getD j Dm.none).nominal ∧ (D.getD j Dm.none).nominal ≤ 255) ∧ (-63 ≤ (D.getD j Dm.none).lower ∧ (D.getD j Dm.none).lower ≤ 0) ∧ (0 ≤ (D.getD j Dm.none).upper ∧ (D.getD j Dm.none).upper ≤ 63) from fun j hj => by rw [hD, chain_getD l hj]; exact chain_bound l HLO.out j)
 have HG2 := ZH (HG.out.below (HB1.out.trans (hb2.mono HB1.out.size)))
 have HNS2 := ZH (HNS.out.below HB2.out)
 clear hrow2 hb2 hdi hCL hcl4 hlen hD HC HNS HB1 HAL HK HG x0 e1 e2 hn6 hm8 hcap HLO
 obtain ⟨w3, b6, hw3, hb6, hl3, k3⟩ := new_box w2 #[.slice an m cn, .int .i64 (CL : Int), .int .i64 0] 53
 have hgr : GrIn w3 b6 ns CL 0 := by
  obtain ⟨a9, c9, e9, q1, q2, q3⟩ := HNS2.out
  simp only [Value.slice.injEq] at e9
  obtain ⟨rfl, hml, rfl⟩ := e9
  refine ⟨an, cn, by rw [← hml]; exact k3, q1, q2, fun h0 => ?_⟩
  obtain ⟨g, o, e, hg, hc⟩ := q3 h0
  exact ⟨g, o, e, by rw [hb6]; exact hg, fun j hj => ⟨ZJ hl3 (hc j hj).1, (hc j hj).2⟩⟩
 have HGR := ZH hgr
 have HW3 := ZH (ZN hw3 hb6)
 have HL3 := ZH (ZN hl3 (show w2.heap.size ≤ b6 by omega))
 have HG3 := ZH (HG2.out.below hl3)
 clear hgr hw3 hb6 hl3 k3 HNS2
 go_upto_region 5 with fail
 rw [← HW3.out.1, ← HW3.out.2]
 clear HW3
 go_wp2_with fail
 refine (pgform_any HG3.out HGR.out (by have := HCL.out; omega) (by have := HCL.out; omega)).mono ?_
 rintro e w4 ⟨v, rfl, hform, -, hgb4⟩
 obtain ⟨f, hf⟩ : ∃ f, f = growF CL ns := ⟨_, rfl⟩
 rw [← hf] at hform
 have hlite := growF_lite (d := CL) (by have := HCL.out; omega) ns
 rw [← hf] at hlite
 have hfl : f.t.length = CL := by rw [hf, growF_len]
 have HFL := ZH (ZN hlite.1 (ZN hlite.2 hfl))
 obtain ⟨tv, rfl, htr⟩ := hform
 obtain ⟨ta, tn, tc, rfl⟩ := htr.shape
 obtain ⟨NT, hNT⟩ : ∃ s : ByteArray, s = ⟨(numText f.c).toArray⟩ := ⟨_, rfl⟩
 rw [← hNT]
 obtain ⟨w5, b7, hw5, hb7, hl5, k5⟩ := new_box w4 #[.string NT, .slice ta tn tc] 57
 have hb24 : Below w2.heap.size w2 w4 := Gb.below HL3.out.1 hgb4 HL3.out.2
 have HB5 := ZH (hb24.trans (hl5.mono hb24.size))
 have HT5 := ZH (htr.reads.below hl5)
 have HK5 := ZH k5
 have HNT := ZH hNT
 have HW5 := ZH (ZN hw5 hb7)
 clear hf hlite hfl htr hNT hw5 hb7 hl5 k5 hb24 hgb4 HGR HL3 HG3
 go_upto_region 6 with fail
 rw [← HW5.out.1, ← HW5.out.2]
 clear HW5
 have hmb := mBounds_any (n := CL) (by have := HCL.out; omega) (D := D) (fun j hj => by have := HBD.out j (by have := HCL.out; omega); omega) 1 (.form f) (by rw [Go.Gx.dep]; omega) ⟨by rw [Over]; exact HFL.out.2.2, HFL.out.1, by rw [UptoG]; exact upto_len (by rw [HFL.out.2.2, HCL.out.2]; omega), by rw [NoAbs]; trivial, by rw [bsz, HFL.out.2.2]; have := HCL.out; omega⟩ w5 (.agg #[.int .i64 0, .string NT, .slice ta tn tc, .string ⟨#[]⟩, .slice none 0 0]) ad cd (HG2.out.below HB5.out) (HDI.out.below HB5.out) (by
  have h9 := ExIn.of (x := raw (.form f)) (tv := .slice ta tn tc) (by rw [raw]; exact HT5.out.z) (by rw [raw]; exact exs_none _)
  rw [raw] at h9 ⊢
  simp only [Ex.op, Ex.c, Ex.f, ← HNT.out] at h9
  exact h9)
 rw [HCL.out.2] at hmb
 have HMB := ZH hmb
 obtain ⟨q0, q1⟩ := cells2 (ZR _ w5) HK5.out
 clear hmb
 go_wp2_with fail
 refine HMB.out.mono ?_
 rintro e w6 ⟨lo, hi, rfl, hlo, hhi, hb6⟩
 obtain ⟨p1, g1, f1, n1, p2, g2, f2, n2, rfl⟩ := rt_shape hlo
 obtain ⟨p3, g3, f3, n3, p4, g4, f4, n4, rfl⟩ := rt_shape hhi
 obtain ⟨w7, b8, b9, hw7, hb8, hb9, hl7, k8, k9⟩ := new_two w6 #[.bool p1, .slice g1 f1 n1, .bool p2, .slice g2 f2 n2] #[.bool p3, .slice g3 f3 n3, .bool p4, .slice g4 f4 n4] 43 43
 have hb67 := hb6.trans (hl7.mono hb6.size)
 have HB7 := ZH (HB5.out.trans (hb67.mono HB5.out.size))
 have HR7 := ZH (ZN (hlo.below hl7) (hhi.below hl7))
 have HK7 := ZH (ZN k8 (ZN k9 ((hb67.block b7 (ZL HK5.out)).trans HK5.out)))
 have HT7 := ZH (HT5.out.below hb67)
 have HW7 := ZH (ZN hw7 (ZN hb8 hb9))
 clear hlo hhi hb6 hw7 hb8 hb9 hl7 k8 k9 hb67 HMB HK5 HT5 q0 q1
 go_upto_region 7 with fail
 rw [← HW7.out.1, ← HW7.out.2.2, ← HW7.out.2.1]
 clear HW7
 go_wp2_with fail
 go_loopg [11, 12, 13] CL (fun gk va vb i wr => ∃ k : Nat, k + gk = CL ∧ i = .int .i64 k ∧ Hid (RatApp wr w7.heap.size va (endTo true f.t D k) 2 ∧ RatApp wr w7.heap.size vb (endTo false f.t D k) 2 ∧ (∀ q, va.ownBlock = some q → vb.ownBlock ≠ some q)) ∧ Hid (Below w7.heap.size w7 wr))
 case atStart => exact ⟨0, by omega, rfl, ZH ⟨ratApp_nil _ _ _, ratApp_nil _ _ _, fun q e => by simp [Value.ownBlock] at e⟩, ZH (ZR _ _)⟩
 case round =>
  obtain ⟨k, hk, rfl, hrow, hbw⟩ := hrel
  by_cases hlt : k < CL
  ·have e1 : ((k : Int) < (CL : Int)) = True := eq_true (by omega)
   obtain ⟨db, dof, rfl, -, hdc⟩ := HDI.out.2.2 (by have := HCL.out; omega)
   obtain ⟨d, hdd⟩ : ∃ x, x = D.getD k Dm.none := ⟨_, rfl⟩
   have hx := hdc k (by have := HCL.out.2; omega)
   have hbd := HBD.out k hlt
   rw [← hdd] at hx hbd
   have hbr := HB7.out.trans (hbw.out.mono HB7.out.size)
   have HX2 := ZH (ZN (ZJ hbr hx.2.1) (ZN (ZJ hbr hx.2.2.1) (ZJ hbr hx.2.2.2)))
   obtain ⟨lo, hlo⟩ : ∃ x, x = d.nominal + d.lower := ⟨_, rfl⟩
   obtain ⟨hi', hhi⟩ : ∃ x, x = d.nominal + d.upper := ⟨_, rfl⟩
   have hw1 : IntKind.i64.wrap (d.nominal + d.lower) = lo := by rw [hlo]; exact IntWalk.i64_in _ (by omega)
   have hw2 : IntKind.i64.wrap (d.nominal + d.upper) = hi' := by rw [hhi]; exact IntWalk.i64_in _ (by omega)
   have HP := ZH (ZN hw1 (ZN hw2 (show (-1000 ≤ lo ∧ lo ≤ 1000) ∧ (-1000 ≤ hi' ∧ hi' ≤ 1000) by omega)))
   obtain ⟨q, hq⟩ : ∃ q, q = f.t.getD k 0 := ⟨_, rfl⟩
   have HEA := ZH (show endTo true f.t D (k + 1) = endTo true f.t D k ++ [((if q < 0 then hi' else lo : Int) : Rat)] ∧ endTo false f.t D (k + 1) = endTo false f.t D k ++ [((if q < 0 then lo else hi' : Int) : Rat)] from by
    rw [endTo_succ, endTo_succ, endAt, endAt, ← hq, ← hdd, ← hlo, ← hhi]
    by_cases hq0 : q < 0
    ·simp [hq0]
    ·simp [hq0])
   have hfc := fac_form f k
   rw [← hq] at hfc
   have HFC := ZH hfc
   obtain ⟨ra, hra⟩ : ∃ x, x = endTo true f.t D k := ⟨_, rfl⟩
   obtain ⟨rb, hrb⟩ : ∃ x, x = endTo false f.t D k := ⟨_, rfl⟩
   rw [← hra, ← hrb] at HEA hrow
   have hlra : ra.length = k := by rw [hra, endTo_len]
   have hlrb : rb.length = k := by rw [hrb, endTo_len]
   obtain ⟨aa, ac, rfl, -, -⟩ := hrow.out.1.shape
   obtain ⟨ba', bc', rfl, -, -⟩ := hrow.out.2.1.shape
   rw [hlra, hlrb] at hrow ⊢
   have HROW := ZH hrow.out
   have HBW := ZH hbw.out
   have HLT := ZH (ZN hlt (ZN hk (ZN hlra hlrb)))
   have HWR := ZH (ZR wr.heap.size wr)
   have hk0 : (0 : Int) ≤ (k : Int) := by omega
   have hk1 : (k : Int) < (CL : Int) := by omega
   clear hdc hdd hx hbd hbr hlo hhi hw1 hw2 hq hfc hra hrb hlra hlrb hrow hbw hlt hk
   go_upto_region 11 with fail
   clear e1
   refine FlowX.wp_region_mix (fun a b => Below a.heap.size a b) (fun _ _ h => h) [0, 1, 2, 3, 4, 5, 6, 7, 8, 9, 10, 11, 12, 13, 14, 15, 16, 17, 18, 19, 20, 21, 22, 23, 24, 25] [true, true, true, true, true, true, true, true, true, true, true, true, true, true, true, true, true, true, true, true, true, true, true, true, true, true, false, false] (fun j9 => [24, 25].contains j9) (fun i9 v w' => match i9 with
    | 0 => v = .slice (some ⟨db, dof, none⟩) CL cd
    | 1 => v = .int .i64 (k : Int)
    | 2 => v = .pointer (some ⟨db, dof + k * 4, none⟩)
    | 3 => v = .pointer (some ⟨db, dof + k * 4 + 1, none⟩)
    | 4 => v = .int .i64 d.nominal
    | 5 => v = .slice (some ⟨db, dof, none⟩) CL cd
    | 6 => v = .int .i64 (k : Int)
    | 7 => v = .pointer (some ⟨db, dof + k * 4, none⟩)
    | 8 => v = .pointer (some ⟨db, dof + k * 4 + 2, none⟩)
    | 9 => v = .int .i64 d.lower
    | 10 => v = .int .i64 lo
    | 11 => RtIn w' v (lo : Rat) 2
    | 12 => v = .slice (some ⟨db, dof, none⟩) CL cd
    | 13 => v = .int .i64 (k : Int)
    | 14 => v = .pointer (some ⟨db, dof + k * 4, none⟩)
    | 15 => v = .pointer (some ⟨db, dof + k * 4 + 1, none⟩)
    | 16 => v = .int .i64 d.nominal
    | 17 => v = .slice (some ⟨db, dof, none⟩) CL cd
    | 18 => v = .int .i64 (k : Int)
    | 19 => v = .pointer (some ⟨db, dof + k * 4, none⟩)
    | 20 => v = .pointer (some ⟨db, dof + k * 4 + 3, none⟩)
    | 21 => v = .int .i64 d.upper
    | 22 => v = .int .i64 hi'
    | 23 => RtIn w' v (hi' : Rat) 2
    | 24 => True
    | _ => True) (FlowX.TwoBox wr.heap.size #[.bool false, .slice none 0 0, .bool false, .slice none 0 0] 43 24 25) rfl rfl (by kernel_rfl) (by kernel_rfl) (by kernel_rfl) (by kernel_rfl) ?st ?hX ?hX0 ?steps ?fin
   case st =>
    intro i9 v u1 u2 h hb
    match i9 with
    | 0 | 1 | 2 | 3 | 4 | 5 | 6 | 7 | 8 | 9 | 10 | 12 | 13 | 14 | 15 | 16 | 17 | 18 | 19 | 20 | 21 | 22 | 24 | 25 | _ + 26 => exact h
    | 11 => exact (show RtIn u1 v (lo : Rat) 2 from h).below hb
    | 23 => exact (show RtIn u1 v (hi' : Rat) 2 from h).below hb
   case hX => exact fun L xs w L' xs' w' h he hb => h.below (he 24 rfl) (he 25 rfl) hb
   case hX0 => exact fun xs => FlowX.TwoBox.init _ _
   case steps =>
    refine Flow.Steps.cons (.inl ⟨rfl, FlowX.StepS.of rfl ?s0⟩) (Flow.Steps.cons (.inl ⟨rfl, FlowX.StepS.of rfl ?s1⟩) (Flow.Steps.cons (.inl ⟨rfl, FlowX.StepS.of rfl ?s2⟩) (Flow.Steps.cons (.inl ⟨rfl, FlowX.StepS.of rfl ?s3⟩) (Flow.Steps.cons (.inl ⟨rfl, FlowX.StepS.of rfl ?s4⟩) (Flow.Steps.cons (.inl ⟨rfl, FlowX.StepS.of rfl ?s5⟩) (Flow.Steps.cons (.inl ⟨rfl, FlowX.StepS.of rfl ?s6⟩) (Flow.Steps.cons (.inl ⟨rfl, FlowX.StepS.of rfl ?s7⟩) (Flow.Steps.cons (.inl ⟨rfl, FlowX.StepS.of rfl ?s8⟩) (Flow.Steps.cons (.inl ⟨rfl, FlowX.StepS.of rfl ?s9⟩) (Flow.Steps.cons (.inl ⟨rfl, FlowX.StepS.of rfl ?s10⟩) (Flow.Steps.cons (.inl ⟨rfl, FlowX.StepS.of rfl ?s11⟩) (Flow.Steps.cons (.inl ⟨rfl, FlowX.StepS.of rfl ?s12⟩) (Flow.Steps.cons (.inl ⟨rfl, FlowX.StepS.of rfl ?s13⟩) (Flow.Steps.cons (.inl ⟨rfl, FlowX.StepS.of rfl ?s14⟩) (Flow.Steps.cons (.inl ⟨rfl, FlowX.StepS.of rfl ?s15⟩) (Flow.Steps.cons (.inl ⟨rfl, FlowX.StepS.of rfl ?s16⟩) (Flow.Steps.cons (.inl ⟨rfl, FlowX.StepS.of rfl ?s17⟩) (Flow.Steps.cons (.inl ⟨rfl, FlowX.StepS.of rfl ?s18⟩) (Flow.Steps.cons (.inl ⟨rfl, FlowX.StepS.of rfl ?s19⟩) (Flow.Steps.cons (.inl ⟨rfl, FlowX.StepS.of rfl ?s20⟩) (Flow.Steps.cons (.inl ⟨rfl, FlowX.StepS.of rfl ?s21⟩) (Flow.Steps.cons (.inl ⟨rfl, FlowX.StepS.of rfl ?s22⟩) (Flow.Steps.cons (.inl ⟨rfl, FlowX.StepS.of rfl ?s23⟩) (Flow.Steps.cons (.inr ⟨rfl, FlowX.StepX.of rfl ?s24⟩) (Flow.Steps.cons (.inr ⟨rfl, FlowX.StepX.of rfl ?s25⟩) Flow.Steps.nil)))))))))))))))))))))))))
    case s0 | s1 | s5 | s6 | s12 | s13 | s17 | s18 =>
     intro L9 xs w' hb hT hX9 K9 hK9
     clear hT
     simp only [zFp, zAp, zLa, zLb, zLc, Nat.reduceAdd, zNz] at hK9 ⊢
     have hw := Flow.hwD HWR.out hb
     go_simp
     exact hK9 _ _ (ZR _ _) rfl
    case s2 =>
     intro L9 xs w' hb hT hX9 K9 hK9
     have h0 : (xs 0) = .slice (some ⟨db, dof, none⟩) CL cd := (hT 0 (by kernel_rfl)).2
     have h1 : (xs 1) = .int .i64 (k : Int) := (hT 1 (by kernel_rfl)).2
     clear hT
     simp only [zFp, zAp, zLa, zLb, zLc, Nat.reduceAdd, zNz] at hK9 ⊢
     have hw := Flow.hwD HWR.out hb
     (try simp only [h0] at hK9)
     (try simp only [h1] at hK9)
     go_simp
     exact hK9 _ _ (ZR _ _) rfl
    case s3 =>
     intro L9 xs w' hb hT hX9 K9 hK9
     have h2 : (xs 2) = .pointer (some ⟨db, dof + k * 4, none⟩) := (hT 2 (by kernel_rfl)).2
     clear hT
     simp only [zFp, zAp, zLa, zLb, zLc, Nat.reduceAdd, zNz] at hK9 ⊢
     have hw := Flow.hwD HWR.out hb
     (try simp only [h2] at hK9)
     go_simp
     exact hK9 _ _ (ZR _ _) rfl
    case s4 =>
     intro L9 xs w' hb hT hX9 K9 hK9
     have h3 : (xs 3) = .pointer (some ⟨db, dof + k * 4 + 1, none⟩) := (hT 3 (by kernel_rfl)).2
     clear hT
     simp only [zFp, zAp, zLa, zLb, zLc, Nat.reduceAdd, zNz] at hK9 ⊢
     have hw := Flow.hwD HWR.out hb
     (try simp only [h3] at hK9)
     have y0 := ZJ hw HX2.out.1
     go_simp
     exact hK9 _ _ (ZR _ _) rfl
    case s7 =>
     intro L9 xs w' hb hT hX9 K9 hK9
     have h5 : (xs 5) = .slice (some ⟨db, dof, none⟩) CL cd := (hT 5 (by kernel_rfl)).2
     have h6 : (xs 6) = .int .i64 (k : Int) := (hT 6 (by kernel_rfl)).2
     clear hT
     simp only [zFp, zAp, zLa, zLb, zLc, Nat.reduceAdd, zNz] at hK9 ⊢
     have hw := Flow.hwD HWR.out hb
     (try simp only [h5] at hK9)
     (try simp only [h6] at hK9)
     go_simp
     exact hK9 _ _ (ZR _ _) rfl
    case s8 =>
     intro L9 xs w' hb hT hX9 K9 hK9
     have h7 : (xs 7) = .pointer (some ⟨db, dof + k * 4, none⟩) := (hT 7 (by kernel_rfl)).2
     clear hT
     simp only [zFp, zAp, zLa, zLb, zLc, Nat.reduceAdd, zNz] at hK9 ⊢
     have hw := Flow.hwD HWR.out hb
     (try simp only [h7] at hK9)
     go_simp
     exact hK9 _ _ (ZR _ _) rfl
    case s9 =>
     intro L9 xs w' hb hT hX9 K9 hK9
     have h8 : (xs 8) = .pointer (some ⟨db, dof + k * 4 + 2, none⟩) := (hT 8 (by kernel_rfl)).2
     clear hT
     simp only [zFp, zAp, zLa, zLb, zLc, Nat.reduceAdd, zNz] at hK9 ⊢
     have hw := Flow.hwD HWR.out hb
     (try simp only [h8] at hK9)
     have y0 := ZJ hw HX2.out.2.1
     go_simp
     exact hK9 _ _ (ZR _ _) rfl
    case s10 =>
     intro L9 xs w' hb hT hX9 K9 hK9
     have h4 : (xs 4) = .int .i64 d.nominal := (hT 4 (by kernel_rfl)).2
     have h9 : (xs 9) = .int .i64 d.lower := (hT 9 (by kernel_rfl)).2
     clear hT
     simp only [zFp, zAp, zLa, zLb, zLc, Nat.reduceAdd, zNz] at hK9 ⊢
     have hw := Flow.hwD HWR.out hb
     (try simp only [h4] at hK9)
     (try simp only [h9] at hK9)
     go_simp
     exact hK9 _ _ (ZR _ _) (by first | (rw [HP.out.1]; done) | (congr 1; exact HP.out.1))
    case s11 =>
     intro L9 xs w' hb hT hX9 K9 hK9
     have h10 : (xs 10) = .int .i64 lo := (hT 10 (by kernel_rfl)).2
     clear hT
     simp only [zFp, zAp, zLa, zLb, zLc, Nat.reduceAdd, zNz] at hK9 ⊢
     have hw := Flow.hwD HWR.out hb
     (try simp only [h10] at hK9)
     go_simp
     go_at_call 23
     refine (ratFrom_any (n := lo) (by have := HP.out; omega) (by have := HP.out; omega)).mono ?_
     rintro e w3 ⟨v3, rfl, hi3, hb3⟩
     exact hK9 _ _ hb3 hi3
    case s14 =>
     intro L9 xs w' hb hT hX9 K9 hK9
     have h12 : (xs 12) = .slice (some ⟨db, dof, none⟩) CL cd := (hT 12 (by kernel_rfl)).2
     have h13 : (xs 13) = .int .i64 (k : Int) := (hT 13 (by kernel_rfl)).2
     clear hT
     simp only [zFp, zAp, zLa, zLb, zLc, Nat.reduceAdd, zNz] at hK9 ⊢
     have hw := Flow.hwD HWR.out hb
     (try simp only [h12] at hK9)
     (try simp only [h13] at hK9)
     go_simp
     exact hK9 _ _ (ZR _ _) rfl
    case s15 =>
     intro L9 xs w' hb hT hX9 K9 hK9
     have h14 : (xs 14) = .pointer (some ⟨db, dof + k * 4, none⟩) := (hT 14 (by kernel_rfl)).2
     clear hT
     simp only [zFp, zAp, zLa, zLb, zLc, Nat.reduceAdd, zNz] at hK9 ⊢
     have hw := Flow.hwD HWR.out hb
     (try simp only [h14] at hK9)
     go_simp
     exact hK9 _ _ (ZR _ _) rfl
    case s16 =>
     intro L9 xs w' hb hT hX9 K9 hK9
     have h15 : (xs 15) = .pointer (some ⟨db, dof + k * 4 + 1, none⟩) := (hT 15 (by kernel_rfl)).2
     clear hT
     simp only [zFp, zAp, zLa, zLb, zLc, Nat.reduceAdd, zNz] at hK9 ⊢
     have hw := Flow.hwD HWR.out hb
     (try simp only [h15] at hK9)
     have y0 := ZJ hw HX2.out.1
     go_simp
     exact hK9 _ _ (ZR _ _) rfl
    case s19 =>
     intro L9 xs w' hb hT hX9 K9 hK9
     have h17 : (xs 17) = .slice (some ⟨db, dof, none⟩) CL cd := (hT 17 (by kernel_rfl)).2
     have h18 : (xs 18) = .int .i64 (k : Int) := (hT 18 (by kernel_rfl)).2
     clear hT
     simp only [zFp, zAp, zLa, zLb, zLc, Nat.reduceAdd, zNz] at hK9 ⊢
     have hw := Flow.hwD HWR.out hb
     (try simp only [h17] at hK9)
     (try simp only [h18] at hK9)
     go_simp
     exact hK9 _ _ (ZR _ _) rfl
    case s20 =>
     intro L9 xs w' hb hT hX9 K9 hK9
     have h19 : (xs 19) = .pointer (some ⟨db, dof + k * 4, none⟩) := (hT 19 (by kernel_rfl)).2
     clear hT
     simp only [zFp, zAp, zLa, zLb, zLc, Nat.reduceAdd, zNz] at hK9 ⊢
     have hw := Flow.hwD HWR.out hb
     (try simp only [h19] at hK9)
     go_simp
     exact hK9 _ _ (ZR _ _) rfl
    case s21 =>
     intro L9 xs w' hb hT hX9 K9 hK9
     have h20 : (xs 20) = .pointer (some ⟨db, dof + k * 4 + 3, none⟩) := (hT 20 (by kernel_rfl)).2
     clear hT
     simp only [zFp, zAp, zLa, zLb, zLc, Nat.reduceAdd, zNz] at hK9 ⊢
     have hw := Flow.hwD HWR.out hb
     (try simp only [h20] at hK9)
     have y0 := ZJ hw HX2.out.2.2
     go_simp
     exact hK9 _ _ (ZR _ _) rfl
    case s22 =>
     intro L9 xs w' hb hT hX9 K9 hK9
     have h16 : (xs 16) = .int .i64 d.nominal := (hT 16 (by kernel_rfl)).2
     have h21 : (xs 21) = .int .i64 d.upper := (hT 21 (by kernel_rfl)).2
     clear hT
     simp only [zFp, zAp, zLa, zLb, zLc, Nat.reduceAdd, zNz] at hK9 ⊢
     have hw := Flow.hwD HWR.out hb
     (try simp only [h16] at hK9)
     (try simp only [h21] at hK9)
     go_simp
     exact hK9 _ _ (ZR _ _) (by first | (rw [HP.out.2.1]; done) | (congr 1; exact HP.out.2.1))
    case s23 =>
     intro L9 xs w' hb hT hX9 K9 hK9
     have h22 : (xs 22) = .int .i64 hi' := (hT 22 (by kernel_rfl)).2
     clear hT
     simp only [zFp, zAp, zLa, zLb, zLc, Nat.reduceAdd, zNz] at hK9 ⊢
     have hw := Flow.hwD HWR.out hb
     (try simp only [h22] at hK9)
     go_simp
     go_at_call 23
     refine (ratFrom_any (n := hi') (by have := HP.out; omega) (by have := HP.out; omega)).mono ?_
     rintro e w3 ⟨v3, rfl, hi3, hb3⟩
     exact hK9 _ _ hb3 hi3
    case s24 =>
     intro L9 xs w' hb hT hX9 hL9 K9 hK9
     clear hT
     simp only [zFp, zAp, zLa, zLb, zLc, Nat.reduceAdd, zNz] at hK9 ⊢
     have hw := Flow.hwD HWR.out hb
     go_simp
     exact hK9 _ _ (hb.alloc hb.size _) ((ZR _ _).alloc (Nat.le_refl _) _) trivial (hX9.make1 hb.size (by decide))
    case s25 =>
     intro L9 xs w' hb hT hX9 hL9 K9 hK9
     clear hT
     simp only [zFp, zAp, zLa, zLb, zLc, Nat.reduceAdd, zNz] at hK9 ⊢
     have hw := Flow.hwD HWR.out hb
     go_simp
     exact hK9 _ _ (hb.alloc hb.size _) ((ZR _ _).alloc (Nat.le_refl _) _) trivial (hX9.make2 hb.size (by decide))
   case fin =>
    intro xs w' hb hT hX9
    have hw := Flow.hwD HWR.out hb
    have h11 : RtIn w' (xs 11) (lo : Rat) 2 := hT 11 (by rfl)
    have h23 : RtIn w' (xs 23) (hi' : Rat) 2 := hT 23 (by rfl)
    clear hT
    simp only [zFp, zAp, zLa, zLb, zLc, Nat.reduceAdd, zNz, FlowR.restL]
    obtain ⟨ba, bb, e8, e9, hne, hga, hgb, ka, kb⟩ := hX9.both (by rfl) (by rfl)
    obtain ⟨aq1, aq2, aq3, aq4, aq5, aq6, aq7, aq8, e3⟩ := rt_shape h11
    obtain ⟨bq1, bq2, bq3, bq4, bq5, bq6, bq7, bq8, e7⟩ := rt_shape h23
    rw [e3] at h11
    rw [e7] at h23
    simp only [e3, e7, e8, e9]
    clear e3 e7 e8 e9 hX9
    have fa0 := ZF ka 0
    have fa1 := ZF ka 1
    have fa2 := ZF ka 2
    have fa3 := ZF ka 3
    obtain ⟨faz0, faz1, faz2, faz3⟩ := cells4 (ZR _ w') ka
    have fb0 := ZF kb 0
    have fb1 := ZF kb 1
    have fb2 := ZF kb 2
    have fb3 := ZF kb 3
    obtain ⟨fbz0, fbz1, fbz2, fbz3⟩ := cells4 (ZR _ w') kb
    have hne2 := hne.symm
    have HAB := ZH (ZN hne (ZN hga (ZN hgb (ZN ka kb))))
    have H37 := ZH (ZN h11 h23)
    have HW9 := ZH hw
    clear h11 h23 ka kb hga hgb hb hw
    go_upto_region 12 with fail
    obtain ⟨wc, hwc⟩ : ∃ x, x = (((w'.setCell ⟨ba, 0, none⟩ (.bool aq1)).setCell ⟨ba, 1, none⟩ (.slice aq2 aq3 aq4)).setCell ⟨ba, 2, none⟩ (.bool aq5)).setCell ⟨ba, 3, none⟩ (.slice aq6 aq7 aq8) := ⟨_, rfl⟩
    rw [← hwc]
    obtain ⟨w8, hw8⟩ : ∃ x, x = (((wc.setCell ⟨bb, 0, none⟩ (.bool bq1)).setCell ⟨bb, 1, none⟩ (.slice bq2 bq3 bq4)).setCell ⟨bb, 2, none⟩ (.bool bq5)).setCell ⟨bb, 3, none⟩ (.slice bq6 bq7 bq8) := ⟨_, rfl⟩
    rw [← hw8]
    have hua : But ba w' wc := by rw [hwc]; exact But.set4 (b := ba) w' _ _ _ _
    have hub : But bb wc w8 := by rw [hw8]; exact But.set4 (b := bb) wc _ _ _ _
    have hka : wc.heap[ba]? = some (.cells #[.bool aq1, .slice aq2 aq3 aq4, .bool aq5, .slice aq6 aq7 aq8] 43 (0, 0)) := by rw [hwc]; exact four_set HAB.out.2.2.2.1 _ _ _ _
    have hkb := (hua.block bb HAB.out.1.symm (ZL HAB.out.2.2.2.2)).trans HAB.out.2.2.2.2
    have hkb8 : w8.heap[bb]? = some (.cells #[.bool bq1, .slice bq2 bq3 bq4, .bool bq5, .slice bq6 bq7 bq8] 43 (0, 0)) := by rw [hw8]; exact four_set hkb _ _ _ _
    have hka8 := (hub.block ba HAB.out.1 (ZL hka)).trans hka
    have HKAB := ZH (ZN hka8 (ZN hkb8 (ZN HAB.out.1 (ZN HAB.out.2.1 HAB.out.2.2.1))))
    have HRAB := ZH (ZN ((H37.out.1.but (nodig4 HAB.out.2.2.2.1) hua).but (nodig4 hkb) hub) ((H37.out.2.but (nodig4 HAB.out.2.2.2.1) hua).but (nodig4 hkb) hub))
    have hga := HAB.out.2.1
    have hgb := HAB.out.2.2.1
    have HB8 := ZH (show Below wr.heap.size wr w8 by
     rw [hw8, hwc]
     exact ((((((((HW9.out.setCell (p := ⟨ba, 0, none⟩) hga _).setCell (p := ⟨ba, 1, none⟩) hga _).setCell (p := ⟨ba, 2, none⟩) hga _).setCell (p := ⟨ba, 3, none⟩) hga _).setCell (p := ⟨bb, 0, none⟩) hgb _).setCell (p := ⟨bb, 1, none⟩) hgb _).setCell (p := ⟨bb, 2, none⟩) hgb _).setCell (p := ⟨bb, 3, none⟩) hgb _))
    have HW8 := ZH (ZR w8.heap.size w8)
    clear hwc hw8 hua hub hka hkb hkb8 hka8 hga hgb HW9 H37 HAB hne hne2 HWR fa0 fa1 fa2 fa3 fb0 fb1 fb2 fb3 faz0 faz1 faz2 faz3 fbz0 fbz1 fbz2 fbz3
    have hb78 : Below w7.heap.size w7 w8 := HBW.out.trans (HB8.out.mono HBW.out.size)
    obtain ⟨q0, q1⟩ := cells2 hb78 HK7.out.2.2
    have hft := fine_texts HFL.out.2.1 HFL.out.2.2
    have hpf := pfactor_any (HG2.out.below (HB7.out.trans (hb78.mono HB7.out.size))) (v := .agg #[.string ⟨(numText f.c).toArray⟩, .slice ta tn tc]) (c := numText f.c) ⟨_, rfl, HT7.out.below hb78⟩ (Nat.le_trans (texts_len f) (by rw [HFL.out.2.2]; have := HCL.out; omega)) (S := 60) (by omega) (fun j hj => by
     have hm : (formTexts f).getD j (0, []) ∈ formTexts f := by
      rw [List.getD_eq_getElem?_getD, List.getElem?_eq_getElem hj]
      exact List.getElem_mem hj
     obtain ⟨h1, r, h2, h3, h4⟩ := texts_of hm
     have h5 := (hft _ hm).2.1
     rw [h4] at h5 ⊢
     exact ⟨h5, read_num_ok (by omega) (by omega)⟩) (k : Int)
    rw [HFC.out, ← HNT.out] at hpf
    have HPF := ZH hpf
    clear hpf hft hb78
    go_wp2_with fail
    refine HPF.out.mono ?_
    rintro e w9 ⟨v, rfl, hv, hb9'⟩
    have HSG := ZH (ratSign_any hv)
    have HB9 := ZH hb9'
    clear hv hb9' HPF q0 q1
    go_wp2_with fail
    refine HSG.out.mono ?_
    rintro e wS ⟨rfl, hbS⟩
    have HBS := ZH (HB8.out.trans ((HB9.out.trans (hbS.mono HB9.out.size)).mono HB8.out.size))
    have hb8S := HB9.out.trans (hbS.mono HB9.out.size)
    have HKS := ZH (show wS.heap[ba]? = _ ∧ wS.heap[bb]? = _ ∧ RtIn wS _ (lo : Rat) 2 ∧ RtIn wS _ (hi' : Rat) 2 from ⟨(hb8S.block ba (ZL HKAB.out.1)).trans HKAB.out.1, (hb8S.block bb (ZL HKAB.out.2.1)).trans HKAB.out.2.1, HRAB.out.1.below hb8S, HRAB.out.2.below hb8S⟩)
    clear hbS hb8S HSG HB9
    by_cases hq0 : q < 0
    ·have e2 : (cmpI q.num 0 < 0) = True := eq_true ((cmp_ltz q).2 hq0)
     have HE := ZH (show endTo true f.t D (k + 1) = ra ++ [(hi' : Rat)] ∧ endTo false f.t D (k + 1) = rb ++ [(lo : Rat)] from by have h := HEA.out; simp only [hq0, if_true] at h; exact h)
     clear hq0
     obtain ⟨z0, z1, z2, z3⟩ := cells4 (ZR _ wS) HKS.out.1
     obtain ⟨y0, y1, y2, y3⟩ := cells4 (ZR _ wS) HKS.out.2.1
     have fa0 := ZF HKS.out.1 0
     have fa1 := ZF HKS.out.1 1
     have fa2 := ZF HKS.out.1 2
     have fa3 := ZF HKS.out.1 3
     have fb0 := ZF HKS.out.2.1 0
     have fb1 := ZF HKS.out.2.1 1
     have fb2 := ZF HKS.out.2.1 2
     have fb3 := ZF HKS.out.2.1 3
     have hne := HKAB.out.2.2.1
     have hne2 := HKAB.out.2.2.1.symm
     go_upto_region 14 with fail
     clear e2
     obtain ⟨wc, hwc⟩ : ∃ x, x = (((wS.setCell ⟨ba, 0, none⟩ (.bool bq1)).setCell ⟨ba, 1, none⟩ (.slice bq2 bq3 bq4)).setCell ⟨ba, 2, none⟩ (.bool bq5)).setCell ⟨ba, 3, none⟩ (.slice bq6 bq7 bq8) := ⟨_, rfl⟩
     rw [← hwc]
     obtain ⟨wT, hwT⟩ : ∃ x, x = (((wc.setCell ⟨bb, 0, none⟩ (.bool aq1)).setCell ⟨bb, 1, none⟩ (.slice aq2 aq3 aq4)).setCell ⟨bb, 2, none⟩ (.bool aq5)).setCell ⟨bb, 3, none⟩ (.slice aq6 aq7 aq8) := ⟨_, rfl⟩
     rw [← hwT]
     have hua : But ba wS wc := by rw [hwc]; exact But.set4 (b := ba) wS _ _ _ _
     have hub : But bb wc wT := by rw [hwT]; exact But.set4 (b := bb) wc _ _ _ _
     have hka : wc.heap[ba]? = some (.cells #[.bool bq1, .slice bq2 bq3 bq4, .bool bq5, .slice bq6 bq7 bq8] 43 (0, 0)) := by rw [hwc]; exact four_set HKS.out.1 _ _ _ _
     have hkb := (hua.block bb hne2 (ZL HKS.out.2.1)).trans HKS.out.2.1
     have HAB := ZH (show wT.heap[ba]? = some (.cells #[.bool bq1, .slice bq2 bq3 bq4, .bool bq5, .slice bq6 bq7 bq8] 43 (0, 0)) ∧ wT.heap[bb]? = some (.cells #[.bool aq1, .slice aq2 aq3 aq4, .bool aq5, .slice aq6 aq7 aq8] 43 (0, 0)) ∧ RtIn wT (.agg #[.bool bq1, .slice bq2 bq3 bq4, .bool bq5, .slice bq6 bq7 bq8]) (hi' : Rat) 2 ∧ RtIn wT (.agg #[.bool aq1, .slice aq2 aq3 aq4, .bool aq5, .slice aq6 aq7 aq8]) (lo : Rat) 2 from ⟨(hub.block ba hne (ZL hka)).trans hka, by rw [hwT]; exact four_set hkb _ _ _ _, (HKS.out.2.2.2.but (nodig4 HKS.out.1) hua).but (nodig4 hkb) hub, (HKS.out.2.2.1.but (nodig4 HKS.out.1) hua).but (nodig4 hkb) hub⟩)
     have hga := HKAB.out.2.2.2.1
     have hgb := HKAB.out.2.2.2.2
     have HBT := ZH (show Below wr.heap.size wr wT by
      rw [hwT, hwc]
      exact ((((((((HBS.out.setCell (p := ⟨ba, 0, none⟩) hga _).setCell (p := ⟨ba, 1, none⟩) hga _).setCell (p := ⟨ba, 2, none⟩) hga _).setCell (p := ⟨ba, 3, none⟩) hga _).setCell (p := ⟨bb, 0, none⟩) hgb _).setCell (p := ⟨bb, 1, none⟩) hgb _).setCell (p := ⟨bb, 2, none⟩) hgb _).setCell (p := ⟨bb, 3, none⟩) hgb _))
     clear hwc hwT hua hub hka hkb hga hgb hne hne2 z0 z1 z2 z3 y0 y1 y2 y3 fa0 fa1 fa2 fa3 fb0 fb1 fb2 fb3
     have hB0 : w7.heap.size ≤ wT.heap.size := Nat.le_trans HBW.out.size HBT.out.size
     have HRW := ZH (ZN (HROW.out.1.below HBT.out) (ZN (HROW.out.2.1.below HBT.out) HROW.out.2.2))
     have HOA := ZH (show ∀ q, (Value.slice aa k ac).ownBlock = some q → q < wr.heap.size from fun q e => (HROW.out.1.own q e).2)
     have HOB := ZH (show ∀ q, (Value.slice ba' k bc').ownBlock = some q → q < wr.heap.size from fun q e => (HROW.out.2.1.own q e).2)
     have HNA := ZH (show some ba ≠ (Value.slice aa k ac).ownBlock ∧ some bb ≠ (Value.slice aa k ac).ownBlock ∧ wr.heap.size ≤ wT.heap.size from ⟨fun e => by have h1 := HOA.out ba e.symm; have h2 := HKAB.out.2.2.2.1; omega, fun e => by have h1 := HOA.out bb e.symm; have h2 := HKAB.out.2.2.2.2; omega, HBT.out.size⟩)
     have HB0 := ZH hB0
     clear hB0
     refine FlowX.wp_region_mixR (fun u v => u.grownBy v (Value.slice aa k ac).ownBlock) (fun u => World.grownBy.refl u _) (fun _ _ _ h k9 => grown_more h k9) (fun u v => u.grownBy v (Value.slice aa k ac).ownBlock) (fun u v h => grown_more (World.grownBy.refl u _) h) [0, 1, 2, 3, 4, 5, 6] [true, true, true, true, true, true, true, false, false, false] (fun j9 => [3].contains j9) (fun i9 v w' => match i9 with
      | 0 => v = .slice aa k ac
      | 1 => v = .agg #[.bool bq1, .slice bq2 bq3 bq4, .bool bq5, .slice bq6 bq7 bq8]
      | 2 => ∃ bp : Nat, v = .slice (some ⟨bp, 0, none⟩) 1 1 ∧ wT.heap.size ≤ bp ∧ w'.heap[bp]? = some (.cells #[.bool bq1, .slice bq2 bq3 bq4, .bool bq5, .slice bq6 bq7 bq8] 43 (0, 0))
      | 3 => ∃ (a9 : Option Addr) (c9 : Nat), v = .slice a9 (k + 1) c9
      | 4 => v = .slice ba' k bc'
      | 5 => v = .agg #[.bool aq1, .slice aq2 aq3 aq4, .bool aq5, .slice aq6 aq7 aq8]
      | _ => ∃ bp : Nat, v = .slice (some ⟨bp, 0, none⟩) 1 1 ∧ wT.heap.size ≤ bp ∧ w'.heap[bp]? = some (.cells #[.bool aq1, .slice aq2 aq3 aq4, .bool aq5, .slice aq6 aq7 aq8] 43 (0, 0))) (fun L9 xs9 w9 => (L9 3 = false → Below wT.heap.size wT w9) ∧ (L9 3 = true → RatApp w9 w7.heap.size (xs9 3) (ra ++ [(hi' : Rat)]) 2 ∧ RatApp w9 w7.heap.size (.slice ba' k bc') rb 2 ∧ RtIn w9 (.agg #[.bool aq1, .slice aq2 aq3 aq4, .bool aq5, .slice aq6 aq7 aq8]) (lo : Rat) 2 ∧ (∀ q, (xs9 3).ownBlock = some q → (Value.slice ba' k bc').ownBlock ≠ some q) ∧ Below w7.heap.size wT w9)) rfl rfl (by kernel_rfl) (by kernel_rfl) (by kernel_rfl) (by kernel_rfl) ?st ?hX ?hX0 ?steps ?fin
     case st =>
      intro i9 v u1 u2 h hb
      match i9 with
      | 0 | 1 | 3 | 4 | 5 => exact h
      | 2 => exact by obtain ⟨bp, e, hl9, hk9⟩ := (show ∃ bp : Nat, v = .slice (some ⟨bp, 0, none⟩) 1 1 ∧ wT.heap.size ≤ bp ∧ u1.heap[bp]? = some (.cells #[.bool bq1, .slice bq2 bq3 bq4, .bool bq5, .slice bq6 bq7 bq8] 43 (0, 0)) from h); exact ⟨bp, e, hl9, (hb.block bp (ZL hk9) (fun e9 => by have h1 := HOA.out bp e9.symm; have h2 := HNA.out.2.2; omega)).trans hk9⟩
      | 6 | _ + 7 => exact by obtain ⟨bp, e, hl9, hk9⟩ := (show ∃ bp : Nat, v = .slice (some ⟨bp, 0, none⟩) 1 1 ∧ wT.heap.size ≤ bp ∧ u1.heap[bp]? = some (.cells #[.bool aq1, .slice aq2 aq3 aq4, .bool aq5, .slice aq6 aq7 aq8] 43 (0, 0)) from h); exact ⟨bp, e, hl9, (hb.block bp (ZL hk9) (fun e9 => by have h1 := HOA.out bp e9.symm; have h2 := HNA.out.2.2; omega)).trans hk9⟩
     case hX => exact fun L xs w L' xs' w' h he hb => ⟨fun e => by have h1 := h.1 (by rw [← (he 3 rfl).1]; exact e); exact h1.trans (hb.mono h1.size), fun e => by obtain ⟨x1, x2, x3, x4, x5⟩ := h.2 (by rw [← (he 3 rfl).1]; exact e); rw [(he 3 rfl).2]; exact ⟨x1.below hb, x2.below hb, x3.below hb, x4, x5.trans (hb.mono (Nat.le_trans HB0.out x5.size))⟩⟩
     case hX0 => exact fun xs => ⟨fun _ => (ZR _ _).drew, fun e => by simp at e⟩
     case steps =>
      refine Flow.Steps.cons (.inl ⟨rfl, FlowX.StepS.of rfl ?s0⟩) (Flow.Steps.cons (.inl ⟨rfl, FlowX.StepS.of rfl ?s1⟩) (Flow.Steps.cons (.inl ⟨rfl, FlowX.StepS.of rfl ?s2⟩) (Flow.Steps.cons (.inr ⟨rfl, FlowX.StepX.of rfl ?s3⟩) (Flow.Steps.cons (.inl ⟨rfl, FlowX.StepS.of rfl ?s4⟩) (Flow.Steps.cons (.inl ⟨rfl, FlowX.StepS.of rfl ?s5⟩) (Flow.Steps.cons (.inl ⟨rfl, FlowX.StepS.of rfl ?s6⟩) Flow.Steps.nil))))))
      case s0 | s4 =>
       intro L9 xs w' hb hT hX9 K9 hK9
       clear hT
       simp only [zFp, zAp, zLa, zLb, zLc, Nat.reduceAdd, zNz] at hK9 ⊢
       have hw := hb
       go_simp
       exact hK9 _ _ (ZR _ _) rfl
      case s1 =>
       intro L9 xs w' hb hT hX9 K9 hK9
       clear hT
       simp only [zFp, zAp, zLa, zLb, zLc, Nat.reduceAdd, zNz] at hK9 ⊢
       have hw := hb
       have kb := (hb.block ba (ZL HAB.out.1) HNA.out.1).trans HAB.out.1
       have y0 := ZI kb 0
       have y1 := ZI kb 1
       have y2 := ZI kb 2
       have y3 := ZI kb 3
       clear kb
       simp at y0 y1 y2 y3
       go_simp
       exact hK9 _ _ (ZR _ _) rfl
      case s2 =>
       intro L9 xs w' hb hT hX9 K9 hK9
       have h1 : (xs 1) = .agg #[.bool bq1, .slice bq2 bq3 bq4, .bool bq5, .slice bq6 bq7 bq8] := (hT 1 (by kernel_rfl)).2
       clear hT
       simp only [zFp, zAp, zLa, zLb, zLc, Nat.reduceAdd, zNz] at hK9 ⊢
       have hw := hb
       (try simp only [h1] at hK9)
       go_simp
       exact hK9 _ _ ((ZR _ _).alloc (Nat.le_refl _) _) ⟨_, rfl, hb.size, ZW _ _⟩
      case s3 =>
       intro L9 xs w' hb hT hX9 hL9 K9 hK9
       have h0 : (xs 0) = .slice aa k ac := (hT 0 (by kernel_rfl)).2
       have h2 : ∃ bp : Nat, (xs 2) = .slice (some ⟨bp, 0, none⟩) 1 1 ∧ wT.heap.size ≤ bp ∧ w'.heap[bp]? = some (.cells #[.bool bq1, .slice bq2 bq3 bq4, .bool bq5, .slice bq6 bq7 bq8] 43 (0, 0)) := (hT 2 (by kernel_rfl)).2
       clear hT
       simp only [zFp, zAp, zLa, zLb, zLc, Nat.reduceAdd, zNz] at hK9 ⊢
       have hw := hb
       (try simp only [h0] at hK9)
       obtain ⟨bp, e2, hl2, hk2⟩ := h2
       simp only [e2] at hK9
       have hbT := hX9.1 hL9
       obtain ⟨v7, wN, hrun, hap, hg7, ho7, hb7⟩ := append_rat2 (HRW.out.1.below hbT) (by have h1 := HLT.out; have h2 := HCL.out; omega) hk2 (HAB.out.2.2.1.below hbT) (Nat.le_trans HB0.out hbT.size) 34
       obtain ⟨a9, c9, e9, -, -⟩ := hap.shape
       simp only [List.length_append, List.length_cons, List.length_nil, HLT.out.2.2.1, Nat.zero_add] at e9
       subst e9
       simp only [h0, e2]
       rw [if_pos (by rfl : Region.wanted _ _ = true)]
       refine oper_append _ _ 34 rfl _ _ rfl rfl hrun ?_
       simp only [Act.put, List.setIfInBounds_toArray, List.set_cons_zero, List.set_cons_succ]
       refine hK9 _ _ (grown_trans hb hg7) hg7 ⟨_, _, rfl⟩ ⟨fun e => by simp [FlowX.setL] at e, fun _ => ?_⟩
       simp only [Go.Flow.upd, if_true]
       exact ⟨hap, (HRW.out.2.1.below hbT).kept (HRW.out.1.below hbT) hg7 (fun q e e2 => HRW.out.2.2 q e2 e), (HRW.out.1.below hbT).keeps hg7 (HAB.out.2.2.2.below hbT), fun q e e2 => by
        rcases ho7 with h | h
        ·rw [h] at e; exact HRW.out.2.2 q e e2
        ·rw [h] at e
         simp only [Option.some.injEq] at e
         have h1 := HOB.out q e2
         have h2 := HNA.out.2.2
         have h3 := hbT.size
         omega, (hbT.mono HB0.out).trans hb7⟩
      case s5 =>
       intro L9 xs w' hb hT hX9 K9 hK9
       clear hT
       simp only [zFp, zAp, zLa, zLb, zLc, Nat.reduceAdd, zNz] at hK9 ⊢
       have hw := hb
       have kb := (hb.block bb (ZL HAB.out.2.1) HNA.out.2.1).trans HAB.out.2.1
       have y0 := ZI kb 0
       have y1 := ZI kb 1
       have y2 := ZI kb 2
       have y3 := ZI kb 3
       clear kb
       simp at y0 y1 y2 y3
       go_simp
       exact hK9 _ _ (ZR _ _) rfl
      case s6 =>
       intro L9 xs w' hb hT hX9 K9 hK9
       have h5 : (xs 5) = .agg #[.bool aq1, .slice aq2 aq3 aq4, .bool aq5, .slice aq6 aq7 aq8] := (hT 5 (by kernel_rfl)).2
       clear hT
       simp only [zFp, zAp, zLa, zLb, zLc, Nat.reduceAdd, zNz] at hK9 ⊢
       have hw := hb
       (try simp only [h5] at hK9)
       go_simp
       exact hK9 _ _ ((ZR _ _).alloc (Nat.le_refl _) _) ⟨_, rfl, hb.size, ZW _ _⟩
     case fin =>
      intro xs w' hb hT hX9
      have hw := hb
      have h3 : ∃ (a9 : Option Addr) (c9 : Nat), (xs 3) = .slice a9 (k + 1) c9 := hT 3 (by rfl)
      have h4 : (xs 4) = .slice ba' k bc' := hT 4 (by rfl)
      have h6 : ∃ bp : Nat, (xs 6) = .slice (some ⟨bp, 0, none⟩) 1 1 ∧ wT.heap.size ≤ bp ∧ w'.heap[bp]? = some (.cells #[.bool aq1, .slice aq2 aq3 aq4, .bool aq5, .slice aq6 aq7 aq8] 43 (0, 0)) := hT 6 (by rfl)
      clear hT
      simp only [zFp, zAp, zLa, zLb, zLc, Nat.reduceAdd, zNz, FlowR.restL]
      obtain ⟨a9, c9, e3⟩ := h3
      obtain ⟨bp, e6, hl6, hk6⟩ := h6
      obtain ⟨x1, x2, x3, x4, x5⟩ := hX9.2 (by rfl)
      rw [e3] at x1 x4
      simp only [e3, h4, e6]
      clear e3 e6 h4 hX9 hb
      obtain ⟨v8, wN, hrun, hap8, hg8, ho8, hb8⟩ := append_rat2 x2 (by have h1 := HLT.out; have h2 := HCL.out; omega) hk6 x3 (Nat.le_trans HB0.out x5.size) 34
      have HN8 := ZH (show RatApp wN w7.heap.size (.slice a9 (k + 1) c9) (endTo true f.t D (k + 1)) 2 ∧ RatApp wN w7.heap.size v8 (endTo false f.t D (k + 1)) 2 ∧ (∀ q, (Value.slice a9 (k + 1) c9).ownBlock = some q → v8.ownBlock ≠ some q) from by
       rw [HE.out.1, HE.out.2]
       refine ⟨x1.kept x2 hg8 x4, hap8, fun q e e2 => ?_⟩
       rcases ho8 with h | h
       ·rw [h] at e2; exact x4 q e e2
       ·rw [h] at e2
        simp only [Option.some.injEq] at e2
        have := (x1.own q e).2
        omega)
      have HBN := ZH (show Below w7.heap.size w7 wN from (HBW.out.trans (HBT.out.mono HBW.out.size)).trans (x5.trans hb8))
      clear x1 x2 x3 x4 x5 hap8 hg8 ho8 hb8 hk6 hl6
      go_wp2_with (at_builtin; refine wpList_append_run _ rfl _ _ 34 rfl _ _ rfl rfl hrun ?_)
      go_roundg (CL - (k + 1))
      case measure => have h1 := HLT.out.1; have h2 := HLT.out.2.1; omega
      case rel => exact ⟨k + 1, by have := HLT.out.1; omega, by first | (congr 1; done) | (congr 1; exact IntWalk.wrap64_in ((k : Int) + 1) (by have h1 := HLT.out.1; have h2 := HCL.out; omega)), HN8, HBN⟩
    ·have e2 : (cmpI q.num 0 < 0) = False := eq_false (fun h => hq0 ((cmp_ltz q).1 h))
     have HE := ZH (show endTo true f.t D (k + 1) = ra ++ [(lo : Rat)] ∧ endTo false f.t D (k + 1) = rb ++ [(hi' : Rat)] from by have h := HEA.out; simp only [hq0, if_false] at h; exact h)
     clear hq0
     go_upto_region 14 with fail
     clear e2
     obtain ⟨wT, hwT⟩ : ∃ x, x = wS := ⟨_, rfl⟩
     rw [← hwT]
     have HAB := ZH HKS.out
     have HBT := ZH HBS.out
     rw [← hwT] at HAB HBT
     clear hwT
     have hB0 : w7.heap.size ≤ wT.heap.size := Nat.le_trans HBW.out.size HBT.out.size
     have HRW := ZH (ZN (HROW.out.1.below HBT.out) (ZN (HROW.out.2.1.below HBT.out) HROW.out.2.2))
     have HOA := ZH (show ∀ q, (Value.slice aa k ac).ownBlock = some q → q < wr.heap.size from fun q e => (HROW.out.1.own q e).2)
     have HOB := ZH (show ∀ q, (Value.slice ba' k bc').ownBlock = some q → q < wr.heap.size from fun q e => (HROW.out.2.1.own q e).2)
     have HNA := ZH (show some ba ≠ (Value.slice aa k ac).ownBlock ∧ some bb ≠ (Value.slice aa k ac).ownBlock ∧ wr.heap.size ≤ wT.heap.size from ⟨fun e => by have h1 := HOA.out ba e.symm; have h2 := HKAB.out.2.2.2.1; omega, fun e => by have h1 := HOA.out bb e.symm; have h2 := HKAB.out.2.2.2.2; omega, HBT.out.size⟩)
     have HB0 := ZH hB0
     clear hB0
     refine FlowX.wp_region_mixR (fun u v => u.grownBy v (Value.slice aa k ac).ownBlock) (fun u => World.grownBy.refl u _) (fun _ _ _ h k9 => grown_more h k9) (fun u v => u.grownBy v (Value.slice aa k ac).ownBlock) (fun u v h => grown_more (World.grownBy.refl u _) h) [0, 1, 2, 3, 4, 5, 6] [true, true, true, true, true, true, true, false, false, false] (fun j9 => [3].contains j9) (fun i9 v w' => match i9 with
      | 0 => v = .slice aa k ac
      | 1 => v = .agg #[.bool aq1, .slice aq2 aq3 aq4, .bool aq5, .slice aq6 aq7 aq8]
      | 2 => ∃ bp : Nat, v = .slice (some ⟨bp, 0, none⟩) 1 1 ∧ wT.heap.size ≤ bp ∧ w'.heap[bp]? = some (.cells #[.bool aq1, .slice aq2 aq3 aq4, .bool aq5, .slice aq6 aq7 aq8] 43 (0, 0))
      | 3 => ∃ (a9 : Option Addr) (c9 : Nat), v = .slice a9 (k + 1) c9
      | 4 => v = .slice ba' k bc'
      | 5 => v = .agg #[.bool bq1, .slice bq2 bq3 bq4, .bool bq5, .slice bq6 bq7 bq8]
      | _ => ∃ bp : Nat, v = .slice (some ⟨bp, 0, none⟩) 1 1 ∧ wT.heap.size ≤ bp ∧ w'.heap[bp]? = some (.cells #[.bool bq1, .slice bq2 bq3 bq4, .bool bq5, .slice bq6 bq7 bq8] 43 (0, 0))) (fun L9 xs9 w9 => (L9 3 = false → Below wT.heap.size wT w9) ∧ (L9 3 = true → RatApp w9 w7.heap.size (xs9 3) (ra ++ [(lo : Rat)]) 2 ∧ RatApp w9 w7.heap.size (.slice ba' k bc') rb 2 ∧ RtIn w9 (.agg #[.bool bq1, .slice bq2 bq3 bq4, .bool bq5, .slice bq6 bq7 bq8]) (hi' : Rat) 2 ∧ (∀ q, (xs9 3).ownBlock = some q → (Value.slice ba' k bc').ownBlock ≠ some q) ∧ Below w7.heap.size wT w9)) rfl rfl (by kernel_rfl) (by kernel_rfl) (by kernel_rfl) (by kernel_rfl) ?st ?hX ?hX0 ?steps ?fin
     case st =>
      intro i9 v u1 u2 h hb
      match i9 with
      | 0 | 1 | 3 | 4 | 5 => exact h
      | 2 => exact by obtain ⟨bp, e, hl9, hk9⟩ := (show ∃ bp : Nat, v = .slice (some ⟨bp, 0, none⟩) 1 1 ∧ wT.heap.size ≤ bp ∧ u1.heap[bp]? = some (.cells #[.bool aq1, .slice aq2 aq3 aq4, .bool aq5, .slice aq6 aq7 aq8] 43 (0, 0)) from h); exact ⟨bp, e, hl9, (hb.block bp (ZL hk9) (fun e9 => by have h1 := HOA.out bp e9.symm; have h2 := HNA.out.2.2; omega)).trans hk9⟩
      | 6 | _ + 7 => exact by obtain ⟨bp, e, hl9, hk9⟩ := (show ∃ bp : Nat, v = .slice (some ⟨bp, 0, none⟩) 1 1 ∧ wT.heap.size ≤ bp ∧ u1.heap[bp]? = some (.cells #[.bool bq1, .slice bq2 bq3 bq4, .bool bq5, .slice bq6 bq7 bq8] 43 (0, 0)) from h); exact ⟨bp, e, hl9, (hb.block bp (ZL hk9) (fun e9 => by have h1 := HOA.out bp e9.symm; have h2 := HNA.out.2.2; omega)).trans hk9⟩
     case hX => exact fun L xs w L' xs' w' h he hb => ⟨fun e => by have h1 := h.1 (by rw [← (he 3 rfl).1]; exact e); exact h1.trans (hb.mono h1.size), fun e => by obtain ⟨x1, x2, x3, x4, x5⟩ := h.2 (by rw [← (he 3 rfl).1]; exact e); rw [(he 3 rfl).2]; exact ⟨x1.below hb, x2.below hb, x3.below hb, x4, x5.trans (hb.mono (Nat.le_trans HB0.out x5.size))⟩⟩
     case hX0 => exact fun xs => ⟨fun _ => (ZR _ _).drew, fun e => by simp at e⟩
     case steps =>
      refine Flow.Steps.cons (.inl ⟨rfl, FlowX.StepS.of rfl ?s0⟩) (Flow.Steps.cons (.inl ⟨rfl, FlowX.StepS.of rfl ?s1⟩) (Flow.Steps.cons (.inl ⟨rfl, FlowX.StepS.of rfl ?s2⟩) (Flow.Steps.cons (.inr ⟨rfl, FlowX.StepX.of rfl ?s3⟩) (Flow.Steps.cons (.inl ⟨rfl, FlowX.StepS.of rfl ?s4⟩) (Flow.Steps.cons (.inl ⟨rfl, FlowX.StepS.of rfl ?s5⟩) (Flow.Steps.cons (.inl ⟨rfl, FlowX.StepS.of rfl ?s6⟩) Flow.Steps.nil))))))
      case s0 | s4 =>
       intro L9 xs w' hb hT hX9 K9 hK9
       clear hT
       simp only [zFp, zAp, zLa, zLb, zLc, Nat.reduceAdd, zNz] at hK9 ⊢
       have hw := hb
       go_simp
       exact hK9 _ _ (ZR _ _) rfl
      case s1 =>
       intro L9 xs w' hb hT hX9 K9 hK9
       clear hT
       simp only [zFp, zAp, zLa, zLb, zLc, Nat.reduceAdd, zNz] at hK9 ⊢
       have hw := hb
       have kb := (hb.block ba (ZL HAB.out.1) HNA.out.1).trans HAB.out.1
       have y0 := ZI kb 0
       have y1 := ZI kb 1
       have y2 := ZI kb 2
       have y3 := ZI kb 3
       clear kb
       simp at y0 y1 y2 y3
       go_simp
       exact hK9 _ _ (ZR _ _) rfl
      case s2 =>
       intro L9 xs w' hb hT hX9 K9 hK9
       have h1 : (xs 1) = .agg #[.bool aq1, .slice aq2 aq3 aq4, .bool aq5, .slice aq6 aq7 aq8] := (hT 1 (by kernel_rfl)).2
       clear hT
       simp only [zFp, zAp, zLa, zLb, zLc, Nat.reduceAdd, zNz] at hK9 ⊢
       have hw := hb
       (try simp only [h1] at hK9)
       go_simp
       exact hK9 _ _ ((ZR _ _).alloc (Nat.le_refl _) _) ⟨_, rfl, hb.size, ZW _ _⟩
      case s3 =>
       intro L9 xs w' hb hT hX9 hL9 K9 hK9
       have h0 : (xs 0) = .slice aa k ac := (hT 0 (by kernel_rfl)).2
       have h2 : ∃ bp : Nat, (xs 2) = .slice (some ⟨bp, 0, none⟩) 1 1 ∧ wT.heap.size ≤ bp ∧ w'.heap[bp]? = some (.cells #[.bool aq1, .slice aq2 aq3 aq4, .bool aq5, .slice aq6 aq7 aq8] 43 (0, 0)) := (hT 2 (by kernel_rfl)).2
       clear hT
       simp only [zFp, zAp, zLa, zLb, zLc, Nat.reduceAdd, zNz] at hK9 ⊢
       have hw := hb
       (try simp only [h0] at hK9)
       obtain ⟨bp, e2, hl2, hk2⟩ := h2
       simp only [e2] at hK9
       have hbT := hX9.1 hL9
       obtain ⟨v7, wN, hrun, hap, hg7, ho7, hb7⟩ := append_rat2 (HRW.out.1.below hbT) (by have h1 := HLT.out; have h2 := HCL.out; omega) hk2 (HAB.out.2.2.1.below hbT) (Nat.le_trans HB0.out hbT.size) 34
       obtain ⟨a9, c9, e9, -, -⟩ := hap.shape
       simp only [List.length_append, List.length_cons, List.length_nil, HLT.out.2.2.1, Nat.zero_add] at e9
       subst e9
       simp only [h0, e2]
       rw [if_pos (by rfl : Region.wanted _ _ = true)]
       refine oper_append _ _ 34 rfl _ _ rfl rfl hrun ?_
       simp only [Act.put, List.setIfInBounds_toArray, List.set_cons_zero, List.set_cons_succ]
       refine hK9 _ _ (grown_trans hb hg7) hg7 ⟨_, _, rfl⟩ ⟨fun e => by simp [FlowX.setL] at e, fun _ => ?_⟩
       simp only [Go.Flow.upd, if_true]
       exact ⟨hap, (HRW.out.2.1.below hbT).kept (HRW.out.1.below hbT) hg7 (fun q e e2 => HRW.out.2.2 q e2 e), (HRW.out.1.below hbT).keeps hg7 (HAB.out.2.2.2.below hbT), fun q e e2 => by
        rcases ho7 with h | h
        ·rw [h] at e; exact HRW.out.2.2 q e e2
        ·rw [h] at e
         simp only [Option.some.injEq] at e
         have h1 := HOB.out q e2
         have h2 := HNA.out.2.2
         have h3 := hbT.size
         omega, (hbT.mono HB0.out).trans hb7⟩
      case s5 =>
       intro L9 xs w' hb hT hX9 K9 hK9
       clear hT
       simp only [zFp, zAp, zLa, zLb, zLc, Nat.reduceAdd, zNz] at hK9 ⊢
       have hw := hb
       have kb := (hb.block bb (ZL HAB.out.2.1) HNA.out.2.1).trans HAB.out.2.1
       have y0 := ZI kb 0
       have y1 := ZI kb 1
       have y2 := ZI kb 2
       have y3 := ZI kb 3
       clear kb
       simp at y0 y1 y2 y3
       go_simp
       exact hK9 _ _ (ZR _ _) rfl
      case s6 =>
       intro L9 xs w' hb hT hX9 K9 hK9
       have h5 : (xs 5) = .agg #[.bool bq1, .slice bq2 bq3 bq4, .bool bq5, .slice bq6 bq7 bq8] := (hT 5 (by kernel_rfl)).2
       clear hT
       simp only [zFp, zAp, zLa, zLb, zLc, Nat.reduceAdd, zNz] at hK9 ⊢
       have hw := hb
       (try simp only [h5] at hK9)
       go_simp
       exact hK9 _ _ ((ZR _ _).alloc (Nat.le_refl _) _) ⟨_, rfl, hb.size, ZW _ _⟩
     case fin =>
      intro xs w' hb hT hX9
      have hw := hb
      have h3 : ∃ (a9 : Option Addr) (c9 : Nat), (xs 3) = .slice a9 (k + 1) c9 := hT 3 (by rfl)
      have h4 : (xs 4) = .slice ba' k bc' := hT 4 (by rfl)
      have h6 : ∃ bp : Nat, (xs 6) = .slice (some ⟨bp, 0, none⟩) 1 1 ∧ wT.heap.size ≤ bp ∧ w'.heap[bp]? = some (.cells #[.bool bq1, .slice bq2 bq3 bq4, .bool bq5, .slice bq6 bq7 bq8] 43 (0, 0)) := hT 6 (by rfl)
      clear hT
      simp only [zFp, zAp, zLa, zLb, zLc, Nat.reduceAdd, zNz, FlowR.restL]
      obtain ⟨a9, c9, e3⟩ := h3
      obtain ⟨bp, e6, hl6, hk6⟩ := h6
      obtain ⟨x1, x2, x3, x4, x5⟩ := hX9.2 (by rfl)
      rw [e3] at x1 x4
      simp only [e3, h4, e6]
      clear e3 e6 h4 hX9 hb
      obtain ⟨v8, wN, hrun, hap8, hg8, ho8, hb8⟩ := append_rat2 x2 (by have h1 := HLT.out; have h2 := HCL.out; omega) hk6 x3 (Nat.le_trans HB0.out x5.size) 34
      have HN8 := ZH (show RatApp wN w7.heap.size (.slice a9 (k + 1) c9) (endTo true f.t D (k + 1)) 2 ∧ RatApp wN w7.heap.size v8 (endTo false f.t D (k + 1)) 2 ∧ (∀ q, (Value.slice a9 (k + 1) c9).ownBlock = some q → v8.ownBlock ≠ some q) from by
       rw [HE.out.1, HE.out.2]
       refine ⟨x1.kept x2 hg8 x4, hap8, fun q e e2 => ?_⟩
       rcases ho8 with h | h
       ·rw [h] at e2; exact x4 q e e2
       ·rw [h] at e2
        simp only [Option.some.injEq] at e2
        have := (x1.own q e).2
        omega)
      have HBN := ZH (show Below w7.heap.size w7 wN from (HBW.out.trans (HBT.out.mono HBW.out.size)).trans (x5.trans hb8))
      clear x1 x2 x3 x4 x5 hap8 hg8 ho8 hb8 hk6 hl6
      go_wp2_with (at_builtin; refine wpList_append_run _ rfl _ _ 34 rfl _ _ rfl rfl hrun ?_)
      go_roundg (CL - (k + 1))
      case measure => have h1 := HLT.out.1; have h2 := HLT.out.2.1; omega
      case rel => exact ⟨k + 1, by have := HLT.out.1; omega, by first | (congr 1; done) | (congr 1; exact IntWalk.wrap64_in ((k : Int) + 1) (by have h1 := HLT.out.1; have h2 := HCL.out; omega)), HN8, HBN⟩
  ·have e1 : ((k : Int) < (CL : Int)) = False := eq_false (by omega)
   obtain rfl : k = CL := by omega
   have hst := hrow.out
   obtain ⟨aa, ac, rfl, hra⟩ := hst.1.reads
   obtain ⟨ab, abc, rfl, hrb⟩ := hst.2.1.reads
   rw [endTo_len, endTo_len]
   have hfine := fine_texts HFL.out.2.1 HFL.out.2.2
   have htl : (formTexts f).length ≤ 4 := Nat.le_trans (texts_len f) (by rw [HFL.out.2.2]; have := HCL.out; omega)
   have hcl := liteF_texts HFL.out.2.1
   have HV := ZH (show ∀ (W : World), Below wr.heap.size wr W → ∀ (ar : Option Addr) (cr : Nat) (rs : List Rat), RatsAt W ar cr rs 2 → rs.length = k → Calls Tryz.prog 29 #[.agg #[.string NT, .slice ta tn tc], .slice ar k cr] W fun e w' => ∃ v', e = .returned (.tuple #[v', .int .i64 0]) ∧ RtIn w' v' (f.val rs) 400 ∧ Below W.heap.size W w' from fun W hbW ar cr rs hr hl => by
    have hb7W := hbw.out.trans (hbW.mono hbw.out.size)
    have h := mValue_any (HG2.out.below (HB7.out.trans (hb7W.mono HB7.out.size))) (v := .agg #[.string ⟨(numText f.c).toArray⟩, .slice ta tn tc]) (c := numText f.c) ⟨_, rfl, HT7.out.below hb7W⟩ (by omega) hr (Nat.le_refl 2) (S := 60) hcl.1 (read_num_ok (by have := hcl.1; omega) (by have := hcl.1; omega)) (by omega) (fun j hj => by
     have hm : (formTexts f).getD j (0, []) ∈ formTexts f := by
      rw [List.getD_eq_getElem?_getD, List.getElem?_eq_getElem hj]
      exact List.getElem_mem hj
     have h5 := hfine _ hm
     have h6 := HFL.out.2.2
     exact ⟨by omega, h5.2⟩) (by
     have := Nat.mul_le_mul_right (60 + 2 + 3) (show (formTexts f).length + 1 ≤ 5 by omega)
     omega)
    rw [← HNT.out, hl] at h
    refine h.mono ?_
    rintro e w' ⟨v', rfl, hv, hb⟩
    have e9 : valueTo (numText f.c) (formTexts f) rs (formTexts f).length = f.val rs := by
     unfold valueTo
     rw [List.take_length, read_num]
     exact value_texts fun i hi => by
      rw [List.getD_eq_getElem?_getD, List.getElem?_eq_none (by rw [HFL.out.2.2]; omega)]
      rfl
    rw [e9] at hv
    exact ⟨v', rfl, hv.more (by have := Nat.mul_le_mul_right (60 + 2 + 3) (show (formTexts f).length ≤ 4 from htl); omega), hb⟩)
   have hbe := Go.Gx.form_ends (f := f) (l := boxes D) (fun p hp => by
    unfold boxes at hp
    obtain ⟨d, hd, rfl⟩ := List.mem_map.1 hp
    obtain ⟨j, hj, rfl⟩ := List.getElem_of_mem hd
    have h9 := HBD.out j (by have := HCL.out.2; omega)
    rw [List.getD_eq_getElem?_getD, List.getElem?_eq_getElem hj] at h9
    simp only [Option.getD_some] at h9
    exact Rat.intCast_le_intCast.2 (by omega))
   rw [← endTo_all true (by rw [HFL.out.2.2, HCL.out.2]), ← endTo_all false (by rw [HFL.out.2.2, HCL.out.2]), HCL.out.2] at hbe
   have hr7 := HR7.out
   rw [hbe] at hr7
   obtain ⟨EA, hEA⟩ : ∃ x, x = endTo true f.t D k := ⟨_, rfl⟩
   obtain ⟨EB, hEB⟩ : ∃ x, x = endTo false f.t D k := ⟨_, rfl⟩
   have hea : EA.length = k := by rw [hEA, endTo_len]
   have heb : EB.length = k := by rw [hEB, endTo_len]
   rw [← hEA] at hra hr7
   rw [← hEB] at hrb hr7
   have hsz : bsz (.form f) ≤ 400 := by rw [bsz, HFL.out.2.2]; have := HCL.out; omega
   have HRL := ZH (ZN (hr7.1.more hsz) (hr7.2.more hsz))
   have HRA := ZH (ZN hra (ZN hrb (ZN hea heb)))
   have HBW := ZH hbw.out
   have HTW := ZH (HB7.out.trans (hbw.out.mono HB7.out.size))
   obtain ⟨q0, q1⟩ := cells2 hbw.out HK7.out.2.2
   clear hst hra hrb hfine htl hcl hbe hr7 hEA hEB hea heb hsz hbw hrow hlt hk
   go_wp2_with fail
   clear q0 q1
   refine (HV.out wr (ZR _ _) _ _ EA HRA.out.1 HRA.out.2.2.1).mono ?_
   rintro e wA ⟨vv, rfl, hv, hbA⟩
   obtain ⟨aq1, aq2, aq3, aq4, aq5, aq6, aq7, aq8, rfl⟩ := rt_shape hv
   obtain ⟨wB, bB, hwB, hbB, hlB, kB⟩ := new_box wA #[.bool aq1, .slice aq2 aq3 aq4, .bool aq5, .slice aq6 aq7 aq8] 43
   have HBB := ZH (hbA.trans (hlB.mono hbA.size))
   have HVB := ZH (ZN (hv.below hlB) kB)
   have HWB := ZH (ZN hwB hbB)
   clear hv hbA hwB hbB hlB kB
   go_upto_region 16 with fail
   rw [← HWB.out.1, ← HWB.out.2]
   clear HWB
   obtain ⟨q0, q1⟩ := cells2 (HBW.out.trans (HBB.out.mono HBW.out.size)) HK7.out.2.2
   go_wp2_with fail
   clear q0 q1
   refine (HV.out wB HBB.out _ _ EB (HRA.out.2.1.below HBB.out) HRA.out.2.2.2).mono ?_
   rintro e wC ⟨vv, rfl, hv, hbC⟩
   obtain ⟨bq1, bq2, bq3, bq4, bq5, bq6, bq7, bq8, rfl⟩ := rt_shape hv
   obtain ⟨wD, bD, hwD, hbD, hlD, kD⟩ := new_box wC #[.bool bq1, .slice bq2 bq3 bq4, .bool bq5, .slice bq6 bq7 bq8] 43
   have hBD := hbC.trans (hlD.mono hbC.size)
   have HDD := ZH (ZN (hv.below hlD) (ZN kD (ZN (HVB.out.1.below hBD) ((hBD.block bB (ZL HVB.out.2)).trans HVB.out.2))))
   have HBDD := ZH (HBB.out.trans (hBD.mono HBB.out.size))
   have HWD := ZH (ZN hwD hbD)
   clear hv hbC hwD hbD hlD kD hBD HVB
   go_upto_region 17 with fail
   rw [← HWD.out.1, ← HWD.out.2]
   clear HWD
   have hb7D := HBW.out.trans (HBDD.out.mono HBW.out.size)
   have hk8 := (hb7D.block b8 (ZL HK7.out.1)).trans HK7.out.1
   have hk9 := (hb7D.block b9 (ZL HK7.out.2.1)).trans HK7.out.2.1
   have HKD := ZH (ZN hk8 hk9)
   have HRD := ZH (ZN (HRL.out.1.below hb7D) (HRL.out.2.below hb7D))
   obtain ⟨z0, z1, z2, z3⟩ := cells4 (ZR _ wD) HDD.out.2.2.2
   obtain ⟨y0, y1, y2, y3⟩ := cells4 (ZR _ wD) hk8
   clear hb7D hk8 hk9
   go_wp2_with fail
   refine (pequal_any HDD.out.2.2.1 HRD.out.1 (by omega) (by omega) (by omega)).mono ?_
   rintro e wE ⟨rfl, hbE⟩
   rw [cmpq_self, show decide ((0 : Int) = 0) = true from rfl]
   obtain ⟨z0, z1, z2, z3⟩ := cells4 hbE HDD.out.2.1
   obtain ⟨y0, y1, y2, y3⟩ := cells4 hbE HKD.out.2
   have HEE := ZH (ZN hbE (ZN (HDD.out.1.below hbE) (HRD.out.2.below hbE)))
   clear hbE
   go_wp2_with fail
   refine (pequal_any HEE.out.2.1 HEE.out.2.2 (by omega) (by omega) (by omega)).mono ?_
   rintro e wF ⟨rfl, hbF⟩
   rw [cmpq_self, show decide ((0 : Int) = 0) = true from rfl]
   have HFF := ZH (show Below w.heap.size w wF from by
    have h1 := HB2.out.trans (HTW.out.mono HB2.out.size)
    have h2 := h1.trans (HBDD.out.mono h1.size)
    have h3 := h2.trans (HEE.out.1.mono h2.size)
    exact h3.trans (hbF.mono h3.size))
   clear hbF
   go_wp2_with fail
   go_ret
   exact ⟨rfl, HFF.out⟩
end Go.Proofs.YtdgimcmappmjdaaGreatDoor
