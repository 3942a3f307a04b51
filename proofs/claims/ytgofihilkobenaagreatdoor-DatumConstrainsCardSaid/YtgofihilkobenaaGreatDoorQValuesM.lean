/- values: numbers between the bounds of dimensions, moved. -/
import Derived.Test.YtgofihilkobenaaGreatDoorDIn2M
import Derived.Test.YtgofihilkobenaaGreatDoorHSmallM
import Derived.Test.YtgofihilkobenaaGreatDoorKQ
import Derived.Test.YtgofihilkobenaaGreatDoorKO
set_option maxRecDepth 100000
namespace Go.Proofs.YtgofihilkobenaaGreatDoor
open List renaming setIfInBounds_toArray → zLa, set_cons_zero → zLb, set_cons_succ → zLc
open FlowR renaming putSel → zFp
open Act renaming put → zAp
open Nat renaming zero_add → zNz
open Flow.Steps renaming cons → zSc, nil → zSn
open FlowR.Step renaming of → zSo
open Go.RowKit Go.Num Go.Flow Go.Dtm
set_option maxHeartbeats 8000000
set_option linter.unusedVariables false

/-- The value of a dimension: its least one, moved, and a part of the whole. -/
def partAt (D : List Dm) (P : List Int) (j : Nat) : Rat := if j < P.length then (((P.getD j 0 % 101) * ((D.getD j Dm.none).nominal + (D.getD j Dm.none).upper - ((D.getD j Dm.none).nominal + (D.getD j Dm.none).lower)) : Int) : Rat) / ((100 : Int) : Rat) else 0
def valAt (D : List Dm) (P : List Int) (mv : Int) (j : Nat) : Rat := sumQ [(((D.getD j Dm.none).nominal + (D.getD j Dm.none).lower + mv : Int) : Rat), partAt D P j]
def valTexts (D : List Dm) (P : List Int) (mv : Int) (k : Nat) : List ByteArray := (List.range k).map fun j => ⟨(numText (valAt D P mv j)).toArray⟩
theorem valTexts_succ (D : List Dm) (P : List Int) (mv : Int) (k : Nat) : valTexts D P mv (k + 1) = valTexts D P mv k ++ [⟨(numText (valAt D P mv k)).toArray⟩] := by unfold valTexts; rw [List.range_succ, List.map_append]; rfl
theorem valTexts_len (D : List Dm) (P : List Int) (mv : Int) (k : Nat) : (valTexts D P mv k).length = k := by unfold valTexts; rw [List.length_map, List.length_range]
theorem two_rats {w : World} {b : Nat} {c0 c1 c2 c3 c4 c5 c6 c7 : Value} {t : TypeId} {q1 q2 : Rat} {K : Nat} (h : w.heap[b]? = some (.cells #[c0, c1, c2, c3, c4, c5, c6, c7] t (0, 0))) (h1 : RtIn w (.agg #[c0, c1, c2, c3]) q1 K) (h2 : RtIn w (.agg #[c4, c5, c6, c7]) q2 K) : RatsAt w (some ⟨b, 0, none⟩) 2 [q1, q2] K := by
 refine ⟨Nat.le_refl _, by unfold maxLen; omega, fun _ => ⟨b, 0, rfl, lt_of_block h, fun j hj => ?_⟩⟩
 have hj : j < 2 := hj
 obtain ⟨s1, a1, d1, l1, s2, a2, d2, l2, e⟩ := rt_shape h1
 simp at e
 obtain ⟨rfl, rfl, rfl, rfl⟩ := e
 obtain ⟨t1, b1, e1, m1, t2, b2, e2, m2, e⟩ := rt_shape h2
 simp at e
 obtain ⟨rfl, rfl, rfl, rfl⟩ := e
 match j, hj with
 | 0, _ => exact ⟨s1, a1, d1, l1, s2, a2, d2, l2, by rw [block_cell h]; rfl, by rw [block_cell h]; rfl, by rw [block_cell h]; rfl, by rw [block_cell h]; rfl, h1⟩
 | 1, _ => exact ⟨t1, b1, e1, m1, t2, b2, e2, m2, by rw [block_cell h]; rfl, by rw [block_cell h]; rfl, by rw [block_cell h]; rfl, by rw [block_cell h]; rfl, h2⟩
theorem part_wrap {p a : Int} (h0 : 0 ≤ p) (h1 : p ≤ 255) (ha : -4000000000 ≤ a) (hb : a ≤ 4000000000) : wrap64 (wrap64 (p.tmod 101) * wrap64 a) = (p % 101) * a ∧ -9223372036854775808 ≤ (p % 101) * a ∧ (p % 101) * a ≤ 9223372036854775807 := by
 rw [Int.tmod_eq_emod_of_nonneg h0]
 obtain ⟨r, hr⟩ : ∃ r, r = p % 101 := ⟨_, rfl⟩
 have h2 : 0 ≤ r ∧ r ≤ 100 := by omega
 rw [← hr]
 have h3 : -400000000000 ≤ r * a ∧ r * a ≤ 400000000000 := by
  constructor
  ·have := Int.mul_le_mul_of_nonneg_left (c := r) ha h2.1; have := Int.mul_le_mul_of_nonneg_right (c := 4000000000) h2.2 (by decide); omega
  ·have := Int.mul_le_mul_of_nonneg_left (c := r) hb h2.1; have := Int.mul_le_mul_of_nonneg_right (c := 4000000000) h2.2 (by decide); omega
 rw [IntWalk.wrap64_in r (by omega), IntWalk.wrap64_in a (by omega), IntWalk.wrap64_in (r * a) (by omega)]
 exact ⟨rfl, by omega, by omega⟩
theorem qvalues_any {w : World} (hg : Glob w) {ad : Option Addr} {cd : Nat} {D : List Dm} (hd : DimsIn w ad cd D) (hl : D.length ≤ 1000)
  (hD : ∀ j, j < D.length → (-1000000000 ≤ (D.getD j Dm.none).nominal ∧ (D.getD j Dm.none).nominal ≤ 1000000000) ∧ (-1000000000 ≤ (D.getD j Dm.none).lower ∧ (D.getD j Dm.none).lower ≤ 1000000000) ∧ (-1000000000 ≤ (D.getD j Dm.none).upper ∧ (D.getD j Dm.none).upper ≤ 1000000000))
  {vp : Value} {P : List Int} (hp : PartsIn w vp P) {mv : Int} (hm0 : -128 ≤ mv) (hm1 : mv ≤ 127) :
  Calls Tryz.prog 25 #[.slice ad D.length cd, vp, .int .i8 mv] w fun e w' => ∃ v, e = .returned v ∧ w'.ownsRow w.heap.size 40 1 v D.length ((valTexts D P mv D.length).map Value.string) ∧ Below w.heap.size w w' := by
 obtain ⟨ap, cp, rfl, hpc, hpm, hpr⟩ := hp
 obtain ⟨n, hn⟩ : ∃ n, n = D.length := ⟨_, rfl⟩
 obtain ⟨np, hnp⟩ : ∃ n, n = P.length := ⟨_, rfl⟩
 have hcap : n ≤ cd ∧ cd ≤ 9223372036854775807 := by rw [hn]; exact ⟨hd.1, hd.2.1⟩
 have hcap2 : np ≤ cp ∧ cp ≤ 9223372036854775807 := by rw [hnp]; exact ⟨hpc, hpm⟩
 obtain ⟨i0, hi, hz0, hz1, hz2⟩ := info_parts infoNumber
 have HI := Lib.hid (And.intro hi (And.intro hz0 (And.intro hz1 hz2)))
 have HG := Lib.hid hg
 have HD := Lib.hid hd.2.2
 have HDB := Lib.hid hD
 have HPR := Lib.hid hpr
 have HN := Lib.hid (And.intro hn (And.intro hnp (And.intro hl (And.intro hm0 hm1))))
 rw [← hn, ← hnp]
 clear hi hz0 hz1 hz2 hg hd hD hpr hn hnp hl hpc hpm hm0 hm1
 go_enter Tryz.func25, Tryz.ntmps25
 go_wp2_with fail
 go_loopg [7, 15] n (fun gk v x wr => ∃ k : Nat, k + gk = n ∧ x = .int .i64 k ∧ Hid (wr.ownsRow w.heap.size 40 1 v k ((valTexts D P mv k).map Value.string)) ∧ Hid (Below w.heap.size w wr))
 case atStart => exact ⟨0, by omega, rfl, Lib.hid (World.ownsRow_nil _ _ _ _), Lib.hid (Below.refl _ _)⟩
 case round =>
  obtain ⟨k, hk, rfl, hrow, hbw⟩ := hrel
  by_cases hlt : k < n
  ·have e1 : ((k : Int) < (n : Int)) = True := eq_true (by omega)
   obtain ⟨db, dof, rfl, -, hdc⟩ := HD.out (by have := HN.out.1; omega)
   obtain ⟨d, hdd⟩ : ∃ x, x = D.getD k Dm.none := ⟨_, rfl⟩
   have hx := hdc k (by have := HN.out.1; omega)
   have hdb := HDB.out k (by have := HN.out.1; omega)
   rw [← hdd] at hx hdb
   have x0 := cell_below hbw.out hx.1
   have x1 := cell_below hbw.out hx.2.1
   have x2 := cell_below hbw.out hx.2.2.1
   have x3 := cell_below hbw.out hx.2.2.2
   have hk0 : (0 : Int) ≤ (k : Int) := by omega
   have hk1 : (k : Int) < (n : Int) := by omega
   have HDD := Lib.hid (And.intro hdd (And.intro hdb hlt))
   clear hdc hdd hx hdb hlt
   go_upto_region 5 with fail
   obtain ⟨w1, hw1⟩ : ∃ x, x = wr.alloc (.cells #[.string d.name, .int .i64 d.nominal, .int .i64 d.lower, .int .i64 d.upper] 60) := ⟨_, rfl⟩
   obtain ⟨bd, hbd⟩ : ∃ b, b = wr.heap.size := ⟨_, rfl⟩
   rw [← hw1, ← hbd]
   have hl1 : Below wr.heap.size wr w1 := by rw [hw1]; exact (Below.refl _ wr).alloc (Nat.le_refl _) _
   have kd : w1.heap[bd]? = some (.cells #[.string d.name, .int .i64 d.nominal, .int .i64 d.lower, .int .i64 d.upper] 60 (0, 0)) := by rw [hw1, hbd]; exact heap_alloc_new wr _
   have y0 := block_cell kd 0
   have y1 := block_cell kd 1
   have y2 := block_cell kd 2
   have y3 := block_cell kd 3
   simp at y0 y1 y2 y3
   have HR1 := Lib.hid (row_below hrow.out hl1)
   have HB1 := Lib.hid (hbw.out.trans (hl1.mono hbw.out.size))
   clear hw1 hbd hl1 kd x0 x1 x2 x3 hk0 hk1 hrow hbw
   go_wp2_with fail
   refine (mRange_any (W := w1) d HDD.out.2.1.1 HDD.out.2.1.2.1 HDD.out.2.1.2.2).mono ?_
   rintro e w2 ⟨rfl, hb2⟩
   obtain ⟨lo, hlo⟩ : ∃ x, x = d.nominal + d.lower := ⟨_, rfl⟩
   obtain ⟨hi', hhi⟩ : ∃ x, x = d.nominal + d.upper := ⟨_, rfl⟩
   rw [← hlo, ← hhi]
   have HLH := Lib.hid (And.intro hlo (And.intro hhi (show (-2000000000 ≤ lo ∧ lo ≤ 2000000000) ∧ (-4000000000 ≤ hi' - lo ∧ hi' - lo ≤ 4000000000) by have := HDD.out.2.1; omega)))
   have HR2 := Lib.hid (row_below HR1.out hb2)
   have HB2 := Lib.hid (HB1.out.trans (hb2.mono HB1.out.size))
   clear hb2 y0 y1 y2 y3 hlo hhi HR1 HB1
   go_wp2_with fail
   refine (ratFrom_any (n := 0) (by omega) (by omega)).mono ?_
   rintro e w3 ⟨v3, rfl, hr3, hb3⟩
   obtain ⟨s1', a1, c1, l1, s2', a2, c2, l2, rfl⟩ := rt_shape hr3
   go_upto_region 7 with fail
   obtain ⟨w4, hw4⟩ : ∃ x, x = w3.alloc (.cells #[.bool s1', .slice a1 c1 l1, .bool s2', .slice a2 c2 l2] 65) := ⟨_, rfl⟩
   obtain ⟨bq, hbq⟩ : ∃ b, b = w3.heap.size := ⟨_, rfl⟩
   rw [← hw4, ← hbq]
   have hl4 : Below w3.heap.size w3 w4 := by rw [hw4]; exact (Below.refl _ w3).alloc (Nat.le_refl _) _
   have kq : w4.heap[bq]? = some (.cells #[.bool s1', .slice a1 c1 l1, .bool s2', .slice a2 c2 l2] 65 (0, 0)) := by rw [hw4, hbq]; exact heap_alloc_new w3 _
   have HKQ := Lib.hid kq
   have HRQ := Lib.hid (show RtIn w4 (.agg #[.bool s1', .slice a1 c1 l1, .bool s2', .slice a2 c2 l2]) (0 : Rat) 2 from hr3.below hl4)
   have HR4 := Lib.hid (row_below (row_below HR2.out hb3) hl4)
   have HB4 := Lib.hid ((HB2.out.trans (hb3.mono HB2.out.size)).trans (hl4.mono (by have h1 := HB2.out.size; have h2 := hb3.size; omega)))
   have HGQ := Lib.hid (show w2.heap.size ≤ bq by have := hb3.size; omega)
   have HB24 := Lib.hid (hb3.trans (hl4.mono hb3.size))
   clear hw4 hbq hl4 kq hr3 hb3
   obtain ⟨pq, hpq⟩ : ∃ x, x = partAt D P k := ⟨_, rfl⟩
   have HPQ := Lib.hid hpq
   clear hpq
   go_upto_if 29 with fail
   go_cut [7, 15] from 25 to 45 (fun v i wx => i = .int .i64 (k : Int) ∧ wx.ownsRow w.heap.size 40 1 v k ((valTexts D P mv k).map Value.string) ∧ (∃ p1 g1 i1 j1 p2 g2 i2 j2, wx.heap[bq]? = some (.cells #[.bool p1, .slice g1 i1 j1, .bool p2, .slice g2 i2 j2] 65 (0, 0)) ∧ RtIn wx (.agg #[.bool p1, .slice g1 i1 j1, .bool p2, .slice g2 i2 j2]) pq 4) ∧ Below w.heap.size w wx)
   case first =>
    by_cases hlp : k < np
    ·have e2 : ((k : Int) < (np : Int)) = True := eq_true (by omega)
     obtain ⟨pb, po, rfl, -, hpc⟩ := HPR.out (by have := HN.out.2.1; omega)
     obtain ⟨pk, hpk⟩ : ∃ x, x = P.getD k 0 := ⟨_, rfl⟩
     have hx := hpc k (by have := HN.out.2.1; omega)
     rw [← hpk] at hx
     have x0 := cell_below HB4.out hx.1
     have hk0 : (0 : Int) ≤ (k : Int) := by omega
     have hk1 : (k : Int) < (np : Int) := by omega
     have HPK := Lib.hid (And.intro hpk (And.intro hx.2 hlp))
     clear hpc hpk hx hlp
     go_wp2_with fail
     have HPW := Lib.hid (part_wrap (p := pk) (a := hi' - lo) HPK.out.2.1.1 HPK.out.2.1.2 HLH.out.2.2.2.1 HLH.out.2.2.2.2)
     rw [HPW.out.1]
     obtain ⟨pw, hpw⟩ : ∃ x, x = (pk % 101) * (hi' - lo) := ⟨_, rfl⟩
     rw [← hpw] at HPW ⊢
     refine (ratFrom_any (n := pw) HPW.out.2.1 HPW.out.2.2).mono ?_
     rintro e w5 ⟨v5, rfl, hr5, hb5⟩
     have HR5 := Lib.hid hr5
     have HB5 := Lib.hid hb5
     have HPV := Lib.hid hpw
     clear hr5 hb5 hpw HPW x0 hk0 hk1
     go_wp2_with fail
     refine (ratFrom_any (n := 100) (by omega) (by omega)).mono ?_
     rintro e w6 ⟨v6, rfl, hr6, hb6⟩
     have HR6 := Lib.hid (And.intro (HR5.out.below hb6) hr6)
     have HB6 := Lib.hid (HB5.out.trans (hb6.mono HB5.out.size))
     clear hr6 hb6 HR5 HB5
     go_wp2_with fail
     refine (ratDiv_any HR6.out.1 HR6.out.2 (Nat.le_refl 2) (Nat.le_refl 2) (by omega)).mono ?_
     rintro e w7 ⟨v7, rfl, hr7, hb7⟩
     obtain ⟨p1, g1, i1, j1, p2, g2, i2, j2, rfl⟩ := rt_shape hr7
     have hb47 := HB6.out.trans (hb7.mono HB6.out.size)
     have k9 := (hb47.block bq (lt_of_block HKQ.out)).trans HKQ.out
     have x0 := block_cell k9 0
     have x1 := block_cell k9 1
     have x2 := block_cell k9 2
     have x3 := block_cell k9 3
     have f0 := block_free k9 0
     have f1 := block_free k9 1
     have f2 := block_free k9 2
     have f3 := block_free k9 3
     simp at x0 x1 x2 x3
     have hd := hr7.but (nodig4 k9) (But.set4 (b := bq) w7 (.bool p1) (.slice g1 i1 j1) (.bool p2) (.slice g2 i2 j2))
     have hkd := four_set k9 (.bool p1) (.slice g1 i1 j1) (.bool p2) (.slice g2 i2 j2)
     have hb27 := HB24.out.trans (hb47.mono HB24.out.size)
     have hbd := ((((hb27.setCell (p := ⟨bq, 0, none⟩) HGQ.out (.bool p1)).setCell (p := ⟨bq, 1, none⟩) HGQ.out (.slice g1 i1 j1)).setCell (p := ⟨bq, 2, none⟩) HGQ.out (.bool p2)).setCell (p := ⟨bq, 3, none⟩) HGQ.out (.slice g2 i2 j2))
     have HF := Lib.hid (And.intro hkd (And.intro hd (And.intro (row_below HR2.out hbd) (HB2.out.trans (hbd.mono HB2.out.size)))))
     have HPE := Lib.hid (show (pw : Rat) / ((100 : Int) : Rat) = pq by
      rw [HPQ.out, partAt, if_pos (by have := HPK.out.2.2; have := HN.out.2.1; omega), ← HPK.out.1, ← HDD.out.1, ← HLH.out.1, ← HLH.out.2.1, ← HPV.out])
     clear hr7 hb7 hb47 k9 hd hkd hb27 hbd HR6 HB6
     go_wp2_with fail
     go_meet
     exact ⟨rfl, HF.out.2.2.1, ⟨_, _, _, _, _, _, _, _, HF.out.1, by rw [← HPE.out]; exact HF.out.2.1⟩, HF.out.2.2.2⟩
    ·have e2 : ((k : Int) < (np : Int)) = False := eq_false (by omega)
     have HPE := Lib.hid (show (0 : Rat) = pq by rw [HPQ.out, partAt, if_neg (by have := HN.out.2.1; omega)])
     clear HPR
     go_wp2_with fail
     go_meet
     exact ⟨rfl, HR4.out, ⟨_, _, _, _, _, _, _, _, HKQ.out, by rw [← HPE.out]; exact HRQ.out.more (by omega)⟩, HB4.out⟩
   case rest =>
    obtain ⟨rfl, hrow, ⟨p1, g1, i1, j1, p2, g2, i2, j2, hk9, hr9⟩, hb⟩ := hcut
    have HKQ9 := Lib.hid hk9
    have HRQ9 := Lib.hid hr9
    have HRW := Lib.hid hrow
    have HBW := Lib.hid hb
    have HW0 := Lib.hid (Below.refl wc.heap.size wc)
    have hwm : IntKind.i64.wrap mv = mv := IntWalk.i64_in mv (by have := HN.out.2.2.2; omega)
    obtain ⟨L, hL⟩ : ∃ x, x = lo + mv := ⟨_, rfl⟩
    have hlw : IntKind.i64.wrap (lo + mv) = L := by rw [hL]; exact IntWalk.i64_in _ (by have := HN.out.2.2.2; have := HLH.out.2.2.1; omega)
    have HL := Lib.hid (And.intro hL (show -9223372036854775808 ≤ L ∧ L ≤ 9223372036854775807 by have := HN.out.2.2.2; have := HLH.out.2.2.1; omega))
    have HWM := Lib.hid (And.intro hwm hlw)
    obtain ⟨q9, hq9⟩ : ∃ x, x = sumQ [(L : Rat), pq] := ⟨_, rfl⟩
    have HQ9 := Lib.hid hq9
    obtain ⟨S, hS⟩ : ∃ x, x = (⟨(numText q9).toArray⟩ : ByteArray) := ⟨_, rfl⟩
    have HS := Lib.hid hS
    have HGW := Lib.hid (HG.out.below hb)
    have HVT := Lib.hid (show ((valTexts D P mv (k + 1)).map Value.string) = ((valTexts D P mv k).map Value.string) ++ [.string S] by
     rw [valTexts_succ, List.map_append, HS.out, HQ9.out]
     rw [show valAt D P mv k = sumQ [(L : Rat), pq] by rw [valAt, ← HDD.out.1, ← HPQ.out, HL.out.1, HLH.out.1]]
     rfl)
    clear hk9 hr9 hrow hb hL hlw hwm hq9 hS
    go_upto_region 9 with fail
    refine FlowR.wp_region_sel (fun a b => Below a.heap.size a b) (fun a => Below.refl _ a) (fun _ _ _ h k => h.trans (k.mono h.size)) [0, 1, 2, 3, 4, 5, 6, 7, 8, 9, 10] [false, false, false, false, false, false, false, false, false, false, false, false, false] [true, true, true, true, true, true, true, true, true, true, true, false, false] (fun i9 v w' => match i9 with
     | 0 => v = u7
     | 1 => v = .int .i64 lo
     | 2 => v = .int .i8 mv
     | 3 => v = .int .i64 mv
     | 4 => v = .int .i64 L
     | 5 => RtIn w' v (L : Rat) 2
     | 6 => v = .agg #[.bool p1, .slice g1 i1 j1, .bool p2, .slice g2 i2 j2]
     | 7 => ∃ b, v = .slice (some ⟨b, 0, none⟩) 2 2 ∧ RatsAt w' (some ⟨b, 0, none⟩) 2 [(L : Rat), pq] 4
     | 8 => RtIn w' v q9 12
     | 9 => v = .string S
     | _ => ∃ b, v = .slice (some ⟨b, 0, none⟩) 1 1 ∧ w'.heap[b]? = some (.cells #[.string S] 40 (0, 0))) rfl rfl (by kernel_rfl) (by kernel_rfl) (by kernel_rfl) (by kernel_rfl) ?st ?steps ?fin
    case st =>
     intro i9 v u1 u2 h hb
     match i9 with
     | 0 | 1 | 2 | 3 | 4 | 6 => exact h
     | 5 => exact (show RtIn u1 v (L : Rat) 2 from h).below hb
     | 7 => exact by obtain ⟨b, e, hr⟩ := (show ∃ b, v = .slice (some ⟨b, 0, none⟩) 2 2 ∧ RatsAt u1 (some ⟨b, 0, none⟩) 2 [(L : Rat), pq] 4 from h); exact ⟨b, e, hr.below hb⟩
     | 8 => exact (show RtIn u1 v q9 12 from h).below hb
     | 9 => exact (show v = .string S from h)
     | 10 | _ + 11 => exact by obtain ⟨b, e, hk⟩ := (show ∃ b, v = .slice (some ⟨b, 0, none⟩) 1 1 ∧ u1.heap[b]? = some (.cells #[.string S] 40 (0, 0)) from h); exact ⟨b, e, (hb.block b (lt_of_block hk)).trans hk⟩
    case steps =>
     refine zSc (zSo rfl ?s0) (zSc (zSo rfl ?s1) (zSc (zSo rfl ?s2) (zSc (zSo rfl ?s3) (zSc (zSo rfl ?s4) (zSc (zSo rfl ?s5) (zSc (zSo rfl ?s6) (zSc (zSo rfl ?s7) (zSc (zSo rfl ?s8) (zSc (zSo rfl ?s9) (zSc (zSo rfl ?s10) zSn))))))))))
     case s0 | s1 | s2 =>
      intro xs w' hb hT K9 hK9
      clear hT
      simp only [zFp, zAp, zLa, zLb, zLc, Nat.reduceAdd, zNz] at hK9 ⊢
      have hw := Flow.hwD HW0.out hb
      go_simp
      exact hK9 _ _ (Below.refl _ _) rfl
     case s3 =>
      intro xs w' hb hT K9 hK9
      have h2 : (xs 2) = .int .i8 mv := hT 2 (by kernel_rfl)
      clear hT
      simp only [zFp, zAp, zLa, zLb, zLc, Nat.reduceAdd, zNz] at hK9 ⊢
      have hw := Flow.hwD HW0.out hb
      (try simp only [h2] at hK9)
      go_simp
      exact hK9 _ _ (Below.refl _ _) (by first | rfl | exact congrArg (Value.int IntKind.i64) HWM.out.1)
     case s4 =>
      intro xs w' hb hT K9 hK9
      have h1 : (xs 1) = .int .i64 lo := hT 1 (by kernel_rfl)
      have h3 : (xs 3) = .int .i64 mv := hT 3 (by kernel_rfl)
      clear hT
      simp only [zFp, zAp, zLa, zLb, zLc, Nat.reduceAdd, zNz] at hK9 ⊢
      have hw := Flow.hwD HW0.out hb
      (try simp only [h1] at hK9)
      (try simp only [h3] at hK9)
      go_simp
      exact hK9 _ _ (Below.refl _ _) (by first | rfl | exact congrArg (Value.int IntKind.i64) HWM.out.2)
     case s5 =>
      intro xs w' hb hT K9 hK9
      have h4 : (xs 4) = .int .i64 L := hT 4 (by kernel_rfl)
      clear hT
      simp only [zFp, zAp, zLa, zLb, zLc, Nat.reduceAdd, zNz] at hK9 ⊢
      have hw := Flow.hwD HW0.out hb
      (try simp only [h4] at hK9)
      go_simp
      go_at_call 26
      refine (ratFrom_any (n := L) HL.out.2.1 HL.out.2.2).mono ?_
      rintro e w3 ⟨v3, rfl, hi3, hb3⟩
      exact hK9 _ _ hb3 hi3
     case s6 =>
      intro xs w' hb hT K9 hK9
      clear hT
      simp only [zFp, zAp, zLa, zLb, zLc, Nat.reduceAdd, zNz] at hK9 ⊢
      have hw := Flow.hwD HW0.out hb
      have kb := (hw.block bq (lt_of_block HKQ9.out)).trans HKQ9.out
      have y0 := block_cell kb 0
      have y1 := block_cell kb 1
      have y2 := block_cell kb 2
      have y3 := block_cell kb 3
      clear kb
      simp at y0 y1 y2 y3
      go_simp
      exact hK9 _ _ (Below.refl _ _) rfl
     case s7 =>
      intro xs w' hb hT K9 hK9
      have h5 : RtIn w' (xs 5) (L : Rat) 2 := hT 5 (by kernel_rfl)
      have h6 : (xs 6) = .agg #[.bool p1, .slice g1 i1 j1, .bool p2, .slice g2 i2 j2] := hT 6 (by kernel_rfl)
      clear hT
      simp only [zFp, zAp, zLa, zLb, zLc, Nat.reduceAdd, zNz] at hK9 ⊢
      have hw := Flow.hwD HW0.out hb
      (try simp only [h6] at hK9)
      obtain ⟨s1, e1, f1, l1, s2, e2, f2, l2, e5⟩ := rt_shape h5
      rw [e5] at h5
      simp only [e5] at hK9 ⊢
      clear e5
      have hq := HRQ9.out.below hw
      go_simp
      exact hK9 _ _ ((Below.refl _ _).alloc (Nat.le_refl _) _) ⟨_, rfl, two_rats (heap_alloc_new _ _) ((h5.more (by omega)).below ((Below.refl _ _).alloc (Nat.le_refl _) _)) (hq.below ((Below.refl _ _).alloc (Nat.le_refl _) _))⟩
     case s8 =>
      intro xs w' hb hT K9 hK9
      have h7 : ∃ b, (xs 7) = .slice (some ⟨b, 0, none⟩) 2 2 ∧ RatsAt w' (some ⟨b, 0, none⟩) 2 [(L : Rat), pq] 4 := hT 7 (by kernel_rfl)
      clear hT
      simp only [zFp, zAp, zLa, zLb, zLc, Nat.reduceAdd, zNz] at hK9 ⊢
      have hw := Flow.hwD HW0.out hb
      obtain ⟨b5, e5, hr5⟩ := h7
      simp only [e5] at hK9 ⊢
      clear e5
      go_simp
      go_at_call 74
      refine (Sum_any hr5 (by omega) (by simp)).mono ?_
      rintro e w3 ⟨v3, rfl, hi3, hb3⟩
      exact hK9 _ _ hb3 (by rw [HQ9.out]; exact hi3)
     case s9 =>
      intro xs w' hb hT K9 hK9
      have h8 : RtIn w' (xs 8) q9 12 := hT 8 (by kernel_rfl)
      clear hT
      simp only [zFp, zAp, zLa, zLb, zLc, Nat.reduceAdd, zNz] at hK9 ⊢
      have hw := Flow.hwD HW0.out hb
      go_simp
      go_at_call 27
      refine (Number_any h8 (by omega) (HGW.out.below hw)).mono ?_
      rintro e w3 ⟨rfl, hb3⟩
      exact hK9 _ _ hb3 (by rw [HS.out])
     case s10 =>
      intro xs w' hb hT K9 hK9
      have h9 : (xs 9) = .string S := hT 9 (by kernel_rfl)
      clear hT
      simp only [zFp, zAp, zLa, zLb, zLc, Nat.reduceAdd, zNz] at hK9 ⊢
      have hw := Flow.hwD HW0.out hb
      (try simp only [h9] at hK9)
      go_simp
      exact hK9 _ _ ((Below.refl _ _).alloc (Nat.le_refl _) _) ⟨_, rfl, heap_alloc_new _ _⟩
    case fin =>
     intro xs w' hb hT
     have hw := Flow.hwD HW0.out hb
     have h0 : (xs 0) = u7 := hT 0 (by rfl)
     have h10 : ∃ b, (xs 10) = .slice (some ⟨b, 0, none⟩) 1 1 ∧ w'.heap[b]? = some (.cells #[.string S] 40 (0, 0)) := hT 10 (by rfl)
     clear hT
     simp only [zFp, zAp, zLa, zLb, zLc, Nat.reduceAdd, zNz, FlowR.restL, FlowR.orM, Bool.false_or]
     obtain ⟨b6, e6, k6⟩ := h10
     simp only [h0, e6]
     clear h0 e6 hb
     have TT := Lib.hid (row_below HRW.out hw)
     have HW7 := Lib.hid hw
     have HK6 := Lib.hid k6
     clear hw k6
     refine wpList_append_own _ rfl _ _ 37 rfl w.heap.size 40 i0 _ 1 16 Tryz.underlying37 HI.out.1 HI.out.2.1 HI.out.2.2.1 HI.out.2.2.2 rfl (by decide) _ _ _ rfl TT.out ⟨b6, 0, none⟩ 1 1 [.string S] rfl rfl ?c1 ?c2 ?c3 ?c4 ?c5 ?_
     case c1 => exact World.news_of_block HK6.out
     case c2 => simp [Value.oneCell']
     case c3 => have := HN.out; have := HDD.out.2.2; unfold maxLen; omega
     case c4 => have := HN.out; have := HDD.out.2.2; omega
     case c5 => have h1 := HBW.out.size; have h2 := HW7.out.size; omega
     intro v7 w7 hown7 hg7 _
     have hb7 := (HBW.out.trans (HW7.out.mono HBW.out.size)).grown hg7 (by have h1 := HBW.out.size; have h2 := HW7.out.size; omega) (fun q e => (World.ownsRow.lt TT.out q e).1)
     have H7 := Lib.hid (And.intro hown7 hb7)
     clear hown7 hg7 hb7
     go_wp2_with fail
     go_roundg (n - (k + 1))
     case measure => have := HDD.out.2.2; omega
     case rel => exact ⟨k + 1, by have := HDD.out.2.2; omega, by congr 1; exact IntWalk.wrap64_in _ (by have := HN.out; have := HDD.out.2.2; omega), Lib.hid (by rw [HVT.out]; exact H7.out.1), Lib.hid H7.out.2⟩
  ·have e1 : ((k : Int) < (n : Int)) = False := eq_false (by omega)
   obtain rfl : k = n := by omega
   go_wp2_with fail
   go_ret
   exact ⟨_, rfl, hrow.out, hbw.out⟩
end Go.Proofs.YtgofihilkobenaaGreatDoor
