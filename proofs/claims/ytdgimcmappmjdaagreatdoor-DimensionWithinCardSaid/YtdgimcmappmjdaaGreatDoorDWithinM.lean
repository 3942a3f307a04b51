/- dimension.Within: whether values lie within tolerances. -/
import Derived.Test.YtdgimcmappmjdaaGreatDoorKI
import Derived.Test.YtdgimcmappmjdaaGreatDoorKY
set_option linter.unusedSimpArgs false
set_option linter.unusedVariables false
set_option maxRecDepth 100000
namespace Go.Proofs.YtdgimcmappmjdaaGreatDoor
open List renaming setIfInBounds_toArray → zLa, set_cons_zero → zLb, set_cons_succ → zLc
open FlowR renaming putSel → zFp
open Act renaming put → zAp
open Nat renaming zero_add → zNz
open Flow.Steps renaming cons → zSc, nil → zSn
open FlowR.Step renaming of → zSo
open Go.RowKit Go.Num Go.Flow Go.Dtm
set_option maxHeartbeats 8000000
set_option linter.unusedVariables false

def outAt (D : List Dm) (rs : List Rat) (j : Nat) : Bool := decide (cmpQ (rs.getD j 0) (((D.getD j Dm.none).nominal + (D.getD j Dm.none).lower : Int) : Rat) < 0) || decide (0 < cmpQ (rs.getD j 0) (((D.getD j Dm.none).nominal + (D.getD j Dm.none).upper : Int) : Rat))
def withinQ (D : List Dm) (rs : List Rat) : Bool := decide (rs.length = D.length) && decide (pos (outAt D rs) D.length 0 < 0)
theorem mWithin_any {w : World} {ad : Option Addr} {cd : Nat} {D : List Dm} (hd : DimsIn w ad cd D) (hl : D.length ≤ 1000)
  (hD : ∀ j, j < D.length → (-1000000000 ≤ (D.getD j Dm.none).nominal ∧ (D.getD j Dm.none).nominal ≤ 1000000000) ∧ (-1000000000 ≤ (D.getD j Dm.none).lower ∧ (D.getD j Dm.none).lower ≤ 1000000000) ∧ (-1000000000 ≤ (D.getD j Dm.none).upper ∧ (D.getD j Dm.none).upper ≤ 1000000000))
  {ar : Option Addr} {cr : Nat} {rs : List Rat} {K : Nat} (hr : RatsAt w ar cr rs K) (hK : 2 ≤ K) (hK2 : K ≤ 100000) :
  Calls Tryz.prog 31 #[.slice ad D.length cd, .slice ar rs.length cr] w fun e w' => e = .returned (.bool (withinQ D rs)) ∧ Below w.heap.size w w' := by
 obtain ⟨n, hn⟩ : ∃ n, n = D.length := ⟨_, rfl⟩
 obtain ⟨nr, hnr⟩ : ∃ n, n = rs.length := ⟨_, rfl⟩
 have hcap : n ≤ cd ∧ cd ≤ 9223372036854775807 := by rw [hn]; exact ⟨hd.1, hd.2.1⟩
 have hcap2 : nr ≤ cr ∧ cr ≤ 9223372036854775807 := by rw [hnr]; exact ⟨hr.1, hr.2.1⟩
 obtain ⟨AN, hAN⟩ : ∃ x, x = withinQ D rs := ⟨_, rfl⟩
 have HD := ZH hd.2.2
 have HDB := ZH hD
 have HR := ZH hr.2.2
 have HN := ZH (ZN hn (ZN hnr (ZN hl (ZN hK (ZN hK2 hAN)))))
 rw [← hn, ← hnr, ← hAN]
 clear hd hD hr hl hK hK2
 by_cases hne : nr = n
 ·have e1 : ((nr : Int) != (n : Int)) = false := by rw [hne]; simp
  have e2 : ((nr : Int) == (n : Int)) = true := by rw [hne]; simp
  have HNE := ZH hne
  have HAN := ZH (show AN = decide (pos (outAt D rs) D.length 0 < 0) by rw [hAN, withinQ, ZT (show rs.length = D.length by omega), Bool.true_and])
  clear hne hAN hn hnr
  go_enter Tryz.func31, Tryz.ntmps31
  go_wp2_with fail
  go_loopg [16] n (fun gk x wr => ∃ k : Nat, k + gk = n ∧ x = .int .i64 k ∧ Hid (∀ j, j < k → outAt D rs j = false) ∧ Hid (Below w.heap.size w wr))
  case atStart => exact ⟨0, by omega, rfl, ZH (fun j hj => by omega), ZH (ZR _ _)⟩
  case round =>
   obtain ⟨k, hk, rfl, hno, hbw⟩ := hrel
   by_cases hlt : k < n
   ·have e3 : ((k : Int) < (n : Int)) = True := eq_true (by omega)
    obtain ⟨db, dof, rfl, -, hdc⟩ := HD.out (by have := HN.out.1; omega)
    obtain ⟨rb, ro, rfl, -, hrc⟩ := HR.out (by have h1 := HN.out.2.1; have h2 := HNE.out; omega)
    obtain ⟨d, hdd⟩ : ∃ x, x = D.getD k Dm.none := ⟨_, rfl⟩
    obtain ⟨q, hq⟩ : ∃ x, x = rs.getD k 0 := ⟨_, rfl⟩
    have hx := hdc k (by have := HN.out.1; omega)
    have hy := hrc k (by have h1 := HN.out.2.1; have h2 := HNE.out; omega)
    have hdb := HDB.out k (by have := HN.out.1; omega)
    rw [← hdd] at hx hdb
    rw [← hq] at hy
    have x0 := ZJ hbw.out hx.1
    have x1 := ZJ hbw.out hx.2.1
    have x2 := ZJ hbw.out hx.2.2.1
    have x3 := ZJ hbw.out hx.2.2.2
    obtain ⟨s1, a1, d1, l1, s2, a2, d2, l2, r0, r1, r2, r3, hrt⟩ := hy
    have HY := ZH (ZN (ZJ hbw.out r0) (ZN (ZJ hbw.out r1) (ZN (ZJ hbw.out r2) (ZN (ZJ hbw.out r3) (hrt.below hbw.out)))))
    have hk0 : (0 : Int) ≤ (k : Int) := by omega
    have hk1 : (k : Int) < (n : Int) := by omega
    have HDD := ZH (ZN hdd (ZN hdb (ZN hlt hq)))
    have HNO := ZH hno.out
    clear hdc hrc hdd hq hx hdb hlt r0 r1 r2 r3 hrt hno
    go_upto_region 6 with fail
    obtain ⟨w1, hw1⟩ : ∃ x, x = wr.alloc (.cells #[.string d.name, .int .i64 d.nominal, .int .i64 d.lower, .int .i64 d.upper] 23) := ⟨_, rfl⟩
    obtain ⟨bd, hbd⟩ : ∃ b, b = wr.heap.size := ⟨_, rfl⟩
    rw [← hw1, ← hbd]
    have hl1 : Below wr.heap.size wr w1 := by rw [hw1]; exact (ZR _ wr).alloc (Nat.le_refl _) _
    have kd : w1.heap[bd]? = some (.cells #[.string d.name, .int .i64 d.nominal, .int .i64 d.lower, .int .i64 d.upper] 23 (0, 0)) := by rw [hw1, hbd]; exact ZW wr _
    have y0 := ZI kd 0
    have y1 := ZI kd 1
    have y2 := ZI kd 2
    have y3 := ZI kd 3
    simp at y0 y1 y2 y3
    have HB1 := ZH (hbw.out.trans (hl1.mono hbw.out.size))
    have HL1 := ZH hl1
    clear hw1 hbd hl1 kd x0 x1 x2 x3 hk0 hk1 hbw
    go_wp2_with fail
    refine (mRange_any (W := w1) d HDD.out.2.1.1 HDD.out.2.1.2.1 HDD.out.2.1.2.2).mono ?_
    rintro e w2 ⟨rfl, hb2⟩
    obtain ⟨lo, hlo⟩ : ∃ x, x = d.nominal + d.lower := ⟨_, rfl⟩
    obtain ⟨hi', hhi⟩ : ∃ x, x = d.nominal + d.upper := ⟨_, rfl⟩
    rw [← hlo, ← hhi]
    obtain ⟨C1, hC1⟩ : ∃ x, x = cmpQ q (lo : Rat) := ⟨_, rfl⟩
    obtain ⟨C2, hC2⟩ : ∃ x, x = cmpQ q (hi' : Rat) := ⟨_, rfl⟩
    obtain ⟨B1, hB1⟩ : ∃ x, x = decide (C1 < 0) := ⟨_, rfl⟩
    obtain ⟨B2, hB2⟩ : ∃ x, x = decide (0 < C2) := ⟨_, rfl⟩
    have HOUT := ZH (show outAt D rs k = (B1 || B2) by rw [hB1, hB2, hC1, hC2, hlo, hhi, HDD.out.1, HDD.out.2.2.2, outAt])
    have HBB := ZH (ZN hB1 (ZN hB2 (ZN hC1 hC2)))
    have HLH := ZH (show (-2000000000 ≤ lo ∧ lo ≤ 2000000000) ∧ (-2000000000 ≤ hi' ∧ hi' ≤ 2000000000) by have := HDD.out.2.1; omega)
    have HB2 := ZH (HB1.out.trans (hb2.mono HB1.out.size))
    have hbr2 := HL1.out.trans (hb2.mono HL1.out.size)
    have HY2 := ZH (ZN (ZJ hbr2 HY.out.1) (ZN (ZJ hbr2 HY.out.2.1) (ZN (ZJ hbr2 HY.out.2.2.1) (ZN (ZJ hbr2 HY.out.2.2.2.1) (HY.out.2.2.2.2.below hbr2)))))
    have HW2 := ZH (ZR w2.heap.size w2)
    have hk0 : (0 : Int) ≤ (k : Int) := by omega
    have hk1 : (k : Int) < (nr : Int) := by have h1 := HDD.out.2.2.1; have h2 := HNE.out; omega
    clear hb2 hbr2 y0 y1 y2 y3 hlo hhi hC1 hC2 hB1 hB2 HB1 HL1
    go_upto_region 7 with fail
    refine FlowR.wp_region_sel (fun a b => Below a.heap.size a b) (fun a => ZR _ a) (fun _ _ _ h k => h.trans (k.mono h.size)) [0, 1, 2, 3, 4, 5, 6, 7, 8, 9, 10, 11, 12, 13, 14, 15, 16, 17] [false, false, false, false, false, false, false, false, false, false, false, false, false, false, false, false, false, false] [true, true, true, true, true, true, true, true, true, true, true, true, true, true, true, true, true, true] (fun i9 v w' => match i9 with
     | 0 => v = .slice (some ⟨rb, ro, none⟩) nr cr
     | 1 => v = .int .i64 (k : Int)
     | 2 => v = .pointer (some ⟨rb, ro + k * 4, none⟩)
     | 3 => v = .agg #[.bool s1, .slice a1 d1 l1, .bool s2, .slice a2 d2 l2]
     | 4 => v = .int .i64 lo
     | 5 => RtIn w' v (lo : Rat) 2
     | 6 => v = .int .i64 C1
     | 7 => v = .bool B1
     | 8 => v = .bool B1
     | 9 => (B1) = false → v = .slice (some ⟨rb, ro, none⟩) nr cr
     | 10 => (B1) = false → v = .int .i64 (k : Int)
     | 11 => (B1) = false → v = .pointer (some ⟨rb, ro + k * 4, none⟩)
     | 12 => (B1) = false → v = .agg #[.bool s1, .slice a1 d1 l1, .bool s2, .slice a2 d2 l2]
     | 13 => (B1) = false → v = .int .i64 hi'
     | 14 => (B1) = false → RtIn w' v (hi' : Rat) 2
     | 15 => (B1) = false → v = .int .i64 C2
     | 16 => (B1) = false → v = .bool B2
     | _ => v = .bool (B1 || B2)) rfl rfl (by kernel_rfl) (by kernel_rfl) (by kernel_rfl) (by kernel_rfl) ?st ?steps ?fin
    case st =>
     intro i9 v u1 u2 h hb
     match i9 with
     | 0 | 1 | 2 | 3 | 4 | 7 | 8 | 9 | 10 | 11 | 12 | 13 | 16 | 17 | _ + 18 => exact h
     | 5 => exact (show RtIn u1 v (lo : Rat) 2 from h).below hb
     | 6 => exact (show v = .int .i64 C1 from h)
     | 14 => exact fun hq => ((show (B1) = false → RtIn u1 v (hi' : Rat) 2 from h) hq).below hb
     | 15 => exact fun hq => ((show (B1) = false → v = .int .i64 C2 from h) hq)
    case steps =>
     refine zSc (zSo rfl ?s0) (zSc (zSo rfl ?s1) (zSc (zSo rfl ?s2) (zSc (zSo rfl ?s3) (zSc (zSo rfl ?s4) (zSc (zSo rfl ?s5) (zSc (zSo rfl ?s6) (zSc (zSo rfl ?s7) (zSc (zSo rfl ?s8) (zSc (zSo rfl ?s9) (zSc (zSo rfl ?s10) (zSc (zSo rfl ?s11) (zSc (zSo rfl ?s12) (zSc (zSo rfl ?s13) (zSc (zSo rfl ?s14) (zSc (zSo rfl ?s15) (zSc (zSo rfl ?s16) (zSc (zSo rfl ?s17) zSn)))))))))))))))))
     case s0 | s1 | s4 =>
      intro xs w' hb hT K9 hK9
      clear hT
      simp only [zFp, zAp, zLa, zLb, zLc, Nat.reduceAdd, zNz] at hK9 ⊢
      have hw := Flow.hwD HW2.out hb
      go_simp
      exact hK9 _ _ (ZR _ _) rfl
     case s2 =>
      intro xs w' hb hT K9 hK9
      have h0 : (xs 0) = .slice (some ⟨rb, ro, none⟩) nr cr := hT 0 (by kernel_rfl)
      have h1 : (xs 1) = .int .i64 (k : Int) := hT 1 (by kernel_rfl)
      clear hT
      simp only [zFp, zAp, zLa, zLb, zLc, Nat.reduceAdd, zNz] at hK9 ⊢
      have hw := Flow.hwD HW2.out hb
      (try simp only [h0] at hK9)
      (try simp only [h1] at hK9)
      go_simp
      exact hK9 _ _ (ZR _ _) rfl
     case s3 =>
      intro xs w' hb hT K9 hK9
      have h2 : (xs 2) = .pointer (some ⟨rb, ro + k * 4, none⟩) := hT 2 (by kernel_rfl)
      clear hT
      simp only [zFp, zAp, zLa, zLb, zLc, Nat.reduceAdd, zNz] at hK9 ⊢
      have hw := Flow.hwD HW2.out hb
      (try simp only [h2] at hK9)
      have y0 := ZJ hw HY2.out.1
      have y1 := ZJ hw HY2.out.2.1
      have y2 := ZJ hw HY2.out.2.2.1
      have y3 := ZJ hw HY2.out.2.2.2.1
      go_simp
      exact hK9 _ _ (ZR _ _) rfl
     case s5 =>
      intro xs w' hb hT K9 hK9
      have h4 : (xs 4) = .int .i64 lo := hT 4 (by kernel_rfl)
      clear hT
      simp only [zFp, zAp, zLa, zLb, zLc, Nat.reduceAdd, zNz] at hK9 ⊢
      have hw := Flow.hwD HW2.out hb
      (try simp only [h4] at hK9)
      go_simp
      go_at_call 23
      refine (ratFrom_any (n := lo) (by have := HLH.out; omega) (by have := HLH.out; omega)).mono ?_
      rintro e w3 ⟨v3, rfl, hi3, hb3⟩
      exact hK9 _ _ hb3 hi3
     case s6 =>
      intro xs w' hb hT K9 hK9
      have h3 : (xs 3) = .agg #[.bool s1, .slice a1 d1 l1, .bool s2, .slice a2 d2 l2] := hT 3 (by kernel_rfl)
      have h5 : RtIn w' (xs 5) (lo : Rat) 2 := hT 5 (by kernel_rfl)
      clear hT
      simp only [zFp, zAp, zLa, zLb, zLc, Nat.reduceAdd, zNz] at hK9 ⊢
      have hw := Flow.hwD HW2.out hb
      (try simp only [h3] at hK9)
      go_simp
      go_at_call 53
      refine (ratCompare_any (HY2.out.2.2.2.2.below hw) h5 (by have := HN.out; omega) (Nat.le_refl 2) (by have := HN.out; omega)).mono ?_
      rintro e w3 ⟨rfl, hb3⟩
      exact hK9 _ _ hb3 (by rw [HBB.out.2.2.1])
     case s7 =>
      intro xs w' hb hT K9 hK9
      have h6 : (xs 6) = .int .i64 C1 := hT 6 (by kernel_rfl)
      clear hT
      simp only [zFp, zAp, zLa, zLb, zLc, Nat.reduceAdd, zNz] at hK9 ⊢
      have hw := Flow.hwD HW2.out hb
      (try simp only [h6] at hK9)
      go_simp
      exact hK9 _ _ (ZR _ _) (by rw [HBB.out.1])
     case s8 =>
      intro xs w' hb hT K9 hK9
      have h7 : (xs 7) = .bool B1 := hT 7 (by kernel_rfl)
      clear hT
      simp only [zFp, zAp, zLa, zLb, zLc, Nat.reduceAdd, zNz] at hK9 ⊢
      have hw := Flow.hwD HW2.out hb
      (try simp only [h7] at hK9)
      go_simp
      exact hK9 _ _ (ZR _ _) rfl
     case s9 | s10 | s13 =>
      intro xs w' hb hT K9 hK9
      have h8 : (xs 8) = .bool B1 := hT 8 (by kernel_rfl)
      clear hT
      simp only [zFp, zAp, zLa, zLb, zLc, Nat.reduceAdd, zNz] at hK9 ⊢
      have hw := Flow.hwD HW2.out hb
      by_cases hg : (B1) = false
      ·rw [hg] at h8
       (try simp only [h8] at hK9)
       go_simp
       exact hK9 _ _ (ZR _ _) (fun _ => rfl)
      ·have hg' : (B1) = true := eq_true_of_ne_false hg
       rw [hg'] at h8
       (try simp only [h8] at hK9)
       go_simp
       exact hK9 _ _ (ZR _ _) (fun h => absurd h hg)
     case s11 =>
      intro xs w' hb hT K9 hK9
      have h8 : (xs 8) = .bool B1 := hT 8 (by kernel_rfl)
      have h9 : (B1) = false → (xs 9) = .slice (some ⟨rb, ro, none⟩) nr cr := hT 9 (by kernel_rfl)
      have h10 : (B1) = false → (xs 10) = .int .i64 (k : Int) := hT 10 (by kernel_rfl)
      clear hT
      simp only [zFp, zAp, zLa, zLb, zLc, Nat.reduceAdd, zNz] at hK9 ⊢
      have hw := Flow.hwD HW2.out hb
      by_cases hg : (B1) = false
      ·rw [hg] at h8
       replace h9 := h9 hg
       replace h10 := h10 hg
       (try simp only [h8] at hK9)
       (try simp only [h9] at hK9)
       (try simp only [h10] at hK9)
       go_simp
       exact hK9 _ _ (ZR _ _) (fun _ => rfl)
      ·have hg' : (B1) = true := eq_true_of_ne_false hg
       rw [hg'] at h8
       (try simp only [h8] at hK9)
       clear h9 h10
       go_simp
       exact hK9 _ _ (ZR _ _) (fun h => absurd h hg)
     case s12 =>
      intro xs w' hb hT K9 hK9
      have h8 : (xs 8) = .bool B1 := hT 8 (by kernel_rfl)
      have h11 : (B1) = false → (xs 11) = .pointer (some ⟨rb, ro + k * 4, none⟩) := hT 11 (by kernel_rfl)
      clear hT
      simp only [zFp, zAp, zLa, zLb, zLc, Nat.reduceAdd, zNz] at hK9 ⊢
      have hw := Flow.hwD HW2.out hb
      by_cases hg : (B1) = false
      ·rw [hg] at h8
       replace h11 := h11 hg
       (try simp only [h8] at hK9)
       (try simp only [h11] at hK9)
       have y0 := ZJ hw HY2.out.1
       have y1 := ZJ hw HY2.out.2.1
       have y2 := ZJ hw HY2.out.2.2.1
       have y3 := ZJ hw HY2.out.2.2.2.1
       go_simp
       exact hK9 _ _ (ZR _ _) (fun _ => rfl)
      ·have hg' : (B1) = true := eq_true_of_ne_false hg
       rw [hg'] at h8
       (try simp only [h8] at hK9)
       clear h11
       go_simp
       exact hK9 _ _ (ZR _ _) (fun h => absurd h hg)
     case s14 =>
      intro xs w' hb hT K9 hK9
      have h8 : (xs 8) = .bool B1 := hT 8 (by kernel_rfl)
      have h13 : (B1) = false → (xs 13) = .int .i64 hi' := hT 13 (by kernel_rfl)
      clear hT
      simp only [zFp, zAp, zLa, zLb, zLc, Nat.reduceAdd, zNz] at hK9 ⊢
      have hw := Flow.hwD HW2.out hb
      by_cases hg : (B1) = false
      ·rw [hg] at h8
       replace h13 := h13 hg
       (try simp only [h8] at hK9)
       (try simp only [h13] at hK9)
       go_simp
       go_at_call 23
       refine (ratFrom_any (n := hi') (by have := HLH.out; omega) (by have := HLH.out; omega)).mono ?_
       rintro e w3 ⟨v3, rfl, hi3, hb3⟩
       exact hK9 _ _ hb3 (fun _ => hi3)
      ·have hg' : (B1) = true := eq_true_of_ne_false hg
       rw [hg'] at h8
       (try simp only [h8] at hK9)
       clear h13
       go_simp
       exact hK9 _ _ (ZR _ _) (fun h => absurd h hg)
     case s15 =>
      intro xs w' hb hT K9 hK9
      have h8 : (xs 8) = .bool B1 := hT 8 (by kernel_rfl)
      have h12 : (B1) = false → (xs 12) = .agg #[.bool s1, .slice a1 d1 l1, .bool s2, .slice a2 d2 l2] := hT 12 (by kernel_rfl)
      have h14 : (B1) = false → RtIn w' (xs 14) (hi' : Rat) 2 := hT 14 (by kernel_rfl)
      clear hT
      simp only [zFp, zAp, zLa, zLb, zLc, Nat.reduceAdd, zNz] at hK9 ⊢
      have hw := Flow.hwD HW2.out hb
      by_cases hg : (B1) = false
      ·rw [hg] at h8
       replace h12 := h12 hg
       replace h14 := h14 hg
       (try simp only [h8] at hK9)
       (try simp only [h12] at hK9)
       go_simp
       go_at_call 53
       refine (ratCompare_any (HY2.out.2.2.2.2.below hw) h14 (by have := HN.out; omega) (Nat.le_refl 2) (by have := HN.out; omega)).mono ?_
       rintro e w3 ⟨rfl, hb3⟩
       exact hK9 _ _ hb3 (fun _ => (by rw [HBB.out.2.2.2]))
      ·have hg' : (B1) = true := eq_true_of_ne_false hg
       rw [hg'] at h8
       (try simp only [h8] at hK9)
       clear h12 h14
       go_simp
       exact hK9 _ _ (ZR _ _) (fun h => absurd h hg)
     case s16 =>
      intro xs w' hb hT K9 hK9
      have h8 : (xs 8) = .bool B1 := hT 8 (by kernel_rfl)
      have h15 : (B1) = false → (xs 15) = .int .i64 C2 := hT 15 (by kernel_rfl)
      clear hT
      simp only [zFp, zAp, zLa, zLb, zLc, Nat.reduceAdd, zNz] at hK9 ⊢
      have hw := Flow.hwD HW2.out hb
      by_cases hg : (B1) = false
      ·rw [hg] at h8
       replace h15 := h15 hg
       (try simp only [h8] at hK9)
       (try simp only [h15] at hK9)
       go_simp
       exact hK9 _ _ (ZR _ _) (fun _ => (by rw [HBB.out.2.1]))
      ·have hg' : (B1) = true := eq_true_of_ne_false hg
       rw [hg'] at h8
       (try simp only [h8] at hK9)
       clear h15
       go_simp
       exact hK9 _ _ (ZR _ _) (fun h => absurd h hg)
     case s17 =>
      intro xs w' hb hT K9 hK9
      have h8 : (xs 8) = .bool B1 := hT 8 (by kernel_rfl)
      have h16 : (B1) = false → (xs 16) = .bool B2 := hT 16 (by kernel_rfl)
      clear hT
      simp only [zFp, zAp, zLa, zLb, zLc, Nat.reduceAdd, zNz] at hK9 ⊢
      have hw := Flow.hwD HW2.out hb
      by_cases hg : (B1) = false
      ·rw [hg] at h8
       replace h16 := h16 hg
       (try simp only [h8] at hK9)
       (try simp only [h16] at hK9)
       go_simp
       exact hK9 _ _ (ZR _ _) (by simp [ hg])
      ·have hg' : (B1) = true := eq_true_of_ne_false hg
       rw [hg'] at h8
       clear h16
       (try simp only [h8] at hK9)
       go_simp
       exact hK9 _ _ (ZR _ _) (by simp [ hg'])
    case fin =>
     intro xs w' hb hT
     have hw := Flow.hwD HW2.out hb
     have h17 : (xs 17) = .bool (B1 || B2) := hT 17 (by rfl)
     clear hT
     simp only [zFp, zAp, zLa, zLb, zLc, Nat.reduceAdd, zNz, FlowR.restL, FlowR.orM, Bool.false_or]
     simp only [h17]
     clear h17 hb
     refine wpList_nil ?_
     obtain ⟨w3, hw3⟩ : ∃ x, x = w' := ⟨_, rfl⟩
     rw [← hw3] at hw ⊢
     have HB3 := ZH (HB2.out.trans (hw.mono HB2.out.size))
     obtain ⟨B3, hB3⟩ : ∃ x, x = (B1 || B2) := ⟨_, rfl⟩
     rw [← hB3] at HOUT ⊢
     clear hw hw3 hB3 hk0 hk1
     cases B3 with
     | true =>
      have HE := ZH (show AN = false by
       rw [HAN.out, decide_eq_false_iff_not]
       have h1 := pos_mem (p := outAt D rs) (n := D.length) (j := k) (by have h1 := HDD.out.2.2.1; have h2 := HN.out.1; omega) HOUT.out
       omega)
      go_wp2_with fail
      go_ret
      exact ⟨by rw [HE.out]; rfl, HB3.out⟩
     | false =>
      go_wp2_with fail
      go_roundg (n - (k + 1))
      case measure => have := HDD.out.2.2.1; omega
      case rel => exact ⟨k + 1, by have := HDD.out.2.2.1; omega, by congr 1; exact IntWalk.wrap64_in _ (by have := HDD.out.2.2.1; have := HN.out; omega), ZH (fun j hj => by
       rcases Nat.lt_or_ge j k with h | h
       ·exact HNO.out j h
       ·obtain rfl : j = k := by omega
        exact HOUT.out), HB3⟩
   ·have e3 : ((k : Int) < (n : Int)) = False := eq_false (by omega)
    obtain rfl : k = n := by omega
    have HE := ZH (show AN = true by
     rw [HAN.out, decide_eq_true_eq, pos_none (fun j _ hj => hno.out j (by have := HN.out.1; omega))]
     omega)
    go_wp2_with fail
    go_ret
    exact ⟨by rw [HE.out]; rfl, hbw.out⟩
 ·have e1 : ((nr : Int) != (n : Int)) = true := by
   rw [bne_iff_ne]
   omega
  have e2 : ((nr : Int) == (n : Int)) = false := ZQ.2 (by omega)
  have HAN := ZH (show AN = false by rw [hAN, withinQ, ZU (show ¬ rs.length = D.length by omega), Bool.false_and])
  clear hne hAN hn hnr
  go_enter Tryz.func31, Tryz.ntmps31
  go_wp2_with fail
  go_ret
  exact ⟨by rw [HAN.out]; rfl, ZR _ _⟩
end Go.Proofs.YtdgimcmappmjdaaGreatDoor
