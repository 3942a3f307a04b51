/- DimensionChecks: the walk. -/
import Derived.Test.YtdgimcmappmjdaaGreatDoorK6
import Derived.Test.YtdgimcmappmjdaaGreatDoorMNominalM
import Derived.Test.YtdgimcmappmjdaaGreatDoorKY
set_option linter.unusedSimpArgs false
set_option linter.unusedVariables false
set_option maxRecDepth 100000
namespace Go.Proofs.YtdgimcmappmjdaaGreatDoor
open List renaming setIfInBounds_toArray → zLa, set_cons_zero → zLb, set_cons_succ → zLc
open FlowR renaming putSel → zFp
open Act renaming put → zAp
open Nat renaming zero_add → zNz
open Flow.Steps renaming cons → zSc, nil → zSn
open FlowR.Step renaming of → zSo
open Go.RowKit Go.Num Go.Flow Go.Dtm
set_option maxHeartbeats 8000000
set_option linter.unusedVariables false

theorem infoDimC : (Tryz.prog.info? 23).map (fun i => (i.zero, i.size, i.bytes)) = some (some (.agg #[.string ⟨#[]⟩, .int .i64 0, .int .i64 0, .int .i64 0]), 4, 40) := by kernel_rfl
theorem run_make_dims (w : World) : (Instr.makeSlice 29 (.int .i64 65) (.int .i64 65)).run Tryz.prog w = .ok (.slice (some ⟨w.heap.size, 0, none⟩) 65 65) (w.alloc (.cells (madeCells #[.string ⟨#[]⟩, .int .i64 0, .int .i64 0, .int .i64 0] 260) 23)) := by
 obtain ⟨i, hi, hz, hs, hb⟩ : ∃ i, Tryz.prog.info? 23 = some i ∧ i.zero = some (.agg #[.string ⟨#[]⟩, .int .i64 0, .int .i64 0, .int .i64 0]) ∧ i.size = 4 ∧ i.bytes = 40 := by
  have h := infoDimC
  cases hq : Tryz.prog.info? 23 with
  | none => rw [hq] at h; cases h
  | some i =>
   rw [hq] at h
   simp only [Option.map_some, Option.some.injEq, Prod.mk.injEq] at h
   exact ⟨i, rfl, h⟩
 have hr := run_make (P := Tryz.prog) w 29 23 i _ Tryz.underlying29 hi hz .i64 .i64 65 65 (by omega) (by omega) (by rw [hb]; omega) (by omega)
 simp only [hs] at hr
 exact hr
theorem made_cell (z : Array Value) (n i : Nat) (h : i < n) (u : Value) (hz : z[i % z.size]! = u) : (madeCells z n)[i]? = some u := by
 simp [madeCells, h, hz]
theorem made_dims (w : World) : DimsIn (w.alloc (.cells (madeCells #[.string ⟨#[]⟩, .int .i64 0, .int .i64 0, .int .i64 0] 260) 23)) (some ⟨w.heap.size, 0, none⟩) 65 (List.replicate 65 Dm.none) := by
 have hb := ZW w (.cells (madeCells #[.string ⟨#[]⟩, .int .i64 0, .int .i64 0, .int .i64 0] 260) 23)
 refine ⟨by simp, by unfold maxLen; omega, fun _ => ⟨_, 0, rfl, ZL hb, fun j hj => ?_⟩⟩
 have hj : j < 65 := by simpa using hj
 have e0 : (List.replicate 65 Dm.none).getD j Dm.none = Dm.none := by
  rw [List.getD_eq_getElem?_getD, List.getElem?_replicate]
  split <;> rfl
 rw [e0]
 refine ⟨?_, ?_, ?_, ?_⟩
 all_goals
  rw [ZI hb]
  refine made_cell _ _ _ (by omega) _ ?_
 ·show (#[.string ⟨#[]⟩, .int .i64 0, .int .i64 0, .int .i64 0] : Array Value)[(0 + j * 4) % 4]! = _
  rw [show (0 + j * 4) % 4 = 0 by omega]
  rfl
 ·show (#[.string ⟨#[]⟩, .int .i64 0, .int .i64 0, .int .i64 0] : Array Value)[(0 + j * 4 + 1) % 4]! = _
  rw [show (0 + j * 4 + 1) % 4 = 1 by omega]
  rfl
 ·show (#[.string ⟨#[]⟩, .int .i64 0, .int .i64 0, .int .i64 0] : Array Value)[(0 + j * 4 + 2) % 4]! = _
  rw [show (0 + j * 4 + 2) % 4 = 2 by omega]
  rfl
 ·show (#[.string ⟨#[]⟩, .int .i64 0, .int .i64 0, .int .i64 0] : Array Value)[(0 + j * 4 + 3) % 4]! = _
  rw [show (0 + j * 4 + 3) % 4 = 3 by omega]
  rfl
theorem many_dims {w : World} : Calls Tryz.prog 16 #[.slice (some ⟨w.heap.size, 0, none⟩) 65 65] (w.alloc (.cells (madeCells #[.string ⟨#[]⟩, .int .i64 0, .int .i64 0, .int .i64 0] 260) 23)) fun e w' => e = .returned (.int .i64 6) ∧ Below w.heap.size w w' := by
 have h := mCheck_any (made_dims w) (by simp)
 rw [List.length_replicate] at h
 refine h.mono ?_
 rintro e w2 ⟨rfl, hb⟩
 have hl : Below w.heap.size w (w.alloc (.cells (madeCells #[.string ⟨#[]⟩, .int .i64 0, .int .i64 0, .int .i64 0] 260) 23)) := (ZR _ w).alloc (Nat.le_refl _) _
 refine ⟨?_, hl.trans (hb.mono hl.size)⟩
 unfold dimsErr
 rw [if_pos (by simp)]
theorem fine_dims {D : List Dm} (h : dimsErr D = 0) {j : Nat} (hj : j < D.length) : (-1073741824 ≤ (D.getD j Dm.none).nominal ∧ (D.getD j Dm.none).nominal ≤ 1073741824) ∧ (-1073741824 ≤ (D.getD j Dm.none).lower ∧ (D.getD j Dm.none).lower ≤ 1073741824) ∧ (-1073741824 ≤ (D.getD j Dm.none).upper ∧ (D.getD j Dm.none).upper ≤ 1073741824) := by
 unfold dimsErr at h
 split at h
 ·omega
 ·have h0 : dimErr D j = 0 := by
   rcases Classical.em (∀ i, i < D.length → dimErr D i = 0) with hq | hq
   ·exact hq j hj
   ·exfalso
    obtain ⟨i, hi, hne, hmin⟩ : ∃ i, i < D.length ∧ dimErr D i ≠ 0 ∧ ∀ k, k < i → dimErr D k = 0 := by
     have : ∃ i, i < D.length ∧ dimErr D i ≠ 0 := by
      simp only [Classical.not_forall] at hq
      obtain ⟨i, hi, hne⟩ := hq
      exact ⟨i, hi, hne⟩
     obtain ⟨i, hi, hne⟩ := this
     induction i using Nat.strongRecOn with
     | ind i ih =>
      by_cases hx : ∃ k, k < i ∧ dimErr D k ≠ 0
      ·obtain ⟨k, hk, hk2⟩ := hx
       exact ih k hk (by omega) hk2
      ·exact ⟨i, hi, hne, fun k hk => Classical.byContradiction fun hn => hx ⟨k, hk, hn⟩⟩
    exact hne ((firstErr_at (Nat.zero_le _) (by omega) (fun k _ hk => hmin k hk) hne).symm.trans h)
  unfold dimErr at h0
  split at h0
  ·omega
  ·split at h0
   ·omega
   ·next h2 =>
    simp only [farM, Bool.or_eq_true, decide_eq_true_eq, not_or] at h2
    omega
theorem cmpq_self (a : Rat) : cmpQ a a = 0 := by
 unfold cmpQ
 rw [if_neg (Rat.not_lt.2 Rat.le_refl)]
 exact if_neg (Rat.not_lt.2 Rat.le_refl)
/-- The law's search from behind. -/
theorem pos_back (p : Nat → Bool) (n k : Nat) (h : k < n) : pos p (n - k) k = if p k = true then (k : Int) else pos p (n - (k + 1)) (k + 1) := by
 obtain ⟨m, hm⟩ : ∃ m, n - k = m + 1 := ⟨n - k - 1, by omega⟩
 rw [hm, show n - (k + 1) = m by omega]
 rfl
theorem said_DimensionChecks {w : World} (hG : Glob w) {ad : Option Addr} {cd : Nat} {D : List Dm} (hd : DimsIn w ad cd D) (s : ByteArray) (hs : s.size ≤ maxLen) : Calls Tryz.prog 4 #[.slice ad D.length cd, .string s] w fun e w' => e = .returned (.bool true) ∧ Below w.heap.size w w' := by
 obtain ⟨n, hn⟩ : ∃ n, n = D.length := ⟨_, rfl⟩
 have hcap : n ≤ cd ∧ cd ≤ 9223372036854775807 := by rw [hn]; exact ⟨hd.1, hd.2.1⟩
 have HG := ZH hG
 have HD := ZH hd
 have HN := ZH hn
 rw [← hn]
 clear hG hd hn hs
 go_enter Tryz.func4, Tryz.ntmps4
 go_wp2_with fail
 refine (pknown_any HG.out).mono ?_
 rintro e w1 ⟨rfl, hb1⟩
 have HB1 := ZH hb1
 have HKN := ZH (pknown_any (HG.out.below hb1))
 clear hb1
 by_cases hn6 : 6 < n
 ·have e1 : ((6 : Int) < (n : Int)) = True := eq_true (by omega)
  clear hn6
  go_wp2_with fail
  refine HKN.out.mono ?_
  rintro e w2 ⟨rfl, hb2⟩
  have HF := ZH (HB1.out.trans (hb2.mono HB1.out.size))
  clear hb2
  go_wp2_with fail
  go_ret
  exact ⟨rfl, HF.out⟩
 have e1 : ((6 : Int) < (n : Int)) = False := eq_false (by omega)
 by_cases hs5 : 50 < s.size
 ·have e2 : ((50 : Int) < (s.size : Int)) = True := eq_true (by omega)
  clear hn6 hs5
  go_wp2_with fail
  refine HKN.out.mono ?_
  rintro e w2 ⟨rfl, hb2⟩
  have HF := ZH (HB1.out.trans (hb2.mono HB1.out.size))
  clear hb2
  go_wp2_with fail
  go_ret
  exact ⟨rfl, HF.out⟩
 have e2 : ((50 : Int) < (s.size : Int)) = False := eq_false (by omega)
 have HSZ := ZH (show n ≤ 6 ∧ s.size ≤ 50 by omega)
 clear hn6 hs5 HKN
 go_wp2_with fail
 clear e1 e2
 go_loopg [5] n (fun gk i wr => ∃ k : Nat, k + gk = n ∧ i = .int .i64 k ∧ Hid (∀ j, j < k → (D.getD j Dm.none).name.size ≤ 50) ∧ Hid (Below w.heap.size w wr))
 case atStart => exact ⟨0, by omega, rfl, ZH (fun j hj => by omega), HB1⟩
 case round =>
  obtain ⟨k, hk, rfl, hno, hbw⟩ := hrel
  by_cases hlt : k < n
  ·have e1 : ((k : Int) < (n : Int)) = True := eq_true (by omega)
   obtain ⟨db, dof, rfl, -, hdc⟩ := HD.out.2.2 (by have := HN.out; omega)
   obtain ⟨d, hdd⟩ : ∃ x, x = D.getD k Dm.none := ⟨_, rfl⟩
   have hx := hdc k (by have := HN.out; omega)
   rw [← hdd] at hx
   have x0 := ZJ hbw.out hx.1
   have hk0 : (0 : Int) ≤ (k : Int) := by omega
   have hk1 : (k : Int) < (n : Int) := by omega
   have HLT := ZH (ZN hlt (ZN hk hdd))
   have HNO := ZH hno.out
   have HBW := ZH hbw.out
   clear hdc hx hlt hk hdd hno hbw
   by_cases hsz : 50 < d.name.size
   ·have e2 : ((50 : Int) < (d.name.size : Int)) = True := eq_true (by omega)
    clear hsz
    go_wp2_with fail
    go_ret
    exact ⟨rfl, HBW.out⟩
   ·have e2 : ((50 : Int) < (d.name.size : Int)) = False := eq_false (by omega)
    have HNN := ZH (show ∀ j, j < k + 1 → (D.getD j Dm.none).name.size ≤ 50 from fun j hj => by
     rcases Nat.lt_or_eq_of_le (Nat.le_of_lt_succ hj) with h | h
     ·exact HNO.out j h
     ·rw [h, ← HLT.out.2.2]; omega)
    clear hsz
    go_wp2_with fail
    go_roundg (n - (k + 1))
    case measure => have h1 := HLT.out; omega
    case rel => exact ⟨k + 1, by have h1 := HLT.out; omega, by first | (congr 1; done) | (congr 1; exact IntWalk.wrap64_in ((k : Int) + 1) (by have h1 := HLT.out; have h2 := HSZ.out; omega)), HNN, HBW⟩
  ·have e1 : ((k : Int) < (n : Int)) = False := eq_false (by omega)
   obtain rfl : n = k := by omega
   have HNM := ZH hno.out
   have HB2 := ZH hbw.out
   clear hno hbw hlt hk
   have hck := mCheck_any (HD.out.below HB2.out) (by have := HN.out; have := HSZ.out; omega)
   have hfd := fun W (hb : Below w.heap.size w W) => mFind_any (HD.out.below hb) (by have := HN.out; have := HSZ.out; omega) s
   have hpc := fun W (hb : Below w.heap.size w W) => pcheck_any (HD.out.below hb) (by have := HN.out; have := HSZ.out; omega) (fun j hj => by have := HNM.out j (by have := HN.out; omega); omega)
   rw [← HN.out] at hck hfd hpc
   obtain ⟨E, hE⟩ : ∃ x, x = dimsErr D := ⟨_, rfl⟩
   obtain ⟨AT, hAT⟩ : ∃ x, x = dimAt D s := ⟨_, rfl⟩
   rw [← hE] at hck hpc
   rw [← hAT] at hfd
   obtain ⟨M, hM⟩ : ∃ x, x = max AT 0 := ⟨_, rfl⟩
   obtain ⟨BB, hBB⟩ : ∃ x, x = decide (0 ≤ AT) := ⟨_, rfl⟩
   simp only [← hM, ← hBB] at hfd
   have HCK := ZH hck
   have HFD := ZH hfd
   have HPC := ZH hpc
   have HE := ZH (ZN hE (ZN hAT (ZN hM hBB)))
   clear hck hfd hpc hE hAT hM hBB
   go_wp2_with fail
   refine HCK.out.mono ?_
   rintro e w3 ⟨rfl, hb3⟩
   have HB3 := ZH (HB2.out.trans (hb3.mono HB2.out.size))
   clear hb3 HCK
   go_wp2_with fail
   refine (HFD.out w3 HB3.out).mono ?_
   rintro e w4 ⟨rfl, hb4⟩
   have HB4 := ZH (HB3.out.trans (hb4.mono HB3.out.size))
   clear hb4 HFD HB3 e1
   have hz0 : wrap64 ((n : Int) - 1) = (n : Int) - 1 := IntWalk.wrap64_in _ (by have := HSZ.out; omega)
   go_wp2_with fail
   go_loopg [9, 10] n (fun gk a i wr => gk ≤ n ∧ i = .int .i64 ((gk : Int) - 1) ∧ a = .int .i64 (pos (fun j => (D.getD j Dm.none).name.toList == s.toList) (n - gk) gk) ∧ Hid (Below w.heap.size w wr))
   case atStart => exact ⟨Nat.le_refl _, by first | rfl | (rw [hz0]), by rw [Nat.sub_self]; rfl, HB4⟩
   case round =>
    obtain ⟨hgk, rfl, rfl, hbw⟩ := hrel
    by_cases hlt : 0 < gk
    ·obtain ⟨k, rfl⟩ : ∃ k, gk = k + 1 := ⟨gk - 1, by omega⟩
     have ek : (((k + 1 : Nat) : Int) - 1) = (k : Int) := by omega
     rw [ek]
     obtain ⟨db, dof, rfl, -, hdc⟩ := HD.out.2.2 (by have := HN.out; omega)
     obtain ⟨d, hdd⟩ : ∃ x, x = D.getD k Dm.none := ⟨_, rfl⟩
     have hx := hdc k (by have := HN.out; omega)
     rw [← hdd] at hx
     have x0 := ZJ hbw.out hx.1
     have e1 : ((0 : Int) ≤ (k : Int)) = True := eq_true (by omega)
     have hk0 : (0 : Int) ≤ (k : Int) := by omega
     have hk1 : (k : Int) < (n : Int) := by omega
     have hz1 : wrap64 ((k : Int) - 1) = (k : Int) - 1 := IntWalk.wrap64_in _ (by have := HSZ.out; omega)
     obtain ⟨A1, hA1⟩ : ∃ x, x = pos (fun j => (D.getD j Dm.none).name.toList == s.toList) (n - (k + 1)) (k + 1) := ⟨_, rfl⟩
     obtain ⟨BN, hBN⟩ : ∃ x, x = (d.name.toList == s.toList) := ⟨_, rfl⟩
     have hpb := pos_back (fun j => (D.getD j Dm.none).name.toList == s.toList) n k (by omega)
     simp only [← hdd, ← hBN] at hpb
     rw [← hA1] at hpb ⊢
     have HPB := ZH (ZN hpb hgk)
     have HBW := ZH hbw.out
     have e2 := hBN.symm
     clear hdc hx hdd hlt hgk hbw ek hA1 hpb hBN
     cases BN with
     | true =>
      go_wp2_with fail
      go_roundg k
      case measure => omega
      case rel => exact ⟨by have := HPB.out.2; omega, by congr 1, by rw [HPB.out.1]; rfl, HBW⟩
     | false =>
      go_wp2_with fail
      go_roundg k
      case measure => omega
      case rel => exact ⟨by have := HPB.out.2; omega, by congr 1, by rw [HPB.out.1]; rfl, HBW⟩
    ·obtain rfl : gk = 0 := by omega
     have e1 : ((0 : Int) ≤ ((0 : Nat) : Int) - 1) = False := eq_false (by omega)
     have hpos : pos (fun j => (D.getD j Dm.none).name.toList == s.toList) (n - 0) 0 = AT := by rw [HE.out.2.1, dimAt, ← HN.out]; rfl
     rw [hpos]
     have HBW := ZH hbw.out
     have hpm := pname_any (W := wr) s (by have := HSZ.out; omega)
     have his := isName_any s wr
     obtain ⟨BI, hBI⟩ : ∃ x, x = isName s := ⟨_, rfl⟩
     have HNI := ZH (show ∀ W, Calls Tryz.prog 18 #[.string s] W fun e w' => e = .returned (.bool BI) ∧ Below W.heap.size W w' from fun W => by rw [hBI]; exact isName_any s W)
     have HPI := ZH (show ∀ W, Calls Tryz.prog 19 #[.string s] W fun e w' => e = .returned (.bool BI) ∧ Below W.heap.size W w' from fun W => by rw [hBI]; exact pname_any s (by have := HSZ.out; omega))
     clear hgk hlt hpos hbw hpm his hBI hz0
     have hmk := run_make_dims
     have hpc1 : AT = -1 ∨ 0 ≤ AT := by
      rw [HE.out.2.1]
      rcases pos_cases (fun j => (D.getD j Dm.none).name.toList == s.toList) D.length 0 with ⟨h, -⟩ | ⟨i, h, -⟩
      ·exact .inl h
      ·exact .inr (by unfold dimAt; rw [h]; omega)
     go_upto_region 16 with fail
     go_cut [101] from 64 to 102 (fun c wx => c = .bool false ∧ Hid (Below w.heap.size w wx))
     case first =>
      rcases hpc1 with rfl | hA
      ·obtain rfl : M = 0 := by rw [HE.out.2.2.1]; rfl
       obtain rfl : BB = false := by rw [HE.out.2.2.2]; rfl
       go_wp2_with fail
       refine (HPC.out wr HBW.out).mono ?_
       rintro e w5 ⟨rfl, hb5⟩
       have HB5 := ZH (HBW.out.trans (hb5.mono HBW.out.size))
       clear hb5
       go_wp2_with fail
       refine (HNI.out w5).mono ?_
       rintro e w6 ⟨rfl, hb6⟩
       have HB6 := ZH (HB5.out.trans (hb6.mono HB5.out.size))
       clear hb6 HB5
       go_wp2_with fail
       refine (HPI.out w6).mono ?_
       rintro e w7 ⟨rfl, hb7⟩
       have HB7 := ZH (HB6.out.trans (hb7.mono HB6.out.size))
       clear hb7 HB6
       go_wp2_with fail
       refine many_dims.mono ?_
       rintro e w8 ⟨rfl, hb8⟩
       have HB8 := ZH (HB7.out.trans (hb8.mono HB7.out.size))
       clear hb8 HB7
       go_wp2_with fail
       go_meet
       exact ⟨rfl, HB8⟩
      ·obtain rfl : M = AT := by rw [HE.out.2.2.1]; omega
       obtain rfl : BB = true := by rw [HE.out.2.2.2]; exact ZT hA
       have e2 : (0 ≤ M) = True := eq_true hA
       have HA := ZH hA
       clear hA
       go_wp2_with fail
       refine (HPC.out wr HBW.out).mono ?_
       rintro e w5 ⟨rfl, hb5⟩
       have HB5 := ZH (HBW.out.trans (hb5.mono HBW.out.size))
       clear hb5
       go_wp2_with fail
       refine (HNI.out w5).mono ?_
       rintro e w6 ⟨rfl, hb6⟩
       have HB6 := ZH (HB5.out.trans (hb6.mono HB5.out.size))
       clear hb6 HB5
       go_wp2_with fail
       refine (HPI.out w6).mono ?_
       rintro e w7 ⟨rfl, hb7⟩
       have HB7 := ZH (HB6.out.trans (hb7.mono HB6.out.size))
       clear hb7 HB6
       go_wp2_with fail
       refine many_dims.mono ?_
       rintro e w8 ⟨rfl, hb8⟩
       have HB8 := ZH (HB7.out.trans (hb8.mono HB7.out.size))
       clear hb8 HB7
       go_wp2_with fail
       go_meet
       exact ⟨rfl, HB8⟩
     case rest =>
      obtain ⟨rfl, HB8⟩ := hcut
      clear hmk hpc1 HPC HNI HPI
      by_cases hE0 : E = 0
      ·subst hE0
       have e4 : ((0 : Int) == 0) = true := rfl
       have e5 : ((0 : Int) != 0) = false := rfl
       have hfi := fun j (hj : j < D.length) => fine_dims HE.out.1.symm hj
       have hnm := mNominal_any (HD.out.below HB8.out) (by have := HN.out; have := HSZ.out; omega) (fun j hj => by have := hfi j hj; omega)
       rw [← HN.out] at hnm
       have HNM2 := ZH hnm
       have HFI := ZH hfi
       clear hfi hnm
       go_wp2_with fail
       refine HNM2.out.mono ?_
       rintro e w9 ⟨v, rfl, happ, hb9⟩
       obtain ⟨aq, cq, rfl, hrq⟩ := happ.reads
       have hcq : n ≤ cq ∧ cq ≤ 9223372036854775807 := by have h1 := hrq.1; have h2 := hrq.2.1; rw [nomTo_len] at h1; unfold maxLen at h2; exact ⟨h1, h2⟩
       rw [nomTo_len]
       have HRQ := ZH hrq.2.2
       have HB9 := ZH (HB8.out.trans (hb9.mono HB8.out.size))
       clear hb9 HB8 happ hrq HNM2 e4 e5
       have e6 : ((n : Int) != (n : Int)) = false := by simp
       go_wp2_with fail
       clear e6
       go_loopg [12] n (fun gk i wr2 => ∃ k : Nat, k + gk = n ∧ i = .int .i64 k ∧ Hid (Below w9.heap.size w9 wr2))
       case atStart => exact ⟨0, by omega, rfl, ZH (ZR _ _)⟩
       case round =>
        obtain ⟨k, hk, rfl, hbw⟩ := hrel
        by_cases hlt : k < n
        ·have e1 : ((k : Int) < (n : Int)) = True := eq_true (by omega)
         obtain ⟨db, dof, rfl, -, hdc⟩ := HD.out.2.2 (by have := HN.out; omega)
         obtain ⟨rb, ro, rfl, -, hrc⟩ := HRQ.out (by rw [nomTo_len]; omega)
         obtain ⟨d, hdd⟩ : ∃ x, x = D.getD k Dm.none := ⟨_, rfl⟩
         have hx := hdc k (by have := HN.out; omega)
         have hy := hrc k (by rw [nomTo_len]; omega)
         have hf := HFI.out k (by have := HN.out; omega)
         rw [nomTo_getD D hlt] at hy
         rw [← hdd] at hx hf hy
         have hb1 := HB9.out.trans (hbw.out.mono HB9.out.size)
         have x0 := ZJ hb1 hx.1
         have x1 := ZJ hb1 hx.2.1
         have x2 := ZJ hb1 hx.2.2.1
         have x3 := ZJ hb1 hx.2.2.2
         have HX := ZH (ZN x1 (ZN x2 x3))
         obtain ⟨s1, a1, d1, l1, s2, a2, d2, l2, r0, r1, r2, r3, hrt⟩ := hy
         have HY := ZH (ZN (ZJ hbw.out r0) (ZN (ZJ hbw.out r1) (ZN (ZJ hbw.out r2) (ZN (ZJ hbw.out r3) (hrt.below hbw.out)))))
         have hk0 : (0 : Int) ≤ (k : Int) := by omega
         have hk1 : (k : Int) < (n : Int) := by omega
         have HLT := ZH (ZN hlt hk)
         have HF := ZH hf
         have HBW2 := ZH hbw.out
         clear hdc hrc hdd hx hf hb1 r0 r1 r2 r3 hrt hlt hk hbw hcq
         go_wp2_with fail
         refine (mRange_wide (W := wr) d (by have := HF.out; omega) (by have := HF.out; omega) (by have := HF.out; omega)).mono ?_
         rintro e wa ⟨rfl, hba⟩
         obtain ⟨lo, hlo⟩ : ∃ x, x = d.nominal + d.lower := ⟨_, rfl⟩
         obtain ⟨hi', hhi⟩ : ∃ x, x = d.nominal + d.upper := ⟨_, rfl⟩
         rw [← hlo, ← hhi]
         obtain ⟨P1, hP1⟩ : ∃ x : Bool, x = false := ⟨_, rfl⟩
         obtain ⟨P3, hP3⟩ : ∃ x : Bool, x = false := ⟨_, rfl⟩
         obtain ⟨Q1, hQ1⟩ : ∃ x : Bool, x = true := ⟨_, rfl⟩
         have hw1 : IntKind.i64.wrap (d.nominal + d.lower) = lo := by rw [hlo]; exact IntWalk.i64_in _ (by have := HF.out; omega)
         have hw2 : IntKind.i64.wrap (d.nominal + d.upper) = hi' := by rw [hhi]; exact IntWalk.i64_in _ (by have := HF.out; omega)
         have HP := ZH (ZN hP1 (ZN hP3 (ZN hQ1 (ZN hlo (ZN hhi (ZN hw1 hw2))))))
         have HX2 := ZH (ZN (ZJ hba HX.out.1) (ZN (ZJ hba HX.out.2.1) (ZJ hba HX.out.2.2)))
         have HY2 := ZH (ZN (ZJ hba HY.out.1) (ZN (ZJ hba HY.out.2.1) (ZN (ZJ hba HY.out.2.2.1) (ZN (ZJ hba HY.out.2.2.2.1) (HY.out.2.2.2.2.below hba)))))
         have HBA := ZH (HBW2.out.trans (hba.mono HBW2.out.size))
         have HWA := ZH (ZR wa.heap.size wa)
         clear hba x0 x1 x2 x3 hlo hhi hP1 hP3 hQ1 hw1 hw2 HX HY HBW2 e1
         go_upto_region 27 with fail
         refine FlowR.wp_region_sel (fun a b => Below a.heap.size a b) (fun a => ZR _ a) (fun _ _ _ h k => h.trans (k.mono h.size)) [0, 1, 2, 3, 4, 5, 6, 7, 8, 9, 10, 11, 12, 13, 14, 15, 16, 17, 18, 19, 20, 21, 22, 23, 24, 25, 26, 27, 28, 29, 30, 31, 32, 33, 34, 35, 36, 37, 38, 39, 40, 41] [false, false, false, false, false, false, false, false, false, false, false, false, false, false, false, false, false, false, false, false, false, false, false, false, false, false, false, false, false, false, false, false, false, false, false, false, false, false, false, false, false, false] [true, true, true, true, true, true, true, true, true, true, true, true, true, true, true, true, true, true, true, true, true, true, true, true, true, true, true, true, true, true, true, true, true, true, true, true, true, true, true, true, true, true] (fun i9 v w' => match i9 with
          | 0 => v = .int .i64 lo
          | 1 => v = .slice (some ⟨db, dof, none⟩) n cd
          | 2 => v = .int .i64 (k : Int)
          | 3 => v = .pointer (some ⟨db, dof + k * 4, none⟩)
          | 4 => v = .pointer (some ⟨db, dof + k * 4 + 1, none⟩)
          | 5 => v = .int .i64 d.nominal
          | 6 => v = .slice (some ⟨db, dof, none⟩) n cd
          | 7 => v = .int .i64 (k : Int)
          | 8 => v = .pointer (some ⟨db, dof + k * 4, none⟩)
          | 9 => v = .pointer (some ⟨db, dof + k * 4 + 2, none⟩)
          | 10 => v = .int .i64 d.lower
          | 11 => v = .int .i64 lo
          | 12 => v = .bool P1
          | 13 => v = .bool P1
          | 14 => (P1) = false → v = .int .i64 hi'
          | 15 => (P1) = false → v = .slice (some ⟨db, dof, none⟩) n cd
          | 16 => (P1) = false → v = .int .i64 (k : Int)
          | 17 => (P1) = false → v = .pointer (some ⟨db, dof + k * 4, none⟩)
          | 18 => (P1) = false → v = .pointer (some ⟨db, dof + k * 4 + 1, none⟩)
          | 19 => (P1) = false → v = .int .i64 d.nominal
          | 20 => (P1) = false → v = .slice (some ⟨db, dof, none⟩) n cd
          | 21 => (P1) = false → v = .int .i64 (k : Int)
          | 22 => (P1) = false → v = .pointer (some ⟨db, dof + k * 4, none⟩)
          | 23 => (P1) = false → v = .pointer (some ⟨db, dof + k * 4 + 3, none⟩)
          | 24 => (P1) = false → v = .int .i64 d.upper
          | 25 => (P1) = false → v = .int .i64 hi'
          | 26 => (P1) = false → v = .bool P3
          | 27 => v = .bool (P1 || P3)
          | 28 => v = .bool (P1 || P3)
          | 29 => (P1 || P3) = false → v = .slice (some ⟨rb, ro, none⟩) n cq
          | 30 => (P1 || P3) = false → v = .int .i64 (k : Int)
          | 31 => (P1 || P3) = false → v = .pointer (some ⟨rb, ro + k * 4, none⟩)
          | 32 => (P1 || P3) = false → v = .agg #[.bool s1, .slice a1 d1 l1, .bool s2, .slice a2 d2 l2]
          | 33 => (P1 || P3) = false → v = .slice (some ⟨db, dof, none⟩) n cd
          | 34 => (P1 || P3) = false → v = .int .i64 (k : Int)
          | 35 => (P1 || P3) = false → v = .pointer (some ⟨db, dof + k * 4, none⟩)
          | 36 => (P1 || P3) = false → v = .pointer (some ⟨db, dof + k * 4 + 1, none⟩)
          | 37 => (P1 || P3) = false → v = .int .i64 d.nominal
          | 38 => (P1 || P3) = false → RtIn w' v (d.nominal : Rat) 2
          | 39 => (P1 || P3) = false → v = .bool Q1
          | 40 => (P1 || P3) = false → v = .bool (!Q1)
          | _ => v = .bool ((P1 || P3) || (!Q1))) rfl rfl (by kernel_rfl) (by kernel_rfl) (by kernel_rfl) (by kernel_rfl) ?st ?steps ?fin
         case st =>
          intro i9 v u1 u2 h hb
          match i9 with
          | 0 | 1 | 2 | 3 | 4 | 5 | 6 | 7 | 8 | 9 | 10 | 11 | 12 | 13 | 14 | 15 | 16 | 17 | 18 | 19 | 20 | 21 | 22 | 23 | 24 | 25 | 26 | 27 | 28 | 29 | 30 | 31 | 32 | 33 | 34 | 35 | 36 | 37 | 40 | 41 | _ + 42 => exact h
          | 38 => exact fun hq => ((show (P1 || P3) = false → RtIn u1 v (d.nominal : Rat) 2 from h) hq).below hb
          | 39 => exact fun hq => ((show (P1 || P3) = false → v = .bool Q1 from h) hq)
         case steps =>
          refine zSc (zSo rfl ?s0) (zSc (zSo rfl ?s1) (zSc (zSo rfl ?s2) (zSc (zSo rfl ?s3) (zSc (zSo rfl ?s4) (zSc (zSo rfl ?s5) (zSc (zSo rfl ?s6) (zSc (zSo rfl ?s7) (zSc (zSo rfl ?s8) (zSc (zSo rfl ?s9) (zSc (zSo rfl ?s10) (zSc (zSo rfl ?s11) (zSc (zSo rfl ?s12) (zSc (zSo rfl ?s13) (zSc (zSo rfl ?s14) (zSc (zSo rfl ?s15) (zSc (zSo rfl ?s16) (zSc (zSo rfl ?s17) (zSc (zSo rfl ?s18) (zSc (zSo rfl ?s19) (zSc (zSo rfl ?s20) (zSc (zSo rfl ?s21) (zSc (zSo rfl ?s22) (zSc (zSo rfl ?s23) (zSc (zSo rfl ?s24) (zSc (zSo rfl ?s25) (zSc (zSo rfl ?s26) (zSc (zSo rfl ?s27) (zSc (zSo rfl ?s28) (zSc (zSo rfl ?s29) (zSc (zSo rfl ?s30) (zSc (zSo rfl ?s31) (zSc (zSo rfl ?s32) (zSc (zSo rfl ?s33) (zSc (zSo rfl ?s34) (zSc (zSo rfl ?s35) (zSc (zSo rfl ?s36) (zSc (zSo rfl ?s37) (zSc (zSo rfl ?s38) (zSc (zSo rfl ?s39) (zSc (zSo rfl ?s40) (zSc (zSo rfl ?s41) zSn)))))))))))))))))))))))))))))))))))))))))
          case s0 | s1 | s2 | s6 | s7 =>
           intro xs w' hb hT K9 hK9
           clear hT
           simp only [zFp, zAp, zLa, zLb, zLc, Nat.reduceAdd, zNz] at hK9 ⊢
           have hw := Flow.hwD HWA.out hb
           go_simp
           exact hK9 _ _ (ZR _ _) rfl
          case s3 =>
           intro xs w' hb hT K9 hK9
           have h1 : (xs 1) = .slice (some ⟨db, dof, none⟩) n cd := hT 1 (by kernel_rfl)
           have h2 : (xs 2) = .int .i64 (k : Int) := hT 2 (by kernel_rfl)
           clear hT
           simp only [zFp, zAp, zLa, zLb, zLc, Nat.reduceAdd, zNz] at hK9 ⊢
           have hw := Flow.hwD HWA.out hb
           (try simp only [h1] at hK9)
           (try simp only [h2] at hK9)
           go_simp
           exact hK9 _ _ (ZR _ _) rfl
          case s4 =>
           intro xs w' hb hT K9 hK9
           have h3 : (xs 3) = .pointer (some ⟨db, dof + k * 4, none⟩) := hT 3 (by kernel_rfl)
           clear hT
           simp only [zFp, zAp, zLa, zLb, zLc, Nat.reduceAdd, zNz] at hK9 ⊢
           have hw := Flow.hwD HWA.out hb
           (try simp only [h3] at hK9)
           go_simp
           exact hK9 _ _ (ZR _ _) rfl
          case s5 =>
           intro xs w' hb hT K9 hK9
           have h4 : (xs 4) = .pointer (some ⟨db, dof + k * 4 + 1, none⟩) := hT 4 (by kernel_rfl)
           clear hT
           simp only [zFp, zAp, zLa, zLb, zLc, Nat.reduceAdd, zNz] at hK9 ⊢
           have hw := Flow.hwD HWA.out hb
           (try simp only [h4] at hK9)
           have y0 := ZJ hw HX2.out.1
           go_simp
           exact hK9 _ _ (ZR _ _) rfl
          case s8 =>
           intro xs w' hb hT K9 hK9
           have h6 : (xs 6) = .slice (some ⟨db, dof, none⟩) n cd := hT 6 (by kernel_rfl)
           have h7 : (xs 7) = .int .i64 (k : Int) := hT 7 (by kernel_rfl)
           clear hT
           simp only [zFp, zAp, zLa, zLb, zLc, Nat.reduceAdd, zNz] at hK9 ⊢
           have hw := Flow.hwD HWA.out hb
           (try simp only [h6] at hK9)
           (try simp only [h7] at hK9)
           go_simp
           exact hK9 _ _ (ZR _ _) rfl
          case s9 =>
           intro xs w' hb hT K9 hK9
           have h8 : (xs 8) = .pointer (some ⟨db, dof + k * 4, none⟩) := hT 8 (by kernel_rfl)
           clear hT
           simp only [zFp, zAp, zLa, zLb, zLc, Nat.reduceAdd, zNz] at hK9 ⊢
           have hw := Flow.hwD HWA.out hb
           (try simp only [h8] at hK9)
           go_simp
           exact hK9 _ _ (ZR _ _) rfl
          case s10 =>
           intro xs w' hb hT K9 hK9
           have h9 : (xs 9) = .pointer (some ⟨db, dof + k * 4 + 2, none⟩) := hT 9 (by kernel_rfl)
           clear hT
           simp only [zFp, zAp, zLa, zLb, zLc, Nat.reduceAdd, zNz] at hK9 ⊢
           have hw := Flow.hwD HWA.out hb
           (try simp only [h9] at hK9)
           have y0 := ZJ hw HX2.out.2.1
           go_simp
           exact hK9 _ _ (ZR _ _) rfl
          case s11 =>
           intro xs w' hb hT K9 hK9
           have h5 : (xs 5) = .int .i64 d.nominal := hT 5 (by kernel_rfl)
           have h10 : (xs 10) = .int .i64 d.lower := hT 10 (by kernel_rfl)
           clear hT
           simp only [zFp, zAp, zLa, zLb, zLc, Nat.reduceAdd, zNz] at hK9 ⊢
           have hw := Flow.hwD HWA.out hb
           (try simp only [h5] at hK9)
           (try simp only [h10] at hK9)
           go_simp
           exact hK9 _ _ (ZR _ _) (by first | (rw [HP.out.2.2.2.2.2.1]; done) | (congr 1; exact HP.out.2.2.2.2.2.1))
          case s12 =>
           intro xs w' hb hT K9 hK9
           have h0 : (xs 0) = .int .i64 lo := hT 0 (by kernel_rfl)
           have h11 : (xs 11) = .int .i64 lo := hT 11 (by kernel_rfl)
           clear hT
           simp only [zFp, zAp, zLa, zLb, zLc, Nat.reduceAdd, zNz] at hK9 ⊢
           have hw := Flow.hwD HWA.out hb
           (try simp only [h0] at hK9)
           (try simp only [h11] at hK9)
           go_simp
           exact hK9 _ _ (ZR _ _) (by first | (rw [HP.out.1]; done) | (rw [HP.out.1]; simp))
          case s13 =>
           intro xs w' hb hT K9 hK9
           have h12 : (xs 12) = .bool P1 := hT 12 (by kernel_rfl)
           clear hT
           simp only [zFp, zAp, zLa, zLb, zLc, Nat.reduceAdd, zNz] at hK9 ⊢
           have hw := Flow.hwD HWA.out hb
           (try simp only [h12] at hK9)
           go_simp
           exact hK9 _ _ (ZR _ _) rfl
          case s14 | s15 | s16 | s20 | s21 =>
           intro xs w' hb hT K9 hK9
           have h13 : (xs 13) = .bool P1 := hT 13 (by kernel_rfl)
           clear hT
           simp only [zFp, zAp, zLa, zLb, zLc, Nat.reduceAdd, zNz] at hK9 ⊢
           have hw := Flow.hwD HWA.out hb
           by_cases hg : (P1) = false
           ·rw [hg] at h13
            (try simp only [h13] at hK9)
            go_simp
            exact hK9 _ _ (ZR _ _) (fun _ => rfl)
           ·have hg' : (P1) = true := eq_true_of_ne_false hg
            rw [hg'] at h13
            (try simp only [h13] at hK9)
            go_simp
            exact hK9 _ _ (ZR _ _) (fun h => absurd h hg)
          case s17 =>
           intro xs w' hb hT K9 hK9
           have h13 : (xs 13) = .bool P1 := hT 13 (by kernel_rfl)
           have h15 : (P1) = false → (xs 15) = .slice (some ⟨db, dof, none⟩) n cd := hT 15 (by kernel_rfl)
           have h16 : (P1) = false → (xs 16) = .int .i64 (k : Int) := hT 16 (by kernel_rfl)
           clear hT
           simp only [zFp, zAp, zLa, zLb, zLc, Nat.reduceAdd, zNz] at hK9 ⊢
           have hw := Flow.hwD HWA.out hb
           by_cases hg : (P1) = false
           ·rw [hg] at h13
            replace h15 := h15 hg
            replace h16 := h16 hg
            (try simp only [h13] at hK9)
            (try simp only [h15] at hK9)
            (try simp only [h16] at hK9)
            go_simp
            exact hK9 _ _ (ZR _ _) (fun _ => rfl)
           ·have hg' : (P1) = true := eq_true_of_ne_false hg
            rw [hg'] at h13
            (try simp only [h13] at hK9)
            clear h15 h16
            go_simp
            exact hK9 _ _ (ZR _ _) (fun h => absurd h hg)
          case s18 =>
           intro xs w' hb hT K9 hK9
           have h13 : (xs 13) = .bool P1 := hT 13 (by kernel_rfl)
           have h17 : (P1) = false → (xs 17) = .pointer (some ⟨db, dof + k * 4, none⟩) := hT 17 (by kernel_rfl)
           clear hT
           simp only [zFp, zAp, zLa, zLb, zLc, Nat.reduceAdd, zNz] at hK9 ⊢
           have hw := Flow.hwD HWA.out hb
           by_cases hg : (P1) = false
           ·rw [hg] at h13
            replace h17 := h17 hg
            (try simp only [h13] at hK9)
            (try simp only [h17] at hK9)
            go_simp
            exact hK9 _ _ (ZR _ _) (fun _ => rfl)
           ·have hg' : (P1) = true := eq_true_of_ne_false hg
            rw [hg'] at h13
            (try simp only [h13] at hK9)
            clear h17
            go_simp
            exact hK9 _ _ (ZR _ _) (fun h => absurd h hg)
          case s19 =>
           intro xs w' hb hT K9 hK9
           have h13 : (xs 13) = .bool P1 := hT 13 (by kernel_rfl)
           have h18 : (P1) = false → (xs 18) = .pointer (some ⟨db, dof + k * 4 + 1, none⟩) := hT 18 (by kernel_rfl)
           clear hT
           simp only [zFp, zAp, zLa, zLb, zLc, Nat.reduceAdd, zNz] at hK9 ⊢
           have hw := Flow.hwD HWA.out hb
           by_cases hg : (P1) = false
           ·rw [hg] at h13
            replace h18 := h18 hg
            (try simp only [h13] at hK9)
            (try simp only [h18] at hK9)
            have y0 := ZJ hw HX2.out.1
            go_simp
            exact hK9 _ _ (ZR _ _) (fun _ => rfl)
           ·have hg' : (P1) = true := eq_true_of_ne_false hg
            rw [hg'] at h13
            (try simp only [h13] at hK9)
            clear h18
            go_simp
            exact hK9 _ _ (ZR _ _) (fun h => absurd h hg)
          case s22 =>
           intro xs w' hb hT K9 hK9
           have h13 : (xs 13) = .bool P1 := hT 13 (by kernel_rfl)
           have h20 : (P1) = false → (xs 20) = .slice (some ⟨db, dof, none⟩) n cd := hT 20 (by kernel_rfl)
           have h21 : (P1) = false → (xs 21) = .int .i64 (k : Int) := hT 21 (by kernel_rfl)
           clear hT
           simp only [zFp, zAp, zLa, zLb, zLc, Nat.reduceAdd, zNz] at hK9 ⊢
           have hw := Flow.hwD HWA.out hb
           by_cases hg : (P1) = false
           ·rw [hg] at h13
            replace h20 := h20 hg
            replace h21 := h21 hg
            (try simp only [h13] at hK9)
            (try simp only [h20] at hK9)
            (try simp only [h21] at hK9)
            go_simp
            exact hK9 _ _ (ZR _ _) (fun _ => rfl)
           ·have hg' : (P1) = true := eq_true_of_ne_false hg
            rw [hg'] at h13
            (try simp only [h13] at hK9)
            clear h20 h21
            go_simp
            exact hK9 _ _ (ZR _ _) (fun h => absurd h hg)
          case s23 =>
           intro xs w' hb hT K9 hK9
           have h13 : (xs 13) = .bool P1 := hT 13 (by kernel_rfl)
           have h22 : (P1) = false → (xs 22) = .pointer (some ⟨db, dof + k * 4, none⟩) := hT 22 (by kernel_rfl)
           clear hT
           simp only [zFp, zAp, zLa, zLb, zLc, Nat.reduceAdd, zNz] at hK9 ⊢
           have hw := Flow.hwD HWA.out hb
           by_cases hg : (P1) = false
           ·rw [hg] at h13
            replace h22 := h22 hg
            (try simp only [h13] at hK9)
            (try simp only [h22] at hK9)
            go_simp
            exact hK9 _ _ (ZR _ _) (fun _ => rfl)
           ·have hg' : (P1) = true := eq_true_of_ne_false hg
            rw [hg'] at h13
            (try simp only [h13] at hK9)
            clear h22
            go_simp
            exact hK9 _ _ (ZR _ _) (fun h => absurd h hg)
          case s24 =>
           intro xs w' hb hT K9 hK9
           have h13 : (xs 13) = .bool P1 := hT 13 (by kernel_rfl)
           have h23 : (P1) = false → (xs 23) = .pointer (some ⟨db, dof + k * 4 + 3, none⟩) := hT 23 (by kernel_rfl)
           clear hT
           simp only [zFp, zAp, zLa, zLb, zLc, Nat.reduceAdd, zNz] at hK9 ⊢
           have hw := Flow.hwD HWA.out hb
           by_cases hg : (P1) = false
           ·rw [hg] at h13
            replace h23 := h23 hg
            (try simp only [h13] at hK9)
            (try simp only [h23] at hK9)
            have y0 := ZJ hw HX2.out.2.2
            go_simp
            exact hK9 _ _ (ZR _ _) (fun _ => rfl)
           ·have hg' : (P1) = true := eq_true_of_ne_false hg
            rw [hg'] at h13
            (try simp only [h13] at hK9)
            clear h23
            go_simp
            exact hK9 _ _ (ZR _ _) (fun h => absurd h hg)
          case s25 =>
           intro xs w' hb hT K9 hK9
           have h13 : (xs 13) = .bool P1 := hT 13 (by kernel_rfl)
           have h19 : (P1) = false → (xs 19) = .int .i64 d.nominal := hT 19 (by kernel_rfl)
           have h24 : (P1) = false → (xs 24) = .int .i64 d.upper := hT 24 (by kernel_rfl)
           clear hT
           simp only [zFp, zAp, zLa, zLb, zLc, Nat.reduceAdd, zNz] at hK9 ⊢
           have hw := Flow.hwD HWA.out hb
           by_cases hg : (P1) = false
           ·rw [hg] at h13
            replace h19 := h19 hg
            replace h24 := h24 hg
            (try simp only [h13] at hK9)
            (try simp only [h19] at hK9)
            (try simp only [h24] at hK9)
            go_simp
            exact hK9 _ _ (ZR _ _) (fun _ => (by first | (rw [HP.out.2.2.2.2.2.2]; done) | (congr 1; exact HP.out.2.2.2.2.2.2)))
           ·have hg' : (P1) = true := eq_true_of_ne_false hg
            rw [hg'] at h13
            (try simp only [h13] at hK9)
            clear h19 h24
            go_simp
            exact hK9 _ _ (ZR _ _) (fun h => absurd h hg)
          case s26 =>
           intro xs w' hb hT K9 hK9
           have h13 : (xs 13) = .bool P1 := hT 13 (by kernel_rfl)
           have h14 : (P1) = false → (xs 14) = .int .i64 hi' := hT 14 (by kernel_rfl)
           have h25 : (P1) = false → (xs 25) = .int .i64 hi' := hT 25 (by kernel_rfl)
           clear hT
           simp only [zFp, zAp, zLa, zLb, zLc, Nat.reduceAdd, zNz] at hK9 ⊢
           have hw := Flow.hwD HWA.out hb
           by_cases hg : (P1) = false
           ·rw [hg] at h13
            replace h14 := h14 hg
            replace h25 := h25 hg
            (try simp only [h13] at hK9)
            (try simp only [h14] at hK9)
            (try simp only [h25] at hK9)
            go_simp
            exact hK9 _ _ (ZR _ _) (fun _ => (by first | (rw [HP.out.2.1]; done) | (rw [HP.out.2.1]; simp)))
           ·have hg' : (P1) = true := eq_true_of_ne_false hg
            rw [hg'] at h13
            (try simp only [h13] at hK9)
            clear h14 h25
            go_simp
            exact hK9 _ _ (ZR _ _) (fun h => absurd h hg)
          case s27 =>
           intro xs w' hb hT K9 hK9
           have h13 : (xs 13) = .bool P1 := hT 13 (by kernel_rfl)
           have h26 : (P1) = false → (xs 26) = .bool P3 := hT 26 (by kernel_rfl)
           clear hT
           simp only [zFp, zAp, zLa, zLb, zLc, Nat.reduceAdd, zNz] at hK9 ⊢
           have hw := Flow.hwD HWA.out hb
           by_cases hg : (P1) = false
           ·rw [hg] at h13
            replace h26 := h26 hg
            (try simp only [h13] at hK9)
            (try simp only [h26] at hK9)
            go_simp
            exact hK9 _ _ (ZR _ _) (by simp [ hg])
           ·have hg' : (P1) = true := eq_true_of_ne_false hg
            rw [hg'] at h13
            clear h26
            (try simp only [h13] at hK9)
            go_simp
            exact hK9 _ _ (ZR _ _) (by simp [ hg'])
          case s28 =>
           intro xs w' hb hT K9 hK9
           have h27 : (xs 27) = .bool (P1 || P3) := hT 27 (by kernel_rfl)
           clear hT
           simp only [zFp, zAp, zLa, zLb, zLc, Nat.reduceAdd, zNz] at hK9 ⊢
           have hw := Flow.hwD HWA.out hb
           (try simp only [h27] at hK9)
           go_simp
           exact hK9 _ _ (ZR _ _) rfl
          case s29 | s30 | s33 | s34 =>
           intro xs w' hb hT K9 hK9
           have h28 : (xs 28) = .bool (P1 || P3) := hT 28 (by kernel_rfl)
           clear hT
           simp only [zFp, zAp, zLa, zLb, zLc, Nat.reduceAdd, zNz] at hK9 ⊢
           have hw := Flow.hwD HWA.out hb
           by_cases hg : (P1 || P3) = false
           ·rw [hg] at h28
            (try simp only [h28] at hK9)
            go_simp
            exact hK9 _ _ (ZR _ _) (fun _ => rfl)
           ·have hg' : (P1 || P3) = true := eq_true_of_ne_false hg
            rw [hg'] at h28
            (try simp only [h28] at hK9)
            go_simp
            exact hK9 _ _ (ZR _ _) (fun h => absurd h hg)
          case s31 =>
           intro xs w' hb hT K9 hK9
           have h28 : (xs 28) = .bool (P1 || P3) := hT 28 (by kernel_rfl)
           have h29 : (P1 || P3) = false → (xs 29) = .slice (some ⟨rb, ro, none⟩) n cq := hT 29 (by kernel_rfl)
           have h30 : (P1 || P3) = false → (xs 30) = .int .i64 (k : Int) := hT 30 (by kernel_rfl)
           clear hT
           simp only [zFp, zAp, zLa, zLb, zLc, Nat.reduceAdd, zNz] at hK9 ⊢
           have hw := Flow.hwD HWA.out hb
           by_cases hg : (P1 || P3) = false
           ·rw [hg] at h28
            replace h29 := h29 hg
            replace h30 := h30 hg
            (try simp only [h28] at hK9)
            (try simp only [h29] at hK9)
            (try simp only [h30] at hK9)
            go_simp
            exact hK9 _ _ (ZR _ _) (fun _ => rfl)
           ·have hg' : (P1 || P3) = true := eq_true_of_ne_false hg
            rw [hg'] at h28
            (try simp only [h28] at hK9)
            clear h29 h30
            go_simp
            exact hK9 _ _ (ZR _ _) (fun h => absurd h hg)
          case s32 =>
           intro xs w' hb hT K9 hK9
           have h28 : (xs 28) = .bool (P1 || P3) := hT 28 (by kernel_rfl)
           have h31 : (P1 || P3) = false → (xs 31) = .pointer (some ⟨rb, ro + k * 4, none⟩) := hT 31 (by kernel_rfl)
           clear hT
           simp only [zFp, zAp, zLa, zLb, zLc, Nat.reduceAdd, zNz] at hK9 ⊢
           have hw := Flow.hwD HWA.out hb
           by_cases hg : (P1 || P3) = false
           ·rw [hg] at h28
            replace h31 := h31 hg
            (try simp only [h28] at hK9)
            (try simp only [h31] at hK9)
            have y0 := ZJ hw HY2.out.1
            have y1 := ZJ hw HY2.out.2.1
            have y2 := ZJ hw HY2.out.2.2.1
            have y3 := ZJ hw HY2.out.2.2.2.1
            go_simp
            exact hK9 _ _ (ZR _ _) (fun _ => rfl)
           ·have hg' : (P1 || P3) = true := eq_true_of_ne_false hg
            rw [hg'] at h28
            (try simp only [h28] at hK9)
            clear h31
            go_simp
            exact hK9 _ _ (ZR _ _) (fun h => absurd h hg)
          case s35 =>
           intro xs w' hb hT K9 hK9
           have h28 : (xs 28) = .bool (P1 || P3) := hT 28 (by kernel_rfl)
           have h33 : (P1 || P3) = false → (xs 33) = .slice (some ⟨db, dof, none⟩) n cd := hT 33 (by kernel_rfl)
           have h34 : (P1 || P3) = false → (xs 34) = .int .i64 (k : Int) := hT 34 (by kernel_rfl)
           clear hT
           simp only [zFp, zAp, zLa, zLb, zLc, Nat.reduceAdd, zNz] at hK9 ⊢
           have hw := Flow.hwD HWA.out hb
           by_cases hg : (P1 || P3) = false
           ·rw [hg] at h28
            replace h33 := h33 hg
            replace h34 := h34 hg
            (try simp only [h28] at hK9)
            (try simp only [h33] at hK9)
            (try simp only [h34] at hK9)
            go_simp
            exact hK9 _ _ (ZR _ _) (fun _ => rfl)
           ·have hg' : (P1 || P3) = true := eq_true_of_ne_false hg
            rw [hg'] at h28
            (try simp only [h28] at hK9)
            clear h33 h34
            go_simp
            exact hK9 _ _ (ZR _ _) (fun h => absurd h hg)
          case s36 =>
           intro xs w' hb hT K9 hK9
           have h28 : (xs 28) = .bool (P1 || P3) := hT 28 (by kernel_rfl)
           have h35 : (P1 || P3) = false → (xs 35) = .pointer (some ⟨db, dof + k * 4, none⟩) := hT 35 (by kernel_rfl)
           clear hT
           simp only [zFp, zAp, zLa, zLb, zLc, Nat.reduceAdd, zNz] at hK9 ⊢
           have hw := Flow.hwD HWA.out hb
           by_cases hg : (P1 || P3) = false
           ·rw [hg] at h28
            replace h35 := h35 hg
            (try simp only [h28] at hK9)
            (try simp only [h35] at hK9)
            go_simp
            exact hK9 _ _ (ZR _ _) (fun _ => rfl)
           ·have hg' : (P1 || P3) = true := eq_true_of_ne_false hg
            rw [hg'] at h28
            (try simp only [h28] at hK9)
            clear h35
            go_simp
            exact hK9 _ _ (ZR _ _) (fun h => absurd h hg)
          case s37 =>
           intro xs w' hb hT K9 hK9
           have h28 : (xs 28) = .bool (P1 || P3) := hT 28 (by kernel_rfl)
           have h36 : (P1 || P3) = false → (xs 36) = .pointer (some ⟨db, dof + k * 4 + 1, none⟩) := hT 36 (by kernel_rfl)
           clear hT
           simp only [zFp, zAp, zLa, zLb, zLc, Nat.reduceAdd, zNz] at hK9 ⊢
           have hw := Flow.hwD HWA.out hb
           by_cases hg : (P1 || P3) = false
           ·rw [hg] at h28
            replace h36 := h36 hg
            (try simp only [h28] at hK9)
            (try simp only [h36] at hK9)
            have y0 := ZJ hw HX2.out.1
            go_simp
            exact hK9 _ _ (ZR _ _) (fun _ => rfl)
           ·have hg' : (P1 || P3) = true := eq_true_of_ne_false hg
            rw [hg'] at h28
            (try simp only [h28] at hK9)
            clear h36
            go_simp
            exact hK9 _ _ (ZR _ _) (fun h => absurd h hg)
          case s38 =>
           intro xs w' hb hT K9 hK9
           have h28 : (xs 28) = .bool (P1 || P3) := hT 28 (by kernel_rfl)
           have h37 : (P1 || P3) = false → (xs 37) = .int .i64 d.nominal := hT 37 (by kernel_rfl)
           clear hT
           simp only [zFp, zAp, zLa, zLb, zLc, Nat.reduceAdd, zNz] at hK9 ⊢
           have hw := Flow.hwD HWA.out hb
           by_cases hg : (P1 || P3) = false
           ·rw [hg] at h28
            replace h37 := h37 hg
            (try simp only [h28] at hK9)
            (try simp only [h37] at hK9)
            go_simp
            go_at_call 23
            refine (ratFrom_any (n := d.nominal) (by have := HF.out; omega) (by have := HF.out; omega)).mono ?_
            rintro e w3 ⟨v3, rfl, hi3, hb3⟩
            exact hK9 _ _ hb3 (fun _ => hi3)
           ·have hg' : (P1 || P3) = true := eq_true_of_ne_false hg
            rw [hg'] at h28
            (try simp only [h28] at hK9)
            clear h37
            go_simp
            exact hK9 _ _ (ZR _ _) (fun h => absurd h hg)
          case s39 =>
           intro xs w' hb hT K9 hK9
           have h28 : (xs 28) = .bool (P1 || P3) := hT 28 (by kernel_rfl)
           have h32 : (P1 || P3) = false → (xs 32) = .agg #[.bool s1, .slice a1 d1 l1, .bool s2, .slice a2 d2 l2] := hT 32 (by kernel_rfl)
           have h38 : (P1 || P3) = false → RtIn w' (xs 38) (d.nominal : Rat) 2 := hT 38 (by kernel_rfl)
           clear hT
           simp only [zFp, zAp, zLa, zLb, zLc, Nat.reduceAdd, zNz] at hK9 ⊢
           have hw := Flow.hwD HWA.out hb
           by_cases hg : (P1 || P3) = false
           ·rw [hg] at h28
            replace h32 := h32 hg
            replace h38 := h38 hg
            (try simp only [h28] at hK9)
            (try simp only [h32] at hK9)
            go_simp
            go_at_call 22
            refine (pequal_any (HY2.out.2.2.2.2.below hw) h38 (by omega) (by omega) (by omega)).mono ?_
            rintro e w3 ⟨rfl, hb3⟩
            exact hK9 _ _ hb3 (fun _ => (by rw [HP.out.2.2.1, cmpq_self]; rfl))
           ·have hg' : (P1 || P3) = true := eq_true_of_ne_false hg
            rw [hg'] at h28
            (try simp only [h28] at hK9)
            clear h32 h38
            go_simp
            exact hK9 _ _ (ZR _ _) (fun h => absurd h hg)
          case s40 =>
           intro xs w' hb hT K9 hK9
           have h28 : (xs 28) = .bool (P1 || P3) := hT 28 (by kernel_rfl)
           have h39 : (P1 || P3) = false → (xs 39) = .bool Q1 := hT 39 (by kernel_rfl)
           clear hT
           simp only [zFp, zAp, zLa, zLb, zLc, Nat.reduceAdd, zNz] at hK9 ⊢
           have hw := Flow.hwD HWA.out hb
           by_cases hg : (P1 || P3) = false
           ·rw [hg] at h28
            replace h39 := h39 hg
            (try simp only [h28] at hK9)
            (try simp only [h39] at hK9)
            go_simp
            exact hK9 _ _ (ZR _ _) (fun _ => rfl)
           ·have hg' : (P1 || P3) = true := eq_true_of_ne_false hg
            rw [hg'] at h28
            (try simp only [h28] at hK9)
            clear h39
            go_simp
            exact hK9 _ _ (ZR _ _) (fun h => absurd h hg)
          case s41 =>
           intro xs w' hb hT K9 hK9
           have h28 : (xs 28) = .bool (P1 || P3) := hT 28 (by kernel_rfl)
           have h40 : (P1 || P3) = false → (xs 40) = .bool (!Q1) := hT 40 (by kernel_rfl)
           clear hT
           simp only [zFp, zAp, zLa, zLb, zLc, Nat.reduceAdd, zNz] at hK9 ⊢
           have hw := Flow.hwD HWA.out hb
           by_cases hg : (P1 || P3) = false
           ·rw [hg] at h28
            replace h40 := h40 hg
            (try simp only [h28] at hK9)
            (try simp only [h40] at hK9)
            go_simp
            exact hK9 _ _ (ZR _ _) (by simp [ hg])
           ·have hg' : (P1 || P3) = true := eq_true_of_ne_false hg
            rw [hg'] at h28
            clear h40
            (try simp only [h28] at hK9)
            go_simp
            exact hK9 _ _ (ZR _ _) (by simp [ hg'])
         case fin =>
          intro xs w' hb hT
          have hw := Flow.hwD HWA.out hb
          have h41 : (xs 41) = .bool ((P1 || P3) || (!Q1)) := hT 41 (by rfl)
          clear hT
          simp only [zFp, zAp, zLa, zLb, zLc, Nat.reduceAdd, zNz, FlowR.restL, FlowR.orM, Bool.false_or]
          simp only [h41]
          clear h41 hb
          refine wpList_nil ?_
          obtain ⟨wz, hwz⟩ : ∃ x, x = w' := ⟨_, rfl⟩
          rw [← hwz] at hw ⊢
          have HBZ := ZH (HBA.out.trans (hw.mono HBA.out.size))
          obtain ⟨B3, hB3⟩ : ∃ x, x = ((P1 || P3) || !Q1) := ⟨_, rfl⟩
          rw [← hB3]
          obtain rfl : B3 = false := by rw [hB3, HP.out.1, HP.out.2.1, HP.out.2.2.1]; rfl
          clear hw hwz hB3 hk0 hk1
          go_wp2_with fail
          go_roundg (n - (k + 1))
          case measure => have := HLT.out; omega
          case rel => exact ⟨k + 1, by have := HLT.out; omega, by first | (congr 1; done) | (congr 1; exact IntWalk.wrap64_in ((k : Int) + 1) (by have h1 := HLT.out; have h2 := HSZ.out; omega)), HBZ⟩
        ·have e1 : ((k : Int) < (n : Int)) = False := eq_false (by omega)
         have HFIN := ZH (HB9.out.trans (hbw.out.mono HB9.out.size))
         clear hlt hk hbw
         go_wp2_with fail
         go_ret
         exact ⟨rfl, HFIN.out⟩
      ·have e4 : (E == 0) = false := ZQ.2 hE0
       have e5 : (E != 0) = true := bne_iff_ne.2 hE0
       clear hE0
       go_wp2_with fail
       go_ret
       exact ⟨rfl, HB8.out⟩
end Go.Proofs.YtdgimcmappmjdaaGreatDoor
