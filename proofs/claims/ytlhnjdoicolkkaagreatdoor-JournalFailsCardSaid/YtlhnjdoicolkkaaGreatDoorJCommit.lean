/- Commit: the walk. -/
import Derived.Test.YtlhnjdoicolkkaaGreatDoorJCommit2
import Derived.BigRegion
import Derived.Deep.RegionHeldLaw
set_option maxRecDepth 100000
namespace Go.Proofs.YtlhnjdoicolkkaaGreatDoor
open Go.RowKit Go.Dsk Go.Maps Go.WideMaps
set_option maxHeartbeats 4000000
open Jnl (J)
attribute [local go_sem ↓] appX_is

section
variable {w0 w : World} {bj bd b1 bb : Nat} {n : ByteArray} {j : J} {d : M} {R : SP} {vr vp : Value}
theorem commit_fresh (hR : Nice R) (hg : Glob w0) (h : DJ R w0 w bd d bj n j) (hb : j.broken = false) (hp : j.pend ≠ []) (hh : j.has = false) (hn : n.size ≤ 1048576) (hw : d.wt < 1073741800) (hrl : j.recs.length + 64 ≤ 1073741824) {Z : Int × J × M} (hZ : Jnl.run (Jnl.commitSteps n.data.toList j.data j.has) j d = Z) :
    Calls Tryz.prog 24 #[pbox bj] w fun e w' => (Z.1 ≠ 0 ∧ e = .returned (.tuple #[.int .i64 0, .int .i64 Z.1]) ∧ DJ R w0 w' bd Z.2.2 bj n Z.2.1) ∨
      (Z.1 = 0 ∧ e = .returned (.tuple #[.int .i64 ((j.first : Int) + (j.recs ++ j.pend).length - 1), .int .i64 0]) ∧ DJ R w0 w' bd Z.2.2 bj n (jdone j)) := by
  obtain ⟨vr, vp, h1⟩ := qv_new hR h
  obtain ⟨k1, hs⟩ := qv_see h1
  have hst := state_well hs hb
  have HF := Lib.hid hs.fit
  have hfirst := hs.fit.first
  have hpl := hs.fit.pend
  have c4 := hs.c4
  obtain ⟨ao, cp, rfl, -⟩ := hs.p
  have hl0 : ((j.pend.length : Int) == 0) = false := by
    have : j.pend.length ≠ 0 := fun e => hp (List.eq_nil_of_length_eq_zero e)
    simpa using this
  have HG := Lib.hid hg
  have HP := Lib.hid hp
  have HZ := Lib.hid hZ
  obtain ⟨b1, hb1e⟩ : ∃ b1, b1 = w.heap.size := ⟨_, rfl⟩
  rw [← hb1e] at h1 k1
  have H1 := Lib.hid h1
  have HB1 := Lib.hid hb1e
  clear h h1 hs hg hp hZ hb1e
  go_enter Tryz.func24, Tryz.ntmps24
  go_upto_region 1 with fail
  rw [← HB1.out]
  clear HB1
  generalize w.alloc (.cells #[pj bj] 43) = wa at *
  go_wp2_with fail
  refine hst.mono ?_
  rintro e w1 ⟨rfl, hw1⟩
  obtain rfl := hw1.symm
  have h2 := bld_begin hR H1.out
  obtain ⟨k2, hs2⟩ := qv_see h2.snd
  have c5 := hs2.c5
  have c2 := hs2.c2
  rw [hh] at c5
  obtain ⟨bb, hbb⟩ : ∃ bb, bb = wa.heap.size := ⟨_, rfl⟩
  rw [← hbb] at h2
  have H2 := Lib.hid h2
  have HBB := Lib.hid hbb
  have c4b := hs2.c4
  clear h2 hs2 hbb
  go_upto_region 7 with fail
  rw [← HBB.out]
  clear HBB c4 k1
  generalize wa.alloc (.cells #[.pointer none, .slice none 0 0] 89) = wb at *
  have hil := itoa_small hfirst
  obtain ⟨ib, hib⟩ : ∃ ib : ByteArray, (⟨(Lib.itoa (j.first : Int)).toArray⟩ : ByteArray) = ib := ⟨_, rfl⟩
  have hibs : ib.data.toList = Lib.itoa (j.first : Int) := by rw [← hib]
  have hibl : ib.size ≤ 21 := by
    have : ib.data.toList.length = ib.size := rfl
    rw [hibs] at this
    omega
  have HIT := Lib.hid (And.intro hib hibs)
  have hf1 : (-9223372036854775808 : Int) ≤ (j.first : Int) := by omega
  have hf2 : (j.first : Int) ≤ 9223372036854775807 := by omega
  clear hib hibs hil
  go_wp2_with fail
  refine (Itoa_any hf1 hf2 (HG.out.below H2.out.below)).mono ?_
  rintro e w3 ⟨rfl, hb3⟩
  rw [HIT.out.1]
  have H3 := Lib.hid (H2.out.moved (Nice.star (nice_bld _ _) (nice_qv hR)) hb3)
  clear hb3 H2 hf1 hf2
  go_wp2_with fail
  refine (jframe_any ib (by omega) _).mono ?_
  rintro e w4 ⟨rfl, hb4⟩
  have H4 := Lib.hid (H3.out.moved (Nice.star (nice_bld _ _) (nice_qv hR)) hb4)
  clear hb4 H3
  have hfs := frame_sz ib
  go_wp2_with fail
  refine (WriteString_h (nice_qv hR) H4.out ⟨(Jnl.frame ib.data.toList).toArray⟩ (by simp only [List.length_nil]; omega)).mono ?_
  rintro e w5 ⟨rfl, h5⟩
  have h5 : Has w0 w5 (Star (BldP bb (Jnl.frame ib.data.toList)) (Qv R bd d bj n j vr (.slice ao j.pend.length cp) b1)) := h5
  have hpre : Jnl.frame ib.data.toList = (if j.has then [] else Jnl.frame (Lib.itoa j.first)) := by rw [hh, HIT.out.2]; simp
  have hprl : (Jnl.frame ib.data.toList).length ≤ 29 := by
    rw [Jnl.frame_length]
    have : ib.data.toList.length = ib.size := rfl
    omega
  rw [hpre] at h5 hprl
  clear hpre hfs H4 HIT
  obtain ⟨pre, hpre⟩ : ∃ pre : Bs, (if j.has then [] else Jnl.frame (Lib.itoa j.first)) = pre := ⟨_, rfl⟩
  rw [hpre] at h5 hprl
  obtain ⟨k5, hs5⟩ := qv_see h5.snd
  have c45 := hs5.c4
  have H5 := Lib.hid h5
  have HPRE := Lib.hid hpre
  clear h5 hs5 hpre k2 c2 c4b c5
  go_wp2_with fail
  go_loopw [40] (fun i wr => Writing w0 bb pre (Qv R bd d bj n j vr (.slice ao j.pend.length cp) b1) j.pend i wr) (fun i _ => j.pend.length - (intOf i).toNat)
  case atStart => exact ⟨0, Nat.zero_le _, rfl, by simpa [Jnl.frames] using H5.out⟩
  case round =>
    obtain ⟨k, hk, rfl, hB⟩ := hrel
    have HB := Lib.hid hB
    obtain ⟨k6, hs6⟩ := qv_see hB.snd
    clear hB H5 k5 c45
    by_cases hlt : k < j.pend.length
    · obtain ⟨ao2, c2, e2, _, _, hcell⟩ := hs6.p
      simp only [Value.slice.injEq] at e2
      obtain ⟨rfl, -, rfl⟩ := e2
      obtain ⟨b, off, rfl, hbl, hcell2⟩ := hcell (Nat.lt_of_le_of_lt (Nat.zero_le _) hlt)
      have x0 := hcell2 k hlt
      have hln := getD_len HF.out.lenP k
      have hft := frames_take hlt
      obtain ⟨sx, hsx⟩ : ∃ sx : ByteArray, (⟨(j.pend.getD k []).toArray⟩ : ByteArray) = sx := ⟨_, rfl⟩
      have hsd : sx.data.toList = j.pend.getD k [] := by rw [← hsx]
      have hss : sx.size ≤ 4096 := by
        have : sx.data.toList.length = sx.size := rfl
        rw [hsd] at this
        omega
      unfold strV at x0
      rw [hsx] at x0
      rw [← hsd] at hft
      have hfl := frames_len (l := j.pend.take k) (fun r hr => HF.out.lenP r (List.mem_of_mem_take hr))
      have htl : (j.pend.take k).length ≤ k := List.length_take_le _ _
      have hbig : (pre ++ Jnl.frames (j.pend.take k)).length ≤ 29 + k * 4104 := by
        rw [List.length_append]
        have := Nat.mul_le_mul_right 4104 htl
        omega
      have hfz := frame_sz sx
      have hsum : (pre ++ Jnl.frames (j.pend.take k)).length + (⟨(Jnl.frame sx.data.toList).toArray⟩ : ByteArray).size ≤ 1099511627776 := by omega
      have hk0 : (0 : Int) ≤ (k : Int) := by omega
      have hk1 : (k : Int) < (j.pend.length : Int) := by omega
      have HS := Lib.hid (And.intro hsum hft)
      clear hcell hcell2 hln hft hsx hsd hfl htl hbig hfz hsum hs6
      go_wp2_with fail
      refine (jframe_any sx (by omega) _).mono ?_
      rintro e w7 ⟨rfl, hb7⟩
      have H7 := Lib.hid (HB.out.moved (Nice.star (nice_bld _ _) (nice_qv hR)) hb7)
      clear hb7 HB
      go_wp2_with fail
      refine (WriteString_h (nice_qv hR) H7.out ⟨(Jnl.frame sx.data.toList).toArray⟩ HS.out.1).mono ?_
      rintro e w8 ⟨rfl, h8⟩
      have H8 := Lib.hid h8
      clear h8 H7
      go_wp2_with fail
      go_roundw
      case rel =>
        refine ⟨k + 1, by omega, by go_num, ?_⟩
        rw [HS.out.2, ← List.append_assoc]
        exact H8.out
      case measure => simp [intOf]; omega
    · obtain rfl : k = j.pend.length := by omega
      have hx : pre ++ Jnl.frames (j.pend.take j.pend.length) = j.data := by
        rw [List.take_length, ← HPRE.out]
        rfl
      have hB := HB.out
      rw [hx] at hB
      have hxl : j.data.length ≤ 1073741824 := by
        rw [← hx, List.take_length, List.length_append]
        have := frames_len HF.out.lenP
        omega
      have hS := steps_new (Nice.star (nice_bld _ _) (nice_qv hR)) hB (bd := bd) (b1 := b1) (b2 := bb) (ks := [.comA, .comB]) #[.func (.func 52) #[] #[pbox b1, pbox bb], .func (.func 56) #[] #[pbox b1]] rfl (by decide)
      obtain ⟨k9, hs9⟩ := qv_see hS.snd.snd
      have c59 := hs9.c5
      have c09 := hs9.c0
      rw [hh] at c59
      have HS := Lib.hid hS
      clear hx hB hS hs6 hs9 HB k6
      go_upto_region 15 with fail
      generalize hgs : wr.heap.size = gs at *
      generalize wr.alloc (.cells #[.func (.func 52) #[] #[pbox b1, pbox bb], .func (.func 56) #[] #[pbox b1]] 58) = wc at *
      obtain ⟨i0, hi, hz0, hz1, hz2⟩ := info_parts infoStep
      have HINF := Lib.hid (And.intro hi (And.intro hz0 (And.intro hz1 hz2)))
      clear hi hz0 hz1 hz2
      have hown : wc.ownsRow 0 58 1 (.slice (some ⟨gs, 0, none⟩) 2 2) 2 ([Sk.comA, Sk.comB].map (Sk.val bd b1 bb)) := HS.out.quiet fun _ h => h.2
      have HOWN := Lib.hid hown
      clear hown
      go_wp2_with (at_builtin; refine wpList_append_kept _ rfl _ _ 93 rfl 58 i0 _ 1 8 Tryz.underlying93 HINF.out.1 HINF.out.2.1 HINF.out.2.2.1 HINF.out.2.2.2 rfl (by decide) _ _ _ rfl (HOWN.out.alloc _) ?c0 ⟨wc.heap.size, 0, none⟩ 1 1 [.func (.func 58) #[pbox bd] #[]] rfl rfl ?c1 ?c2 (by decide) ?c3 ?c4 ?_)
      case c0 => intro a cap e; cases e
      case c1 => exact World.news_of_block (heap_alloc_new wc _)
      case c2 => simp [Value.oneCell']
      case c3 => unfold maxLen; omega
      case c4 => omega
      intro g cap wd hown2 hfr2 hat2
      have hS2 : Has w0 wd (Star (StepsP bd b1 bb (.slice (some ⟨g, 0, none⟩) 3 cap) [.comA, .comB, .pub]) (Star (BldP bb j.data) (Qv R bd d bj n j vr (.slice ao j.pend.length cp) b1))) := by
        refine HS.out.turn (Nice.star (nice_bld _ _) (nice_qv hR)) fun S hSt => ?_
        have hgs2 : Value.ownBlock (.slice (some ⟨gs, 0, none⟩) 2 2) = some gs := rfl
        refine ⟨fun i => i = g, ?_, ⟨fun i => by simp [Value.ownBlock, eq_comm], hown2⟩, (((Fr.refl S wc).alloc _).trans (hfr2.mono fun k hk => (hSt.1 k).2 hk))⟩
        rintro i rfl
        rcases hat2 with e | e
        · exact .inl ((hSt.1 _).2 e)
        · exact .inr (by first | omega | (simp at e; omega))
      have HS2 := Lib.hid hS2
      obtain ⟨k10, hs10⟩ := qv_see hS2.snd.snd
      clear hS2 hown2 hfr2 hat2 HS HOWN hs10 c59 c09
      go_wp2_with fail
      refine (run_any (ks := [.comA, .comB, .pub]) (x := j.data) (nice_bld _ _) hR ?needs (run_ready HS2.out) hn hxl (by simp only [List.length_cons, List.length_nil]; omega)).mono ?_
      case needs =>
        intro k hk
        simp only [List.mem_cons, List.not_mem_nil, or_false] at hk
        rcases hk with rfl | rfl | rfl
        · rfl
        all_goals exact trivial
      have hsteps : ([.comA, .comB, .pub] : List Sk).map (Sk.step n.data.toList j.data) = Jnl.commitSteps n.data.toList j.data j.has := by rw [hh]; rfl
      rw [hsteps, HZ.out]
      rintro e we ⟨rfl, he⟩
      have HE := Lib.hid (jd_dj he)
      have hrj : Z.1 = 0 → Z.2.1 = j := fun hz => by
        have := run_ok (l := Jnl.commitSteps n.data.toList j.data j.has) (j := j) (d := d) (by rw [HZ.out]; exact hz)
        rw [HZ.out] at this
        exact this
      have HRJ := Lib.hid hrj
      obtain ⟨k11, -, -⟩ := jd_see he
      have HEJ := Lib.hid he
      clear he hrj HS2 hsteps HZ
      obtain ⟨z, j', d'⟩ := Z
      simp only at HE HRJ HEJ ⊢
      by_cases hz : z = 0
      · have hjj := HRJ.out hz
        rw [hjj] at HE HEJ
        subst hz
        obtain ⟨vr2, vp2, hV⟩ := dj_open HE.out
        have hown : we.ownsRow 0 9 1 vr2 j.recs.length (j.recs.map strV) := (jv_rows hV.left).rowR
        have hcap := (jv_rows hV.left).capR
        have hsee := jv_see hV.left
        obtain ⟨ap2, cp2, rfl, -, -, hpc⟩ := hsee.p
        obtain ⟨gp, op, rfl, hgl, hpc⟩ := hpc (List.length_pos_iff.2 HP.out)
        have hnews : ∀ i u, (j.pend.map strV)[i]? = some u → we.drew.cell? ((⟨gp, op, none⟩ : Addr).add i) = some u := fun i u hu => by
          rw [List.getElem?_map] at hu
          cases hi : j.pend[i]? with
          | none => rw [hi] at hu; cases hu
          | some x =>
            rw [hi] at hu
            simp only [Option.map_some, Option.some.injEq] at hu
            have hlt : i < j.pend.length := (List.getElem?_eq_some_iff.1 hi).1
            rw [add_plain2, show we.drew.cell? ⟨gp, op + i, none⟩ = we.cell? ⟨gp, op + i, none⟩ from rfl, hpc i hlt, ← hu, List.getD_eq_getElem?_getD, hi]
            rfl
        have hone : ∀ u ∈ j.pend.map strV, u.oneCell' = true := fun u hu => by
          obtain ⟨x, _, rfl⟩ := List.mem_map.1 hu
          rfl
        have hm : 0 < j.pend.length := List.length_pos_iff.2 HP.out
        obtain ⟨i0s, hi, hz0, hz1, hz2⟩ := info_parts infoStr
        have v3 := hsee.c3
        have v4 := hsee.c4
        have hbjl := lt_of_block hsee.hd
        have hb1l : b1 < we.heap.size := by
          obtain ⟨_, U, _, S, T, _, _, _, S2, T2, _, _, _, S3, T3, _, _, hb, _⟩ := HEJ.out
          exact lt_of_block hb.2
        have hbox : we.heap[b1]? = some (.cells #[pj bj] 43 (0, 0)) := by
          obtain ⟨_, U, _, S, T, _, _, _, S2, T2, _, _, _, S3, T3, _, _, hb, _⟩ := HEJ.out
          exact hb.2
        have hnbx : ∀ k, vr2.ownBlock = some k → k ≠ b1 := fun k hk e => by
          obtain ⟨cur, hc⟩ := row_block hown hk
          rw [e, hbox] at hc
          simp at hc
        have hb1j : b1 ≠ bj := fun e => by
          have h1 := hsee.hd
          rw [← e, hbox] at h1
          simp at h1
        obtain ⟨g2, cap2, w3, hrun, hown3, hfr3, hat3⟩ := run_append_kept (P := Tryz.prog) we.drew 25 25 9 i0s _ 1 16 Tryz.underlying25 hi hz0 hz1 hz2 rfl (by decide) vr2 j.recs.length _ hown hcap ⟨gp, op, none⟩ j.pend.length cp2 (j.pend.map strV) (by simp) hnews hone hm (by unfold maxLen; omega) (by omega)
        rw [appX_is] at hrun
        have hfr4 : Fr (fun k => vr2.ownBlock = some k) we w3 := ((Fr.refl _ we).drew).trans hfr3
        have hst := fun S (hS : JrnV bj bd n j vr2 (.slice (some ⟨gp, op, none⟩) j.pend.length cp2) S we) => commit_store hS hrl HP.out hown3 hfr4 hat3
        obtain ⟨hd3, hgb⟩ : w3.heap[bj]? = some (.cells (jCells bd n j vr2 (.slice (some ⟨gp, op, none⟩) j.pend.length cp2)) 86 (0, 0)) ∧ g2 ≠ bj := hV.left.quiet fun S hS => (hst S hS).2
        have e1 := block_set hd3 3 (.slice (some ⟨g2, 0, none⟩) (j.recs.length + j.pend.length) cap2)
        have e2 := block_set e1 4 (.slice none 0 0)
        have e3 := block_set e2 5 (.bool true)
        have y3 := block_cell hd3 3
        have y4 := block_cell e1 4
        have y5 := block_cell e2 5
        have z3 := block_free hd3 3
        have z4 := block_free e1 4
        have z5 := block_free e2 5
        simp [jCells] at y3 y4 y5
        have hb3 : w3.heap[b1]? = some (.cells #[pj bj] 43 (0, 0)) := (hfr4.block b1 hb1l (.inl (fun e => hnbx b1 e rfl))).trans hbox
        have x1 := block_cell hb3 0
        simp at x1
        have HX := Lib.hid (And.intro hst (And.intro hd3 (And.intro hfr4.size hb3)))
        have HV := Lib.hid hV
        clear hown hcap hnews hone hV hsee hpc hbox hnbx hi hz0 hz1 hz2 HEJ hjj HRJ hown3 hfr3 hat3 hst hfr4 e1 e2 e3 hd3 hb3
        go_upto_region 20 with fail
        go_region
        all_goals
          have hfin := (HV.out.left.turn (Nice.star (nice_disk _ _) hR) fun S hS => (HX.out.1 S hS).1).left
          have hbf := set3_cell hb1j (.slice (some ⟨g2, 0, none⟩) (j.recs.length + j.pend.length) cap2) (.slice none 0 0) (.bool true) x1
          obtain ⟨vr3, vp3, hs3⟩ := jr_see hfin.left
          have hlast := Last_any hs3
          have hlv : (jdone j).last = (j.first : Int) + (j.recs ++ j.pend).length - 1 := by
            unfold Jnl.J.last jdone
            simp [hb]
          rw [hlv] at hlast
          have HFIN := Lib.hid hfin
          have HLAST := Lib.hid hlast
          clear hfin hs3 hlast hlv HX HV y3 y4 y5 z3 z4 z5
          generalize ((w3.setCell ⟨bj, 3, none⟩ (.slice (some ⟨g2, 0, none⟩) (j.recs.length + j.pend.length) cap2)).setCell ⟨bj, 4, none⟩ (.slice none 0 0)).setCell ⟨bj, 5, none⟩ (.bool true) = wz at *
          go_wp2_with fail
          refine HLAST.out.mono ?_
          rintro e wy ⟨rfl, q, rfl⟩
          go_wp2_with fail
          go_ret2
          exact ⟨rfl, HFIN.out.moved (nice_dj hR) (below_drawn _ q)⟩
      · have hz' : (z != 0) = true := by simpa using hz
        go_wp2_with fail
        go_ret2
        exact ⟨rfl, HE.out⟩
/-- Pending records are made durable. -/
theorem Commit_any (hR : Nice R) (hg : Glob w0) (h : DJ R w0 w bd d bj n j) (hn : n.size ≤ 1048576) (hw : d.wt < 1073741800) (hrl : j.recs.length + 64 ≤ 1073741824) :
    Calls Tryz.prog 24 #[pbox bj] w fun e w' => e = .returned (.tuple #[.int .i64 (j.commit n.data.toList d).1, .int .i64 (j.commit n.data.toList d).2.1]) ∧ DJ R w0 w' bd (j.commit n.data.toList d).2.2.2 bj n (j.commit n.data.toList d).2.2.1 := by
  unfold Jnl.J.commit
  cases hb : j.broken with
  | true => exact commit_broken hR h hb
  | false =>
    simp only [Bool.false_eq_true, if_false]
    by_cases hp : j.pend = []
    · rw [if_pos hp]
      exact commit_none hR h hb hp
    · rw [if_neg hp]
      have key : ∀ {Z : Int × J × M}, Jnl.run (Jnl.commitSteps n.data.toList j.data j.has) j d = Z → Calls Tryz.prog 24 #[pbox bj] w fun e w' => (Z.1 ≠ 0 ∧ e = .returned (.tuple #[.int .i64 0, .int .i64 Z.1]) ∧ DJ R w0 w' bd Z.2.2 bj n Z.2.1) ∨
          (Z.1 = 0 ∧ e = .returned (.tuple #[.int .i64 ((j.first : Int) + (j.recs ++ j.pend).length - 1), .int .i64 0]) ∧ DJ R w0 w' bd Z.2.2 bj n (jdone j)) := by
        intro Z hZ
        cases hh : j.has with
        | true => exact commit_has hR hg h hb hp hh hn hw hrl hZ
        | false => exact commit_fresh hR hg h hb hp hh hn hw hrl hZ
      refine (key rfl).mono ?_
      rintro e w' (⟨h1, h2, h3⟩ | ⟨h1, h2, h3⟩)
      · rw [if_neg h1]
        exact ⟨h2, h3⟩
      · rw [if_pos h1]
        refine ⟨h2, ?_⟩
        have hj : ({ j with recs := j.recs ++ j.pend, pend := [], has := true } : J) = jdone j := rfl
        simpa only [hb, jdone] using h3
end
end Go.Proofs.YtlhnjdoicolkkaaGreatDoor
