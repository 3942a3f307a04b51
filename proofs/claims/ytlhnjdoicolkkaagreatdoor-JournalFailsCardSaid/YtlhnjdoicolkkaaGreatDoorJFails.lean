/- JournalFails: the walk. -/
import Derived.Test.YtlhnjdoicolkkaaGreatDoorJRound
import Derived.Test.YtlhnjdoicolkkaaGreatDoorJLaws
import Derived.Test.YtlhnjdoicolkkaaGreatDoorJShort
import Derived.Test.YtlhnjdoicolkkaaGreatDoorJIn
import Derived.Deep.RegionHeld3
set_option maxRecDepth 100000
namespace Go.Proofs.YtlhnjdoicolkkaaGreatDoor
open Go.RowKit Go.Dsk Go.Maps Go.WideMaps
set_option maxHeartbeats 8000000
open Jnl (J)

section
variable {w0 w : World} {bp bj bm bd bo : Nat} {d m : M} {j k : J} {R : SP}
theorem ints_at {ao : Option Addr} {c : Nat} {sc : List Int} (hb : IntsBody w ao c sc) (hl : sc.length * 8 ≤ 140737488355328) {w' : World} (hw : Below w.heap.size w w') : IntsAt w' (.slice ao sc.length c) sc := by
  rcases hb with ⟨rfl, rfl, rfl⟩ | ⟨a, rfl, rfl⟩ | ⟨b, off, rfl, hlt, hc⟩
  · exact ⟨hl, .inl ⟨rfl, rfl⟩⟩
  · exact ⟨hl, .inr (.inl ⟨a, c, rfl, rfl⟩)⟩
  · exact ⟨hl, .inr (.inr ⟨b, off, c, rfl, fun j hj => (hw.cell (p := ⟨b, off + j, none⟩) hlt).trans (hc j hj)⟩)⟩
theorem limit_wt (m : M) (n : Int) : (m.setLimit n).2.wt = m.wt := by unfold M.setLimit; split <;> rfl
theorem limit_cap (m : M) (n : Int) : (m.setLimit n).2.cap = m.cap := by unfold M.setLimit; split <;> rfl
theorem limit_down (m : M) (n : Int) : (m.setLimit n).2.down = m.down := by unfold M.setLimit; split <;> rfl
theorem limit_names (m : M) (n : Int) : (m.setLimit n).2.names = m.names := by unfold M.setLimit; split <;> rfl
theorem nice_d (hR : Nice R) : Nice (Star (JrnP bj bd logB j) (Star (DiskP bo m) (Star (MdlP bm bo logB k) (Star (PairP bp bj bm bd) R)))) := Nice.star (nice_jrn _ _ _ _) (nice_res hR)
theorem nice_m (hR : Nice R) : Nice (Star (MdlP bm bo logB k) (Star (DiskP bd d) (Star (JrnP bj bd logB j) (Star (PairP bp bj bm bd) R)))) := Nice.star (nice_mdl _ _ _ _) (nice_other hR)
theorem duo_limit (hR : Nice R) (h : Duo R w0 w bp bj bm bd bo d m j k) (n : Int) (hn : n ≤ 9223372036854775807) :
    Calls Tryz.prog 36 #[.pointer (some ⟨bd, 0, none⟩), .int .i64 n] w fun e w' => e = .returned (.int .i64 (d.setLimit n).1) ∧ Duo R w0 w' bp bj bm bd bo (d.setLimit n).2 m j k :=
  dr_limit (nice_d hR) h n hn (r := (d.setLimit n).1) (m' := (d.setLimit n).2) rfl (by rw [limit_wt]; exact dr_wt h)
theorem duo_limit2 (hR : Nice R) (h : Duo R w0 w bp bj bm bd bo d m j k) (n : Int) (hn : n ≤ 9223372036854775807) :
    Calls Tryz.prog 36 #[.pointer (some ⟨bo, 0, none⟩), .int .i64 n] w fun e w' => e = .returned (.int .i64 (m.setLimit n).1) ∧ Duo R w0 w' bp bj bm bd bo d (m.setLimit n).2 j k :=
  (dr_limit (nice_m hR) h.cross n hn (r := (m.setLimit n).1) (m' := (m.setLimit n).2) rfl (by rw [limit_wt]; exact dr_wt h.cross)).mono fun _ _ h => ⟨h.1, h.2.cross⟩
theorem duo_crash (hR : Nice R) (h : Duo R w0 w bp bj bm bd bo d m j k) :
    Calls Tryz.prog 28 #[.pointer (some ⟨bd, 0, none⟩)] w fun e w' => e = .returned (.tuple #[]) ∧ Duo R w0 w' bp bj bm bd bo d.crash m j k :=
  dr_crash (nice_d hR) h
theorem duo_crash2 (hR : Nice R) (h : Duo R w0 w bp bj bm bd bo d m j k) :
    Calls Tryz.prog 28 #[.pointer (some ⟨bo, 0, none⟩)] w fun e w' => e = .returned (.tuple #[]) ∧ Duo R w0 w' bp bj bm bd bo d m.crash j k :=
  (dr_crash (nice_m hR) h.cross).mono fun _ _ h => ⟨h.1, h.2.cross⟩
theorem duo_begin (hR : Nice R) (h : Duo R w0 w bp bj bm bd bo d m j k) (ao : Option Addr) (n c : Nat) (sc : List Int) (hv : IntsAt w (.slice ao n c) sc) :
    Calls Tryz.prog 39 #[.pointer (some ⟨bd, 0, none⟩), .slice ao n c] w fun e w' => e = .returned (.tuple #[]) ∧ Duo R w0 w' bp bj bm bd bo (d.start sc) m j k :=
  dr_start (nice_d hR) h ao n c sc hv
theorem duo_begin2 (hR : Nice R) (h : Duo R w0 w bp bj bm bd bo d m j k) (ao : Option Addr) (n c : Nat) (sc : List Int) (hv : IntsAt w (.slice ao n c) sc) :
    Calls Tryz.prog 39 #[.pointer (some ⟨bo, 0, none⟩), .slice ao n c] w fun e w' => e = .returned (.tuple #[]) ∧ Duo R w0 w' bp bj bm bd bo d (m.start sc) j k :=
  (dr_start (nice_m hR) h.cross ao n c sc hv).mono fun _ _ h => ⟨h.1, h.2.cross⟩
/-- Both disks have the same limit. -/
theorem rnd_limit {c : Nat} (n : Int) (h : Duo R w0 w bp bj bm bd bo (d.setLimit n).2 (m.setLimit n).2 j j) (hs : SimE m d) (hi : Jnl.Inv logB.data.toList j m) (hw : m.wt ≤ 0) (hc : m.cap ≤ c) (hr : j.recs.length ≤ c) : Rnd c 0 R w0 w bp bd bo := by
  refine ⟨bj, bm, _, _, j, h, (sim_limit hs n).2, ⟨dr_ok h.cross, fun hb hd => ?_, hi.recs⟩, ?_, ?_, by omega⟩
  · rw [limit_down] at hd
    rw [limit_names]
    exact hi.knows hb hd
  · rw [limit_wt]; omega
  · rw [limit_cap]; exact hc
end
theorem said_JournalFails {w : World} (hg : Glob w) {va : Value} {l : List Bs} (hv : StrsIn w va l) {vb : Value} {acts : List (Int × Int)} (ha : ActsIn w vb acts) {lim : Int} {ao : Option Addr} {c : Nat} {sc : List Int} (h0 : 0 ≤ lim) (h1 : lim ≤ 255) (hb : IntsBody w ao c sc) (_hsc : sc.length ≤ c) (_hcm : c ≤ maxLen) :
    Calls Tryz.prog 10 #[va, vb, .agg #[.int .u8 lim, .slice ao sc.length c]] w fun e w' => e = .returned (.bool true) ∧ Below w.heap.size w w' := by
  obtain ⟨bx, hbx⟩ : ∃ bx, bx = w.heap.size := ⟨_, rfl⟩
  have hcell0 : (w.alloc (.cells #[.int .u8 lim, .slice ao sc.length c] 68)).cell? ⟨bx, 0, none⟩ = some (.int .u8 lim) := by rw [hbx]; simp
  have hcell1 : (w.alloc (.cells #[.int .u8 lim, .slice ao sc.length c] 68)).cell? ⟨bx, 1, none⟩ = some (.slice ao sc.length c) := by rw [hbx]; simp
  have hlt : bx < (w.alloc (.cells #[.int .u8 lim, .slice ao sc.length c] 68)).heap.size := by rw [hbx]; simp
  have hal : Below w.heap.size w (w.alloc (.cells #[.int .u8 lim, .slice ao sc.length c] 68)) := (Below.refl _ w).alloc (Nat.le_refl _) _
  have HG := Lib.hid (hg.below hal)
  have HV := Lib.hid (hv.below hal)
  have HI := Lib.hid hb
  obtain ⟨ab, cb, rfl, -, -, hcell⟩ := ha.below hal
  have HA := Lib.hid hcell
  have HAL := Lib.hid hal
  have HC := Lib.hid (And.intro hcell0 (And.intro hcell1 hlt))
  have HBX := Lib.hid hbx
  clear hbx hcell0 hcell1 hlt hal hg hv hb ha hcell
  go_enter Tryz.func10, Tryz.ntmps10
  go_upto_region 1 with fail
  rw [← HBX.out]
  generalize w.alloc (.cells #[.int .u8 lim, .slice ao sc.length c] 68) = wa at *
  clear HBX
  go_wp2_with fail
  refine (jknown_any HG.out).mono ?_
  rintro e w1 ⟨rfl, hb1⟩
  have x1 := (hb1.cell (p := ⟨bx, 1, none⟩) HC.out.2.2).trans HC.out.2.1
  have HB1 := Lib.hid hb1
  clear hb1
  by_cases hlen : 10 < sc.length
  · have hl' : ((10 : Int) < (sc.length : Int)) = True := by simp; omega
    go_wp2_with fail
    refine (jknown_any (HG.out.below HB1.out)).mono ?_
    rintro e w2 ⟨rfl, hb2⟩
    have HB2 := Lib.hid (HAL.out.trans ((HB1.out.trans (hb2.mono HB1.out.size)).mono HAL.out.size))
    clear hb2
    go_wp2_with fail
    go_ret
    exact ⟨rfl, HB2.out⟩
  have hl' : ((10 : Int) < (sc.length : Int)) = False := by simp; omega
  go_wp2_with fail
  refine (start_any (HG.out.below HB1.out) 100000 (by omega) (by omega)).mono ?_
  rintro e w2 ⟨bp, bj0, bm0, bd, bo, m0, rfl, hs2, hok2, h2⟩
  have H2 := Lib.hid (And.intro h2 (And.intro hs2 hok2))
  have HB2 := Lib.hid (HB1.out.trans (h2.below.mono HB1.out.size))
  clear h2 hs2 hok2 x1
  go_wp2_with fail
  refine (short_any (HV.out.below HB2.out)).mono ?_
  rintro e w3 ⟨vl, rfl, hr3, hb3⟩
  have h3 := rnd_rows (c := 100000) Nice.nil H2.out.1 H2.out.2.1 H2.out.2.2 rfl hr3 hb3
  obtain ⟨L, hL⟩ : ∃ L, L = shortOf l := ⟨_, rfl⟩
  rw [← hL] at h3
  have hN : Nice (Star (RdP vl L) Nil) := Nice.star (nice_rd _ _) Nice.nil
  have KEEP0 : ∀ wx : World, Below w1.heap.size w1 wx → wx.cell? ⟨bx, 0, none⟩ = some (.int .u8 lim) := fun _ h => ((HB1.out.trans (h.mono HB1.out.size)).cell (p := ⟨bx, 0, none⟩) HC.out.2.2).trans HC.out.1
  have KEEP1 : ∀ wx : World, Below w1.heap.size w1 wx → wx.cell? ⟨bx, 1, none⟩ = some (.slice ao sc.length c) := fun _ h => ((HB1.out.trans (h.mono HB1.out.size)).cell (p := ⟨bx, 1, none⟩) HC.out.2.2).trans HC.out.2.1
  have HK0 := Lib.hid KEEP0
  have HK1 := Lib.hid KEEP1
  have HNN := Lib.hid hN
  obtain ⟨bj, bm, d, m, j, hd3, hs3, hi3, hw3, hm3, hr3'⟩ := h3
  have hd4 := hd3.moved (nice_duo hN) (Below.refl _ w3).drew
  have p2 := (duo_cells hd3).2.2
  have x0 := KEEP0 _ hd3.below
  have H3 := Lib.hid hd4
  have HSI := Lib.hid (And.intro hs3 (And.intro hi3 (And.intro hw3 (And.intro hm3 hr3'))))
  clear hr3 hb3 H2 HB2 hL hd3 hd4 hs3 hi3 hw3 hm3 hr3' KEEP0 KEEP1 hN
  have hwl : IntKind.i64.wrap lim = lim := IntWalk.i64_in _ (by omega)
  go_upto_region 7 with fail
  go_region_held3 (fun w' => w'.cell? ⟨bp, 2, none⟩ = some (.pointer (some ⟨bd, 0, none⟩)) ∧ w'.cell? ⟨bx, 0, none⟩ = some (.int .u8 lim)) (go_keep)
    (first
      | (go_at_call 36
         refine (duo_limit HNN.out H3.out lim (by omega)).mono ?_
         rintro e w4 ⟨rfl, h4⟩
         have p2 := (duo_cells h4).2.2
         have x0 := HK0.out _ h4.below
         have H4 := Lib.hid h4
         clear h4))
  all_goals
    clear p2 x0
    have p1 := (duo_cells H4.out).2.1
    obtain ⟨mr, mp, hm4⟩ := duo_model H4.out
    have b0 := hm4.c0
    have x0 := HK0.out _ H4.out.below
    have H5 := Lib.hid (H4.out.moved (nice_duo HNN.out) (Below.refl _ w4).drew)
    clear hm4 H3
    go_upto_region 8 with fail
    go_region_held3 (fun w' => w'.cell? ⟨bp, 1, none⟩ = some (pm bm) ∧ w'.cell? ⟨bm, 0, none⟩ = some (.pointer (some ⟨bo, 0, none⟩)) ∧ w'.cell? ⟨bx, 0, none⟩ = some (.int .u8 lim)) (go_keep)
      (first
        | (go_at_call 36
           refine (duo_limit2 HNN.out H5.out lim (by omega)).mono ?_
           rintro e w5 ⟨rfl, h5⟩
           have p1 := (duo_cells h5).2.1
           obtain ⟨mr, mp, hm5⟩ := duo_model h5
           have b0 := hm5.c0
           have x0 := HK0.out _ h5.below
           have H6 := Lib.hid h5
           clear h5 hm5))
    all_goals
      clear p1 b0 x0 hwl
      have h6 := rnd_limit (c := 100000) lim H6.out HSI.out.1 HSI.out.2.1 HSI.out.2.2.1 HSI.out.2.2.2.1 HSI.out.2.2.2.2
      have R0 := Lib.hid h6
      clear h6 H6 H5 H4 HSI
      go_wp2_with fail
      go_loopw [9] (fun i wr => ∃ k : Nat, k ≤ acts.length ∧ k ≤ 40 ∧ i = .int .i64 k ∧ Rnd 100000 k (Star (RdP vl L) Nil) w1 wr bp bd bo) (fun i _ => acts.length - (intOf i).toNat)
      case atStart => exact ⟨0, Nat.zero_le _, Nat.zero_le _, rfl, R0.out⟩
      case round =>
        obtain ⟨k, hk, hk40, rfl, hR⟩ := hrel
        have RR := Lib.hid hR
        clear hR R0
        by_cases hgo : k < acts.length ∧ k < 40
        · obtain ⟨hlt, h40⟩ := hgo
          obtain ⟨b, off, rfl, hbl, hcell⟩ := HA.out (Nat.lt_of_le_of_lt (Nat.zero_le _) hlt)
          obtain ⟨x0, x1, y0, y1, y2, y3⟩ := hcell k hlt
          have hbw := HB1.out.trans (RR.out.below.mono HB1.out.size)
          have z0 := (hbw.cell (p := ⟨b, off + k * 2, none⟩) hbl).trans x0
          have z1 := (hbw.cell (p := ⟨b, off + k * 2 + 1, none⟩) hbl).trans x1
          generalize acts.getD k (0, 0) = kq at *
          obtain ⟨kd, q⟩ := kq
          simp only at z0 z1 y0 y1 y2 y3
          have hk0 : (0 : Int) ≤ (k : Int) := by omega
          have hk1 : (k : Int) < (acts.length : Int) := by omega
          have hk2 : (k : Int) < 40 := by omega
          clear hcell x0 x1 hbw
          go_wp2_with fail
          refine (rnd_act HNN.out (HG.out.below HB1.out) RR.out (by omega) (by omega) (rd_reads (rnd_rest RR.out)) y0 y1 y2 y3).mono ?_
          rintro e w5 ⟨rfl, h5⟩
          have R5 := Lib.hid h5
          clear h5
          go_wp2_with fail
          refine (rnd_agree HNN.out R5.out).mono ?_
          rintro e w6 ⟨rfl, h6⟩
          have R6 := Lib.hid h6
          clear h6
          go_wp2_with fail
          go_roundw
          case rel => exact ⟨k + 1, by omega, by omega, by go_num, R6.out⟩
          case measure => simp [intOf]; omega
        · have hstop : ((k : Int) < (acts.length : Int)) = False ∨ (((k : Int) < (acts.length : Int)) = True ∧ ((k : Int) < 40) = False) := by
            by_cases h : k < acts.length
            · exact .inr ⟨by simp; omega, by simp; omega⟩
            · exact .inl (by simp; omega)
          obtain ⟨bj, bm, d, m, j, hd, hs, hi, hw, hcap, hrl⟩ := RR.out
          have p2 := (duo_cells hd).2.2
          have HD := Lib.hid hd
          have HS := Lib.hid hs
          clear hd hs RR hi hcap hgo hk
          rcases hstop with c1 | ⟨c1, c2⟩
          all_goals
            go_wp2_with fail
            refine (duo_crash HNN.out HD.out).mono ?_
            rintro e w5 ⟨rfl, h5⟩
            have p1 := (duo_cells h5).2.1
            obtain ⟨mr, mp, hm5⟩ := duo_model h5
            have b0 := hm5.c0
            have H5 := Lib.hid h5
            clear h5 hm5 HD p2
            go_wp2_with fail
            refine (duo_crash2 HNN.out H5.out).mono ?_
            rintro e w6 ⟨rfl, h6⟩
            have p2 := (duo_cells h6).2.2
            have x1 := HK1.out _ h6.below
            have H6 := Lib.hid (h6.moved (nice_duo HNN.out) (Below.refl _ w6).drew)
            clear h6 H5 p1 b0
            go_upto_region 16 with fail
            go_region_held3 (fun w' => w'.cell? ⟨bp, 2, none⟩ = some (.pointer (some ⟨bd, 0, none⟩)) ∧ w'.cell? ⟨bx, 1, none⟩ = some (.slice ao sc.length c)) (go_keep)
              (first
                | (go_at_call 39
                   refine (duo_begin HNN.out H6.out ao sc.length c sc (ints_at HI.out (by omega) (HAL.out.trans ((HB1.out.trans (H6.out.below.mono HB1.out.size)).mono HAL.out.size)))).mono ?_
                   rintro e w7 ⟨rfl, h7⟩
                   have p2 := (duo_cells h7).2.2
                   have x1 := HK1.out _ h7.below
                   have H7 := Lib.hid h7
                   clear h7))
            all_goals
              clear p2 x1
              have p1 := (duo_cells H7.out).2.1
              obtain ⟨mr, mp, hm7⟩ := duo_model H7.out
              have b0 := hm7.c0
              have x1 := HK1.out _ H7.out.below
              have H8 := Lib.hid (H7.out.moved (nice_duo HNN.out) (Below.refl _ w7).drew)
              clear hm7 H6
              go_upto_region 17 with fail
              go_region_held3 (fun w' => w'.cell? ⟨bp, 1, none⟩ = some (pm bm) ∧ w'.cell? ⟨bm, 0, none⟩ = some (.pointer (some ⟨bo, 0, none⟩)) ∧ w'.cell? ⟨bx, 1, none⟩ = some (.slice ao sc.length c)) (go_keep)
                (first
                  | (go_at_call 39
                     refine (duo_begin2 HNN.out H8.out ao sc.length c sc (ints_at HI.out (by omega) (HAL.out.trans ((HB1.out.trans (H8.out.below.mono HB1.out.size)).mono HAL.out.size)))).mono ?_
                     rintro e w9 ⟨rfl, h9⟩
                     have p1 := (duo_cells h9).2.1
                     obtain ⟨mr, mp, hm9⟩ := duo_model h9
                     have b0 := hm9.c0
                     have x1 := HK1.out _ h9.below
                     have H9 := Lib.hid h9
                     clear h9 hm9))
              all_goals
                clear p1 b0 x1
                have hsim := sim_start (sim_crash HS.out) (show m.crash.Ok from dr_ok H8.out.cross) sc
                have hok9 := dr_ok H9.out.cross
                have hwt9 : (m.crash.start sc).wt ≤ m.wt := start_wt (m := m.crash) sc
                obtain ⟨r, hre⟩ := rec_is L 0
                have hac := actJ_sim (n := logB.data.toList) (r := r.data.toList) (k := 7) (q := 0) (j := j) hsim hok9
                have HAC := Lib.hid hac
                have HP := Lib.hid (pact_ope (k := 7) (q := 0) HNN.out (HG.out.below HB1.out) H9.out hsim hok9 (rd_reads (duo_rest H9.out)) (by omega) (by omega) (by omega) (by omega) hre (by omega) (by omega) rfl)
                clear hsim hok9 hwt9 hac hre H8 H7
                go_wp2_with fail
                refine HP.out.mono ?_
                rintro e w10 ⟨rfl, bj1, bm1, h10⟩
                have H10 := Lib.hid h10
                clear h10 HP H9
                go_wp2_with fail
                refine (agree_any HNN.out H10.out HAC.out.2).mono ?_
                rintro e w11 ⟨rfl, h11⟩
                have HB := Lib.hid (HAL.out.trans ((HB1.out.trans (h11.below.mono HB1.out.size)).mono HAL.out.size))
                clear h11
                go_wp2_with fail
                go_ret
                exact ⟨rfl, HB.out⟩
end Go.Proofs.YtlhnjdoicolkkaaGreatDoor
