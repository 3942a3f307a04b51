/- JournalRuns: the walk. -/
import Derived.Test.YtlhnjdoicolkkaaGreatDoorJRound
import Derived.Test.YtlhnjdoicolkkaaGreatDoorJLaws
import Derived.Test.YtlhnjdoicolkkaaGreatDoorJShort
import Derived.Test.YtlhnjdoicolkkaaGreatDoorJIn
set_option maxRecDepth 100000
namespace Go.Proofs.YtlhnjdoicolkkaaGreatDoor
open Go.RowKit Go.Dsk Go.Maps Go.WideMaps
set_option maxHeartbeats 4000000
open Jnl (J)

theorem said_JournalRuns {w : World} (hg : Glob w) (a : Int) (hw : (Lit.int .u16 a).wf = true) {va : Value} {l : List Bs} (hv : StrsIn w va l) {vb : Value} {acts : List (Int × Int)} (ha : ActsIn w vb acts) :
    Calls Tryz.prog 8 #[.int .u16 a, va, vb] w fun e w' => e = .returned (.bool true) ∧ Below w.heap.size w w' := by
  have ha0 := bounds_u16 hw
  obtain ⟨c, hc⟩ : ∃ c : Nat, (c : Int) = a % 1001 := ⟨(a % 1001).toNat, by omega⟩
  have hc1 : c ≤ 1000 := by omega
  have hrem : a.tmod 1001 = (c : Int) := by rw [Int.tmod_eq_emod_of_nonneg (by omega), hc]
  have hrem2 : a % 1001 = (c : Int) := hc.symm
  obtain ⟨ao, cb, rfl, -, -, hcell⟩ := ha
  have HA := Lib.hid hcell
  have HV := Lib.hid hv
  have HG := Lib.hid hg
  clear hcell hv hg hw hc
  go_enter Tryz.func8, Tryz.ntmps8
  go_wp2_with fail
  refine (jknown_any HG.out).mono ?_
  rintro e w1 ⟨rfl, hb1⟩
  have HB1 := Lib.hid hb1
  clear hb1
  go_wp2_with fail
  refine (start_any (HG.out.below HB1.out) (c : Int) (by omega) (by omega)).mono ?_
  rintro e w2 ⟨bp, bj0, bm0, bd, bo, m0, rfl, hs2, hok2, h2⟩
  have H2 := Lib.hid (And.intro h2 (And.intro hs2 hok2))
  have HB2 := Lib.hid (HB1.out.trans (h2.below.mono HB1.out.size))
  clear h2 hs2 hok2
  go_wp2_with fail
  refine (short_any (HV.out.below HB2.out)).mono ?_
  rintro e w3 ⟨vl, rfl, hr3, hb3⟩
  have h3 := rnd_rows (c := c) Nice.nil H2.out.1 H2.out.2.1 H2.out.2.2 rfl hr3 hb3
  obtain ⟨L, hL⟩ : ∃ L, L = shortOf l := ⟨_, rfl⟩
  rw [← hL] at h3
  have H3 := Lib.hid h3
  clear h3 hr3 hb3 H2 HB2 hL
  go_wp2_with fail
  go_loopw [9] (fun i wr => ∃ k : Nat, k ≤ acts.length ∧ k ≤ 40 ∧ i = .int .i64 k ∧ Rnd c k (Star (RdP vl L) Nil) w1 wr bp bd bo) (fun i _ => acts.length - (intOf i).toNat)
  case atStart => exact ⟨0, Nat.zero_le _, Nat.zero_le _, rfl, H3.out⟩
  case round =>
    obtain ⟨k, hk, hk40, rfl, hR⟩ := hrel
    have RR := Lib.hid hR
    clear hR H3
    by_cases hlt : k < acts.length
    · by_cases h40 : k < 40
      · obtain ⟨b, off, rfl, hbl, hcell⟩ := HA.out (Nat.lt_of_le_of_lt (Nat.zero_le _) hlt)
        obtain ⟨x0, x1, y0, y1, y2, y3⟩ := hcell k hlt
        have hbw := HB1.out.trans (RR.out.below.mono HB1.out.size)
        have z0 := (hbw.cell (p := ⟨b, off + k * 2, none⟩) hbl).trans x0
        have z1 := (hbw.cell (p := ⟨b, off + k * 2 + 1, none⟩) hbl).trans x1
        generalize acts.getD k (0, 0) = kq at *
        obtain ⟨kd, q⟩ := kq
        simp only at z0 z1 y0 y1 y2 y3
        have hk0 : (0 : Int) ≤ (k : Int) := by omega
        have hk1 : (k : Int) < (acts.length : Int) := by omega
        have hk2 : (k : Int) < 40 := by omega
        clear hcell x0 x1 hbw
        go_wp2_with fail
        refine (rnd_act (Nice.star (nice_rd _ _) Nice.nil) (HG.out.below HB1.out) RR.out (by omega) (by omega) (rd_reads (rnd_rest RR.out)) y0 y1 y2 y3).mono ?_
        rintro e w5 ⟨rfl, h5⟩
        have R5 := Lib.hid h5
        clear h5
        go_wp2_with fail
        refine (rnd_agree (Nice.star (nice_rd _ _) Nice.nil) R5.out).mono ?_
        rintro e w6 ⟨rfl, h6⟩
        have R6 := Lib.hid h6
        clear h6
        go_wp2_with fail
        go_roundw
        case rel => exact ⟨k + 1, by omega, by omega, by go_num, R6.out⟩
        case measure => simp [intOf]; omega
      · obtain rfl : k = 40 := by omega
        go_wp2_with fail
        go_ret
        exact ⟨rfl, HB1.out.trans (RR.out.below.mono HB1.out.size)⟩
    · obtain rfl : k = acts.length := by omega
      go_wp2_with fail
      go_ret
      exact ⟨rfl, HB1.out.trans (RR.out.below.mono HB1.out.size)⟩
end Go.Proofs.YtlhnjdoicolkkaaGreatDoor
