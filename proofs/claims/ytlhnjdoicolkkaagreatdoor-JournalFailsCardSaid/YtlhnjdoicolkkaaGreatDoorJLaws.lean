/- JournalScans and JournalFrames: the walks. -/
import Derived.Test.YtlhnjdoicolkkaaGreatDoorJKnown
set_option maxRecDepth 100000
namespace Go.Proofs.YtlhnjdoicolkkaaGreatDoor
open Go.RowKit Go.Dsk Go.Maps Go.WideMaps
set_option maxHeartbeats 2000000

theorem said_JournalScans {w : World} (hg : Glob w) (s : ByteArray) : Calls Tryz.prog 3 #[.string s] w fun e w' => e = .returned (.bool true) ∧ Below w.heap.size w w' := by
  have HG := Lib.hid hg
  clear hg
  by_cases hl : 2000 < s.size
  · have hl' : ((2000 : Int) < (s.size : Int)) = True := by simp; omega
    go_enter Tryz.func3, Tryz.ntmps3
    go_wp2_with fail
    refine (jknown_any HG.out).mono ?_
    rintro e w1 ⟨rfl, hb1⟩
    go_wp2_with fail
    refine (jknown_any (HG.out.below hb1)).mono ?_
    rintro e w2 ⟨rfl, hb2⟩
    go_wp2_with fail
    go_ret
    exact ⟨rfl, hb1.trans (hb2.mono hb1.size)⟩
  · have hl' : ((2000 : Int) < (s.size : Int)) = False := by simp; omega
    go_enter Tryz.func3, Tryz.ntmps3
    go_wp2_with fail
    refine (jknown_any HG.out).mono ?_
    rintro e w1 ⟨rfl, hb1⟩
    go_wp2_with fail
    refine (scans_any s (by omega) (HG.out.below hb1)).mono ?_
    rintro e w2 ⟨rfl, hb2⟩
    go_wp2_with fail
    go_ret
    exact ⟨rfl, hb1.trans (hb2.mono hb1.size)⟩
theorem said_JournalFrames {w : World} (hg : Glob w) (s : ByteArray) : Calls Tryz.prog 5 #[.string s] w fun e w' => e = .returned (.bool true) ∧ Below w.heap.size w w' := by
  have HG := Lib.hid hg
  clear hg
  by_cases hl : 4100 < s.size
  · have hl' : ((4100 : Int) < (s.size : Int)) = True := by simp; omega
    go_enter Tryz.func5, Tryz.ntmps5
    go_wp2_with fail
    refine (jknown_any HG.out).mono ?_
    rintro e w1 ⟨rfl, hb1⟩
    go_wp2_with fail
    refine (jknown_any (HG.out.below hb1)).mono ?_
    rintro e w2 ⟨rfl, hb2⟩
    go_wp2_with fail
    go_ret
    exact ⟨rfl, hb1.trans (hb2.mono hb1.size)⟩
  · have hl' : ((4100 : Int) < (s.size : Int)) = False := by simp; omega
    have hck := fun w => Check_any s (by omega) w
    have hlk := fun w => lcheck_any s (by omega) w
    have hfr := fun w => Frame_any s (by omega) w
    have hlf := fun w => lframe_any s (by omega) w
    generalize Jnl.check s.data.toList = c at hck hlk
    generalize (⟨(Jnl.frame s.data.toList).toArray⟩ : ByteArray) = x at hfr hlf
    by_cases h4 : 4096 < s.size
    · have h4' : ((4096 : Int) < (s.size : Int)) = True := by simp; omega
      simp only [if_pos h4] at hfr
      go_enter Tryz.func5, Tryz.ntmps5
      go_wp2_with fail
      refine (jknown_any HG.out).mono ?_
      rintro e w1 ⟨rfl, hb1⟩
      go_wp2_with fail
      refine (hfr _).mono ?_
      rintro e w2 ⟨rfl, hb2⟩
      go_wp2_with fail
      refine (hck _).mono ?_
      rintro e w3 ⟨rfl, hw3⟩
      obtain rfl := hw3.symm
      go_wp2_with fail
      refine (hlk _).mono ?_
      rintro e w3 ⟨rfl, hw3⟩
      obtain rfl := hw3.symm
      go_wp2_with fail
      go_ret
      exact ⟨rfl, hb1.trans (hb2.mono hb1.size)⟩
    · have h4' : ((4096 : Int) < (s.size : Int)) = False := by simp; omega
      simp only [if_neg h4] at hfr
      go_enter Tryz.func5, Tryz.ntmps5
      go_wp2_with fail
      refine (jknown_any HG.out).mono ?_
      rintro e w1 ⟨rfl, hb1⟩
      go_wp2_with fail
      refine (hfr _).mono ?_
      rintro e w2 ⟨rfl, hb2⟩
      go_wp2_with fail
      refine (hck _).mono ?_
      rintro e w3 ⟨rfl, hw3⟩
      obtain rfl := hw3.symm
      go_wp2_with fail
      refine (hlk _).mono ?_
      rintro e w3 ⟨rfl, hw3⟩
      obtain rfl := hw3.symm
      go_wp2_with fail
      refine (hlf _).mono ?_
      rintro e w4 ⟨rfl, hb4⟩
      go_wp2_with fail
      go_ret
      exact ⟨rfl, (hb1.trans (hb2.mono hb1.size)).trans (hb4.mono (hb1.trans (hb2.mono hb1.size)).size)⟩
end Go.Proofs.YtlhnjdoicolkkaaGreatDoor
