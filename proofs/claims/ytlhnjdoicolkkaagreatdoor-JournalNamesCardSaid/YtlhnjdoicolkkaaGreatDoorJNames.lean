/- JournalNames: the walk. -/
import Derived.Test.YtlhnjdoicolkkaaGreatDoorJNil
set_option maxRecDepth 100000
namespace Go.Proofs.YtlhnjdoicolkkaaGreatDoor
open Go.RowKit Go.Dsk Go.Maps Go.WideMaps
set_option maxHeartbeats 2000000
open Jnl (J)

theorem said_JournalNames {w : World} (hg : Glob w) (s : ByteArray) : Calls Tryz.prog 7 #[.string s] w fun e w' => e = .returned (.bool true) ∧ Below w.heap.size w w' := by
  have HG := Lib.hid hg
  clear hg
  by_cases hl : 80 < s.size
  · have hl' : ((80 : Int) < (s.size : Int)) = True := by simp; omega
    go_enter Tryz.func7, Tryz.ntmps7
    go_wp2_with fail
    refine (jknown_any HG.out).mono ?_
    rintro e w1 ⟨rfl, hb1⟩
    go_wp2_with fail
    refine (jknown_any (HG.out.below hb1)).mono ?_
    rintro e w2 ⟨rfl, hb2⟩
    go_wp2_with fail
    go_ret
    exact ⟨rfl, hb1.trans (hb2.mono hb1.size)⟩
  · have hl' : ((80 : Int) < (s.size : Int)) = False := by simp; omega
    have hri := fun w' => right_any s (by omega) w'
    obtain ⟨b, hb⟩ : ∃ b, Jnl.jname s.data.toList = b := ⟨_, rfl⟩
    rw [hb] at hri
    have HNM := Lib.hid hb
    clear hb
    go_enter Tryz.func7, Tryz.ntmps7
    go_wp2_with fail
    refine (jknown_any HG.out).mono ?_
    rintro e w1 ⟨rfl, hb1⟩
    have HB1 := Lib.hid hb1
    clear hb1
    go_wp2_with fail
    refine (dr_new Nice.nil (Has.start HB1.out) 100 (by omega) (by omega)).mono ?_
    rintro e w2 ⟨bd, rfl, h2⟩
    have H2 := Lib.hid h2
    clear h2
    go_wp2_with fail
    refine (hri _).mono ?_
    rintro e w3 ⟨rfl, hw3⟩
    obtain rfl := hw3
    cases b with
    | true =>
      go_wp2_with fail
      refine (Open_fresh (n := s) Nice.nil H2.out rfl rfl (by omega) HNM.out).mono ?_
      rintro e w4 ⟨bj, rfl, h4⟩
      have H4 := Lib.hid h4
      clear h4 H2
      go_wp2_with fail
      refine (dr_crash (Nice.star (nice_jrn _ _ _ _) Nice.nil) H4.out).mono ?_
      rintro e w5 ⟨rfl, h5⟩
      have H5 := Lib.hid h5
      clear h5 H4
      go_wp2_with fail
      refine (Open_down (n := ⟨#[97]⟩) (Nice.star (nice_jrn _ _ _ _) Nice.nil) H5.out (by decide) (by decide) rfl).mono ?_
      rintro e w6 ⟨rfl, hb6⟩
      have HB6 := Lib.hid (H5.out.moved (Nice.star (nice_disk _ _) (Nice.star (nice_jrn _ _ _ _) Nice.nil)) hb6).below
      clear hb6 H5
      go_wp2_with fail
      refine (Open_nil s _).mono ?_
      rintro e w7 ⟨rfl, hb7⟩
      have HB7 := Lib.hid (HB6.out.trans (hb7.mono HB6.out.size))
      clear hb7 HB6
      go_wp2_with fail
      refine (Append_nil ⟨#[]⟩ _).mono ?_
      rintro e w8 ⟨rfl, hb8⟩
      have HB8 := Lib.hid (HB7.out.trans (hb8.mono HB7.out.size))
      clear hb8 HB7
      go_wp2_with fail
      refine (Commit_nil _).mono ?_
      rintro e w9 ⟨rfl, hb9⟩
      have HB9 := Lib.hid (HB8.out.trans (hb9.mono HB8.out.size))
      clear hb9 HB8
      go_wp2_with fail
      refine (Records_nil _).mono ?_
      rintro e w10 ⟨rfl, hb10⟩
      have HB10 := Lib.hid (HB9.out.trans (hb10.mono HB9.out.size))
      clear hb10 HB9
      go_wp2_with fail
      refine (Discard_nil _).mono ?_
      rintro e w11 ⟨rfl, hb11⟩
      have HB11 := Lib.hid (HB10.out.trans (hb11.mono HB10.out.size))
      clear hb11 HB10
      go_wp2_with fail
      refine (Cut_nil _).mono ?_
      rintro e w12 ⟨rfl, hb12⟩
      have HB12 := Lib.hid (HB11.out.trans (hb12.mono HB11.out.size))
      clear hb12 HB11
      go_wp2_with fail
      refine (First_nil _).mono ?_
      rintro e w13 ⟨rfl, hb13⟩
      have HB13 := Lib.hid (HB12.out.trans (hb13.mono HB12.out.size))
      clear hb13 HB12
      go_wp2_with fail
      refine (Last_nil _).mono ?_
      rintro e w14 ⟨rfl, hb14⟩
      have HB14 := Lib.hid (HB13.out.trans (hb14.mono HB13.out.size))
      clear hb14 HB13
      go_wp2_with fail
      refine (Pending_nil _).mono ?_
      rintro e w15 ⟨rfl, hb15⟩
      have HB15 := Lib.hid (HB14.out.trans (hb15.mono HB14.out.size))
      clear hb15 HB14
      go_wp2_with fail
      go_ret
      exact ⟨rfl, HB15.out⟩
    | false =>
      go_wp2_with fail
      refine (Open_name bd _ (n := s) (by omega) HNM.out).mono ?_
      rintro e w4 ⟨rfl, hb4⟩
      have H4 := Lib.hid (H2.out.moved (Nice.star (nice_disk _ _) Nice.nil) hb4)
      clear hb4 H2
      go_wp2_with fail
      refine (dr_crash Nice.nil H4.out).mono ?_
      rintro e w5 ⟨rfl, h5⟩
      have H5 := Lib.hid h5
      clear h5 H4
      go_wp2_with fail
      refine (Open_down (n := ⟨#[97]⟩) Nice.nil H5.out (by decide) (by decide) rfl).mono ?_
      rintro e w6 ⟨rfl, hb6⟩
      have HB6 := Lib.hid (H5.out.moved (Nice.star (nice_disk _ _) Nice.nil) hb6).below
      clear hb6 H5
      go_wp2_with fail
      refine (Open_nil s _).mono ?_
      rintro e w7 ⟨rfl, hb7⟩
      have HB7 := Lib.hid (HB6.out.trans (hb7.mono HB6.out.size))
      clear hb7 HB6
      go_wp2_with fail
      refine (Append_nil ⟨#[]⟩ _).mono ?_
      rintro e w8 ⟨rfl, hb8⟩
      have HB8 := Lib.hid (HB7.out.trans (hb8.mono HB7.out.size))
      clear hb8 HB7
      go_wp2_with fail
      refine (Commit_nil _).mono ?_
      rintro e w9 ⟨rfl, hb9⟩
      have HB9 := Lib.hid (HB8.out.trans (hb9.mono HB8.out.size))
      clear hb9 HB8
      go_wp2_with fail
      refine (Records_nil _).mono ?_
      rintro e w10 ⟨rfl, hb10⟩
      have HB10 := Lib.hid (HB9.out.trans (hb10.mono HB9.out.size))
      clear hb10 HB9
      go_wp2_with fail
      refine (Discard_nil _).mono ?_
      rintro e w11 ⟨rfl, hb11⟩
      have HB11 := Lib.hid (HB10.out.trans (hb11.mono HB10.out.size))
      clear hb11 HB10
      go_wp2_with fail
      refine (Cut_nil _).mono ?_
      rintro e w12 ⟨rfl, hb12⟩
      have HB12 := Lib.hid (HB11.out.trans (hb12.mono HB11.out.size))
      clear hb12 HB11
      go_wp2_with fail
      refine (First_nil _).mono ?_
      rintro e w13 ⟨rfl, hb13⟩
      have HB13 := Lib.hid (HB12.out.trans (hb13.mono HB12.out.size))
      clear hb13 HB12
      go_wp2_with fail
      refine (Last_nil _).mono ?_
      rintro e w14 ⟨rfl, hb14⟩
      have HB14 := Lib.hid (HB13.out.trans (hb14.mono HB13.out.size))
      clear hb14 HB13
      go_wp2_with fail
      refine (Pending_nil _).mono ?_
      rintro e w15 ⟨rfl, hb15⟩
      have HB15 := Lib.hid (HB14.out.trans (hb15.mono HB14.out.size))
      clear hb15 HB14
      go_wp2_with fail
      go_ret
      exact ⟨rfl, HB15.out⟩
end Go.Proofs.YtlhnjdoicolkkaaGreatDoor
