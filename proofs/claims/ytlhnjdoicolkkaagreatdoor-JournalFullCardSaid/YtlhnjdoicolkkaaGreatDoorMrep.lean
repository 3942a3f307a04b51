/- The model's replace: four steps of the disk. -/
import Derived.Test.YtlhnjdoicolkkaaGreatDoorMj2
import Derived.BigRegion
import Derived.Laws.Concat
set_option maxRecDepth 100000
namespace Go.Proofs.YtlhnjdoicolkkaaGreatDoor
open Go.RowKit Go.Dsk Go.Maps Go.WideMaps
set_option maxHeartbeats 2000000
open Jnl (J)

section
variable {w0 w : World} {bm bd : Nat} {n : ByteArray} {j : J} {d : M} {R : SP} {S : Nat → Prop}
theorem new_ba (n : ByteArray) (hn : n.size ≤ 1048576) : ∃ nb : ByteArray, n ++ ⟨#[46, 110, 101, 119]⟩ = nb ∧ nb.data.toList = Jnl.newName n.data.toList ∧ nb.size ≤ 1073741824 := by
  have h := new_size n
  refine ⟨_, ba_new n, rfl, by omega⟩
theorem log_ba (n : ByteArray) (hn : n.size ≤ 1048576) : ∃ lb : ByteArray, n ++ ⟨#[46, 108, 111, 103]⟩ = lb ∧ lb.data.toList = Jnl.logName n.data.toList ∧ lb.size ≤ 1073741824 := by
  have h := log_size n
  refine ⟨_, ba_log n, rfl, by omega⟩
theorem did_zero' (j : J) : j.did 0 = j := did_zero j
theorem lreplace_v {vr vp : Value} (hR : Nice R) (h : DMV R w0 w bd d bm n j vr vp) (x : ByteArray) (hx : x.size ≤ 1073741824) (hn : n.size ≤ 1048576) (hw : d.wt < 1073741800) {Z : Int × J × M} (hZ : Jnl.run (Jnl.replaceSteps n.data.toList x.data.toList) j d = Z) :
    Calls Tryz.prog 90 #[pm bm, .string x] w fun e w' => e = .returned (.int .i64 Z.1) ∧ DMV R w0 w' bd Z.2.2 bm n Z.2.1 vr vp := by
  obtain ⟨nb, hnb, hnl, hns⟩ := new_ba n hn
  obtain ⟨lb, hlb, hll, hls⟩ := log_ba n hn
  unfold Jnl.replaceSteps at hZ
  rw [← hnl, ← hll] at hZ
  have hs := dmv_see h
  have c0 := hs.c0
  have c1 := hs.c1
  have H := Lib.hid h
  have HZ := Lib.hid hZ
  have HNS := Lib.hid (And.intro hns hls)
  have hz1 : (n.size : Int) ≤ 8388608 := by omega
  have hz2 : (((⟨#[46, 110, 101, 119]⟩ : ByteArray).size : Nat) : Int) ≤ 8388608 := by decide
  have hz3 : (((⟨#[46, 108, 111, 103]⟩ : ByteArray).size : Nat) : Int) ≤ 8388608 := by decide
  have hadd1 : ∀ W : World, (Op.stringOp .add n ⟨#[46, 110, 101, 119]⟩).run Tryz.prog W = .ok (.string nb) W := fun W => by rw [run_string_add W n _ hz1 hz2, hnb]
  have hadd2 : ∀ W : World, (Op.stringOp .add n ⟨#[46, 108, 111, 103]⟩).run Tryz.prog W = .ok (.string lb) W := fun W => by rw [run_string_add W n _ hz1 hz3, hlb]
  clear h hZ hs hnl hll hns hls
  go_enter Tryz.func90, Tryz.ntmps90
  obtain ⟨⟨r1, d1⟩, he1⟩ : ∃ p, d.append nb.data.toList x.data.toList = p := ⟨_, rfl⟩
  have hw1 : d1.wt < 1073741801 := by
    have := append_wt d nb.data.toList x.data.toList
    rw [he1] at this
    simp only at this
    omega
  have HE1 := Lib.hid he1
  clear he1
  go_upto_region 1 with fail
  go_region_held3 (fun w' => w'.cell? ⟨bm, 0, none⟩ = some (.pointer (some ⟨bd, 0, none⟩)) ∧ w'.cell? ⟨bm, 1, none⟩ = some (.string n)) (go_keep)
    (first
      | (go_at_call 53
         refine (dr_append (Nice.star (nice_mdlv _ _ _ _ _ _) hR) (H.out.moved (nice_dmv hR) (Below.refl _ _).drew) nb x HNS.out.1 hx HE1.out (by omega)).mono ?_
         rintro e wa1 ⟨rfl, ha⟩
         have hsa := dmv_see ha
         have q0 := hsa.c0
         have q1 := hsa.c1
         have HA1 := Lib.hid ha
         clear ha hsa)
      | (go_at_call 109
         refine (done_mdl (Nice.star (nice_disk _ _) hR) HA1.out.left r1).mono ?_
         rintro e wb1 ⟨rfl, hb⟩
         have hsb := dmv_see hb.left
         have p0 := hsb.c0
         have p1 := hsb.c1
         have HB1 := Lib.hid hb.left
         clear hb hsb))
  all_goals
    by_cases hr1 : r1 = 0
    · subst hr1
      have hb1 := HB1.out
      rw [did_zero] at hb1
      have HC1 := Lib.hid hb1
      clear hb1 HB1 HA1 H
      obtain ⟨⟨r2, d2⟩, he2⟩ : ∃ p, d1.sync nb.data.toList = p := ⟨_, rfl⟩
      have hw2 : d2.wt < 1073741802 := by
        have := sync_wt (dr_ok HC1.out) nb.data.toList
        rw [he2] at this
        simp only at this
        omega
      have HE2 := Lib.hid he2
      clear he2
      go_upto_region 4 with fail
      go_region_held3 (fun w' => w'.cell? ⟨bm, 0, none⟩ = some (.pointer (some ⟨bd, 0, none⟩)) ∧ w'.cell? ⟨bm, 1, none⟩ = some (.string n)) (go_keep)
        (first
          | (go_at_call 57
             refine (dr_sync (Nice.star (nice_mdlv _ _ _ _ _ _) hR) (HC1.out.moved (nice_dmv hR) (Below.refl _ _).drew) nb HNS.out.1 HE2.out (by omega)).mono ?_
             rintro e wa2 ⟨rfl, ha⟩
             have hsa := dmv_see ha
             have q0 := hsa.c0
             have q1 := hsa.c1
             have HA2 := Lib.hid ha
             clear ha hsa)
          | (go_at_call 109
             refine (done_mdl (Nice.star (nice_disk _ _) hR) HA2.out.left r2).mono ?_
             rintro e wb2 ⟨rfl, hb⟩
             have hsb := dmv_see hb.left
             have p0 := hsb.c0
             have p1 := hsb.c1
             have HB2 := Lib.hid hb.left
             clear hb hsb))
      all_goals
        by_cases hr2 : r2 = 0
        · subst hr2
          have hb2 := HB2.out
          rw [did_zero] at hb2
          have HC2 := Lib.hid hb2
          clear hb2 HB2 HA2 HC1
          obtain ⟨⟨r3, d3⟩, he3⟩ : ∃ p, d2.rename nb.data.toList lb.data.toList = p := ⟨_, rfl⟩
          have hw3 : d3.wt < 1073741803 := by
            have := rename_wt (dr_ok HC2.out) nb.data.toList lb.data.toList
            rw [he3] at this
            simp only at this
            omega
          have HE3 := Lib.hid he3
          clear he3
          go_upto_region 7 with fail
          go_region_held3 (fun w' => w'.cell? ⟨bm, 0, none⟩ = some (.pointer (some ⟨bd, 0, none⟩)) ∧ w'.cell? ⟨bm, 1, none⟩ = some (.string n)) (go_keep)
            (first
              | (go_at_call 108
                 refine (dr_rename (Nice.star (nice_mdlv _ _ _ _ _ _) hR) (HC2.out.moved (nice_dmv hR) (Below.refl _ _).drew) nb lb HNS.out.1 HNS.out.2 HE3.out (by omega)).mono ?_
                 rintro e wa3 ⟨rfl, ha⟩
                 have hsa := dmv_see ha
                 have q0 := hsa.c0
                 have q1 := hsa.c1
                 have HA3 := Lib.hid ha
                 clear ha hsa)
              | (go_at_call 109
                 refine (done_mdl (Nice.star (nice_disk _ _) hR) HA3.out.left r3).mono ?_
                 rintro e wb3 ⟨rfl, hb⟩
                 have hsb := dmv_see hb.left
                 have p0 := hsb.c0
                 have p1 := hsb.c1
                 have HB3 := Lib.hid hb.left
                 clear hb hsb))
          all_goals
            by_cases hr3 : r3 = 0
            · subst hr3
              have hb3 := HB3.out
              rw [did_zero] at hb3
              have HC3 := Lib.hid hb3
              clear hb3 HB3 HA3 HC2
              obtain ⟨⟨r4, d4⟩, he4⟩ : ∃ p, d3.publish = p := ⟨_, rfl⟩
              have hw4 : d4.wt < 1073741804 := by
                have := publish_wt (dr_ok HC3.out)
                rw [he4] at this
                simp only at this
                omega
              have HE4 := Lib.hid he4
              clear he4
              go_wp2_with fail
              refine (dr_publish (Nice.star (nice_mdlv _ _ _ _ _ _) hR) HC3.out HE4.out (by omega)).mono ?_
              rintro e wa4 ⟨rfl, ha⟩
              have HA4 := Lib.hid ha.left
              clear ha
              go_wp2_with fail
              refine (done_mdl (Nice.star (nice_disk _ _) hR) HA4.out r4).mono ?_
              rintro e wb4 ⟨rfl, hb⟩
              have HB4 := Lib.hid hb.left
              clear hb HA4
              go_wp2_with fail
              go_ret
              have hz : Z = (r4, j.did r4, d4) := by
                rw [← HZ.out]
                by_cases hr : r4 = 0
                · subst hr
                  rw [did_zero]
                  simp [Jnl.run, Jnl.appends, Jnl.syncs, Jnl.renames, Jnl.publishes, HE1.out, HE2.out, HE3.out, HE4.out]
                · simp [Jnl.run, Jnl.appends, Jnl.syncs, Jnl.renames, Jnl.publishes, HE1.out, HE2.out, HE3.out, HE4.out, hr]
              rw [hz]
              exact ⟨rfl, HB4.out⟩
            · have hr' : (r3 != 0) = true := by simpa using hr3
              go_wp2_with fail
              go_ret
              have hz : Z = (r3, j.did r3, d3) := by
                rw [← HZ.out]
                simp [Jnl.run, Jnl.appends, Jnl.syncs, Jnl.renames, HE1.out, HE2.out, HE3.out, hr3]
              rw [hz]
              exact ⟨rfl, HB3.out⟩
        · have hr' : (r2 != 0) = true := by simpa using hr2
          go_wp2_with fail
          go_ret
          have hz : Z = (r2, j.did r2, d2) := by
            rw [← HZ.out]
            simp [Jnl.run, Jnl.appends, Jnl.syncs, HE1.out, HE2.out, hr2]
          rw [hz]
          exact ⟨rfl, HB2.out⟩
    · have hr' : (r1 != 0) = true := by simpa using hr1
      go_wp2_with fail
      go_ret
      have hz : Z = (r1, j.did r1, d1) := by
        rw [← HZ.out]
        simp [Jnl.run, Jnl.appends, HE1.out, hr1]
      rw [hz]
      exact ⟨rfl, HB1.out⟩
theorem lreplace_any (hR : Nice R) (h : DM R w0 w bd d bm n j) (x : ByteArray) (hx : x.size ≤ 1073741824) (hn : n.size ≤ 1048576) (hw : d.wt < 1073741800) {Z : Int × J × M} (hZ : Jnl.run (Jnl.replaceSteps n.data.toList x.data.toList) j d = Z) :
    Calls Tryz.prog 90 #[pm bm, .string x] w fun e w' => e = .returned (.int .i64 Z.1) ∧ DM R w0 w' bd Z.2.2 bm n Z.2.1 := by
  obtain ⟨vr, vp, h1⟩ := dm_open h
  exact (lreplace_v hR h1 x hx hn hw hZ).mono fun _ _ ⟨a, b⟩ => ⟨a, dmv_dm b⟩
end
end Go.Proofs.YtlhnjdoicolkkaaGreatDoor
