/- Append, Rename and the others return the first error: the walk. -/
import Derived.Test.YtlhnjdoicolkkaaCalls
set_option maxRecDepth 100000
namespace Go.Dsk
theorem sync_wt {m : M} (h : m.Ok) (a : Bs) : (m.sync a).2.wt ≤ m.wt + 1 := by have := actOn_wt h 1 a [] 0 []; simpa [M.actOn] using this
theorem rename_wt {m : M} (h : m.Ok) (a b : Bs) : (m.rename a b).2.wt ≤ m.wt + 1 := by have := actOn_wt h 2 a b 0 []; simpa [M.actOn] using this
theorem remove_wt {m : M} (h : m.Ok) (a : Bs) : (m.remove a).2.wt ≤ m.wt + 1 := by have := actOn_wt h 3 a [] 0 []; simpa [M.actOn] using this
theorem publish_wt {m : M} (h : m.Ok) : m.publish.2.wt ≤ m.wt + 1 := by have := actOn_wt h 4 [] [] 0 []; simpa [M.actOn] using this
theorem sync_files (m : M) (a : Bs) : (m.sync a).2.files.length ≤ m.files.length + 1 := by have := actOn_files m 1 a [] 0 []; simpa [M.actOn] using this
theorem rename_files (m : M) (a b : Bs) : (m.rename a b).2.files.length ≤ m.files.length + 1 := by have := actOn_files m 2 a b 0 []; simpa [M.actOn] using this
theorem remove_files (m : M) (a : Bs) : (m.remove a).2.files.length ≤ m.files.length + 1 := by have := actOn_files m 3 a [] 0 []; simpa [M.actOn] using this
theorem publish_files (m : M) : m.publish.2.files.length ≤ m.files.length + 1 := by have := actOn_files m 4 [] [] 0 []; simpa [M.actOn] using this
theorem read_has (m : M) (n : Bs) : ((m.read n).2 == 0) = (!m.down && (find m.names n).isSome) := by
  unfold M.read
  cases m.down with
  | true => simp
  | false =>
    cases find m.names n with
    | none => simp
    | some k => simp
end Go.Dsk
namespace Go.Proofs.Ytlhnjdoicolkkaa
open Go.RowKit Go.Dsk Go.Maps Go.WideMaps
set_option maxHeartbeats 2000000

section
variable {R : SP} {w0 w : World} {bd p : Nat} {md mm : M}
theorem duo_append (hR : Nice R) (h : Duo R w0 w bd md p mm) (n d : ByteArray) (hs : n.size ≤ 1073741824) (hds : d.size ≤ 1073741824) {r : Int} {m' : M} (he : md.append n.data.toList d.data.toList = (r, m')) (hw : m'.wt < 1073741823) :
    Calls Try.prog 13 #[.pointer (some ⟨bd, 0, none⟩), .string n, .string d] w fun e w' => e = .returned (.int .i64 r) ∧ Duo R w0 w' bd m' p mm := dr_append (Nice.star (nice_mdl _ _) hR) h n d hs hds he hw
theorem duo_sync (hR : Nice R) (h : Duo R w0 w bd md p mm) (n : ByteArray) (hs : n.size ≤ 1073741824) {r : Int} {m' : M} (he : md.sync n.data.toList = (r, m')) (hw : m'.wt < 1073741823) :
    Calls Try.prog 15 #[.pointer (some ⟨bd, 0, none⟩), .string n] w fun e w' => e = .returned (.int .i64 r) ∧ Duo R w0 w' bd m' p mm := dr_sync (Nice.star (nice_mdl _ _) hR) h n hs he hw
theorem duo_rename (hR : Nice R) (h : Duo R w0 w bd md p mm) (a b : ByteArray) (hs : a.size ≤ 1073741824) (hds : b.size ≤ 1073741824) {r : Int} {m' : M} (he : md.rename a.data.toList b.data.toList = (r, m')) (hw : m'.wt < 1073741823) :
    Calls Try.prog 23 #[.pointer (some ⟨bd, 0, none⟩), .string a, .string b] w fun e w' => e = .returned (.int .i64 r) ∧ Duo R w0 w' bd m' p mm := dr_rename (Nice.star (nice_mdl _ _) hR) h a b hs hds he hw
theorem duo_remove (hR : Nice R) (h : Duo R w0 w bd md p mm) (n : ByteArray) (hs : n.size ≤ 1073741824) {r : Int} {m' : M} (he : md.remove n.data.toList = (r, m')) (hw : m'.wt < 1073741823) :
    Calls Try.prog 31 #[.pointer (some ⟨bd, 0, none⟩), .string n] w fun e w' => e = .returned (.int .i64 r) ∧ Duo R w0 w' bd m' p mm := dr_remove (Nice.star (nice_mdl _ _) hR) h n hs he hw
theorem duo_publish (hR : Nice R) (h : Duo R w0 w bd md p mm) {r : Int} {m' : M} (he : md.publish = (r, m')) (hw : m'.wt < 1073741823) :
    Calls Try.prog 14 #[.pointer (some ⟨bd, 0, none⟩)] w fun e w' => e = .returned (.int .i64 r) ∧ Duo R w0 w' bd m' p mm := dr_publish (Nice.star (nice_mdl _ _) hR) h he hw
theorem duo_mstep (hR : Nice R) (h : Duo R w0 w bd md p mm) {f : FuncId} {args : Array Value} {Q : Ending → Prop} {m' : M}
    (hc : ∀ T vf vn vd vp, MRep T w p vf vn vd vp mm → Calls Try.prog f args w fun e w' => Q e ∧ MAfter T w p m' w') : Calls Try.prog f args w fun e w' => Q e ∧ Duo R w0 w' bd md p m' :=
  (mr_step (Nice.star (nice_disk _ _) hR) h.left (fun T vf vn vd vp hr _ => hc T vf vn vd vp hr)).mono fun _ _ ⟨a, b⟩ => ⟨a, b.left⟩
theorem duo_mappend (hR : Nice R) (h : Duo R w0 w bd md p mm) (hok : mm.Ok) (hwt : mm.wt < 1073741821) (hfl : mm.files.length < 1073741822) (n d : ByteArray) (hs : n.size ≤ 1073741824) (hds : d.size ≤ 1073741824) {r : Int} {m' : M} (he : mm.append n.data.toList d.data.toList = (r, m')) :
    Calls Try.prog 28 #[.pointer (some ⟨p, 0, none⟩), .string n, .string d] w fun e w' => e = .returned (.int .i64 r) ∧ Duo R w0 w' bd md p m' :=
  duo_mstep hR h (fun T vf vn vd vp hr => by
    have := mappend_any hr hok hwt (by omega) n d (by unfold maxLen; omega) (by omega)
    rw [he] at this; exact this)
theorem duo_msync (hR : Nice R) (h : Duo R w0 w bd md p mm) (hok : mm.Ok) (hfl : mm.files.length < 1073741822) (n : ByteArray) {r : Int} {m' : M} (he : mm.sync n.data.toList = (r, m')) :
    Calls Try.prog 30 #[.pointer (some ⟨p, 0, none⟩), .string n] w fun e w' => e = .returned (.int .i64 r) ∧ Duo R w0 w' bd md p m' :=
  duo_mstep hR h (fun T vf vn vd vp hr => by
    have := msync_any hr hok (by omega) n
    rw [he] at this; exact this)
theorem duo_mrename (hR : Nice R) (h : Duo R w0 w bd md p mm) (hok : mm.Ok) (hwt : mm.wt < 1073741821) (a b : ByteArray) (hs : b.size ≤ 1073741824) {r : Int} {m' : M} (he : mm.rename a.data.toList b.data.toList = (r, m')) :
    Calls Try.prog 29 #[.pointer (some ⟨p, 0, none⟩), .string a, .string b] w fun e w' => e = .returned (.int .i64 r) ∧ Duo R w0 w' bd md p m' :=
  duo_mstep hR h (fun T vf vn vd vp hr => by
    have := mrename_any hr hok (by omega) a b (by unfold maxLen; omega)
    rw [he] at this; exact this)
theorem duo_mremove (hR : Nice R) (h : Duo R w0 w bd md p mm) (hok : mm.Ok) (hwt : mm.wt < 1073741821) (a : ByteArray) {r : Int} {m' : M} (he : mm.remove a.data.toList = (r, m')) :
    Calls Try.prog 32 #[.pointer (some ⟨p, 0, none⟩), .string a] w fun e w' => e = .returned (.int .i64 r) ∧ Duo R w0 w' bd md p m' :=
  duo_mstep hR h (fun T vf vn vd vp hr => by
    have := mremove_any hr hok (by omega) a
    rw [he] at this; exact this)
theorem duo_mpublish (hR : Nice R) (h : Duo R w0 w bd md p mm) (hok : mm.Ok) {r : Int} {m' : M} (he : mm.publish = (r, m')) :
    Calls Try.prog 35 #[.pointer (some ⟨p, 0, none⟩)] w fun e w' => e = .returned (.int .i64 r) ∧ Duo R w0 w' bd md p m' :=
  duo_mstep hR h (fun T vf vn vd vp hr => by
    have := mpublish_any hr hok
    rw [he] at this; exact this)
theorem duo_mhas (h : Duo R w0 w bd md p mm) (n : ByteArray) {b : Bool} (he : (!mm.down && (find mm.names n.data.toList).isSome) = b) :
    Calls Try.prog 34 #[.pointer (some ⟨p, 0, none⟩), .string n] w fun e w' => e = .returned (.bool b) ∧ w = w' :=
  duo_mdl h (fun T vf vn vd vp hr => by
    have := mhas_any hr n
    rw [he] at this; exact this)
end

theorem names_small {w : World} {name dst data : ByteArray} (hn : name.size ≤ 50) (ht : dst.size ≤ 50) (hd : data.size ≤ 50) :
    Calls Try.prog 8 #[.string name, .string dst, .string data] w fun e w' => e = .returned (.bool true) ∧ Below w.heap.size w w' := by
  go_enter Try.func8, Try.ntmps8
  go_wp2_with fail
  refine (known_any _).mono ?_
  rintro e v0 ⟨rfl, hb0⟩
  have HB0 := Lib.hid hb0
  clear hb0
  go_wp2_with fail
  refine (dr_new Nice.nil (Has.start HB0.out) 60 (by omega) (by omega)).mono ?_
  rintro e v1 ⟨bd, rfl, h⟩
  have D0 := Lib.hid (mr_new (nice_dn _ _) h 60).left
  obtain ⟨p, hp⟩ : ∃ p, p = v1.heap.size := ⟨_, rfl⟩
  have HPP := Lib.hid hp
  rw [← hp] at D0
  clear h hp
  have hw0 : (M.new 60).wt ≤ 0 := by simp [M.wt, M.new]
  have hf0 : (M.new 60).files.length ≤ 0 := by simp [M.new]
  generalize M.new 60 = m0 at D0 hw0 hf0
  have hw1 := append_wt m0 (⟨#[97, 46, 48, 45, 122]⟩ : ByteArray).data.toList (⟨#[102, 105, 114, 115, 116, 32, 98, 121, 116, 101, 115]⟩ : ByteArray).data.toList
  have hf1 := append_files m0 (⟨#[97, 46, 48, 45, 122]⟩ : ByteArray).data.toList (⟨#[102, 105, 114, 115, 116, 32, 98, 121, 116, 101, 115]⟩ : ByteArray).data.toList
  generalize hre1 : m0.append (⟨#[97, 46, 48, 45, 122]⟩ : ByteArray).data.toList (⟨#[102, 105, 114, 115, 116, 32, 98, 121, 116, 101, 115]⟩ : ByteArray).data.toList = q1 at hw1 hf1
  obtain ⟨r1, m1⟩ := q1
  simp only at hw1 hf1
  have HRE1 := Lib.hid hre1
  have t1 : (r1 != r1) = false := by simp
  clear hre1
  go_wp2_with fail
  rw [← HPP.out]
  refine (duo_append Nice.nil D0.out ⟨#[97, 46, 48, 45, 122]⟩ ⟨#[102, 105, 114, 115, 116, 32, 98, 121, 116, 101, 115]⟩ (by decide) (by decide) HRE1.out (by omega)).mono ?_
  rintro e w0a ⟨rfl, h⟩
  have D0a := Lib.hid h
  clear h
  go_wp2_with fail
  try rw [← HPP.out]
  refine (duo_mappend Nice.nil D0a.out (dr_ok D0.out) (by omega) (by omega) ⟨#[97, 46, 48, 45, 122]⟩ ⟨#[102, 105, 114, 115, 116, 32, 98, 121, 116, 101, 115]⟩ (by decide) (by decide) HRE1.out).mono ?_
  rintro e w0b ⟨rfl, h⟩
  have D1 := Lib.hid h
  clear h
  have hw2 := append_wt m1 name.data.toList data.data.toList
  have hf2 := append_files m1 name.data.toList data.data.toList
  generalize hre2 : m1.append name.data.toList data.data.toList = q2 at hw2 hf2
  obtain ⟨r2, m2⟩ := q2
  simp only at hw2 hf2
  have HRE2 := Lib.hid hre2
  have t2 : (r2 != r2) = false := by simp
  clear hre2
  go_wp2_with fail
  refine (duo_append Nice.nil D1.out name data (by omega) (by omega) HRE2.out (by omega)).mono ?_
  rintro e w1a ⟨rfl, h⟩
  have D1a := Lib.hid h
  clear h
  go_wp2_with fail
  refine (duo_mappend Nice.nil D1a.out (dr_ok D1.out) (by omega) (by omega) name data (by omega) (by omega) HRE2.out).mono ?_
  rintro e w1b ⟨rfl, h⟩
  have D2 := Lib.hid h
  clear h
  go_wp2_with fail
  refine (agrees_any Nice.nil D2.out (Same.refl _) (dr_ok D2.out) (by omega)).mono ?_
  rintro e w2c ⟨rfl, h⟩
  have D2c := Lib.hid h
  clear h D2
  have D2 := D2c
  clear D2c
  have hw3 := rename_wt (dr_ok D2.out) name.data.toList dst.data.toList
  have hf3 := rename_files m2 name.data.toList dst.data.toList
  generalize hre3 : m2.rename name.data.toList dst.data.toList = q3 at hw3 hf3
  obtain ⟨r3, m3⟩ := q3
  simp only at hw3 hf3
  have HRE3 := Lib.hid hre3
  have t3 : (r3 != r3) = false := by simp
  clear hre3
  go_wp2_with fail
  refine (duo_rename Nice.nil D2.out name dst (by omega) (by omega) HRE3.out (by omega)).mono ?_
  rintro e w2a ⟨rfl, h⟩
  have D2a := Lib.hid h
  clear h
  go_wp2_with fail
  refine (duo_mrename Nice.nil D2a.out (dr_ok D2.out) (by omega) name dst (by omega) HRE3.out).mono ?_
  rintro e w2b ⟨rfl, h⟩
  have D3 := Lib.hid h
  clear h
  go_wp2_with fail
  refine (agrees_any Nice.nil D3.out (Same.refl _) (dr_ok D3.out) (by omega)).mono ?_
  rintro e w3c ⟨rfl, h⟩
  have D3c := Lib.hid h
  clear h D3
  have D3 := D3c
  clear D3c
  have hw4 := sync_wt (dr_ok D3.out) dst.data.toList
  have hf4 := sync_files m3 dst.data.toList
  generalize hre4 : m3.sync dst.data.toList = q4 at hw4 hf4
  obtain ⟨r4, m4⟩ := q4
  simp only at hw4 hf4
  have HRE4 := Lib.hid hre4
  have t4 : (r4 != r4) = false := by simp
  clear hre4
  go_wp2_with fail
  refine (duo_sync Nice.nil D3.out dst (by omega) HRE4.out (by omega)).mono ?_
  rintro e w3a ⟨rfl, h⟩
  have D3a := Lib.hid h
  clear h
  go_wp2_with fail
  refine (duo_msync Nice.nil D3a.out (dr_ok D3.out) (by omega) dst HRE4.out).mono ?_
  rintro e w3b ⟨rfl, h⟩
  have D4 := Lib.hid h
  clear h
  have hw5 := remove_wt (dr_ok D4.out) name.data.toList
  have hf5 := remove_files m4 name.data.toList
  generalize hre5 : m4.remove name.data.toList = q5 at hw5 hf5
  obtain ⟨r5, m5⟩ := q5
  simp only at hw5 hf5
  have HRE5 := Lib.hid hre5
  have t5 : (r5 != r5) = false := by simp
  clear hre5
  go_wp2_with fail
  refine (duo_remove Nice.nil D4.out name (by omega) HRE5.out (by omega)).mono ?_
  rintro e w4a ⟨rfl, h⟩
  have D4a := Lib.hid h
  clear h
  go_wp2_with fail
  refine (duo_mremove Nice.nil D4a.out (dr_ok D4.out) (by omega) name HRE5.out).mono ?_
  rintro e w4b ⟨rfl, h⟩
  have D5 := Lib.hid h
  clear h
  go_wp2_with fail
  refine (agrees_any Nice.nil D5.out (Same.refl _) (dr_ok D5.out) (by omega)).mono ?_
  rintro e w5c ⟨rfl, h⟩
  have D5c := Lib.hid h
  clear h D5
  have D5 := D5c
  clear D5c
  have e1 := read_has m5 name.data.toList
  have e2 := read_has m5 dst.data.toList
  have hr1 : m5.read name.data.toList = m5.read name.data.toList := rfl
  generalize hq1 : m5.read name.data.toList = q1 at e1
  generalize hq2 : m5.read dst.data.toList = q2 at e2
  obtain ⟨b1, s1⟩ := q1
  obtain ⟨b2, s2⟩ := q2
  simp only at e1 e2
  have hc1 := dr_size D5.out name (by omega) hq1
  have hc2 := dr_read D5.out dst (by omega) hq2
  have hc3 := duo_mhas D5.out name e1.symm
  have hc4 := duo_mhas D5.out dst e2.symm
  have HC1 := Lib.hid hc1
  have HC2 := Lib.hid hc2
  have HC3 := Lib.hid hc3
  have HC4 := Lib.hid hc4
  have t6 : ((s1 == 0) == (s1 == 0)) = true := by simp
  have t7 : ((s2 == 0) == (s2 == 0)) = true := by simp
  clear e1 e2 hr1 hq1 hq2 hc1 hc2 hc3 hc4
  go_wp2_with fail
  refine HC1.out.mono ?_
  rintro e w' ⟨rfl, rfl⟩
  go_wp2_with fail
  refine HC2.out.mono ?_
  rintro e w' ⟨rfl, rfl⟩
  go_wp2_with fail
  refine HC3.out.mono ?_
  rintro e w' ⟨rfl, rfl⟩
  go_wp2_with fail
  refine HC4.out.mono ?_
  rintro e w' ⟨rfl, rfl⟩
  have hw6 := publish_wt (dr_ok D5.out)
  have hf6 := publish_files m5
  generalize hre6 : m5.publish = q6 at hw6 hf6
  obtain ⟨r6, m6⟩ := q6
  simp only at hw6 hf6
  have HRE6 := Lib.hid hre6
  have t6 : (r6 != r6) = false := by simp
  clear hre6
  go_wp2_with fail
  refine (duo_publish Nice.nil D5.out  HRE6.out (by omega)).mono ?_
  rintro e w5a ⟨rfl, h⟩
  have D5a := Lib.hid h
  clear h
  go_wp2_with fail
  refine (duo_mpublish Nice.nil D5a.out (dr_ok D5.out) HRE6.out).mono ?_
  rintro e w5b ⟨rfl, h⟩
  have D6 := Lib.hid h
  clear h
  go_wp2_with fail
  refine (agrees_any Nice.nil D6.out (Same.refl _) (dr_ok D6.out) (by omega)).mono ?_
  rintro e w6c ⟨rfl, h⟩
  have D6c := Lib.hid h
  clear h D6
  have D6 := D6c
  clear D6c
  go_wp2_with fail
  go_ret
  exact ⟨rfl, D6.out.below⟩

theorem names_great {w : World} {name dst data : ByteArray} (hn : name.size ≤ maxLen) (ht : dst.size ≤ maxLen) (hd : data.size ≤ maxLen) (hg : ¬ (name.size ≤ 50 ∧ dst.size ≤ 50 ∧ data.size ≤ 50)) :
    Calls Try.prog 8 #[.string name, .string dst, .string data] w fun e w' => e = .returned (.bool true) ∧ Below w.heap.size w w' := by
  unfold maxLen at hn ht hd
  by_cases g1 : name.size ≤ 50
  · by_cases g2 : dst.size ≤ 50
    · have g3 : ¬ data.size ≤ 50 := fun h => hg ⟨g1, g2, h⟩
      clear hg
      go_enter Try.func8, Try.ntmps8
      go_wp2_with fail
      refine (known_any _).mono ?_
      rintro e v0 ⟨rfl, hb0⟩
      have HB0 := Lib.hid hb0
      clear hb0
      go_wp2_with fail
      refine (known_any _).mono ?_
      rintro e v1 ⟨rfl, hb1⟩
      have HB1 := Lib.hid hb1
      clear hb1
      go_wp2_with fail
      go_ret
      exact ⟨rfl, HB0.out.trans (HB1.out.mono HB0.out.size)⟩
    · clear hg
      go_enter Try.func8, Try.ntmps8
      go_wp2_with fail
      refine (known_any _).mono ?_
      rintro e v0 ⟨rfl, hb0⟩
      have HB0 := Lib.hid hb0
      clear hb0
      go_wp2_with fail
      refine (known_any _).mono ?_
      rintro e v1 ⟨rfl, hb1⟩
      have HB1 := Lib.hid hb1
      clear hb1
      go_wp2_with fail
      go_ret
      exact ⟨rfl, HB0.out.trans (HB1.out.mono HB0.out.size)⟩
  · clear hg
    go_enter Try.func8, Try.ntmps8
    go_wp2_with fail
    refine (known_any _).mono ?_
    rintro e v0 ⟨rfl, hb0⟩
    have HB0 := Lib.hid hb0
    clear hb0
    go_wp2_with fail
    refine (known_any _).mono ?_
    rintro e v1 ⟨rfl, hb1⟩
    have HB1 := Lib.hid hb1
    clear hb1
    go_wp2_with fail
    go_ret
    exact ⟨rfl, HB0.out.trans (HB1.out.mono HB0.out.size)⟩
theorem said_DiskNames (w : World) (name : ByteArray) (hn : name.size ≤ maxLen) (dst : ByteArray) (ht : dst.size ≤ maxLen) (data : ByteArray) (hd : data.size ≤ maxLen) :
    Calls Try.prog 8 #[.string name, .string dst, .string data] w fun e w' => e = .returned (.bool true) ∧ Below w.heap.size w w' := by
  by_cases h : name.size ≤ 50 ∧ dst.size ≤ 50 ∧ data.size ≤ 50
  · exact names_small h.1 h.2.1 h.2.2
  · exact names_great hn ht hd h
end Go.Proofs.Ytlhnjdoicolkkaa
