/- Open upon a disk without files. -/
import Derived.Test.YtlhnjdoicolkkaaGreatDoorJCommit
import Derived.Test.YtlhnjdoicolkkaaGreatDoorJName
import Derived.Test.YtlhnjdoicolkkaaGreatDoorPlain
set_option maxRecDepth 100000
namespace Go.Proofs.YtlhnjdoicolkkaaGreatDoor
open Go.RowKit Go.Dsk Go.Maps Go.WideMaps
set_option maxHeartbeats 2000000
open Jnl (J)

section
variable {w0 w : World} {bd : Nat} {n : ByteArray} {d : M} {R : SP}
theorem jrn_new (hR : Nice R) (h : Dr R w0 w bd d) : DJ R w0 (w.alloc (.cells (jCells bd n Jnl.J.new (.slice none 0 0) (.slice none 0 0)) 86)) bd d w.heap.size n Jnl.J.new := by
  have hN : Nice (Star (DiskP bd d) R) := Nice.star (nice_disk _ _) hR
  have h1 := h.new hN ((Below.refl _ w).alloc (Nat.le_refl _) (.cells (jCells bd n Jnl.J.new (.slice none 0 0) (.slice none 0 0)) 86)) (P := JrnP w.heap.size bd n Jnl.J.new) (S := fun i => i = w.heap.size) (fun i hi => by rw [hi]; exact Nat.le_refl _)
    ⟨⟨by decide, by decide, by decide, by simp [Jnl.J.new], by simp [Jnl.J.new]⟩, .slice none 0 0, .slice none 0 0, fun i => i = w.heap.size, fun _ => False, fun i => by simp, fun _ _ h => h, ⟨fun i => Iff.rfl, heap_alloc_new w _⟩, fun _ => False, fun _ => False, fun i => by simp, fun _ h _ => h, str_nil _, str_nil _⟩
  exact h1.left
theorem Open_fresh (hR : Nice R) (h : Dr R w0 w bd d) (hd : d.down = false) (hl : d.list = []) (hs : n.size ≤ 1048576) (hn : Jnl.jname n.data.toList = true) :
    Calls Tryz.prog 27 #[.pointer (some ⟨bd, 0, none⟩), .string n] w fun e w' => ∃ bj, e = .returned (.tuple #[pj bj, .int .i64 0]) ∧ DJ R w0 w' bd d bj n Jnl.J.new := by
  have H := Lib.hid h
  have HD := Lib.hid hd
  have HL := Lib.hid hl
  have hnm := jisName_any n (by omega) w
  rw [hn] at hnm
  have hN : Nice (Star (DiskP bd d) R) := Nice.star (nice_disk _ _) hR
  clear h hd hl hn
  go_enter Tryz.func27, Tryz.ntmps27
  go_wp2_with fail
  refine hnm.mono ?_
  rintro e w1 ⟨rfl, hb1⟩
  have H1 := Lib.hid (H.out.moved hN hb1)
  clear hb1 hnm H
  go_wp2_with fail
  refine (dr_down H1.out HD.out).mono ?_
  rintro e w2 ⟨rfl, hw2⟩
  obtain rfl := hw2
  have hj := jrn_new (n := n) hR H1.out
  have HJ := Lib.hid hj
  clear hj H1
  have hbx := HJ.out.moved (nice_dj hR) ((Below.refl _ (w1.alloc (.cells (jCells bd n Jnl.J.new (.slice none 0 0) (.slice none 0 0)) 86))).alloc (Nat.le_refl _) (.cells #[pj w1.heap.size] 43))
  have hk : ((w1.alloc (.cells (jCells bd n Jnl.J.new (.slice none 0 0) (.slice none 0 0)) 86)).alloc (.cells #[pj w1.heap.size] 43)).cell? ⟨w1.heap.size + 1, 0, none⟩ = some (pj w1.heap.size) := by simp
  have hlt : w1.heap.size + 1 < ((w1.alloc (.cells (jCells bd n Jnl.J.new (.slice none 0 0) (.slice none 0 0)) 86)).alloc (.cells #[pj w1.heap.size] 43)).heap.size := by simp
  clear HJ
  have e1 : jCells bd n Jnl.J.new (.slice none 0 0) (.slice none 0 0) = #[.pointer (some ⟨bd, 0, none⟩), .string n, .int .i64 1, .slice none 0 0, .slice none 0 0, .bool false, .bool false] := rfl
  rw [e1] at hbx hk hlt
  go_upto_region 8 with fail
  generalize (w1.alloc (.cells #[.pointer (some ⟨bd, 0, none⟩), .string n, .int .i64 1, .slice none 0 0, .slice none 0 0, .bool false, .bool false] 86)).alloc (.cells #[pj w1.heap.size] 43) = wB at *
  generalize w1.heap.size + 1 = b1 at *
  generalize w1.heap.size = bj at *
  have hdn := dr_names hbx
  rw [HL.out] at hdn
  obtain ⟨vr, vp, hs1⟩ := jr_see hbx.left
  have c1 := hs1.c1
  have HDN := Lib.hid hdn
  have HBX := Lib.hid hbx
  have HLT := Lib.hid hlt
  have hbl := lt_of_block hs1.hd
  have HBL := Lib.hid hbl
  clear hdn hbx e1 hs1 hlt hbl
  go_wp2_with fail
  refine HDN.out.mono ?_
  rintro e w3 ⟨ao, cp, rfl, -, -, hb3⟩
  have k3 := (hb3.cell (p := ⟨b1, 0, none⟩) HLT.out).trans hk
  have c3 := (hb3.cell (p := ⟨bj, 1, none⟩) HBL.out).trans c1
  have H3 := Lib.hid (HBX.out.moved (nice_dj hR) hb3)
  clear hb3 hk c1 HBX HDN
  go_wp2_with fail
  refine (jnext_any c3 hs).mono ?_
  rintro e w4 ⟨rfl, hw4⟩
  obtain rfl := hw4.symm
  go_wp2_with fail
  refine (Tryz.slices_Contains_string_empty _ _ _ _).mono ?_
  rintro e w4 ⟨rfl, hw4⟩
  obtain rfl := hw4.symm
  go_wp2_with fail
  refine (jfile_any c3 hs).mono ?_
  rintro e w4 ⟨rfl, hw4⟩
  obtain rfl := hw4.symm
  go_wp2_with fail
  refine (Tryz.slices_Contains_string_empty _ _ _ _).mono ?_
  rintro e w4 ⟨rfl, hw4⟩
  obtain rfl := hw4.symm
  go_wp2_with fail
  go_ret2
  exact ⟨bj, rfl, H3.out⟩
end
end Go.Proofs.YtlhnjdoicolkkaaGreatDoor

/- The examples of the chapter that every statement asks first. -/
set_option maxRecDepth 100000
namespace Go.Proofs.YtlhnjdoicolkkaaGreatDoor
open Go.RowKit Go.Dsk Go.Maps Go.WideMaps
set_option maxHeartbeats 2000000
open Jnl (J)

theorem strs_one (w : World) (s : ByteArray) : StrsIn (w.alloc (.cells #[.string s] 9)) (.slice (some ⟨w.heap.size, 0, none⟩) 1 1) [s.data.toList] := by
  refine ⟨_, 1, rfl, Nat.le_refl _, by unfold maxLen; omega, fun _ => ⟨w.heap.size, 0, rfl, by simp, fun j hj => ?_⟩⟩
  have : j = 0 := by simp at hj; omega
  subst this
  have h := block_cell (heap_alloc_new w (.cells #[.string s] 9)) 0
  have e : strV s.data.toList = .string s := congrArg Value.string (ba_self s)
  rw [List.getD_cons_zero, e]
  simp
theorem jknown_any {w : World} (hg : Glob w) : Calls Tryz.prog 11 #[] w fun e w' => e = .returned (.bool true) ∧ Below w.heap.size w w' := by
  have HG := Lib.hid hg
  clear hg
  go_enter Tryz.func11, Tryz.ntmps11
  go_wp2_with fail
  refine (dr_new Nice.nil (Has.start (Below.refl _ w)) 1000 (by omega) (by omega)).mono ?_
  rintro e w1 ⟨bd, rfl, h1⟩
  have H1 := Lib.hid h1
  clear h1
  go_wp2_with fail
  refine (Open_fresh (n := ⟨#[106]⟩) Nice.nil H1.out rfl rfl (by decide) (by decide)).mono ?_
  rintro e w2 ⟨bj, rfl, h2⟩
  have H2 := Lib.hid h2
  clear h2 H1
  go_wp2_with fail
  have ha := JAppend_jr (Nice.star (nice_disk _ _) Nice.nil) H2.out.left ⟨#[120]⟩
  have ea : Jnl.J.append Jnl.J.new (⟨#[120]⟩ : ByteArray).data.toList = (1, 0, Jnl.J1) := Jnl.app1
  rw [ea] at ha
  refine ha.mono ?_
  rintro e w3 ⟨rfl, h3⟩
  have H3 := Lib.hid h3.left
  clear h3 H2 ha ea
  go_wp2_with fail
  have hc := Commit_any (n := ⟨#[106]⟩) Nice.nil HG.out H3.out (by decide) (by decide) (by decide)
  have ec : Jnl.J.commit (⟨#[106]⟩ : ByteArray).data.toList Jnl.J1 (M.new 1000) = (1, 0, Jnl.J2, Jnl.D2) := Jnl.commit_lit
  rw [ec] at hc
  refine hc.mono ?_
  rintro e w4 ⟨rfl, h4⟩
  have H4 := Lib.hid h4
  clear h4 H3 hc ec
  go_wp2_with fail
  have ha := JAppend_jr (Nice.star (nice_disk _ _) Nice.nil) H4.out.left ⟨#[121]⟩
  refine ha.mono ?_
  rintro e w5 ⟨rfl, h5⟩
  have h5 : Jr (Star (DiskP bd Jnl.D2) Nil) w w5 bj bd ⟨#[106]⟩ Jnl.J3 := h5
  have H5 := Lib.hid h5
  clear h5 H4 ha
  go_wp2_with fail
  obtain ⟨vr, vp, hs5⟩ := jr_see H5.out
  have hr := Records_any hs5 1 (by decide)
  rw [Jnl.rec_lit] at hr
  refine hr.mono ?_
  rintro e w6 ⟨v, rfl, hv, hb6⟩
  have hN : Nice (Star (JrnP bj bd ⟨#[106]⟩ Jnl.J3) (Star (DiskP bd Jnl.D2) Nil)) := Nice.star (nice_jrn _ _ _ _) (Nice.star (nice_disk _ _) Nice.nil)
  have H6 := Lib.hid (H5.out.moved hN hb6)
  have HV := Lib.hid hv
  clear hv hb6 hs5 hr H5
  go_wp2_with fail
  have hsc := Scan_any ⟨#[0, 0, 0, 1, 0, 50, 0, 50, 49, 0, 0, 0, 0, 0, 0, 0, 1, 63]⟩ (by decide) (HG.out.below H6.out.below)
  have esc : Jnl.scan (⟨#[0, 0, 0, 1, 0, 50, 0, 50, 49, 0, 0, 0, 0, 0, 0, 0, 1, 63]⟩ : ByteArray).data.toList = (1, [[]], 17) := Jnl.scan_lit
  rw [esc] at hsc
  refine hsc.mono ?_
  rintro e w7 ⟨v2, rfl, hv2, hb7⟩
  have H7 := Lib.hid (H6.out.moved hN hb7)
  have HV7 := Lib.hid (HV.out.below hb7)
  have HV2 := Lib.hid hv2.reads
  clear hv2 hb7 H6 HV hsc esc
  have hck := Check_any ⟨#[97]⟩ (by decide) w7
  have eck : Jnl.check (⟨#[97]⟩ : ByteArray).data.toList = 6422626 := Jnl.check_a
  rw [eck] at hck
  go_wp2_with fail
  refine hck.mono ?_
  rintro e w8 ⟨rfl, hw8⟩
  obtain rfl := hw8.symm
  clear hck eck
  go_wp2_with fail
  have hsm := same_any (HV7.out.below ((Below.refl _ w7).alloc (Nat.le_refl _) (.cells #[.string ⟨#[120]⟩] 9))) (strs_one w7 ⟨#[120]⟩)
  have esm : decide (([[120]] : List Bs) = [(⟨#[120]⟩ : ByteArray).data.toList]) = true := by decide
  rw [esm] at hsm
  refine hsm.mono ?_
  rintro e w9 ⟨rfl, q, hw9⟩
  have hb9 : Below w7.heap.size w7 w9 := by
    rw [hw9]
    exact ((Below.refl _ w7).alloc (Nat.le_refl _) (.cells #[.string ⟨#[120]⟩] 9)).trans ((below_drawn _ q).mono (by simp))
  have H9 := Lib.hid (H7.out.moved hN hb9)
  have HV9 := Lib.hid (HV2.out.below hb9)
  clear hb9 hw9 hsm esm H7 HV7 HV2
  go_wp2_with fail
  obtain ⟨vr3, vp3, hs9⟩ := jr_see H9.out
  have hp := Pending_any hs9
  have ep : (if Jnl.J3.broken then (0 : Int) else (Jnl.J3.pend.length : Int)) = 1 := by decide
  rw [ep] at hp
  refine hp.mono ?_
  rintro e w10 ⟨rfl, hw10⟩
  obtain rfl := hw10.symm
  clear hp ep hs9
  go_wp2_with fail
  have hsm := same_any (HV9.out.below ((Below.refl _ w9).alloc (Nat.le_refl _) (.cells #[.string ⟨#[]⟩] 9))) (strs_one w9 ⟨#[]⟩)
  have esm : decide (([[]] : List Bs) = [(⟨#[]⟩ : ByteArray).data.toList]) = true := by decide
  rw [esm] at hsm
  refine hsm.mono ?_
  rintro e w11 ⟨rfl, q2, hw11⟩
  have hb11 : Below w9.heap.size w9 w11 := by
    rw [hw11]
    exact ((Below.refl _ w9).alloc (Nat.le_refl _) (.cells #[.string ⟨#[]⟩] 9)).trans ((below_drawn _ q2).mono (by simp))
  have HB := Lib.hid (H9.out.below.trans (hb11.mono H9.out.below.size))
  clear hb11 hw11 hsm esm H9 HV9
  go_wp2_with fail
  go_ret
  exact ⟨rfl, HB.out⟩
end Go.Proofs.YtlhnjdoicolkkaaGreatDoor
