/- The steps that a journal performs upon its disk: the walks of the closures. -/
import Derived.Test.YtlhnjdoicolkkaaGreatDoorJMut
import Derived.Deep.RegionHeld3
set_option maxRecDepth 100000
namespace Go.Proofs.YtlhnjdoicolkkaaGreatDoor
open Go.RowKit Go.Dsk Go.Maps Go.WideMaps
set_option maxHeartbeats 2000000
open Jnl (J)

/-- A variable that closures share. -/
def BoxP (b : Nat) (v : Value) (t : TypeId) : SP := fun S w => (∀ i, S i ↔ i = b) ∧ w.heap[b]? = some (.cells #[v] t (0, 0))
theorem nice_box (b : Nat) (v : Value) (t : TypeId) : Nice (BoxP b v t) where
  lt h i hi := by rw [(h.1 i).1 hi]; exact lt_of_block h.2
  keep h hf hd := ⟨h.1, (hf.block b (lt_of_block h.2) (.inl (hd b ((h.1 b).2 rfl)))).trans h.2⟩
theorem sync_wt {m : M} (h : m.Ok) (a : Bs) : (m.sync a).2.wt ≤ m.wt + 1 := by have := actOn_wt h 1 a [] 0 []; simpa [M.actOn] using this
theorem rename_wt {m : M} (h : m.Ok) (a b : Bs) : (m.rename a b).2.wt ≤ m.wt + 1 := by have := actOn_wt h 2 a b 0 []; simpa [M.actOn] using this
theorem remove_wt {m : M} (h : m.Ok) (a : Bs) : (m.remove a).2.wt ≤ m.wt + 1 := by have := actOn_wt h 3 a [] 0 []; simpa [M.actOn] using this
theorem publish_wt {m : M} (h : m.Ok) : m.publish.2.wt ≤ m.wt + 1 := by have := actOn_wt h 4 [] [] 0 []; simpa [M.actOn] using this
theorem log_size (n : ByteArray) : (⟨(Jnl.logName n.data.toList).toArray⟩ : ByteArray).size = n.size + 4 := by rw [← ba_log, ByteArray.size_append]; rfl
theorem new_size (n : ByteArray) : (⟨(Jnl.newName n.data.toList).toArray⟩ : ByteArray).size = n.size + 4 := by rw [← ba_new, ByteArray.size_append]; rfl

section
variable {w0 w : World} {bj bd b1 b2 : Nat} {n x : ByteArray} {j : J} {d : M} {R : SP}
abbrev pj (bj : Nat) : Value := .pointer (some ⟨bj, 0, none⟩)
/-- A disk, its journal, a variable that holds the journal, and R beside them. -/
abbrev Jd (R : SP) (w0 w : World) (bd : Nat) (d : M) (bj : Nat) (n : ByteArray) (j : J) (b1 : Nat) : Prop := Has w0 w (Star (DiskP bd d) (Star (JrnP bj bd n j) (Star (BoxP b1 (pj bj) 43) R)))
theorem nice_jd (hR : Nice R) : Nice (Star (DiskP bd d) (Star (JrnP bj bd n j) (Star (BoxP b1 (pj bj) 43) R))) := Nice.star (nice_disk _ _) (Nice.star (nice_jrn _ _ _ _) (Nice.star (nice_box _ _ _) hR))
theorem nice_jd2 (hR : Nice R) : Nice (Star (JrnP bj bd n j) (Star (BoxP b1 (pj bj) 43) R)) := Nice.star (nice_jrn _ _ _ _) (Nice.star (nice_box _ _ _) hR)
theorem jd_see (h : Jd R w0 w bd d bj n j b1) : w.cell? ⟨b1, 0, none⟩ = some (pj bj) ∧ w.cell? ⟨bj, 0, none⟩ = some (.pointer (some ⟨bd, 0, none⟩)) ∧ w.cell? ⟨bj, 1, none⟩ = some (.string n) := by
  have h2 := h.left
  have hb : w.cell? ⟨b1, 0, none⟩ = some (pj bj) := by
    obtain ⟨_, U, _, S, T, _, _, _, S2, T2, _, _, _, S3, T3, _, _, hb, _⟩ := h
    have := block_cell hb.2 0
    simpa using this
  obtain ⟨vr, vp, hs⟩ := jr_see h2
  exact ⟨hb, hs.c0, hs.c1⟩
theorem jd_moved {w' : World} (hR : Nice R) (h : Jd R w0 w bd d bj n j b1) (hb : Below w.heap.size w w') : Jd R w0 w' bd d bj n j b1 := h.moved (nice_jd hR) hb
theorem box_see (h : Jd (Star (BoxP b2 (.string x) 9) R) w0 w bd d bj n j b1) : w.cell? ⟨b2, 0, none⟩ = some (.string x) := by
  obtain ⟨_, U, _, S, T, _, _, _, S2, T2, _, _, _, S3, T3, _, _, _, S4, T4, _, _, hb, _⟩ := h
  have := block_cell hb.2 0
  simpa using this
theorem repA_any (hR : Nice R) (h : Jd (Star (BoxP b2 (.string x) 9) R) w0 w bd d bj n j b1) (hn : n.size ≤ 1048576) (hx : x.size ≤ 1073741824) (hw : d.wt < 1073741822) {r : Int} {d' : M} (he : d.append (Jnl.newName n.data.toList) x.data.toList = (r, d')) :
    Calls Tryz.prog 105 #[.pointer (some ⟨b1, 0, none⟩), .pointer (some ⟨b2, 0, none⟩)] w fun e w' => e = .returned (.int .i64 r) ∧ Jd (Star (BoxP b2 (.string x) 9) R) w0 w' bd d' bj n j b1 := by
  have HN : Nice (Star (BoxP b2 (.string x) 9) R) := Nice.star (nice_box _ _ _) hR
  obtain ⟨k1, k2, k3⟩ := jd_see h
  have k4 := box_see h
  have hw2 := append_wt d (Jnl.newName n.data.toList) x.data.toList
  rw [he] at hw2
  have hw3 : d'.wt < 1073741823 := by simp only at hw2; omega
  have H := Lib.hid h
  have HE := Lib.hid he
  have hns := new_size n
  have hns2 : (⟨(Jnl.newName n.data.toList).toArray⟩ : ByteArray).size ≤ 1073741824 := by omega
  have HNS := Lib.hid hns2
  clear h he hw2 hns hns2
  go_enter Tryz.func105, Tryz.ntmps105
  go_upto_region 1 with fail
  go_region_held3 (fun w' => w'.cell? ⟨b1, 0, none⟩ = some (pj bj) ∧ w'.cell? ⟨bj, 0, none⟩ = some (.pointer (some ⟨bd, 0, none⟩)) ∧ w'.cell? ⟨b2, 0, none⟩ = some (.string x)) (go_keep)
    (first
      | (go_at_call 63
         refine (jnext_any (by exact k3) hn).mono ?_
         rintro e w3 ⟨rfl, rfl⟩)
      | (go_at_call 53
         refine (dr_append (nice_jd2 HN) (jd_moved HN H.out (Below.refl _ _).drew) ⟨(Jnl.newName n.data.toList).toArray⟩ x HNS.out hx HE.out hw3).mono ?_
         rintro e w4 ⟨rfl, h4⟩
         obtain ⟨q1, q2, q3⟩ := jd_see h4
         have q4 := box_see h4
         have H4 := Lib.hid h4
         clear h4))
  all_goals
    go_wp2_with fail
    go_ret
    exact ⟨rfl, H4.out⟩
theorem repB_any (hR : Nice R) (h : Jd R w0 w bd d bj n j b1) (hn : n.size ≤ 1048576) (hw : d.wt < 1073741822) {r : Int} {d' : M} (he : d.sync (Jnl.newName n.data.toList) = (r, d')) :
    Calls Tryz.prog 106 #[.pointer (some ⟨b1, 0, none⟩)] w fun e w' => e = .returned (.int .i64 r) ∧ Jd R w0 w' bd d' bj n j b1 := by
  obtain ⟨k1, k2, k3⟩ := jd_see h
  have hw2 := sync_wt (dr_ok h) (Jnl.newName n.data.toList)
  rw [he] at hw2
  have hw3 : d'.wt < 1073741823 := by simp only at hw2; omega
  have H := Lib.hid h
  have HE := Lib.hid he
  have hns := new_size n
  have hls := log_size n
  have hns2 : (⟨(Jnl.newName n.data.toList).toArray⟩ : ByteArray).size ≤ 1073741824 := by omega
  have hls2 : (⟨(Jnl.logName n.data.toList).toArray⟩ : ByteArray).size ≤ 1073741824 := by omega
  have HNS := Lib.hid (And.intro hns2 hls2)
  clear h he hw2 hns hns2 hls hls2
  go_enter Tryz.func106, Tryz.ntmps106
  go_upto_region 1 with fail
  go_region_held3 (fun w' => w'.cell? ⟨b1, 0, none⟩ = some (pj bj) ∧ w'.cell? ⟨bj, 0, none⟩ = some (.pointer (some ⟨bd, 0, none⟩))) (go_keep)
    (first
      | (go_at_call 63
         refine (jnext_any (by exact k3) hn).mono ?_
         rintro e w3 ⟨rfl, rfl⟩)
      | (go_at_call 57
         refine (dr_sync (nice_jd2 hR) (jd_moved hR H.out (Below.refl _ _).drew) ⟨(Jnl.newName n.data.toList).toArray⟩ HNS.out.1 HE.out hw3).mono ?_
         rintro e w4 ⟨rfl, h4⟩
         obtain ⟨q1, q2, q3⟩ := jd_see h4
         have H4 := Lib.hid h4
         clear h4))
  all_goals
    go_wp2_with fail
    go_ret
    exact ⟨rfl, H4.out⟩
theorem repC_any (hR : Nice R) (h : Jd R w0 w bd d bj n j b1) (hn : n.size ≤ 1048576) (hw : d.wt < 1073741822) {r : Int} {d' : M} (he : d.rename (Jnl.newName n.data.toList) (Jnl.logName n.data.toList) = (r, d')) :
    Calls Tryz.prog 107 #[.pointer (some ⟨b1, 0, none⟩)] w fun e w' => e = .returned (.int .i64 r) ∧ Jd R w0 w' bd d' bj n j b1 := by
  obtain ⟨k1, k2, k3⟩ := jd_see h
  have hw2 := rename_wt (dr_ok h) (Jnl.newName n.data.toList) (Jnl.logName n.data.toList)
  rw [he] at hw2
  have hw3 : d'.wt < 1073741823 := by simp only at hw2; omega
  have H := Lib.hid h
  have HE := Lib.hid he
  have hns := new_size n
  have hls := log_size n
  have hns2 : (⟨(Jnl.newName n.data.toList).toArray⟩ : ByteArray).size ≤ 1073741824 := by omega
  have hls2 : (⟨(Jnl.logName n.data.toList).toArray⟩ : ByteArray).size ≤ 1073741824 := by omega
  have HNS := Lib.hid (And.intro hns2 hls2)
  clear h he hw2 hns hns2 hls hls2
  go_enter Tryz.func107, Tryz.ntmps107
  go_upto_region 1 with fail
  go_region_held3 (fun w' => w'.cell? ⟨b1, 0, none⟩ = some (pj bj) ∧ w'.cell? ⟨bj, 0, none⟩ = some (.pointer (some ⟨bd, 0, none⟩))) (go_keep)
    (first
      | (go_at_call 63
         refine (jnext_any (by exact k3) hn).mono ?_
         rintro e w3 ⟨rfl, rfl⟩)
      | (go_at_call 54
         refine (jfile_any (by exact k3) hn).mono ?_
         rintro e w3 ⟨rfl, rfl⟩)
      | (go_at_call 108
         refine (dr_rename (nice_jd2 hR) (jd_moved hR H.out (Below.refl _ _).drew) ⟨(Jnl.newName n.data.toList).toArray⟩ ⟨(Jnl.logName n.data.toList).toArray⟩ HNS.out.1 HNS.out.2 HE.out hw3).mono ?_
         rintro e w4 ⟨rfl, h4⟩
         obtain ⟨q1, q2, q3⟩ := jd_see h4
         have H4 := Lib.hid h4
         clear h4))
  all_goals
    go_wp2_with fail
    go_ret
    exact ⟨rfl, H4.out⟩
theorem comB_any (hR : Nice R) (h : Jd R w0 w bd d bj n j b1) (hn : n.size ≤ 1048576) (hw : d.wt < 1073741822) {r : Int} {d' : M} (he : d.sync (Jnl.logName n.data.toList) = (r, d')) :
    Calls Tryz.prog 56 #[.pointer (some ⟨b1, 0, none⟩)] w fun e w' => e = .returned (.int .i64 r) ∧ Jd R w0 w' bd d' bj n j b1 := by
  obtain ⟨k1, k2, k3⟩ := jd_see h
  have hw2 := sync_wt (dr_ok h) (Jnl.logName n.data.toList)
  rw [he] at hw2
  have hw3 : d'.wt < 1073741823 := by simp only at hw2; omega
  have H := Lib.hid h
  have HE := Lib.hid he
  have hns := new_size n
  have hls := log_size n
  have hns2 : (⟨(Jnl.newName n.data.toList).toArray⟩ : ByteArray).size ≤ 1073741824 := by omega
  have hls2 : (⟨(Jnl.logName n.data.toList).toArray⟩ : ByteArray).size ≤ 1073741824 := by omega
  have HNS := Lib.hid (And.intro hns2 hls2)
  clear h he hw2 hns hns2 hls hls2
  go_enter Tryz.func56, Tryz.ntmps56
  go_upto_region 1 with fail
  go_region_held3 (fun w' => w'.cell? ⟨b1, 0, none⟩ = some (pj bj) ∧ w'.cell? ⟨bj, 0, none⟩ = some (.pointer (some ⟨bd, 0, none⟩))) (go_keep)
    (first
      | (go_at_call 54
         refine (jfile_any (by exact k3) hn).mono ?_
         rintro e w3 ⟨rfl, rfl⟩)
      | (go_at_call 57
         refine (dr_sync (nice_jd2 hR) (jd_moved hR H.out (Below.refl _ _).drew) ⟨(Jnl.logName n.data.toList).toArray⟩ HNS.out.2 HE.out hw3).mono ?_
         rintro e w4 ⟨rfl, h4⟩
         obtain ⟨q1, q2, q3⟩ := jd_see h4
         have H4 := Lib.hid h4
         clear h4))
  all_goals
    go_wp2_with fail
    go_ret
    exact ⟨rfl, H4.out⟩
theorem opA_any (hR : Nice R) (h : Jd R w0 w bd d bj n j b1) (hn : n.size ≤ 1048576) (hw : d.wt < 1073741822) {r : Int} {d' : M} (he : d.remove (Jnl.logName n.data.toList) = (r, d')) :
    Calls Tryz.prog 66 #[.pointer (some ⟨b1, 0, none⟩)] w fun e w' => e = .returned (.int .i64 r) ∧ Jd R w0 w' bd d' bj n j b1 := by
  obtain ⟨k1, k2, k3⟩ := jd_see h
  have hw2 := remove_wt (dr_ok h) (Jnl.logName n.data.toList)
  rw [he] at hw2
  have hw3 : d'.wt < 1073741823 := by simp only at hw2; omega
  have H := Lib.hid h
  have HE := Lib.hid he
  have hns := new_size n
  have hls := log_size n
  have hns2 : (⟨(Jnl.newName n.data.toList).toArray⟩ : ByteArray).size ≤ 1073741824 := by omega
  have hls2 : (⟨(Jnl.logName n.data.toList).toArray⟩ : ByteArray).size ≤ 1073741824 := by omega
  have HNS := Lib.hid (And.intro hns2 hls2)
  clear h he hw2 hns hns2 hls hls2
  go_enter Tryz.func66, Tryz.ntmps66
  go_upto_region 1 with fail
  go_region_held3 (fun w' => w'.cell? ⟨b1, 0, none⟩ = some (pj bj) ∧ w'.cell? ⟨bj, 0, none⟩ = some (.pointer (some ⟨bd, 0, none⟩))) (go_keep)
    (first
      | (go_at_call 54
         refine (jfile_any (by exact k3) hn).mono ?_
         rintro e w3 ⟨rfl, rfl⟩)
      | (go_at_call 64
         refine (dr_remove (nice_jd2 hR) (jd_moved hR H.out (Below.refl _ _).drew) ⟨(Jnl.logName n.data.toList).toArray⟩ HNS.out.2 HE.out hw3).mono ?_
         rintro e w4 ⟨rfl, h4⟩
         obtain ⟨q1, q2, q3⟩ := jd_see h4
         have H4 := Lib.hid h4
         clear h4))
  all_goals
    go_wp2_with fail
    go_ret
    exact ⟨rfl, H4.out⟩
theorem pub_any (hR : Nice R) (h : Jd R w0 w bd d bj n j b1) (hw : d.wt < 1073741822) {r : Int} {d' : M} (he : d.publish = (r, d')) :
    Calls Tryz.prog 58 #[.pointer (some ⟨bd, 0, none⟩)] w fun e w' => e = .returned (.int .i64 r) ∧ Jd R w0 w' bd d' bj n j b1 := by
  have hw2 := publish_wt (dr_ok h)
  rw [he] at hw2
  exact dr_publish (nice_jd2 hR) h he (by simp only at hw2; omega)
theorem Has.out4 {P Q T X : SP} (h : Has w0 w (Star P (Star Q (Star T (Star X R))))) : Has w0 w (Star X (Star P (Star Q (Star T R)))) :=
  (h.imp fun _ h => h.inner fun _ h => (h.inner fun _ h => h.left).left).left
theorem Has.in4 {P Q T X : SP} (h : Has w0 w (Star X (Star P (Star Q (Star T R))))) : Has w0 w (Star P (Star Q (Star T (Star X R)))) :=
  h.left.imp fun _ h => h.inner fun _ h => h.left.inner fun _ h => h.left
theorem bString_jd {l : Bs} {bb : Nat} (hR : Nice R) (h : Jd (Star (BldP bb l) R) w0 w bd d bj n j b1) :
    Calls Tryz.prog 55 #[.pointer (some ⟨bb, 0, none⟩)] w fun e w' => e = .returned (.string ⟨l.toArray⟩) ∧ Jd (Star (BldP bb l) R) w0 w' bd d bj n j b1 :=
  (Has.pair (h.out4.does (nice_jd hR) (Q := fun e S w => e = .returned (.string ⟨l.toArray⟩) ∧ BldP bb l S w) (fun S hS => (bString_any hS).mono fun _ _ ⟨a, b, c⟩ => ⟨S, fun _ => .inl, ⟨a, b⟩, c⟩))).mono fun _ _ ⟨a, b⟩ => ⟨a, b.in4⟩
theorem comA_any {l : Bs} {bb : Nat} (hR : Nice R) (h : Jd (Star (BldP bb l) R) w0 w bd d bj n j b1) (hn : n.size ≤ 1048576) (hx : l.length ≤ 1073741824) (hw : d.wt < 1073741822) {r : Int} {d' : M} (he : d.append (Jnl.logName n.data.toList) l = (r, d')) :
    Calls Tryz.prog 52 #[.pointer (some ⟨b1, 0, none⟩), .pointer (some ⟨bb, 0, none⟩)] w fun e w' => e = .returned (.int .i64 r) ∧ Jd (Star (BldP bb l) R) w0 w' bd d' bj n j b1 := by
  have HN : Nice (Star (BldP bb l) R) := Nice.star (nice_bld _ _) hR
  obtain ⟨k1, k2, k3⟩ := jd_see h
  have hw2 := append_wt d (Jnl.logName n.data.toList) l
  rw [he] at hw2
  have hw3 : d'.wt < 1073741823 := by simp only at hw2; omega
  have H := Lib.hid h
  have HE := Lib.hid he
  have hls := log_size n
  have hls2 : (⟨(Jnl.logName n.data.toList).toArray⟩ : ByteArray).size ≤ 1073741824 := by omega
  have HNS := Lib.hid hls2
  clear h he hw2 hls hls2
  go_enter Tryz.func52, Tryz.ntmps52
  go_upto_region 1 with fail
  go_region_held3 (fun w' => w'.cell? ⟨b1, 0, none⟩ = some (pj bj) ∧ w'.cell? ⟨bj, 0, none⟩ = some (.pointer (some ⟨bd, 0, none⟩)) ∧ w'.cell? ⟨bj, 1, none⟩ = some (.string n)) (go_keep)
    (first
      | (go_at_call 54
         refine (jfile_any (by first | exact k3 | exact p3) hn).mono ?_
         rintro e w5 ⟨rfl, rfl⟩)
      | (go_at_call 55
         refine (bString_jd hR (jd_moved HN H.out (Below.refl _ _).drew)).mono ?_
         rintro e w3 ⟨rfl, h3⟩
         obtain ⟨p1, p2, p3⟩ := jd_see h3
         have H3 := Lib.hid h3
         clear h3)
      | (go_at_call 53
         refine (dr_append (nice_jd2 HN) H3.out ⟨(Jnl.logName n.data.toList).toArray⟩ ⟨l.toArray⟩ HNS.out hx HE.out hw3).mono ?_
         rintro e w4 ⟨rfl, h4⟩
         obtain ⟨q1, q2, q3⟩ := jd_see h4
         have H4 := Lib.hid h4
         clear h4))
  all_goals
    go_wp2_with fail
    go_ret
    exact ⟨rfl, H4.out⟩
end
end Go.Proofs.YtlhnjdoicolkkaaGreatDoor
