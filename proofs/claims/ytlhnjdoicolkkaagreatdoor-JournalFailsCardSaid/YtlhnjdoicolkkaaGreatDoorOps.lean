/- The operations of a disk: Rename, Remove, Sync, Publish and the small ones. -/
import Derived.Test.YtlhnjdoicolkkaaGreatDoorChange
set_option maxRecDepth 100000
namespace Go.Proofs.YtlhnjdoicolkkaaGreatDoor
open Go.RowKit Go.Dsk Go.Maps Go.WideMaps
set_option maxHeartbeats 400000

section
variable {loc : Nat → Nat} {S : Nat → Prop} {w : World} {bd bn bm : Nat} {sl : Value} {bs : List (Nat × Nat)} {lft : Int} {m : M}

theorem After.back {w2 w3 : World} {m' : M} (k : After S w2 bd m' w3) (f : Fr S w w2) : After S w bd m' w3 := by
  obtain ⟨S', h1, h2, h3⟩ := k
  exact ⟨S', fun i hi => (h1 i hi).imp id (fun h => Nat.le_trans f.size h), h2, f.trans h3⟩
theorem Rep.afterOf {w2 : World} (h : Rep loc S w2 bd bn bm sl bs lft m) (f : Fr S w w2) : After S w bd m w2 := h.after.back f
theorem Rep.below (h : Rep loc S w bd bn bm sl bs lft m) {w2 : World} (hb : Below w.heap.size w w2) : Rep loc S w2 bd bn bm sl bs lft m := h.keep (T := fun _ => False) (Fr.below hb) (fun _ _ => id)
theorem counted_wt (m : M) : m.counted.wt = m.wt := by unfold M.wt; rw [counted_durable, counted_pending]

theorem ready_up (h : Rep loc S w bd bn bm sl bs lft m) (hd : m.down = false) : Calls Tryz.prog 75 #[.pointer (some ⟨bd, 0, none⟩)] w fun e w' => e = .returned (.int .i64 0) ∧ w = w' := by
  have := ready_any h; rw [hd] at this; exact this
theorem ready_down (h : Rep loc S w bd bn bm sl bs lft m) (hd : m.down = true) : Calls Tryz.prog 75 #[.pointer (some ⟨bd, 0, none⟩)] w fun e w' => e = .returned (.int .i64 18) ∧ w = w' := by
  have := ready_any h; rw [hd] at this; exact this
theorem isName_is (s : ByteArray) (w : World) (hs : s.size ≤ maxLen) {b : Bool} (hb : isName s.data.toList = b) : Calls Tryz.prog 94 #[.string s] w fun e w' => e = .returned (.bool b) ∧ w = w' := by
  have := isName_any s w hs; rw [hb] at this; exact this
theorem fails_is (h : Rep loc S w bd bn bm sl bs lft m) {b : Bool} (hb : m.failing = b) : Calls Tryz.prog 96 #[.pointer (some ⟨bd, 0, none⟩)] w fun e w' => e = .returned (.bool b) ∧ (∃ lft', Rep loc S w' bd bn bm sl bs lft' m.counted) ∧ Fr S w w' := by
  have := fails_any h; rw [hb] at this; exact this

/-! ### Rename -/
theorem rename_down {m : M} (a b : Bs) (hd : m.down = true) : m.rename a b = (18, m) := by simp [M.rename, hd]
theorem rename_lost {m : M} (a b : Bs) (hd : m.down = false) (hf : find m.names a = none) : m.rename a b = (10, m) := by simp [M.rename, hd, hf]
theorem rename_bad {m : M} (a b : Bs) (hd : m.down = false) {k : Nat} (hf : find m.names a = some k) (hb : isName b = false) : m.rename a b = (11, m) := by simp [M.rename, hd, hf, hb]
theorem rename_ok {m : M} (a b : Bs) (hd : m.down = false) {k : Nat} (hf : find m.names a = some k) (hb : isName b = true) : m.rename a b = (outcome m.failing, m.counted.apply ⟨a, b, k⟩) := by simp [M.rename, hd, hf, hb]

theorem Rename_rep (h : Rep loc S w bd bn bm sl bs lft m) (hwt : m.wt < 1073741824) (a b : ByteArray) (ha : a.size ≤ maxLen) (hb : b.size ≤ maxLen) :
    Calls Tryz.prog 108 #[.pointer (some ⟨bd, 0, none⟩), .string a, .string b] w fun e w' => e = .returned (.int .i64 (m.rename a.data.toList b.data.toList).1) ∧ After S w bd (m.rename a.data.toList b.data.toList).2 w' := by
  have H := Lib.hid h
  have h1 := h.c1
  cases hd : m.down with
  | true =>
    rw [rename_down _ _ hd]
    have HD := Lib.hid hd
    clear h hd h1
    go_enter Tryz.func108, Tryz.ntmps108
    go_wp2_with (go_at_call 75; refine (ready_down H.out HD.out).mono ?_; rintro e w' ⟨rfl, rfl⟩)
    go_ret
    exact ⟨rfl, H.out.after⟩
  | false =>
    have HD := Lib.hid hd
    cases hf : find m.names a.data.toList with
    | none =>
      rw [rename_lost _ _ hd hf]
      have HF := Lib.hid hf
      clear h hd hf
      go_enter Tryz.func108, Tryz.ntmps108
      go_wp2_with (first
        | (go_at_call 75; refine (ready_up H.out HD.out).mono ?_; rintro e w' ⟨rfl, rfl⟩)
        | (at_lookup; refine wpList_dir_ok_none _ rfl _ _ rfl loc bn m.names H.out.hn a ha HF.out rfl rfl ?_)
        | go_in)
      go_ret
      exact ⟨rfl, H.out.after⟩
    | some k =>
      have HF := Lib.hid hf
      cases hn : isName b.data.toList with
      | false =>
        rw [rename_bad _ _ hd hf hn]
        have HN := Lib.hid hn
        clear h hd hf hn
        go_enter Tryz.func108, Tryz.ntmps108
        go_wp2_with (first
          | (go_at_call 75; refine (ready_up H.out HD.out).mono ?_; rintro e w' ⟨rfl, rfl⟩)
          | (at_lookup; refine wpList_dir_ok_some _ rfl _ _ rfl loc bn m.names H.out.hn a ha k HF.out rfl rfl ?_)
          | (go_at_call 94; refine (isName_is b _ hb HN.out).mono ?_; rintro e w' ⟨rfl, rfl⟩))
        go_ret
        exact ⟨rfl, H.out.after⟩
      | true =>
        rw [rename_ok _ _ hd hf hn]
        have HN := Lib.hid hn
        have hg := find_good h.ok.names hf
        have hc : ChOk m.counted.files.length m.counted.names ⟨a.data.toList, b.data.toList, k⟩ := by
          rw [counted_files, counted_names]
          exact ⟨.inr hg.1, .inr hn, fun _ => isName_ne hn, fun _ => hg.2, fun _ _ => hf⟩
        have HC := Lib.hid hc
        have HG := Lib.hid hg
        have hwc : m.counted.wt < 1073741824 := by rw [counted_wt]; exact hwt
        have HW := Lib.hid hwc
        clear h hd hf hn hg hc hwc hwt
        go_enter Tryz.func108, Tryz.ntmps108
        go_wp2_with (first
          | (go_at_call 75; refine (ready_up H.out HD.out).mono ?_; rintro e w' ⟨rfl, rfl⟩)
          | (at_lookup; refine wpList_dir_ok_some _ rfl _ _ rfl loc bn m.names H.out.hn a ha k HF.out rfl rfl ?_)
          | (go_at_call 94; refine (isName_is b _ hb HN.out).mono ?_; rintro e w' ⟨rfl, rfl⟩)
          | (go_at_call 96; refine (fails_any H.out).mono ?_; rintro e w1 ⟨rfl, ⟨lft1, hr1⟩, hfr1⟩; have H1 := Lib.hid hr1; clear hr1)
          | (go_at_call 126; refine (rename_any a b _).mono ?_; rintro e w2 ⟨rfl, hb1, hb2, hbl⟩; have HB := Lib.hid (And.intro hb1 hb2); clear hb1 hb2)
          | (go_at_call 97; refine (change_rename (H1.out.below hbl) a.data.toList b.data.toList k _ _ (isName_ne HG.out.1) (isName_ne HN.out) HB.out.1 HB.out.2 HC.out HW.out).mono ?_; rintro e w3 ⟨rfl, hA⟩; have HA := Lib.hid hA; clear hA)
          | (go_at_call 99; refine (outcome_any _ _).mono ?_; rintro e w' ⟨rfl, rfl⟩))
        go_ret
        exact ⟨rfl, HA.out.after.back (hfr1.trans (Fr.below hbl))⟩
end
end Go.Proofs.YtlhnjdoicolkkaaGreatDoor
