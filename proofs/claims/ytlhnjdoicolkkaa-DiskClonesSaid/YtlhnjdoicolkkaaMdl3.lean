/- The document's model: rename, remove, publish, the limit. -/
import Derived.Test.YtlhnjdoicolkkaaMdl2
set_option maxRecDepth 100000
namespace Go.Proofs.Ytlhnjdoicolkkaa
open Go.RowKit Go.Dsk Go.Maps Go.WideMaps
set_option maxHeartbeats 1000000

section
variable {T : Nat → Prop} {w : World} {p : Nat} {vf vn vd vp : Value} {m : M}
theorem mfails_is (h : MRep T w p vf vn vd vp m) (hok : m.Ok) {b : Bool} (hb : m.failing = b) : Calls Try.prog 54 #[.pointer (some ⟨p, 0, none⟩)] w fun e w' => e = .returned (.bool b) ∧ MRep T w' p vf vn vd vp m.counted ∧ Fr (fun i => i = p) w w' := by
  have := mfails_any h hok.lim0 hok.lim1
  rw [hb] at this
  exact this
theorem mrename_any (h : MRep T w p vf vn vd vp m) (hok : m.Ok) (hwt : m.wt < 1073741822) (a b : ByteArray) (hb : b.size ≤ maxLen) :
    Calls Try.prog 29 #[.pointer (some ⟨p, 0, none⟩), .string a, .string b] w fun e w' => e = .returned (.int .i64 (m.rename a.data.toList b.data.toList).1) ∧ MAfter T w p (m.rename a.data.toList b.data.toList).2 w' := by
  have H := Lib.hid h
  have HOK := Lib.hid hok
  have h2 := h.c2
  have h4 := h.c4
  have hfi := mfind_any h.hn a
  clear h hok
  cases hd : m.down with
  | true =>
    rw [rename_down _ _ hd]
    rw [hd] at h2
    have HFI := Lib.hid hfi
    clear hd hfi
    go_enter Try.func29, Try.ntmps29
    go_wp2_with (go_at_call 52; refine HFI.out.mono ?_; rintro e w' ⟨rfl, rfl⟩)
    go_ret
    exact ⟨rfl, H.out.after⟩
  | false =>
    have HD := Lib.hid hd
    rw [hd] at h2
    cases hf : find m.names a.data.toList with
    | none =>
      rw [rename_lost _ _ hd hf]
      rw [findI_neg hf] at hfi
      have HFI := Lib.hid hfi
      clear hd hf hfi
      go_enter Try.func29, Try.ntmps29
      go_wp2_with (go_at_call 52; refine HFI.out.mono ?_; rintro e w' ⟨rfl, rfl⟩)
      go_ret
      exact ⟨rfl, H.out.after⟩
    | some k =>
      rw [findI_pos hf] at hfi
      have HFI := Lib.hid hfi
      have HF := Lib.hid hf
      clear hfi
      cases hn : isName b.data.toList with
      | false =>
        rw [rename_bad _ _ hd hf hn]
        have HN := Lib.hid hn
        clear hd hf hn
        go_enter Try.func29, Try.ntmps29
        go_wp2_with (first
          | (go_at_call 52; refine HFI.out.mono ?_; rintro e w' ⟨rfl, rfl⟩)
          | (go_at_call 53; refine (misName_is b _ hb HN.out).mono ?_; rintro e w' ⟨rfl, rfl⟩))
        go_ret
        exact ⟨rfl, H.out.after⟩
      | true =>
        rw [rename_ok _ _ hd hf hn]
        have HN := Lib.hid hn
        have hwc : m.counted.wt < 1073741822 := by rw [counted_wt']; exact hwt
        clear hd hf hn
        go_enter Try.func29, Try.ntmps29
        go_wp2_with (first
          | (go_at_call 52; refine HFI.out.mono ?_; rintro e w' ⟨rfl, rfl⟩)
          | (go_at_call 53; refine (misName_is b _ hb HN.out).mono ?_; rintro e w' ⟨rfl, rfl⟩)
          | (go_at_call 54; refine (mfails_any H.out HOK.out.lim0 HOK.out.lim1).mono ?_; rintro e w1 ⟨rfl, hr1, hfr1⟩; have H1 := Lib.hid hr1; have HF1 := Lib.hid hfr1; clear hr1 hfr1)
          | (go_at_call 55; refine (mapply_any H1.out (counted_ok HOK.out) a b k hwc).mono ?_; rintro e w2 ⟨rfl, ha⟩; have HA := Lib.hid ha; clear ha)
          | (go_at_call 56; refine (moutcome_any _ _).mono ?_; rintro e w' ⟨rfl, rfl⟩))
        go_ret
        exact ⟨rfl, HA.out.back HF1.out⟩

theorem remove_down' {m : M} (a : Bs) (hd : m.down = true) : m.remove a = (18, m) := by simp [M.remove, hd]
theorem remove_lost' {m : M} (a : Bs) (hd : m.down = false) (hf : find m.names a = none) : m.remove a = (10, m) := by simp [M.remove, hd, hf]
theorem remove_ok' {m : M} (a : Bs) (hd : m.down = false) {k : Nat} (hf : find m.names a = some k) : m.remove a = (outcome m.failing, m.counted.apply ⟨a, [], 0⟩) := by simp [M.remove, hd, hf]
theorem mremove_any (h : MRep T w p vf vn vd vp m) (hok : m.Ok) (hwt : m.wt < 1073741822) (a : ByteArray) :
    Calls Try.prog 32 #[.pointer (some ⟨p, 0, none⟩), .string a] w fun e w' => e = .returned (.int .i64 (m.remove a.data.toList).1) ∧ MAfter T w p (m.remove a.data.toList).2 w' := by
  have H := Lib.hid h
  have HOK := Lib.hid hok
  have h2 := h.c2
  have h4 := h.c4
  have hfi := mfind_any h.hn a
  clear h hok
  cases hd : m.down with
  | true =>
    rw [remove_down' _ hd]
    rw [hd] at h2
    have HFI := Lib.hid hfi
    clear hd hfi
    go_enter Try.func32, Try.ntmps32
    go_wp2_with (go_at_call 52; refine HFI.out.mono ?_; rintro e w' ⟨rfl, rfl⟩)
    go_ret
    exact ⟨rfl, H.out.after⟩
  | false =>
    rw [hd] at h2
    cases hf : find m.names a.data.toList with
    | none =>
      rw [remove_lost' _ hd hf]
      rw [findI_neg hf] at hfi
      have HFI := Lib.hid hfi
      clear hd hf hfi
      go_enter Try.func32, Try.ntmps32
      go_wp2_with (go_at_call 52; refine HFI.out.mono ?_; rintro e w' ⟨rfl, rfl⟩)
      go_ret
      exact ⟨rfl, H.out.after⟩
    | some k =>
      rw [remove_ok' _ hd hf]
      rw [findI_pos hf] at hfi
      have HFI := Lib.hid hfi
      have hwc : m.counted.wt < 1073741822 := by rw [counted_wt']; exact hwt
      clear hfi hd hf
      go_enter Try.func32, Try.ntmps32
      go_wp2_with (first
        | (go_at_call 52; refine HFI.out.mono ?_; rintro e w' ⟨rfl, rfl⟩)
        | (go_at_call 54; refine (mfails_any H.out HOK.out.lim0 HOK.out.lim1).mono ?_; rintro e w1 ⟨rfl, hr1, hfr1⟩; have H1 := Lib.hid hr1; have HF1 := Lib.hid hfr1; clear hr1 hfr1)
        | (go_at_call 55; refine (mapply_any H1.out (counted_ok HOK.out) a ⟨#[]⟩ 0 hwc).mono ?_; rintro e w2 ⟨rfl, ha⟩; have HA := Lib.hid ha; clear ha)
        | (go_at_call 56; refine (moutcome_any _ _).mono ?_; rintro e w' ⟨rfl, rfl⟩))
      go_ret
      exact ⟨rfl, HA.out.back HF1.out⟩

theorem mpublish_any (h : MRep T w p vf vn vd vp m) (hok : m.Ok) :
    Calls Try.prog 35 #[.pointer (some ⟨p, 0, none⟩)] w fun e w' => e = .returned (.int .i64 m.publish.1) ∧ MAfter T w p m.publish.2 w' := by
  have H := Lib.hid h
  have h2 := h.c2
  have HOK := Lib.hid hok
  clear h hok
  cases hd : m.down with
  | true =>
    rw [publish_down hd]
    rw [hd] at h2
    clear hd
    go_enter Try.func35, Try.ntmps35
    go_wp2_with fail
    go_ret
    exact ⟨rfl, H.out.after⟩
  | false =>
    rw [hd] at h2
    cases hf : m.failing with
    | true =>
      rw [publish_crash hd hf]
      have HF := Lib.hid hf
      clear hd hf
      go_enter Try.func35, Try.ntmps35
      go_wp2_with (go_at_call 54; refine (mfails_is H.out HOK.out HF.out).mono ?_; rintro e w1 ⟨rfl, hr1, hfr1⟩; have H1 := Lib.hid hr1; have HF1 := Lib.hid hfr1; clear hr1 hfr1)
      go_ret
      exact ⟨rfl, H1.out.after.back HF1.out⟩
    | false =>
      rw [publish_ok hd hf]
      have HF := Lib.hid hf
      obtain ⟨aon, cpn, hvn, _⟩ := EntsAt.shape H.out.hn
      subst hvn
      clear hd hf
      go_enter Try.func35, Try.ntmps35
      go_wp2_with (go_at_call 54; refine (mfails_is H.out HOK.out HF.out).mono ?_; rintro e w1 ⟨rfl, hr1, hfr1⟩; have k4 := hr1.c4; have k5 := hr1.c5; have k6 := hr1.c6; have z5 := hr1.fr 5; have z6 := hr1.fr 6; have H1 := Lib.hid hr1; have HF1 := Lib.hid hfr1; clear hr1 hfr1)
      go_ret
      refine ⟨rfl, ?_⟩
      obtain ⟨g1, g2⟩ := H1.out.put 5 (.slice aon m.names.length cpn) (m' := { m.counted with durable := m.names }) (vf' := vf) (vn' := .slice aon m.names.length cpn) (vd' := .slice aon m.names.length cpn) (vp' := vp) rfl H1.out.hf H1.out.hn (by have := H1.out.hn; rw [counted_names] at this; exact this) H1.out.hp
      obtain ⟨g3, g4⟩ := g1.put 6 (.slice none 0 0) (m' := { m.counted with durable := m.names, pending := [] }) (vf' := vf) (vn' := .slice aon m.names.length cpn) (vd' := .slice aon m.names.length cpn) (vp' := .slice none 0 0) rfl g1.hf g1.hn g1.hu (row_nil _ _ _)
      exact g3.after.back ((HF1.out.trans g2).trans g4)
end
end Go.Proofs.Ytlhnjdoicolkkaa
