/- The document's model: append. -/
import Derived.Test.YtlhnjdoicolkkaaMdl4
set_option maxRecDepth 100000
namespace Go.Proofs.Ytlhnjdoicolkkaa
open Go.RowKit Go.Dsk Go.Maps Go.WideMaps
set_option maxHeartbeats 1000000

section
variable {T : Nat → Prop} {w : World} {p : Nat} {vf vn vd vp : Value} {m : M}
theorem below_drawn (w : World) (n : Nat) : Below w.heap.size w (w.drewN n) := below_drewN (Below.refl _ _) n
theorem MRep.drewN (h : MRep T w p vf vn vd vp m) (n : Nat) : MRep T (w.drewN n) p vf vn vd vp m := h.below (below_drawn w n)
theorem fr_drewN (S : Nat → Prop) (w : World) (n : Nat) : Fr S w (w.drewN n) := (Fr.below (below_drawn w n)).mono (fun _ => False.elim)

theorem MAfter.onto {T' : Nat → Prop} {w2 w3 : World} {m' : M} (k : MAfter T' w2 p m' w3) (hT : ∀ i, T' i → T i ∨ w.heap.size ≤ i) (f : Fr (fun i => i = p) w w2) : MAfter T w p m' w3 := by
  obtain ⟨T2, h1, h2, h3⟩ := k
  exact ⟨T2, fun i hi => (h1 i hi).elim (hT i) (fun h => .inr (Nat.le_trans f.size h)), h2, f.trans h3⟩
theorem mappend_down (h : MRep T w p vf vn vd vp m) (hd : m.down = true) (n d : ByteArray) :
    Calls Try.prog 28 #[.pointer (some ⟨p, 0, none⟩), .string n, .string d] w fun e w' => e = .returned (.int .i64 18) ∧ MAfter T w p m w' := by
  have H := Lib.hid h
  have h2 := h.c2
  have h4 := h.c4
  have HFI := Lib.hid (mfind_any h.hn n)
  rw [hd] at h2
  clear h hd
  go_enter Try.func28, Try.ntmps28
  go_wp2_with (go_at_call 52; refine HFI.out.mono ?_; rintro e w' ⟨rfl, rfl⟩)
  go_ret
  exact ⟨rfl, H.out.after⟩
theorem mappend_bad (h : MRep T w p vf vn vd vp m) (hd : m.down = false) (n d : ByteArray) (hs : n.size ≤ maxLen) (hn : isName n.data.toList = false) :
    Calls Try.prog 28 #[.pointer (some ⟨p, 0, none⟩), .string n, .string d] w fun e w' => e = .returned (.int .i64 11) ∧ MAfter T w p m w' := by
  have H := Lib.hid h
  have h2 := h.c2
  have h4 := h.c4
  have HFI := Lib.hid (mfind_any h.hn n)
  have HN := Lib.hid hn
  rw [hd] at h2
  clear h hd hn
  go_enter Try.func28, Try.ntmps28
  go_wp2_with (first
    | (go_at_call 52; refine HFI.out.mono ?_; rintro e w' ⟨rfl, rfl⟩)
    | (go_at_call 53; refine (misName_is n _ hs HN.out).mono ?_; rintro e w' ⟨rfl, rfl⟩))
  go_ret
  exact ⟨rfl, H.out.after⟩
theorem mappend_limit (h : MRep T w p vf vn vd vp m) (hd : m.down = false) (n d : ByteArray) (hs : n.size ≤ maxLen) (hn : isName n.data.toList = true) (hf : find m.names n.data.toList = none) (hl : 64 ≤ m.names.length) :
    Calls Try.prog 28 #[.pointer (some ⟨p, 0, none⟩), .string n, .string d] w fun e w' => e = .returned (.int .i64 6) ∧ MAfter T w p m w' := by
  have H := Lib.hid h
  have h2 := h.c2
  have h4 := h.c4
  have HFI := Lib.hid (mfind_none h.hn n hf)
  have HN := Lib.hid hn
  obtain ⟨aon, cpn, hvn, hcn, hcm, _⟩ := EntsAt.shape h.hn
  rw [hd] at h2
  rw [hvn] at h4 HFI
  have HVN := Lib.hid hvn
  unfold maxLen at hcm
  clear h hd hn hf hvn
  go_enter Try.func28, Try.ntmps28
  go_wp2_with (first
    | (go_at_call 52; refine HFI.out.mono ?_; rintro e w' ⟨rfl, rfl⟩)
    | (go_at_call 53; refine (misName_is n _ hs HN.out).mono ?_; rintro e w' ⟨rfl, rfl⟩))
  go_ret
  exact ⟨rfl, H.out.after⟩

theorem mappend_full_some (h : MRep T w p vf vn vd vp m) (hok : m.Ok) (hwt : m.wt < 1073741821) (hd : m.down = false) (n d : ByteArray) (hs : n.size ≤ maxLen) (hds : d.size ≤ 4611686018427387904) (hn : isName n.data.toList = true) {k : Nat} (hf : find m.names n.data.toList = some k) (hc : m.cap < (m.used : Int) + d.size) :
    Calls Try.prog 28 #[.pointer (some ⟨p, 0, none⟩), .string n, .string d] w fun e w' => e = .returned (.int .i64 33) ∧ MAfter T w p m w' := by
  have H := Lib.hid h
  have HOK := Lib.hid hok
  have h0 := h.c0
  have h2 := h.c2
  have h4 := h.c4
  have HFI := Lib.hid (mfind_some h.hn n hf)
  have HN := Lib.hid hn
  obtain ⟨aon, cpn, hvn, hcn, hcm, _⟩ := EntsAt.shape h.hn
  rw [hd] at h2
  rw [hvn] at h4 HFI
  have HVN := Lib.hid hvn
  have hub := used_bd hok (by omega)
  have hcap := hok.cap1
  unfold maxLen at hcm
  clear h hok hd hn hf hvn
  go_enter Try.func28, Try.ntmps28
  go_upto_region 8 with (first
    | (go_at_call 52; refine HFI.out.mono ?_; rintro e w' ⟨rfl, rfl⟩)
    | (go_at_call 53; refine (misName_is n _ hs HN.out).mono ?_; rintro e w' ⟨rfl, rfl⟩))
  have hwr : IntKind.i64.wrap ((m.used : Int) + d.size) = (m.used : Int) + d.size := IntWalk.i64_in _ (by omega)
  go_quiet ((go_at_call 50; exact Calls.quiet_of (mused_any (H.out.drewN _) HOK.out (by omega))))
  clear hwr
  go_wp2_with fail
  go_ret
  exact ⟨rfl, (H.out.drewN nq).after.back (fr_drewN _ w nq)⟩

theorem mappend_full_none (h : MRep T w p vf vn vd vp m) (hok : m.Ok) (hwt : m.wt < 1073741821) (hd : m.down = false) (n d : ByteArray) (hs : n.size ≤ maxLen) (hds : d.size ≤ 4611686018427387904) (hn : isName n.data.toList = true) (hf : find m.names n.data.toList = none) (hl : m.names.length < 64) (hc : m.cap < (m.used : Int) + d.size) :
    Calls Try.prog 28 #[.pointer (some ⟨p, 0, none⟩), .string n, .string d] w fun e w' => e = .returned (.int .i64 33) ∧ MAfter T w p m w' := by
  have H := Lib.hid h
  have HOK := Lib.hid hok
  have h0 := h.c0
  have h2 := h.c2
  have h4 := h.c4
  have HFI := Lib.hid (mfind_none h.hn n hf)
  have HN := Lib.hid hn
  obtain ⟨aon, cpn, hvn, hcn, hcm, _⟩ := EntsAt.shape h.hn
  rw [hd] at h2
  rw [hvn] at h4 HFI
  have HVN := Lib.hid hvn
  have hub := used_bd hok (by omega)
  have hcap := hok.cap1
  unfold maxLen at hcm
  clear h hok hd hn hf hvn
  go_enter Try.func28, Try.ntmps28
  go_upto_region 8 with (first
    | (go_at_call 52; refine HFI.out.mono ?_; rintro e w' ⟨rfl, rfl⟩)
    | (go_at_call 53; refine (misName_is n _ hs HN.out).mono ?_; rintro e w' ⟨rfl, rfl⟩))
  have hwr : IntKind.i64.wrap ((m.used : Int) + d.size) = (m.used : Int) + d.size := IntWalk.i64_in _ (by omega)
  go_quiet ((go_at_call 50; exact Calls.quiet_of (mused_any (H.out.drewN _) HOK.out (by omega))))
  clear hwr
  go_wp2_with fail
  go_ret
  exact ⟨rfl, (H.out.drewN nq).after.back (fr_drewN _ w nq)⟩

theorem mappend_some (h : MRep T w p vf vn vd vp m) (hok : m.Ok) (hwt : m.wt < 1073741821) (hfl : m.files.length < 1073741823) (hd : m.down = false) (n d : ByteArray) (hs : n.size ≤ maxLen) (hds : d.size ≤ 4611686018427387904) (hn : isName n.data.toList = true) {k : Nat} (hf : find m.names n.data.toList = some k) (hc : ¬ m.cap < (m.used : Int) + d.size) :
    Calls Try.prog 28 #[.pointer (some ⟨p, 0, none⟩), .string n, .string d] w fun e w' => e = .returned (.int .i64 (outcome m.failing)) ∧ MAfter T w p (m.counted.added k d.data.toList) w' := by
  have H := Lib.hid h
  have HOK := Lib.hid hok
  have h0 := h.c0
  have h2 := h.c2
  have h4 := h.c4
  have HFI := Lib.hid (mfind_some h.hn n hf)
  have HN := Lib.hid hn
  obtain ⟨aon, cpn, hvn, hcn, hcm, _⟩ := EntsAt.shape h.hn
  rw [hd] at h2
  rw [hvn] at h4 HFI
  have HVN := Lib.hid hvn
  have hub := used_bd hok (by omega)
  have hcap := hok.cap1
  unfold maxLen at hcm
  have hk := (find_good hok.names hf).2
  have hsz := getD_size hok k
  have hlu := len_le_used hf
  obtain ⟨fl, hfe⟩ : ∃ fl, fl = m.files.getD k ⟨[], 0⟩ := ⟨_, rfl⟩
  unfold M.len at hlu
  rw [← hfe] at hsz hlu
  have HFE := Lib.hid hfe
  obtain ⟨i0, hi, hz0, hz1, hz2⟩ := info_parts infoFil
  clear h hok hd hn hf hvn hfe
  go_enter Try.func28, Try.ntmps28
  go_upto_region 8 with (first
    | (go_at_call 52; refine HFI.out.mono ?_; rintro e w' ⟨rfl, rfl⟩)
    | (go_at_call 53; refine (misName_is n _ hs HN.out).mono ?_; rintro e w' ⟨rfl, rfl⟩))
  have hwr : IntKind.i64.wrap ((m.used : Int) + d.size) = (m.used : Int) + d.size := IntWalk.i64_in _ (by omega)
  go_quiet ((go_at_call 50; exact Calls.quiet_of (mused_any (H.out.drewN _) HOK.out (by omega))))
  clear hwr
  have HW := Lib.hid (H.out.drewN nq)
  have HFW := Lib.hid (fr_drewN (fun i => i = p) w nq)
  clear h0 h2 h4
  generalize w.drewN nq = wq at *
  go_upto_region 15 with (go_at_call 54; refine (mfails_any HW.out HOK.out.lim0 HOK.out.lim1).mono ?_; rintro e w1 ⟨rfl, hr1, hfr1⟩; have k3 : ∀ o, (w1.alloc o).cell? ⟨p, 3, none⟩ = some vf := fun o => (cell?_alloc_lt hr1.plt).trans hr1.c3; have H1 := Lib.hid hr1; have HF1 := Lib.hid hfr1; clear hr1 hfr1)
  go_wp2_with (at_builtin; refine wpList_append_row _ rfl (.tmp 73) (.tmp 77) 52 rfl w1.heap.size 92 i0 _ 2 24 Try.underlying52 hi hz0 hz1 hz2 rfl (by decide) (.slice (some ⟨w1.heap.size, 0, none⟩) 0 0) 0 [] rfl (own_made0 _ _ _) vf m.files.length (m.files.flatMap filV) rfl ?lies ?c3 ?c4 ?c5 ?_)
  case lies =>
    have hrf := H1.out.hf
    try simp only [counted_files] at hrf
    exact row_lies (hrf.below ((Below.refl _ _).alloc (Nat.le_refl _) _)) (filV_one _) (by decide)
  case c3 => unfold maxLen; omega
  case c4 => omega
  case c5 => simp
  intro v2 w2 hO2 hg2
  try simp only [Nat.zero_add, List.nil_append] at hO2
  have hb2 := ((Below.refl w1.heap.size w1).alloc (Nat.le_refl _) (.cells #[] 92)).grown hg2 (by simp) (fun q e => by simp [Value.ownBlock] at e; omega)
  obtain ⟨g, cp, rfl, hg, hcp, hcm, hgl, hfz2⟩ := own_some hO2 (by omega)
  obtain ⟨hO3, hd3, hF3⟩ := H1.out.copied hb2 hO2 hg
  have e3 := (H1.out.below hb2).c3
  have f3 := (H1.out.below hb2).fr 3
  have HB2 := Lib.hid hb2
  have HS3 := Lib.hid (And.intro hO3 (And.intro hd3 hF3))
  clear hO3 hd3 hF3 hO2 hg2 hfz2 hb2
  unfold maxLen at hcm
  go_wp2_with fail
  obtain ⟨hO3, hd3, hF3⟩ := HS3.out
  clear HS3 k3
  generalize hw3 : w2.setCell ⟨p, 3, none⟩ (.slice (some ⟨g, 0, none⟩) m.files.length cp) = w3 at hO3 hd3 hF3
  have hfz : ∀ i, w3.frozen? ⟨g, i, none⟩ = false := by
    obtain ⟨g', cp', e, _, _, _, _, hh⟩ := own_some hO3 (by omega)
    simp only [Value.slice.injEq, Option.some.injEq, Addr.mk.injEq, and_true, true_and] at e
    obtain ⟨rfl, -⟩ := e
    exact hh
  have HW3 := Lib.hid hw3
  clear hw3 HB2 e3 f3
  have hcell := hO3.cellAt (k * 2) (by omega)
  have e0 := flat_at filV 2 filV_len ⟨[], 0⟩ m.files k hk 0 (by omega)
  have hl2 : (m.files.flatMap filV).length = m.files.length * 2 := flat_len filV 2 filV_len _
  rw [List.getD_eq_getElem?_getD] at e0
  rw [Nat.add_zero, ← HFE.out] at e0
  have y0 : w3.cell? ⟨g, k * 2, none⟩ = some (.string ⟨fl.bytes.toArray⟩) := by
    rw [hcell, List.getElem?_eq_getElem (by omega)]
    rw [List.getElem?_eq_getElem (by omega)] at e0
    exact congrArg some e0
  have x3 : w3.cell? ⟨p, 3, none⟩ = some (.slice (some ⟨g, 0, none⟩) m.files.length cp) := block_cell hd3 3
  have yz := hfz (k * 2)
  have hk0 : (0 : Int) ≤ (k : Int) := by omega
  have hk1 : (k : Int) < (m.files.length : Int) := by omega
  obtain ⟨nb, hnb⟩ : ∃ nb : ByteArray, nb = ⟨fl.bytes.toArray⟩ := ⟨_, rfl⟩
  have hns : nb.size = fl.bytes.length := by rw [hnb]; exact size_mk _
  have hnz : nb.size + d.size ≤ 16777216 := by omega
  rw [← hnb] at y0
  have HNB := Lib.hid hnb
  have HO3 := Lib.hid hO3
  have HD3 := Lib.hid hd3
  have HF3 := Lib.hid hF3
  clear hO3 hd3 hF3 hcell e0 hnb hfz hl2 hns
  go_wp2_with fail
  go_region
  all_goals
    go_wp2_with (go_at_call 56; refine (moutcome_any _ _).mono ?_; rintro e w' ⟨rfl, rfl⟩)
    go_ret
    refine ⟨rfl, ?_⟩
    obtain ⟨q1, q2, q3⟩ := MRep.celled (w3 := w3.drew) H1.out.plt HF3.out.drew HD3.out HO3.out hg hk (j := 0) (a := k * 2) (by omega) (addTo d.data.toList fl) (.string (nb ++ d)) (by rw [HNB.out, mk_append, ← HFE.out]; rfl) (by omega)
    have := H1.out.refiledAfter q1 q2 q3
    unfold M.added setFile
    rw [counted_files, ← HFE.out]
    exact this.back (HFW.out.trans HF1.out)

/-- A new file at the end of the files. -/
theorem grow_files (m : M) : ({ m.counted with files := m.counted.files ++ [⟨[], 0⟩] } : M).apply ⟨[], [], 0⟩ = ({ m.counted with files := m.files ++ [(⟨[], 0⟩ : Fl)] } : M).apply ⟨[], [], 0⟩ := by rw [counted_files]
theorem mappend_none (h : MRep T w p vf vn vd vp m) (hok : m.Ok) (hwt : m.wt < 1073741821) (hfl : m.files.length < 1073741823) (hd : m.down = false) (n d : ByteArray) (hs : n.size ≤ maxLen) (hds : d.size ≤ 4611686018427387904) (hn : isName n.data.toList = true) (hf : find m.names n.data.toList = none) (hl : m.names.length < 64) (hc : ¬ m.cap < (m.used : Int) + d.size) :
    Calls Try.prog 28 #[.pointer (some ⟨p, 0, none⟩), .string n, .string d] w fun e w' => e = .returned (.int .i64 (outcome m.failing)) ∧ MAfter T w p ((m.counted.fresh n.data.toList).added m.files.length d.data.toList) w' := by
  have H := Lib.hid h
  have HOK := Lib.hid hok
  have h0 := h.c0
  have h2 := h.c2
  have h4 := h.c4
  have HFI := Lib.hid (mfind_none h.hn n hf)
  have HN := Lib.hid hn
  obtain ⟨aon, cpn, hvn, hcn, hcm, _⟩ := EntsAt.shape h.hn
  rw [hd] at h2
  rw [hvn] at h4 HFI
  have HVN := Lib.hid hvn
  have hub := used_bd hok (by omega)
  have hcap := hok.cap1
  unfold maxLen at hcm
  obtain ⟨i0, hi, hz0, hz1, hz2⟩ := info_parts infoFil
  clear h hok hd hn hf hvn
  go_enter Try.func28, Try.ntmps28
  go_upto_region 8 with (first
    | (go_at_call 52; refine HFI.out.mono ?_; rintro e w' ⟨rfl, rfl⟩)
    | (go_at_call 53; refine (misName_is n _ hs HN.out).mono ?_; rintro e w' ⟨rfl, rfl⟩))
  have hwr : IntKind.i64.wrap ((m.used : Int) + d.size) = (m.used : Int) + d.size := IntWalk.i64_in _ (by omega)
  go_quiet ((go_at_call 50; exact Calls.quiet_of (mused_any (H.out.drewN _) HOK.out (by omega))))
  clear hwr
  have HW := Lib.hid (H.out.drewN nq)
  have HFW := Lib.hid (fr_drewN (fun i => i = p) w nq)
  clear h0 h2 h4
  generalize w.drewN nq = wq at *
  obtain ⟨aof, cpf, hvf, hcf, hcfm⟩ := H.out.hf.shape
  unfold maxLen at hcfm
  have HVF := Lib.hid hvf
  clear hvf
  go_upto_region 12 with (go_at_call 54; refine (mfails_any HW.out HOK.out.lim0 HOK.out.lim1).mono ?_; rintro e w1 ⟨rfl, hr1, hfr1⟩; have k3 := hr1.c3; rw [HVF.out] at k3; have k3a : ∀ o, (w1.alloc o).cell? ⟨p, 3, none⟩ = some (.slice aof m.files.length cpf) := fun o => (cell?_alloc_lt hr1.plt).trans k3; have H1 := Lib.hid hr1; have HF1 := Lib.hid hfr1; clear hr1 hfr1)
  rw [HVF.out] at H1
  go_wp2_with (at_builtin; refine wpList_append_row _ rfl (.tmp 56) (.tmp 60) 52 rfl w1.heap.size 92 i0 _ 2 24 Try.underlying52 hi hz0 hz1 hz2 rfl (by decide) (.slice (some ⟨w1.heap.size, 0, none⟩) 0 0) 0 [] rfl (own_made0 _ _ _) (.slice aof m.files.length cpf) m.files.length (m.files.flatMap filV) rfl ?lies ?c3 ?c4 ?c5 ?_)
  case lies =>
    have hrf := H1.out.hf
    simp only [counted_files] at hrf
    exact row_lies (hrf.below ((Below.refl _ _).alloc (Nat.le_refl _) _)) (filV_one _) (by decide)
  case c3 => unfold maxLen; omega
  case c4 => omega
  case c5 => simp
  intro v2 w2 hO2 hg2
  try simp only [Nat.zero_add, List.nil_append] at hO2
  have hb2 := ((Below.refl w1.heap.size w1).alloc (Nat.le_refl _) (.cells #[] 92)).grown hg2 (by simp) (fun q e => by simp [Value.ownBlock] at e; omega)
  have HB2 := Lib.hid hb2
  have HO2 := Lib.hid hO2
  clear hb2 hO2 hg2 k3 k3a
  go_wp2_with (at_builtin; refine wpList_append_row _ rfl (.tmp 61) (.tmp 63) 52 rfl w1.heap.size 92 i0 _ 2 24 Try.underlying52 hi hz0 hz1 hz2 rfl (by decide) v2 m.files.length (m.files.flatMap filV) rfl (HO2.out.alloc _) (.slice (some ⟨w2.heap.size, 0, none⟩) 1 1) 1 [.string ⟨#[]⟩, .int .i64 0] rfl ?lies ?c3 ?c4 ?c5 ?_)
  case lies => exact ⟨rfl, by simp [Value.oneCell'], .inr ⟨_, 1, rfl, World.news_of_block (heap_alloc_new w2 _)⟩⟩
  case c3 => unfold maxLen; omega
  case c4 => omega
  case c5 => have := HB2.out.size; simp; omega
  intro v3 w3 hO3 hg3
  have hb3 := (HB2.out.alloc HB2.out.size (.cells #[.string ⟨#[]⟩, .int .i64 0] 92)).grown hg3 (by have := HB2.out.size; simp; omega) (fun q e => own_ge HO2.out e)
  obtain ⟨g3, cp3, rfl, hgg3, hcp3, hcm3, hgl3, hfz3⟩ := own_some hO3 (by omega)
  have hO3' : w3.ownsRow w1.heap.size 92 2 (.slice (some ⟨g3, 0, none⟩) (m.files.length + 1) cp3) (m.files.length + 1) ((m.files ++ [(⟨[], 0⟩ : Fl)]).flatMap filV) := by
    rw [List.flatMap_append]
    exact hO3
  obtain ⟨hO4, hd4, hF4⟩ := H1.out.copied hb3 hO3' hgg3
  have e3 := (H1.out.below hb3).c3
  have f3 := (H1.out.below hb3).fr 3
  have HS4 := Lib.hid (And.intro hO4 (And.intro hd4 hF4))
  clear hO3 hO3' hg3 hb3 hO4 hd4 hF4 hfz3
  unfold maxLen at hcm3
  go_upto_region 14 with fail
  obtain ⟨hO4, hd4, hF4⟩ := HS4.out
  clear HS4 HB2 HO2 e3 f3
  have hfle : (m.files ++ [(⟨[], 0⟩ : Fl)]).length = m.files.length + 1 := by simp
  have hR4 := H1.out.refiled (fs := m.files ++ [(⟨[], 0⟩ : Fl)]) hF4 hd4 (by rw [hfle]; exact hO4)
  generalize hw4 : w3.setCell ⟨p, 3, none⟩ (.slice (some ⟨g3, 0, none⟩) (m.files.length + 1) cp3) = w4 at hO4 hd4 hF4 hR4
  have HR4 := Lib.hid hR4
  have HF4 := Lib.hid hF4
  have hok4 : ({ m.counted with files := m.files ++ [(⟨[], 0⟩ : Fl)] } : M).Ok := by
    have := grow_ok (counted_ok HOK.out)
    rw [counted_files] at this
    exact this
  have HOK4 := Lib.hid hok4
  have hwt4 : ({ m.counted with files := m.files ++ [(⟨[], 0⟩ : Fl)] } : M).wt < 1073741822 := by
    have : m.counted.wt < 1073741822 := by rw [counted_wt']; omega
    exact this
  clear hO4 hd4 hF4 hR4 hok4 hw4
  go_upto_region 15 with (go_at_call 55; refine (mapply_any HR4.out HOK4.out ⟨#[]⟩ n m.files.length hwt4).mono ?_; rintro e w5 ⟨rfl, T5, hT5, ⟨vf5, vn5, vd5, vp5, hr5⟩, hf5⟩; have k3 : ∀ o, (w5.alloc o).cell? ⟨p, 3, none⟩ = some vf5 := fun o => (cell?_alloc_lt hr5.plt).trans hr5.c3; have H5 := Lib.hid hr5; have HF5 := Lib.hid hf5; have HT5 := Lib.hid hT5; clear hr5 hf5 hT5)
  obtain ⟨fl, hfe⟩ : ∃ fl, fl = (m.files ++ [(⟨[], 0⟩ : Fl)]).getD m.files.length ⟨[], 0⟩ := ⟨_, rfl⟩
  have hflz : fl.bytes.length ≤ 0 := by rw [hfe]; simp [List.getD_eq_getElem?_getD]
  obtain ⟨FS, hFS⟩ : ∃ FS, FS = m.files ++ [(⟨[], 0⟩ : Fl)] := ⟨_, rfl⟩
  rw [← hFS] at hfe hfle H5
  obtain ⟨k, hkk⟩ : ∃ k, k = m.files.length := ⟨_, rfl⟩
  have hk : k < FS.length := by omega
  have hfs1 : FS.length ≤ 1073741823 := by omega
  rw [← hkk] at hfe
  have HFE := Lib.hid hfe
  have HKK := Lib.hid hkk
  have HFS := Lib.hid hFS
  rw [← hkk]
  clear hfe hkk hFS hfle
  go_wp2_with (at_builtin; refine wpList_append_row _ rfl (.tmp 73) (.tmp 77) 52 rfl w5.heap.size 92 i0 _ 2 24 Try.underlying52 hi hz0 hz1 hz2 rfl (by decide) (.slice (some ⟨w5.heap.size, 0, none⟩) 0 0) 0 [] rfl (own_made0 _ _ _) vf5 FS.length (FS.flatMap filV) rfl ?lies ?c3 ?c4 ?c5 ?_)
  case lies =>
    have hrf := H5.out.hf
    simp only [M.apply] at hrf
    exact row_lies (hrf.below ((Below.refl _ _).alloc (Nat.le_refl _) _)) (filV_one _) (by decide)
  case c3 => unfold maxLen; omega
  case c4 => omega
  case c5 => simp
  intro v2 w2 hO2 hg2
  try simp only [Nat.zero_add, List.nil_append] at hO2
  have hb2 := ((Below.refl w5.heap.size w5).alloc (Nat.le_refl _) (.cells #[] 92)).grown hg2 (by simp) (fun q e => by simp [Value.ownBlock] at e; omega)
  obtain ⟨g, cp, rfl, hg, hcp, hcm, hgl, hfz2⟩ := own_some hO2 (by omega)
  obtain ⟨hO3, hd3, hF3⟩ := H5.out.copied hb2 hO2 hg
  have e3 := (H5.out.below hb2).c3
  have f3 := (H5.out.below hb2).fr 3
  have HB2 := Lib.hid hb2
  have HS3 := Lib.hid (And.intro hO3 (And.intro hd3 hF3))
  clear hO3 hd3 hF3 hO2 hg2 hfz2 hb2
  unfold maxLen at hcm
  go_wp2_with fail
  obtain ⟨hO3, hd3, hF3⟩ := HS3.out
  clear HS3 k3
  generalize hw3 : w2.setCell ⟨p, 3, none⟩ (.slice (some ⟨g, 0, none⟩) FS.length cp) = w3 at hO3 hd3 hF3
  have hfz : ∀ i, w3.frozen? ⟨g, i, none⟩ = false := by
    obtain ⟨g', cp', e, _, _, _, _, hh⟩ := own_some hO3 (by omega)
    simp only [Value.slice.injEq, Option.some.injEq, Addr.mk.injEq, and_true, true_and] at e
    obtain ⟨rfl, -⟩ := e
    exact hh
  have HW3 := Lib.hid hw3
  clear hw3 HB2 e3 f3
  have hcell := hO3.cellAt (k * 2) (by omega)
  have e0 := flat_at filV 2 filV_len ⟨[], 0⟩ FS k hk 0 (by omega)
  have hl2 : (FS.flatMap filV).length = FS.length * 2 := flat_len filV 2 filV_len _
  rw [List.getD_eq_getElem?_getD] at e0
  rw [Nat.add_zero, ← HFE.out] at e0
  have y0 : w3.cell? ⟨g, k * 2, none⟩ = some (.string ⟨fl.bytes.toArray⟩) := by
    rw [hcell, List.getElem?_eq_getElem (by omega)]
    rw [List.getElem?_eq_getElem (by omega)] at e0
    exact congrArg some e0
  have x3 : w3.cell? ⟨p, 3, none⟩ = some (.slice (some ⟨g, 0, none⟩) FS.length cp) := block_cell hd3 3
  have yz := hfz (k * 2)
  have hk0 : (0 : Int) ≤ (k : Int) := by omega
  have hk1 : (k : Int) < (FS.length : Int) := by omega
  obtain ⟨nb, hnb⟩ : ∃ nb : ByteArray, nb = ⟨fl.bytes.toArray⟩ := ⟨_, rfl⟩
  have hns : nb.size = fl.bytes.length := by rw [hnb]; exact size_mk _
  have hnz : nb.size + d.size ≤ 16777216 := by omega
  rw [← hnb] at y0
  have HNB := Lib.hid hnb
  have HO3 := Lib.hid hO3
  have HD3 := Lib.hid hd3
  have HF3 := Lib.hid hF3
  clear hO3 hd3 hF3 hcell e0 hnb hfz hl2 hns
  go_wp2_with fail
  go_region
  all_goals
    go_wp2_with (go_at_call 56; refine (moutcome_any _ _).mono ?_; rintro e w' ⟨rfl, rfl⟩)
    go_ret
    refine ⟨rfl, ?_⟩
    obtain ⟨q1, q2, q3⟩ := MRep.celled (w3 := w3.drew) H5.out.plt HF3.out.drew HD3.out HO3.out hg hk (j := 0) (a := k * 2) (by omega) (addTo d.data.toList fl) (.string (nb ++ d)) (by rw [HNB.out, mk_append, ← HFE.out]; rfl) (by omega)
    have := H5.out.refiledAfter q1 q2 q3
    have hfin : ((m.counted.fresh n.data.toList).added m.files.length d.data.toList) = { ({ m.counted with files := m.files ++ [(⟨[], 0⟩ : Fl)] } : M).apply ⟨[], n.data.toList, m.files.length⟩ with files := (m.files ++ [(⟨[], 0⟩ : Fl)]).set k (addTo d.data.toList fl) } := by
      unfold M.added M.fresh setFile
      simp only [M.apply, counted_files]
      rw [← HKK.out, ← HFS.out, ← HFE.out]
    rw [HFS.out] at this
    rw [hfin]
    exact this.onto (fun i hi => by
      rcases HT5.out i hi with h | h
      · rcases h.1 with h | h
        · exact .inl h
        · exact .inr (Nat.le_trans (HFW.out.trans HF1.out).size h)
      · exact .inr (Nat.le_trans (((HFW.out.trans HF1.out).trans HF4.out).size) h)) (((HFW.out.trans HF1.out).trans HF4.out).trans HF5.out)
end
end Go.Proofs.Ytlhnjdoicolkkaa
