/- The document's model: sync, append. -/
import Derived.Test.YtlhnjdoicolkkaaMdl3
set_option maxRecDepth 100000
namespace Go.Proofs.Ytlhnjdoicolkkaa
open Go.RowKit Go.Dsk Go.Maps Go.WideMaps
set_option maxHeartbeats 1000000

theorem flat_set {α : Type} (f : α → List Value) (s : Nat) (hf : ∀ x, (f x).length = s) (d : α) : ∀ (l : List α) (k : Nat), k < l.length → ∀ (j : Nat) (x : α) (u : Value), j < s → f x = (f (l.getD k d)).set j u → (l.flatMap f).set (k * s + j) u = (l.set k x).flatMap f
  | [], k, hk, _, _, _, _, _ => absurd hk (by simp)
  | y :: r, 0, _, j, x, u, hj, h => by
    have h' : f x = (f y).set j u := h
    simp only [List.flatMap_cons, List.set_cons_zero, Nat.zero_mul, Nat.zero_add, h']
    rw [List.set_append_left _ _ (by rw [hf]; exact hj)]
  | y :: r, k + 1, hk, j, x, u, hj, h => by
    have ih := flat_set f s hf d r k (by simpa using hk) j x u hj (by simpa using h)
    simp only [List.flatMap_cons, List.set_cons_succ]
    rw [List.set_append_right _ _ (by rw [hf, Nat.succ_mul]; omega), hf, ← ih]
    rw [show (k + 1) * s + j - s = k * s + j by rw [Nat.succ_mul]; omega]
theorem infoFil : (Try.prog.info? 92).map (fun i => (i.zero, i.size, i.bytes)) = some (some (.agg #[.string ⟨#[]⟩, .int .i64 0]), 2, 24) := by kernel_rfl
theorem own_made0 (w : World) (e : TypeId) (size : Nat) : (w.alloc (.cells #[] e)).ownsRow w.heap.size e size (.slice (some ⟨w.heap.size, 0, none⟩) 0 0) 0 [] :=
  World.ownsRow_made w #[] 0 (Nat.le_refl _) (Nat.zero_le _) (by simp)
/-- An own row that is not empty. -/
theorem own_some {w : World} {base : Nat} {e : TypeId} {size n : Nat} {v : Value} {xs : List Value} (h : w.ownsRow base e size v n xs) (hn : 0 < n) : ∃ g cp, v = .slice (some ⟨g, 0, none⟩) n cp ∧ base ≤ g ∧ n ≤ cp ∧ cp ≤ maxLen ∧ g < w.heap.size ∧ ∀ i, w.frozen? ⟨g, i, none⟩ = false := by
  obtain ⟨h1, ⟨rfl, rfl⟩ | ⟨g, cap, cur, rfl, h3, h4, h5, h6, _⟩⟩ := h
  · omega
  · exact ⟨g, cap, rfl, h3, h5, h6, lt_of_block h4, fun i => block_free h4 i⟩

section
variable {T : Nat → Prop} {w : World} {p : Nat} {vf vn vd vp : Value} {m : M}
/-- The files are others, in a row of the call's own. -/
theorem MRep.refiled (h : MRep T w p vf vn vd vp m) {w4 : World} {v4 : Value} {fs : List Fl} (hF : Fr (fun i => i = p) w w4) (hd : w4.heap[p]? = some (.cells (mCells m v4 vn vd vp) 56 (0, 0))) (hO : w4.ownsRow w.heap.size 92 2 v4 fs.length (fs.flatMap filV)) :
    MRep (fun g => (T g ∨ w.heap.size ≤ g) ∧ g < w4.heap.size) w4 p v4 vn vd vp { m with files := fs } := by
  have hp := h.plt
  have hTT : ∀ g, T g → ¬ g = p := fun g hg e => h.np (e ▸ hg)
  refine ⟨fun g hg => hg.2, fun hg => ?_, hd, ?_, ?_, ?_, ?_⟩
  · rcases hg.1 with hg | hg
    · exact h.np hg
    · omega
  · exact ((row_own hO).mono (fun g hg => Or.inr hg)).cut
  · exact ((RowAt.fr h.hn hF hTT).mono (fun g => Or.inl)).cut
  · exact ((RowAt.fr h.hu hF hTT).mono (fun g => Or.inl)).cut
  · exact ((h.hp.fr hF hTT).mono (fun g => Or.inl)).cut
theorem MRep.refiledAfter (h : MRep T w p vf vn vd vp m) {w4 : World} {v4 : Value} {fs : List Fl} (hF : Fr (fun i => i = p) w w4) (hd : w4.heap[p]? = some (.cells (mCells m v4 vn vd vp) 56 (0, 0))) (hO : w4.ownsRow w.heap.size 92 2 v4 fs.length (fs.flatMap filV)) :
    MAfter T w p { m with files := fs } w4 := ⟨_, fun _ hi => hi.1, ⟨_, _, _, _, h.refiled hF hd hO⟩, hF⟩
/-- A copy of the files was stored: the model's next state, and the row. -/
theorem MRep.copied (h : MRep T w p vf vn vd vp m) {w2 : World} {g cp n : Nat} {fs : List Fl} (hb : Below w.heap.size w w2) (hO : w2.ownsRow w.heap.size 92 2 (.slice (some ⟨g, 0, none⟩) n cp) n (fs.flatMap filV)) (hg : w.heap.size ≤ g) :
    (w2.setCell ⟨p, 3, none⟩ (.slice (some ⟨g, 0, none⟩) n cp)).ownsRow w.heap.size 92 2 (.slice (some ⟨g, 0, none⟩) n cp) n (fs.flatMap filV) ∧
    (w2.setCell ⟨p, 3, none⟩ (.slice (some ⟨g, 0, none⟩) n cp)).heap[p]? = some (.cells (mCells m (.slice (some ⟨g, 0, none⟩) n cp) vn vd vp) 56 (0, 0)) ∧
    Fr (fun i => i = p) w (w2.setCell ⟨p, 3, none⟩ (.slice (some ⟨g, 0, none⟩) n cp)) := by
  have hp := h.plt
  have h2 := h.below hb
  refine ⟨row_same hO (fun j hj => ?_), block_set h2.hd 3 _, ((Fr.below hb).mono (fun _ => False.elim)).trans ((Fr.refl (fun i => i = p) w2).setCell (p := ⟨p, 3, none⟩) (.inl rfl) h2.noBox _)⟩
  simp [Value.ownBlock] at hj
  exact block_other (by omega) _
/-- One cell of the own row was written. -/
theorem MRep.celled {w3 : World} {g cp : Nat} {fs : List Fl} (hp : p < w.heap.size) (hF : Fr (fun i => i = p) w w3) (hd : w3.heap[p]? = some (.cells (mCells m (.slice (some ⟨g, 0, none⟩) fs.length cp) vn vd vp) 56 (0, 0)))
    (hO : w3.ownsRow w.heap.size 92 2 (.slice (some ⟨g, 0, none⟩) fs.length cp) fs.length (fs.flatMap filV)) (hg : w.heap.size ≤ g) {k j : Nat} (hk : k < fs.length) (hj : j < 2) (x : Fl) (u : Value) (hx : filV x = (filV (fs.getD k ⟨[], 0⟩)).set j u) {a : Nat} (ha : a = k * 2 + j) :
    Fr (fun i => i = p) w (w3.setCell ⟨g, a, none⟩ u) ∧ (w3.setCell ⟨g, a, none⟩ u).heap[p]? = some (.cells (mCells m (.slice (some ⟨g, 0, none⟩) (fs.set k x).length cp) vn vd vp) 56 (0, 0)) ∧
    (w3.setCell ⟨g, a, none⟩ u).ownsRow w.heap.size 92 2 (.slice (some ⟨g, 0, none⟩) (fs.set k x).length cp) (fs.set k x).length ((fs.set k x).flatMap filV) := by
  subst ha
  obtain ⟨h1, h2⟩ := hO.stored (k * 2 + j) u
  rw [flat_set filV 2 filV_len ⟨[], 0⟩ fs k hk j x u hj hx] at h1
  rw [List.length_set]
  refine ⟨hF.grown h2 (.inr hg) ?_, (h2.block p (lt_of_block hd) (by simp; omega)).trans hd, h1⟩
  obtain ⟨_, ⟨e, _⟩ | ⟨g', cap', cur, e, _, hh, _⟩⟩ := hO
  · cases e
  · simp only [Value.slice.injEq, Option.some.injEq, Addr.mk.injEq, and_true, true_and] at e
    obtain ⟨rfl, -⟩ := e
    rintro ⟨s, hs⟩
    rw [hh] at hs
    simp at hs

theorem msync_any (h : MRep T w p vf vn vd vp m) (hok : m.Ok) (hfl : m.files.length ≤ 1073741824) (a : ByteArray) :
    Calls Try.prog 30 #[.pointer (some ⟨p, 0, none⟩), .string a] w fun e w' => e = .returned (.int .i64 (m.sync a.data.toList).1) ∧ MAfter T w p (m.sync a.data.toList).2 w' := by
  have H := Lib.hid h
  have HOK := Lib.hid hok
  have h2 := h.c2
  have h4 := h.c4
  have hfi := mfind_any h.hn a
  obtain ⟨i0, hi, hz0, hz1, hz2⟩ := info_parts infoFil
  clear h
  cases hd : m.down with
  | true =>
    rw [sync_down _ hd]
    rw [hd] at h2
    have HFI := Lib.hid hfi
    clear hd hfi hok
    go_enter Try.func30, Try.ntmps30
    go_wp2_with (go_at_call 52; refine HFI.out.mono ?_; rintro e w' ⟨rfl, rfl⟩)
    go_ret
    exact ⟨rfl, H.out.after⟩
  | false =>
    rw [hd] at h2
    cases hf : find m.names a.data.toList with
    | none =>
      rw [sync_lost _ hd hf]
      rw [findI_neg hf] at hfi
      have HFI := Lib.hid hfi
      clear hd hf hfi hok
      go_enter Try.func30, Try.ntmps30
      go_wp2_with (go_at_call 52; refine HFI.out.mono ?_; rintro e w' ⟨rfl, rfl⟩)
      go_ret
      exact ⟨rfl, H.out.after⟩
    | some k =>
      rw [findI_pos hf] at hfi
      have HFI := Lib.hid hfi
      cases hc : m.failing with
      | true =>
        rw [sync_crash _ hd hf hc]
        have HC := Lib.hid hc
        clear hd hf hfi hok hc
        go_enter Try.func30, Try.ntmps30
        go_wp2_with (first
          | (go_at_call 52; refine HFI.out.mono ?_; rintro e w' ⟨rfl, rfl⟩)
          | (go_at_call 54; refine (mfails_is H.out HOK.out HC.out).mono ?_; rintro e w1 ⟨rfl, hr1, hfr1⟩; have H1 := Lib.hid hr1; have HF1 := Lib.hid hfr1; clear hr1 hfr1))
        go_ret
        exact ⟨rfl, H1.out.after.back HF1.out⟩
      | false =>
        rw [sync_ok _ hd hf hc]
        have HC := Lib.hid hc
        have hk := (find_good hok.names hf).2
        have hsz := (getD_size hok k)
        have hcap := hok.cap1
        obtain ⟨fl, hfe⟩ : ∃ fl, fl = m.files.getD k ⟨[], 0⟩ := ⟨_, rfl⟩
        rw [← hfe] at hsz
        have HFE := Lib.hid hfe
        have hbl : (fl.bytes.length : Int) ≤ 16777216 := by omega
        clear hd hf hfi hok hc hsz hcap hfe
        go_enter Try.func30, Try.ntmps30
        go_upto_region 8 with (first
          | (go_at_call 52; refine HFI.out.mono ?_; rintro e w' ⟨rfl, rfl⟩)
          | (go_at_call 54; refine (mfails_is H.out HOK.out HC.out).mono ?_; rintro e w1 ⟨rfl, hr1, hfr1⟩; have k3 : ∀ o, (w1.alloc o).cell? ⟨p, 3, none⟩ = some vf := fun o => (cell?_alloc_lt hr1.plt).trans hr1.c3; have H1 := Lib.hid hr1; have HF1 := Lib.hid hfr1; clear hr1 hfr1))
        go_wp2_with (at_builtin; refine wpList_append_row _ rfl (.tmp 24) (.tmp 28) 52 rfl w1.heap.size 92 i0 _ 2 24 Try.underlying52 hi hz0 hz1 hz2 rfl (by decide) (.slice (some ⟨w1.heap.size, 0, none⟩) 0 0) 0 [] rfl (own_made0 _ _ _) vf m.files.length (m.files.flatMap filV) rfl ?lies ?c3 ?c4 ?c5 ?_)
        case lies =>
          have hrf := H1.out.hf
          try simp only [counted_files] at hrf
          exact row_lies (hrf.below ((Below.refl _ _).alloc (Nat.le_refl _) _)) (filV_one _) (by decide)
        case c3 => unfold maxLen; omega
        case c4 => omega
        case c5 => simp
        intro v2 w2 hO2 hg2
        try simp only [Nat.zero_add, List.nil_append] at hO2
        have hb2 := ((Below.refl w1.heap.size w1).alloc (Nat.le_refl _) (.cells #[] 92)).grown hg2 (by simp) (fun q e => by simp [Value.ownBlock] at e; omega)
        obtain ⟨g, cp, rfl, hg, hcp, hcm, hgl, hfz2⟩ := own_some hO2 (by omega)
        obtain ⟨hO3, hd3, hF3⟩ := H1.out.copied hb2 hO2 hg
        have e3 := (H1.out.below hb2).c3
        have f3 := (H1.out.below hb2).fr 3
        have HB2 := Lib.hid hb2
        have HS3 := Lib.hid (And.intro hO3 (And.intro hd3 hF3))
        clear hO3 hd3 hF3 hO2 hg2 hfz2 hb2
        unfold maxLen at hcm
        go_wp2_with fail
        obtain ⟨hO3, hd3, hF3⟩ := HS3.out
        clear HS3 k3
        generalize hw3 : w2.setCell ⟨p, 3, none⟩ (.slice (some ⟨g, 0, none⟩) m.files.length cp) = w3 at hO3 hd3 hF3
        have hfz : ∀ i, w3.frozen? ⟨g, i, none⟩ = false := by
          obtain ⟨g', cp', e, _, _, _, _, hh⟩ := own_some hO3 (by omega)
          simp only [Value.slice.injEq, Option.some.injEq, Addr.mk.injEq, and_true, true_and] at e
          obtain ⟨rfl, -⟩ := e
          exact hh
        have HW3 := Lib.hid hw3
        clear hw3 HB2 e3 f3
        have hcell := hO3.cellAt (k * 2) (by omega)
        have hcell1 := hO3.cellAt (k * 2 + 1) (by omega)
        have e0 := flat_at filV 2 filV_len ⟨[], 0⟩ m.files k hk 0 (by omega)
        have e1 := flat_at filV 2 filV_len ⟨[], 0⟩ m.files k hk 1 (by omega)
        have hl2 : (m.files.flatMap filV).length = m.files.length * 2 := flat_len filV 2 filV_len _
        rw [List.getD_eq_getElem?_getD] at e0 e1
        rw [Nat.add_zero, ← HFE.out] at e0
        rw [← HFE.out] at e1
        have y0 : w3.cell? ⟨g, k * 2, none⟩ = some (.string ⟨fl.bytes.toArray⟩) := by
          rw [hcell, List.getElem?_eq_getElem (by omega)]
          rw [List.getElem?_eq_getElem (by omega)] at e0
          exact congrArg some e0
        have y1 : w3.cell? ⟨g, k * 2 + 1, none⟩ = some (.int .i64 fl.dur) := by
          rw [hcell1, List.getElem?_eq_getElem (by omega)]
          rw [List.getElem?_eq_getElem (by omega)] at e1
          exact congrArg some e1
        have x3 : w3.cell? ⟨p, 3, none⟩ = some (.slice (some ⟨g, 0, none⟩) m.files.length cp) := block_cell hd3 3
        have yz := hfz (k * 2 + 1)
        have hk0 : (0 : Int) ≤ (k : Int) := by omega
        have hk1 : (k : Int) < (m.files.length : Int) := by omega
        obtain ⟨nb, hnb⟩ : ∃ nb : ByteArray, nb = ⟨fl.bytes.toArray⟩ := ⟨_, rfl⟩
        have hbs : nb.size = fl.bytes.length := by rw [hnb]; exact size_mk _
        rw [← hnb] at y0
        have HBS := Lib.hid hbs
        have HO3 := Lib.hid hO3
        have HD3 := Lib.hid hd3
        have HF3 := Lib.hid hF3
        clear hO3 hd3 hF3 hcell hcell1 e0 e1 hnb hbs hfz hl2
        go_wp2_with fail
        go_still_tail 16, (by kernel_rfl)
        go_wp2_with fail
        go_ret
        refine ⟨rfl, ?_⟩
        obtain ⟨q1, q2, q3⟩ := MRep.celled (w3 := w3.drew) H1.out.plt HF3.out.drew HD3.out HO3.out hg hk (j := 1) (by omega) (synced fl) (.int .i64 nb.size) (by rw [HBS.out, ← HFE.out]; rfl) rfl
        have := H1.out.refiledAfter q1 q2 q3
        unfold setFile
        rw [← HFE.out]
        exact this.back HF1.out
end
end Go.Proofs.Ytlhnjdoicolkkaa
