/- The operations of a disk: New, Remove, Sync, Publish, Read, Size, Names, Free, Limit, Crash, Down. -/
import Derived.Test.YtlhnjdoicolkkaaGreatDoorOps
import Derived.Test.YtlhnjdoicolkkaaGreatDoorIter
set_option maxRecDepth 100000
namespace Go.Proofs.YtlhnjdoicolkkaaGreatDoor
open Go.RowKit Go.Dsk Go.Maps Go.WideMaps
set_option maxHeartbeats 400000

/-- A new disk lies in new blocks. -/
def Fresh (w : World) (bd : Nat) (m : M) (w' : World) : Prop := ∃ S, (∀ i, S i → w.heap.size ≤ i) ∧ DiskAt S w' bd m ∧ Below w.heap.size w w'

theorem New_rep (c : Int) (h0 : 0 ≤ c) (h1 : c ≤ 16777216) (w : World) :
    Calls Tryz.prog 25 #[.int .i64 c] w fun e w' => ∃ bd, e = .returned (.tuple #[.pointer (some ⟨bd, 0, none⟩), .int .i64 0]) ∧ Fresh w bd (M.new c) w' := by
  have hmm := @run_makeMap Tryz.prog
  have ok := Lib.hid (new_ok h0 h1)
  go_enter Tryz.func25, Tryz.ntmps25
  go_wp2
  go_ret2
  refine ⟨w.heap.size + 1 + 1, rfl, fun i => w.heap.size ≤ i ∧ i < w.heap.size + 3, fun i hi => hi.1, ⟨fun _ => 0, w.heap.size, w.heap.size + 1, .slice none 0 0, [], 0, ?_⟩, ?_⟩
  · have e1 := World.ownsMap_made (H := Value) w Tryz.prog 9 ptrR
    have e2 := World.ownsMap_made (H := Value) (w.alloc (.map #[] 0)) Tryz.prog 9 ptrR
    have z1 : (w.alloc (.map #[] 0)).heap.size = w.heap.size + 1 := by simp
    have z2 : ((w.alloc (.map #[] 0)).alloc (.map #[] 0)).heap.size = w.heap.size + 2 := by simp
    rw [z1] at e2
    refine ⟨fun i hi => by simp; omega, ⟨by omega, by omega⟩, ⟨by omega, by omega⟩, ⟨by omega, by omega⟩, by omega, ?_, by simp [M.new], ?_, ?_, ?_, by simp [Value.ownBlock], by simp [M.new], by simp [M.new], ok.out⟩
    · have := heap_alloc_new ((w.alloc (.map #[] 0)).alloc (.map #[] 0)) (.cells (diskCells (M.new c) w.heap.size (w.heap.size + 1) (.slice none 0 0) 0) 99 (0, 0))
      rw [z2] at this
      exact this
    · exact DirAt.of ((e1.alloc _).alloc _)
    · exact DirAt.of (e2.alloc _)
    · exact ⟨rfl, World.ownsRow_nil _ _ _ _, by simp [M.new]⟩
  · exact (((Below.refl _ _).alloc (Nat.le_refl _) _).alloc (by simp) _).alloc (by simp; omega) _
theorem New_bad (c : Int) (h : c < 0 ∨ 16777216 < c) (w : World) : Calls Tryz.prog 25 #[.int .i64 c] w fun e w' => e = .returned (.tuple #[.pointer none, .int .i64 2]) ∧ w = w' := by
  rcases h with h | h
  · go_enter Tryz.func25, Tryz.ntmps25
    go_wp2
    go_ret2
    exact ⟨rfl, rfl⟩
  · have h' : ¬ c < 0 := by omega
    go_enter Tryz.func25, Tryz.ntmps25
    go_wp2
    go_ret2
    exact ⟨rfl, rfl⟩

section
variable {loc : Nat → Nat} {S : Nat → Prop} {w : World} {bd bn bm : Nat} {sl : Value} {bs : List (Nat × Nat)} {lft : Int} {m : M}

/-! ### Remove -/
theorem remove_down {m : M} (a : Bs) (hd : m.down = true) : m.remove a = (18, m) := by simp [M.remove, hd]
theorem remove_lost {m : M} (a : Bs) (hd : m.down = false) (hf : find m.names a = none) : m.remove a = (10, m) := by simp [M.remove, hd, hf]
theorem remove_ok {m : M} (a : Bs) (hd : m.down = false) {k : Nat} (hf : find m.names a = some k) : m.remove a = (outcome m.failing, m.counted.apply ⟨a, [], 0⟩) := by simp [M.remove, hd, hf]

theorem Remove_rep (h : Rep loc S w bd bn bm sl bs lft m) (hwt : m.wt < 1073741824) (a : ByteArray) (ha : a.size ≤ maxLen) :
    Calls Tryz.prog 64 #[.pointer (some ⟨bd, 0, none⟩), .string a] w fun e w' => e = .returned (.int .i64 (m.remove a.data.toList).1) ∧ After S w bd (m.remove a.data.toList).2 w' := by
  have H := Lib.hid h
  have h1 := h.c1
  cases hd : m.down with
  | true =>
    rw [remove_down _ hd]
    have HD := Lib.hid hd
    clear h hd h1
    go_enter Tryz.func64, Tryz.ntmps64
    go_wp2_with (go_at_call 75; refine (ready_down H.out HD.out).mono ?_; rintro e w' ⟨rfl, rfl⟩)
    go_ret
    exact ⟨rfl, H.out.after⟩
  | false =>
    have HD := Lib.hid hd
    cases hf : find m.names a.data.toList with
    | none =>
      rw [remove_lost _ hd hf]
      have HF := Lib.hid hf
      clear h hd hf
      go_enter Tryz.func64, Tryz.ntmps64
      go_wp2_with (first
        | (go_at_call 75; refine (ready_up H.out HD.out).mono ?_; rintro e w' ⟨rfl, rfl⟩)
        | (at_lookup; refine wpList_dir_ok_none _ rfl _ _ rfl loc bn m.names H.out.hn a ha HF.out rfl rfl ?_)
        | go_in)
      go_ret
      exact ⟨rfl, H.out.after⟩
    | some k =>
      rw [remove_ok _ hd hf]
      have HF := Lib.hid hf
      have hg := find_good h.ok.names hf
      have hc : ChOk m.counted.files.length m.counted.names ⟨a.data.toList, [], 0⟩ := by
        exact ⟨.inr hg.1, .inl rfl, fun e => absurd e (isName_ne hg.1), fun e => absurd rfl e, fun _ e => absurd rfl e⟩
      have HC := Lib.hid hc
      have HG := Lib.hid hg
      have hwc : m.counted.wt < 1073741824 := by rw [counted_wt]; exact hwt
      have HW := Lib.hid hwc
      clear h hd hf hg hc hwc hwt
      go_enter Tryz.func64, Tryz.ntmps64
      go_wp2_with (first
        | (go_at_call 75; refine (ready_up H.out HD.out).mono ?_; rintro e w' ⟨rfl, rfl⟩)
        | (at_lookup; refine wpList_dir_ok_some _ rfl _ _ rfl loc bn m.names H.out.hn a ha k HF.out rfl rfl ?_)
        | (go_at_call 96; refine (fails_any H.out).mono ?_; rintro e w1 ⟨rfl, ⟨lft1, hr1⟩, hfr1⟩; have H1 := Lib.hid hr1; clear hr1)
        | (go_at_call 104; refine (remove_any a _).mono ?_; rintro e w2 ⟨rfl, hb1, hbl⟩; have HB := Lib.hid hb1; clear hb1)
        | (go_at_call 97; refine (change_remove (H1.out.below hbl) a.data.toList _ (isName_ne HG.out.1) HB.out HC.out HW.out).mono ?_; rintro e w3 ⟨rfl, hA⟩; have HA := Lib.hid hA; clear hA)
        | (go_at_call 99; refine (outcome_any _ _).mono ?_; rintro e w' ⟨rfl, rfl⟩))
      go_ret
      exact ⟨rfl, HA.out.after.back (hfr1.trans (Fr.below hbl))⟩

/-! ### Publish -/
theorem publish_down {m : M} (hd : m.down = true) : m.publish = (18, m) := by simp [M.publish, hd]
theorem publish_crash {m : M} (hd : m.down = false) (hf : m.failing = true) : m.publish = (32, m.counted) := by simp [M.publish, hd, hf]
theorem publish_ok {m : M} (hd : m.down = false) (hf : m.failing = false) : m.publish = (0, { m.counted with durable := m.names, pending := [] }) := by simp [M.publish, hd, hf]

theorem clone_dir {l : Dir} {b : Nat} {w : World} (h : DirAt loc w b l) : Calls Tryz.prog 80 #[.map (some b)] w fun e w' => e = .returned (.map (some w.heap.size)) ∧ DirAt loc w' w.heap.size l ∧ Below w.heap.size w w' :=
  (AnyW.maps_Clone_owns Tryz.cloneM 9 ptrR b l.length (dirD loc l) w h).mono fun _ _ ⟨h1, h2, _, h3⟩ => ⟨h1, h2, h3⟩

theorem published_ok {m : M} (h : m.Ok) : ({ m with durable := m.names, pending := [] } : M).Ok := ⟨h.names, h.names, trivial, rfl, h.sizes, h.cap0, h.cap1, h.lim0, h.lim1⟩

/-- Two fields are written: the durable names, in a new block; nothing is pending. -/
theorem Rep.published (h : Rep loc S w bd bn bm sl bs lft m) {w1 : World} {nb : Nat} (hd : DirAt loc w1 nb m.names) (hb : Below w.heap.size w w1) (hn : w.heap.size ≤ nb) :
    After S w bd { m with durable := m.names, pending := [] } ((w1.setCell ⟨bd, 2, none⟩ (.map (some nb))).setCell ⟨bd, 3, none⟩ (.slice none 0 0)) := by
  have h1 := h.below hb
  have e1 := block_set h1.hd 2 (.map (some nb))
  have e2 := block_set e1 3 (.slice none 0 0)
  have f1 : Fr S w w1 := Fr.below hb
  have f2 := f1.setCell (p := ⟨bd, 2, none⟩) (.inl h.sd) h1.noBoxD (.map (some nb))
  have f3 := f2.setCell (p := ⟨bd, 3, none⟩) (.inl h.sd) (by rintro ⟨s, hs⟩; rw [e1] at hs; simp at hs) (.slice none 0 0)
  have ho : ∀ i, i ≠ bd → ((w1.setCell ⟨bd, 2, none⟩ (.map (some nb))).setCell ⟨bd, 3, none⟩ (.slice none 0 0)).heap[i]? = w1.heap[i]? := fun i hi => (block_other hi _).trans (block_other hi _)
  have hnb := hd.lt
  have hnd : nb ≠ bd := hd.noRow h1.hd
  refine ⟨fun i => S i ∨ i = nb, fun i hi => hi.imp id (fun e => by omega), ⟨loc, bn, nb, .slice none 0 0, [], lft, ?_⟩, f3⟩
  refine ⟨?_, .inl h.sd, .inl h.sn, .inr rfl, fun e => by have := h.hn.lt; omega, ?_, h.hl, h1.hn.same (ho _ h1.bdn), hd.same (ho _ hnd), ⟨rfl, World.ownsRow_nil _ _ _ _, by simp⟩, by simp [Value.ownBlock], ?_, h.inj, published_ok h.ok⟩
  · rintro i (hi | rfl)
    · exact Nat.lt_of_lt_of_le (h.lt i hi) f3.size
    · simpa [World.setCell] using hnb
  · rw [e2]; rfl
  · intro k hk
    exact ⟨.inl (h.hf k hk).1, (ho _ (h1.bdf hk)).trans (h1.hf k hk).2⟩

theorem Publish_rep (h : Rep loc S w bd bn bm sl bs lft m) :
    Calls Tryz.prog 58 #[.pointer (some ⟨bd, 0, none⟩)] w fun e w' => e = .returned (.int .i64 m.publish.1) ∧ After S w bd m.publish.2 w' := by
  have H := Lib.hid h
  cases hd : m.down with
  | true =>
    rw [publish_down hd]
    have HD := Lib.hid hd
    clear h hd
    go_enter Tryz.func58, Tryz.ntmps58
    go_wp2_with (go_at_call 75; refine (ready_down H.out HD.out).mono ?_; rintro e w' ⟨rfl, rfl⟩)
    go_ret
    exact ⟨rfl, H.out.after⟩
  | false =>
    have HD := Lib.hid hd
    cases hf : m.failing with
    | true =>
      rw [publish_crash hd hf]
      have HF := Lib.hid hf
      clear h hd hf
      go_enter Tryz.func58, Tryz.ntmps58
      go_wp2_with (first
        | (go_at_call 75; refine (ready_up H.out HD.out).mono ?_; rintro e w' ⟨rfl, rfl⟩)
        | (go_at_call 96; refine (fails_is H.out HF.out).mono ?_; rintro e w1 ⟨rfl, ⟨lft1, hr1⟩, hfr1⟩; have H1 := Lib.hid hr1; clear hr1)
        | (go_at_call 99; refine (outcome_any _ _).mono ?_; rintro e w' ⟨rfl, rfl⟩))
      go_ret
      exact ⟨rfl, H1.out.afterOf hfr1⟩
    | false =>
      rw [publish_ok hd hf]
      have HF := Lib.hid hf
      clear h hd hf
      go_enter Tryz.func58, Tryz.ntmps58
      go_wp2_with (first
        | (go_at_call 75; refine (ready_up H.out HD.out).mono ?_; rintro e w' ⟨rfl, rfl⟩)
        | (go_at_call 96; refine (fails_is H.out HF.out).mono ?_; rintro e w1 ⟨rfl, ⟨lft1, hr1⟩, hfr1⟩; have H1 := Lib.hid hr1; have c1 := hr1.c1; clear hr1)
        | (go_at_call 80; refine (clone_dir H1.out.hn).mono ?_; rintro e w2 ⟨rfl, hd2, hb2⟩; have HR := Lib.hid (H1.out.below hb2); have k2 := HR.out.c2; have k3 := HR.out.c3; have z2 := HR.out.fr 2; have z3 := HR.out.fr 3)
        | (go_at_call 99; refine (outcome_any _ _).mono ?_; rintro e w' ⟨rfl, rfl⟩))
      go_ret
      refine ⟨rfl, ?_⟩
      have e : ({ m.counted with durable := m.names, pending := [] } : M) = { m.counted with durable := m.counted.names, pending := [] } := by simp [counted_names]
      show After S w bd ({ m.counted with durable := m.names, pending := [] } : M) _
      rw [e]
      exact (H1.out.published (nb := w1.heap.size) hd2 hb2 (Nat.le_refl _)).back hfr1

/-! ### Sync -/
theorem sync_down {m : M} (a : Bs) (hd : m.down = true) : m.sync a = (18, m) := by simp [M.sync, hd]
theorem sync_lost {m : M} (a : Bs) (hd : m.down = false) (hf : find m.names a = none) : m.sync a = (10, m) := by simp [M.sync, hd, hf]
theorem sync_crash {m : M} (a : Bs) (hd : m.down = false) {k : Nat} (hf : find m.names a = some k) (hc : m.failing = true) : m.sync a = (32, m.counted) := by simp [M.sync, hd, hf, hc]
theorem sync_ok {m : M} (a : Bs) (hd : m.down = false) {k : Nat} (hf : find m.names a = some k) (hc : m.failing = false) : m.sync a = (0, { m.counted with files := setFile m.files k synced }) := by simp [M.sync, hd, hf, hc]

theorem setFile_getD (l : List Fl) (k : Nat) (f : Fl → Fl) (j : Nat) (hk : k < l.length) : (setFile l k f).getD j ⟨[], 0⟩ = if j = k then f (l.getD k ⟨[], 0⟩) else l.getD j ⟨[], 0⟩ := by
  unfold setFile
  simp only [List.getD_eq_getElem?_getD, List.getElem?_set]
  by_cases h : k = j
  · subst h; simp [hk]
  · rw [if_neg h, if_neg (fun e => h e.symm)]

/-- One file is written. -/
theorem Rep.filed (h : Rep loc S w bd bn bm sl bs lft m) {k : Nat} (hk : k < m.files.length) (f : Fl → Fl) {w' : World} (hw : FileAt w' (loc k) (f (m.files.getD k ⟨[], 0⟩))) (ho : ∀ i, i ≠ loc k → w'.heap[i]? = w.heap[i]?) (hfr : Fr S w w')
    (hok : ({ m with files := setFile m.files k f } : M).Ok) : Rep loc S w' bd bn bm sl bs lft { m with files := setFile m.files k f } := by
  have hl : (setFile m.files k f).length = m.files.length := by simp [setFile]
  refine ⟨fun i hi => Nat.lt_of_lt_of_le (h.lt i hi) hfr.size, h.sd, h.sn, h.sm, h.ne, (ho _ (h.bdf hk).symm).trans h.hd, h.hl, h.hn.same (ho _ (h.hn.noRow (h.hf k hk).2)), h.hm.same (ho _ (h.hm.noRow (h.hf k hk).2)),
    h.hp.same hfr (fun j hj => ho j (h.fp hj hk)), h.sp, ?_, ?_, hok⟩
  · intro j hj
    rw [hl] at hj
    refine ⟨(h.hf j hj).1, ?_⟩
    rw [setFile_getD _ _ _ _ hk]
    split
    · rename_i e; subst e; exact hw
    · rename_i e
      exact (ho _ (fun e2 => e (h.inj j k hj hk e2))).trans (h.hf j hj).2
  · intro i j hi hj
    rw [hl] at hi hj
    exact h.inj i j hi hj

theorem Sync_rep (h : Rep loc S w bd bn bm sl bs lft m) (a : ByteArray) (ha : a.size ≤ maxLen) :
    Calls Tryz.prog 57 #[.pointer (some ⟨bd, 0, none⟩), .string a] w fun e w' => e = .returned (.int .i64 (m.sync a.data.toList).1) ∧ After S w bd (m.sync a.data.toList).2 w' := by
  have H := Lib.hid h
  have h1 := h.c1
  cases hd : m.down with
  | true =>
    rw [sync_down _ hd]
    have HD := Lib.hid hd
    clear h hd h1
    go_enter Tryz.func57, Tryz.ntmps57
    go_wp2_with (go_at_call 75; refine (ready_down H.out HD.out).mono ?_; rintro e w' ⟨rfl, rfl⟩)
    go_ret
    exact ⟨rfl, H.out.after⟩
  | false =>
    have HD := Lib.hid hd
    cases hf : find m.names a.data.toList with
    | none =>
      rw [sync_lost _ hd hf]
      have HF := Lib.hid hf
      clear h hd hf
      go_enter Tryz.func57, Tryz.ntmps57
      go_wp2_with (first
        | (go_at_call 75; refine (ready_up H.out HD.out).mono ?_; rintro e w' ⟨rfl, rfl⟩)
        | (at_lookup; refine wpList_dir_ok_none _ rfl _ _ rfl loc bn m.names H.out.hn a ha HF.out rfl rfl ?_)
        | go_in)
      go_ret
      exact ⟨rfl, H.out.after⟩
    | some k =>
      have HF := Lib.hid hf
      cases hc : m.failing with
      | true =>
        rw [sync_crash _ hd hf hc]
        have HC := Lib.hid hc
        clear h hd hf hc
        go_enter Tryz.func57, Tryz.ntmps57
        go_wp2_with (first
          | (go_at_call 75; refine (ready_up H.out HD.out).mono ?_; rintro e w' ⟨rfl, rfl⟩)
          | (at_lookup; refine wpList_dir_ok_some _ rfl _ _ rfl loc bn m.names H.out.hn a ha k HF.out rfl rfl ?_)
          | (go_at_call 96; refine (fails_is H.out HC.out).mono ?_; rintro e w1 ⟨rfl, ⟨lft1, hr1⟩, hfr1⟩; have H1 := Lib.hid hr1; clear hr1)
          | (go_at_call 99; refine (outcome_any _ _).mono ?_; rintro e w' ⟨rfl, rfl⟩))
        go_ret
        exact ⟨rfl, H1.out.afterOf hfr1⟩
      | false =>
        rw [sync_ok _ hd hf hc]
        have HC := Lib.hid hc
        have hk := (find_good h.ok.names hf).2
        have hsz := (getD_size h.ok k)
        have hcap := h.ok.cap1
        generalize hfl : m.files.getD k ⟨[], 0⟩ = fl at hsz
        have hfl' : m.counted.files.getD k ⟨[], 0⟩ = fl := by rw [counted_files]; exact hfl
        have HFL := Lib.hid hfl'
        have hkc : k < m.counted.files.length := by rw [counted_files]; exact hk
        have HK := Lib.hid hkc
        have hbl : (fl.bytes.length : Int) ≤ 16777216 := by omega
        clear h hd hf hc hsz hcap hfl hfl' hkc hk
        go_enter Tryz.func57, Tryz.ntmps57
        go_wp2_with (first
          | (go_at_call 75; refine (ready_up H.out HD.out).mono ?_; rintro e w' ⟨rfl, rfl⟩)
          | (at_lookup; refine wpList_dir_ok_some _ rfl _ _ rfl loc bn m.names H.out.hn a ha k HF.out rfl rfl ?_)
          | (go_at_call 96; refine (fails_is H.out HC.out).mono ?_; rintro e w1 ⟨rfl, ⟨lft1, hr1⟩, hfr1⟩; have H1 := Lib.hid hr1; have k0 := hr1.file HK.out; have k1 := hr1.fdur HK.out; have z1 := hr1.ffr HK.out 1; rw [HFL.out] at k0 k1; clear hr1)
          | (go_at_call 99; refine (outcome_any _ _).mono ?_; rintro e w' ⟨rfl, rfl⟩))
        go_ret
        refine ⟨rfl, ?_⟩
        have hfa := (H1.out.hf k HK.out).2
        have e1 := block_set hfa 1 (.int .i64 fl.bytes.length)
        have hfr : Fr S w1 (w1.setCell ⟨loc k, 1, none⟩ (.int .i64 fl.bytes.length)) := (Fr.refl S w1).setCell (.inl (H1.out.hf k HK.out).1) hfa.noBox _
        have hok := setFile_ok H1.out.ok k synced (by have := getD_size H1.out.ok k; simp only [synced]; exact ⟨this.1, Nat.le_refl _⟩)
        have R := H1.out.filed HK.out synced (w' := w1.setCell ⟨loc k, 1, none⟩ (.int .i64 fl.bytes.length)) (by unfold FileAt; rw [e1, HFL.out]; rfl) (fun i hi => block_other hi _) hfr hok
        rw [counted_files] at R
        exact R.afterOf (hfr1.trans hfr)
end
end Go.Proofs.YtlhnjdoicolkkaaGreatDoor
