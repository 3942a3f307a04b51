/- An act upon the plain disk; and a file that no act concerns: plain lemmas. -/
import Derived.Test.YtlhnjdoicolkkaaPrefixPure
namespace Go.Dsk

/-- What an act does to a disk. -/
def M.actOn (m : M) (kind : Int) (a b : Bs) (num : Int) (sc : List Int) : Int × M :=
  if kind % 11 = 1 then m.sync a
  else if kind % 11 = 2 then m.rename a b
  else if kind % 11 = 3 then m.remove a
  else if kind % 11 = 4 then m.publish
  else if kind % 11 = 5 then m.setLimit num
  else if kind % 11 = 6 then (0, m.crash)
  else if kind % 11 = 7 then (0, m.start sc)
  else m.append a b

theorem counted_wt' (m : M) : m.counted.wt = m.wt := by unfold M.wt; rw [counted_durable, counted_pending]
theorem apply_wt (m : M) (c : Ch) : (m.apply c).wt = m.wt + 1 := by simp [M.wt, M.apply]; omega
theorem append_wt (m : M) (a d : Bs) : (m.append a d).2.wt ≤ m.wt + 1 := by
  unfold M.append
  split
  · exact Nat.le_succ _
  · split
    · exact Nat.le_succ _
    · split
      · exact Nat.le_succ _
      · split
        · exact Nat.le_succ _
        · split
          · next j _ =>
            have : (m.counted.added j d).wt = m.counted.wt := rfl
            rw [this, counted_wt']
            exact Nat.le_succ _
          · have : ((m.counted.fresh a).added m.files.length d).wt = (m.counted.fresh a).wt := rfl
            rw [this]
            unfold M.fresh
            rw [apply_wt]
            have : ({ m.counted with files := m.counted.files ++ [⟨[], 0⟩] } : M).wt = m.counted.wt := rfl
            rw [this, counted_wt']
            exact Nat.le_refl _
theorem start_wt' (m : M) (sc : List Int) : (m.start sc).wt ≤ m.wt := by
  unfold M.start
  split
  · exact Nat.le_refl _
  · unfold M.wt
    simp only [List.length_nil]
    have h1 := length_all (m.pending.take (pick sc m.pending.length).1) m.durable
    have h2 : (m.pending.take (pick sc m.pending.length).1).length ≤ m.pending.length := by simp; omega
    omega
theorem actOn_wt {m : M} (h : m.Ok) (kind : Int) (a b : Bs) (num : Int) (sc : List Int) : (m.actOn kind a b num sc).2.wt ≤ m.wt + 1 := by
  unfold M.actOn
  split
  · unfold M.sync
    split
    · exact Nat.le_succ _
    · split
      · exact Nat.le_succ _
      · split
        · rw [counted_wt']; exact Nat.le_succ _
        · show m.counted.wt ≤ _
          rw [counted_wt']; exact Nat.le_succ _
  split
  · unfold M.rename
    split
    · exact Nat.le_succ _
    · split
      · exact Nat.le_succ _
      · split
        · exact Nat.le_succ _
        · show (m.counted.apply _).wt ≤ _
          rw [apply_wt, counted_wt']
          exact Nat.le_refl _
  split
  · unfold M.remove
    split
    · exact Nat.le_succ _
    · split
      · exact Nat.le_succ _
      · show (m.counted.apply _).wt ≤ _
        rw [apply_wt, counted_wt']
        exact Nat.le_refl _
  split
  · unfold M.publish
    split
    · exact Nat.le_succ _
    · split
      · rw [counted_wt']; exact Nat.le_succ _
      · have := names_length h
        show m.names.length + 0 ≤ _
        omega
  split
  · unfold M.setLimit
    split
    · exact Nat.le_succ _
    · exact Nat.le_succ _
  split
  · exact Nat.le_succ _
  split
  · have := start_wt' m sc
    show (m.start sc).wt ≤ _
    omega
  · exact append_wt m a b

/-! ### a file that no act concerns -/
/-- The name n leads to the file k, and no other name does; no change that is pending concerns them. -/
def Holds (n : Bs) (k : Nat) (l : Dir) : Prop := find l n = some k ∧ ∀ p ∈ l, p.2 = k → p.1 = n
def Apart (n : Bs) (k : Nat) (c : Ch) : Prop := c.src ≠ n ∧ c.dst ≠ n ∧ (c.dst ≠ [] → c.file ≠ k)
structure Kept (n : Bs) (k : Nat) (b : Bs) (m : M) : Prop where
  dur : Holds n k m.durable
  pend : ∀ c ∈ m.pending, Apart n k c
  file : m.files.getD k ⟨[], 0⟩ = ⟨b, b.length⟩
  lt : k < m.files.length

theorem find_without {l : Dir} {n a : Bs} (h : a ≠ n) : find (without l a) n = find l n := by
  unfold find without
  induction l with
  | nil => rfl
  | cons p r ih =>
    by_cases hp : p.1 = a
    · have : p.1 ≠ n := fun e => h (hp.symm.trans e)
      simpa [hp, h] using ih
    · by_cases hn : p.1 = n
      · simp [hn, h.symm]
      · simpa [hp, hn] using ih
theorem find_ins {l : Dir} {n : Bs} {x : Bs × Nat} (h : x.1 ≠ n) : find (ins x l) n = find l n := by
  induction l with
  | nil => simp [find, ins, h]
  | cons p r ih =>
    unfold ins
    split
    · simp [find, h]
    · unfold find at ih ⊢
      by_cases hn : p.1 = n
      · simp [hn]
      · simpa [hn] using ih
theorem holds_without {l : Dir} {n a : Bs} {k : Nat} (h : Holds n k l) (ha : a ≠ n) : Holds n k (without l a) :=
  ⟨by rw [find_without ha]; exact h.1, fun p hp => h.2 p (mem_without.1 hp).1⟩
theorem holds_changed {l : Dir} {n : Bs} {k : Nat} {c : Ch} (h : Holds n k l) (hc : Apart n k c) : Holds n k (changed l c) := by
  have h1 : Holds n k (if c.src = [] then l else without l c.src) := by
    split
    · exact h
    · exact holds_without h hc.1
  unfold changed
  simp only
  split
  · exact h1
  · next hd =>
    unfold withOne
    have h2 := holds_without (a := c.dst) h1 hc.2.1
    refine ⟨by rw [find_ins hc.2.1]; exact h2.1, fun p hp hk => ?_⟩
    rcases mem_ins.1 hp with rfl | hp
    · exact absurd hk (hc.2.2 hd)
    · exact h2.2 p hp hk
theorem holds_all {n : Bs} {k : Nat} : ∀ {cs : List Ch} {l : Dir}, Holds n k l → (∀ c ∈ cs, Apart n k c) → Holds n k (all l cs)
  | [], _, h, _ => h
  | c :: r, l, h, hc => by
    have := holds_all (cs := r) (holds_changed h (hc c (by simp))) (fun d hd => hc d (by simp [hd]))
    simpa [all] using this
theorem Kept.now {n : Bs} {k : Nat} {b : Bs} {m : M} (h : Kept n k b m) (ok : m.Ok) : Holds n k m.names := by
  rw [ok.now]
  exact holds_all h.dur h.pend
theorem Kept.other {n a : Bs} {k j : Nat} {b : Bs} {m : M} (h : Kept n k b m) (ok : m.Ok) (ha : a ≠ n) (hf : find m.names a = some j) : j ≠ k := by
  intro e
  subst e
  exact ha ((h.now ok).2 _ (find_mem hf) rfl)
theorem Kept.counted {n : Bs} {k : Nat} {b : Bs} {m : M} (h : Kept n k b m) : Kept n k b m.counted :=
  ⟨by rw [counted_durable]; exact h.dur, by rw [counted_pending]; exact h.pend, by rw [counted_files]; exact h.file, by rw [counted_files]; exact h.lt⟩
theorem Kept.apply {n : Bs} {k : Nat} {b : Bs} {m : M} (h : Kept n k b m) {c : Ch} (hc : Apart n k c) : Kept n k b (m.apply c) := by
  refine ⟨h.dur, fun d hd => ?_, h.file, h.lt⟩
  have hd' : d ∈ m.pending ++ [c] := hd
  rcases List.mem_append.1 hd' with h1 | h1
  · exact h.pend d h1
  · obtain rfl : d = c := by simpa using h1
    exact hc
theorem getD_set_ne {l : List Fl} {j k : Nat} (h : j ≠ k) (f : Fl) : (l.set j f).getD k ⟨[], 0⟩ = l.getD k ⟨[], 0⟩ := by
  simp [List.getD_eq_getElem?_getD, h]
theorem Kept.setF {n : Bs} {k j : Nat} {b : Bs} {m : M} (h : Kept n k b m) (hj : j ≠ k) (f : Fl → Fl) : Kept n k b { m with files := Dsk.setFile m.files j f } :=
  ⟨h.dur, h.pend, by show (Dsk.setFile m.files j f).getD k _ = _; unfold Dsk.setFile; rw [getD_set_ne hj]; exact h.file, by show k < (Dsk.setFile m.files j f).length; simp [Dsk.setFile]; exact h.lt⟩

theorem Kept.append {n a : Bs} {k : Nat} {b : Bs} {m : M} (h : Kept n k b m) (ok : m.Ok) (ha : a ≠ n) (d : Bs) : Kept n k b (m.append a d).2 := by
  unfold M.append
  split
  · exact h
  split
  · exact h
  split
  · exact h
  split
  · exact h
  split
  · next j hj => exact h.counted.setF (h.other ok ha hj) _
  · have h1 : Kept n k b ({ m.counted with files := m.counted.files ++ [⟨[], 0⟩] } : M) := by
      have hc := h.counted
      refine ⟨hc.dur, hc.pend, ?_, ?_⟩
      · show (m.counted.files ++ [(⟨[], 0⟩ : Fl)]).getD k _ = _
        rw [List.getD_eq_getElem?_getD, List.getElem?_append_left hc.lt, ← List.getD_eq_getElem?_getD]
        exact hc.file
      · show k < (m.counted.files ++ [(⟨[], 0⟩ : Fl)]).length
        have := hc.lt
        simp
        omega
    have hlt := h.lt
    have h2 : Kept n k b (m.counted.fresh a) := h1.apply ⟨fun e => ?_, ha, fun _ => by show m.counted.files.length ≠ k; rw [counted_files]; omega⟩
    · exact h2.setF (j := m.files.length) (by omega) _
    · have hn := find_mem (h.now ok).1
      have := (ok.names.2 _ hn).1
      exact isName_ne this e.symm
theorem Kept.sync {n a : Bs} {k : Nat} {b : Bs} {m : M} (h : Kept n k b m) (ok : m.Ok) (ha : a ≠ n) : Kept n k b (m.sync a).2 := by
  unfold M.sync
  split
  · exact h
  split
  · exact h
  · next j hj =>
    split
    · exact h.counted
    · have := h.counted.setF (h.other ok ha hj) synced
      rw [counted_files] at this
      exact this
theorem Kept.rename {n a c : Bs} {k : Nat} {b : Bs} {m : M} (h : Kept n k b m) (ok : m.Ok) (ha : a ≠ n) (hc : c ≠ n) : Kept n k b (m.rename a c).2 := by
  unfold M.rename
  split
  · exact h
  split
  · exact h
  · next j hj =>
    split
    · exact h
    · exact h.counted.apply ⟨ha, hc, fun _ => h.other ok ha hj⟩
theorem Kept.remove {n a : Bs} {k : Nat} {b : Bs} {m : M} (h : Kept n k b m) (ok : m.Ok) (ha : a ≠ n) : Kept n k b (m.remove a).2 := by
  unfold M.remove
  split
  · exact h
  split
  · exact h
  · refine h.counted.apply ⟨ha, fun e => ?_, fun e => absurd rfl e⟩
    have hn := find_mem (h.now ok).1
    exact isName_ne (ok.names.2 _ hn).1 e.symm
theorem Kept.publish {n : Bs} {k : Nat} {b : Bs} {m : M} (h : Kept n k b m) (ok : m.Ok) : Kept n k b m.publish.2 := by
  unfold M.publish
  split
  · exact h
  split
  · exact h.counted
  · have hc := h.counted
    exact ⟨h.now ok, fun c hc => absurd hc (by simp), hc.file, hc.lt⟩
theorem Kept.setLimit {n : Bs} {k : Nat} {b : Bs} {m : M} (h : Kept n k b m) (l : Int) : Kept n k b (m.setLimit l).2 := by
  unfold M.setLimit
  split
  · exact h
  · exact ⟨h.dur, h.pend, h.file, h.lt⟩
theorem Kept.crash {n : Bs} {k : Nat} {b : Bs} {m : M} (h : Kept n k b m) : Kept n k b m.crash := ⟨h.dur, h.pend, h.file, h.lt⟩
theorem Kept.start {n : Bs} {k : Nat} {b : Bs} {m : M} (h : Kept n k b m) (sc : List Int) : Kept n k b (m.start sc) := by
  unfold M.start
  split
  · exact h
  · refine ⟨holds_all h.dur (fun c hc => h.pend c (List.mem_of_mem_take hc)), fun c hc => absurd hc (by simp), ?_, ?_⟩
    · exact startAll_keeps k ⟨b, b.length⟩ rfl _ _ _ h.lt h.file
    · show k < (startAll _ _ _).1.length
      rw [startAll_length]
      exact h.lt
theorem Kept.actOn {n a c : Bs} {k : Nat} {b : Bs} {m : M} (h : Kept n k b m) (ok : m.Ok) (ha : a ≠ n) (hc : c ≠ n) (kind num : Int) (sc : List Int) : Kept n k b (m.actOn kind a c num sc).2 := by
  unfold M.actOn
  split
  · exact h.sync ok ha
  split
  · exact h.rename ok ha hc
  split
  · exact h.remove ok ha
  split
  · exact h.publish ok
  split
  · exact h.setLimit num
  split
  · exact h.crash
  split
  · exact h.start sc
  · exact h.append ok ha c
theorem Kept.read {n : Bs} {k : Nat} {b : Bs} {m : M} (h : Kept n k b m) (ok : m.Ok) (hd : m.down = false) : m.read n = (b, 0) := by
  unfold M.read
  rw [hd]
  simp only [Bool.false_eq_true, if_false]
  rw [(h.now ok).1]
  simp only
  rw [h.file]
theorem start_down (m : M) (sc : List Int) : (m.start sc).down = false := by
  unfold M.start
  cases hd : m.down
  · simpa using hd
  · simp

/-! ### DiskKeeps: the file "kept" -/
def kept : Bs := [107, 101, 112, 116]
theorem isKept : isName kept = true := rfl
def Kn (l : Bs) (d : Nat) : M := ⟨1000, -1, false, [⟨l, d⟩], [(kept, 0)], [], [⟨[], kept, 0⟩]⟩
def Kf (l : Bs) : M := ⟨1000, -1, false, [⟨l, l.length⟩], [(kept, 0)], [(kept, 0)], []⟩
theorem k_new (l : Bs) (hl : l.length ≤ 50) : (M.new 1000).append kept l = (0, Kn l 0) := by
  have h : ¬ (1000 : Int) < 0 + l.length := by omega
  simp [M.append, M.new, isKept, find, M.used, M.failing, M.counted, M.fresh, M.apply, M.added, changed, withOne, without, ins, setFile, addTo, outcome, Kn]
  rw [if_neg (by omega)]
  rfl
theorem k_sync (l : Bs) : (Kn l 0).sync kept = (0, Kn l l.length) := by
  simp [M.sync, Kn, find, M.failing, M.counted, setFile, synced]
theorem k_publish (l : Bs) : (Kn l l.length).publish = (0, Kf l) := by
  simp [M.publish, Kn, Kf, M.failing, M.counted]
theorem k_kept (l : Bs) : Kept kept 0 l (Kf l) := by
  refine ⟨⟨rfl, fun p hp _ => ?_⟩, fun c hc => absurd hc (by simp [Kf]), rfl, by simp [Kf]⟩
  have : p = (kept, 0) := by simpa [Kf] using hp
  rw [this]
end Go.Dsk
