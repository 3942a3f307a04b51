/- What a failure leaves: plain lemmas; and the file that is replaced. -/
import Derived.Test.YtlhnjdoicolkkaaGreatDoorPure
import Derived.Lib.AtoiAll
import Derived.Lib.ItoaNum
import Derived.Lib.ItoaMem
import Derived.Lib.ItoaLen
namespace Go.Dsk

theorem pick_zero (sc : List Int) : (pick sc 0).1 = 0 := by
  unfold pick
  split
  · rfl
  · rename_i n r
    simp only
    have h1 := Int.tmod_lt_of_pos n (show (0 : Int) < ((0 : Nat) : Int) + 1 by omega)
    omega
theorem startFile_done {f : Fl} (h : f.dur = f.bytes.length) (sc : List Int) : (startFile f sc).1 = f := by
  have e : f.bytes.length - f.dur = 0 := by omega
  have hp := pick_zero sc
  unfold startFile
  rw [e]
  simp only [hp]
  simp
  cases f
  simp at h
  simp [h]
theorem startOne_length (a : List Fl × List Int) (p : Bs × Nat) : (startOne a p).1.length = a.1.length := by simp [startOne]
theorem startAll_length (l : Dir) : ∀ (fs : List Fl) (sc : List Int), (startAll fs sc l).1.length = fs.length := by
  induction l with
  | nil => intro fs sc; rfl
  | cons p r ih =>
    intro fs sc
    have h := ih (startOne (fs, sc) p).1 (startOne (fs, sc) p).2
    rw [startOne_length] at h
    simpa [startAll] using h
/-- A file whose bytes are all durable stays. -/
theorem startAll_keeps (k : Nat) (f : Fl) (hf : f.dur = f.bytes.length) (l : Dir) : ∀ (fs : List Fl) (sc : List Int), k < fs.length → fs.getD k ⟨[], 0⟩ = f → (startAll fs sc l).1.getD k ⟨[], 0⟩ = f := by
  induction l with
  | nil => intro fs sc _ h; exact h
  | cons p r ih =>
    intro fs sc hk h
    have e : (startOne (fs, sc) p).1.getD k ⟨[], 0⟩ = f := by
      unfold startOne
      simp only [List.getD_eq_getElem?_getD, List.getElem?_set]
      by_cases hp : p.2 = k
      · subst hp
        rw [if_pos rfl, if_pos hk]
        simp only [Option.getD_some]
        rw [← List.getD_eq_getElem?_getD, h]
        exact startFile_done hf sc
      · rw [if_neg hp, ← List.getD_eq_getElem?_getD]; exact h
    have := ih (startOne (fs, sc) p).1 (startOne (fs, sc) p).2 (by rw [startOne_length]; exact hk) e
    simpa [startAll] using this
/-- Such a file can be read behind a start, if its name is there then. -/
theorem start_read {m : M} (hd : m.down = true) (sc : List Int) {n : Bs} {k : Nat} {b : Bs} (hk : m.files.getD k ⟨[], 0⟩ = ⟨b, b.length⟩) (hkl : k < m.files.length) (hf : ∀ j, j ≤ m.pending.length → find (all m.durable (m.pending.take j)) n = some k) : (m.start sc).read n = (b, 0) := by
  have hle : (pick sc m.pending.length).1 ≤ m.pending.length := by
    unfold pick
    split
    · simp
    · rename_i x r
      simp only
      have h1 := Int.tmod_lt_of_pos x (show (0 : Int) < (m.pending.length : Int) + 1 by omega)
      omega
  unfold M.start
  rw [hd]
  simp only [Bool.not_true, Bool.false_eq_true, if_false]
  unfold M.read
  simp only [Bool.false_eq_true, if_false]
  rw [hf _ hle]
  simp only
  rw [startAll_keeps k ⟨b, b.length⟩ rfl _ _ _ hkl hk]

section
variable (old new : Bs)
def R1 : M := ⟨200, -1, false, [⟨old, 0⟩], [([97], 0)], [], [⟨[], [97], 0⟩]⟩
def R2 : M := ⟨200, -1, false, [⟨old, old.length⟩], [([97], 0)], [], [⟨[], [97], 0⟩]⟩
def R3 (l : Int) : M := ⟨200, l, false, [⟨old, old.length⟩], [([97], 0)], [([97], 0)], []⟩
def R4 (l : Int) (d : Bool) : M := ⟨200, l, d, [⟨old, old.length⟩, ⟨new, 0⟩], [([97], 0), ([98], 1)], [([97], 0)], [⟨[], [98], 1⟩]⟩
def R5 (l : Int) (d : Bool) : M := ⟨200, l, d, [⟨old, old.length⟩, ⟨new, new.length⟩], [([97], 0), ([98], 1)], [([97], 0)], [⟨[], [98], 1⟩]⟩
def R6 (l : Int) (d : Bool) : M := ⟨200, l, d, [⟨old, old.length⟩, ⟨new, new.length⟩], [([97], 1)], [([97], 0)], [⟨[], [98], 1⟩, ⟨[98], [97], 1⟩]⟩
def R7 (l : Int) (d : Bool) : M := ⟨200, l, d, [⟨old, old.length⟩, ⟨new, new.length⟩], [([97], 1)], [([97], 1)], []⟩

theorem isA : isName [97] = true := rfl
theorem isB : isName [98] = true := rfl

theorem r1 (ho : old.length ≤ 50) : (M.new 200).append [97] old = (0, R1 old) := by
  have h : ¬ (200 : Int) < 0 + old.length := by omega
  simp [M.append, M.new, isA, find, M.used, M.failing, M.counted, M.fresh, M.apply, M.added, changed, withOne, without, ins, setFile, addTo, outcome, R1]
  omega
theorem r2 : (R1 old).sync [97] = (0, R2 old) := by
  simp [M.sync, R1, R2, find, M.failing, M.counted, setFile, synced]
theorem r3 : (R2 old).publish = (0, R3 old (-1)) := by
  simp [M.publish, R2, R3, M.failing, M.counted]
theorem r3' (l : Int) (hl : 0 ≤ l) : (R3 old (-1)).setLimit l = (0, R3 old l) := by
  simp [M.setLimit, R3]; omega
theorem r4z (ho : old.length ≤ 50) (hn : new.length ≤ 50) : (R3 old 0).append [98] new = (32, R4 old new 0 true) := by
  have h : ¬ (200 : Int) < old.length + new.length := by omega
  simp [M.append, R3, R4, isB, find, M.used, M.len, M.failing, M.counted, M.fresh, M.apply, M.added, changed, withOne, without, ins, setFile, addTo, outcome, bytesBefore]
  omega
theorem r4s (l : Int) (hl : 0 < l) (ho : old.length ≤ 50) (hn : new.length ≤ 50) : (R3 old l).append [98] new = (0, R4 old new (l - 1) false) := by
  have h : ¬ (200 : Int) < old.length + new.length := by omega
  have h0 : ¬ l = 0 := by omega
  simp [M.append, R3, R4, isB, find, M.used, M.len, M.failing, M.counted, M.fresh, M.apply, M.added, changed, withOne, without, ins, setFile, addTo, outcome, bytesBefore, h0, hl]
  omega
theorem r5z : (R4 old new 0 false).sync [98] = (32, R4 old new 0 true) := by
  simp [M.sync, R4, find, M.failing, M.counted]
theorem r5s (l : Int) (hl : 0 < l) : (R4 old new l false).sync [98] = (0, R5 old new (l - 1) false) := by
  have h0 : ¬ l = 0 := by omega
  simp [M.sync, R4, R5, find, M.failing, M.counted, setFile, synced, h0, hl]
theorem r6z : (R5 old new 0 false).rename [98] [97] = (32, R6 old new 0 true) := by
  simp [M.rename, R5, R6, isA, find, M.failing, M.counted, M.apply, changed, withOne, without, ins, outcome]
theorem r6s (l : Int) (hl : 0 < l) : (R5 old new l false).rename [98] [97] = (0, R6 old new (l - 1) false) := by
  have h0 : ¬ l = 0 := by omega
  simp [M.rename, R5, R6, isA, find, M.failing, M.counted, M.apply, changed, withOne, without, ins, outcome, h0, hl]
theorem r7z : (R6 old new 0 false).publish = (32, R6 old new 0 true) := by
  simp [M.publish, R6, M.failing, M.counted]
theorem r7s (l : Int) (hl : 0 < l) : (R6 old new l false).publish = (0, R7 old new (l - 1) false) := by
  have h0 : ¬ l = 0 := by omega
  simp [M.publish, R6, R7, M.failing, M.counted, h0, hl]

theorem r4_read (l : Int) (d : Bool) (sc : List Int) : ((R4 old new l d).crash.start sc).read [97] = (old, 0) := by
  refine start_read rfl sc (k := 0) rfl (by simp [R4, M.crash]) ?_
  intro j hj
  have hj' : j ≤ 1 := hj
  rcases (show j = 0 ∨ j = 1 by omega) with rfl | rfl <;> rfl
theorem r7_read (l : Int) (d : Bool) (sc : List Int) : ((R7 old new l d).crash.start sc).read [97] = (new, 0) := by
  refine start_read rfl sc (k := 1) rfl (by simp [R7, M.crash]) ?_
  intro j hj
  have hj' : j ≤ 0 := hj
  obtain rfl : j = 0 := by omega
  rfl
theorem r6_read (l : Int) (d : Bool) (sc : List Int) : ((R6 old new l d).crash.start sc).read [97] = (old, 0) ∨ ((R6 old new l d).crash.start sc).read [97] = (new, 0) := by
  have hf : ∀ k, k < 2 → ∀ f, (R6 old new l d).files.getD k ⟨[], 0⟩ = f → f.dur = f.bytes.length := by
    intro k hk f hf
    rcases (show k = 0 ∨ k = 1 by omega) with rfl | rfl <;> (subst hf; rfl)
  have hle : (pick sc 2).1 ≤ 2 := by
    unfold pick
    split
    · simp
    · rename_i x r
      simp only
      have h1 := Int.tmod_lt_of_pos x (show (0 : Int) < ((2 : Nat) : Int) + 1 by omega)
      omega
  have hp : (R6 old new l d).crash.pending.length = 2 := rfl
  unfold M.start
  have hd : (R6 old new l d).crash.down = true := rfl
  rw [hd, hp]
  simp only [Bool.not_true, Bool.false_eq_true, if_false]
  unfold M.read
  simp only [Bool.false_eq_true, if_false]
  rcases (show (pick sc 2).1 = 0 ∨ (pick sc 2).1 = 1 ∨ (pick sc 2).1 = 2 by omega) with h | h | h
  · left
    rw [h]
    have e : find (all (R6 old new l d).crash.durable ((R6 old new l d).crash.pending.take 0)) [97] = some 0 := rfl
    rw [e]
    simp only
    rw [startAll_keeps 0 ⟨old, old.length⟩ rfl _ _ _ (by simp [R6, M.crash]) rfl]
  · left
    rw [h]
    have e : find (all (R6 old new l d).crash.durable ((R6 old new l d).crash.pending.take 1)) [97] = some 0 := rfl
    rw [e]
    simp only
    rw [startAll_keeps 0 ⟨old, old.length⟩ rfl _ _ _ (by simp [R6, M.crash]) rfl]
  · right
    rw [h]
    have e : find (all (R6 old new l d).crash.durable ((R6 old new l d).crash.pending.take 2)) [97] = some 1 := rfl
    rw [e]
    simp only
    rw [startAll_keeps 1 ⟨new, new.length⟩ rfl _ _ _ (by simp [R6, M.crash]) rfl]
end
end Go.Dsk

/- What is there of a file behind a failure is a beginning of it: plain lemmas. -/
namespace Go.Dsk

theorem pick_le' (sc : List Int) (n : Nat) : (pick sc n).1 ≤ n := by
  unfold pick
  split
  · simp
  · rename_i x r
    simp only
    have h1 := Int.tmod_lt_of_pos x (show (0 : Int) < (n : Int) + 1 by omega)
    omega

/-- s is a beginning of l with its first d bytes at least; its last byte behind these may be another one. -/
def Begins (l : Bs) (d : Nat) (s : Bs) : Prop :=
  d ≤ s.length ∧ s.length ≤ l.length ∧ s.take (max d (s.length - 1)) = l.take (max d (s.length - 1)) ∧
    ∀ n, n = max d (s.length - 1) → s.length ≠ n → s.getD n 0 = l.getD n 0 ∨ (s.getD n 0).toNat = 255 - (l.getD n 0).toNat

theorem begins_take {l : Bs} {d k : Nat} (h1 : d ≤ k) (h2 : k ≤ l.length) : Begins l d (l.take k) := by
  have hl : (l.take k).length = k := by simp; omega
  refine ⟨by omega, by omega, ?_, ?_⟩
  · rw [hl, List.take_take]
    congr 1
    omega
  · intro n hn hne
    left
    rw [hl] at hn hne
    have : n < k := by omega
    simp [List.getD_eq_getElem?_getD, this]

theorem damaged_length {t : Bs} (h : 0 < t.length) : (damaged t).length = t.length := by
  simp [damaged]
  omega
theorem getLastD_take {l : Bs} {k : Nat} (h0 : 0 < k) (h1 : k ≤ l.length) : (l.take k).getLastD 0 = l.getD (k - 1) 0 := by
  rw [List.getLastD_eq_getLast?, List.getLast?_eq_getElem?, List.getD_eq_getElem?_getD]
  have hl : (l.take k).length = k := by simp; omega
  rw [hl, List.getElem?_take, if_pos (by omega)]
theorem begins_damaged {l : Bs} {d k : Nat} (h1 : d < k) (h2 : k ≤ l.length) : Begins l d (damaged (l.take k)) := by
  have hl : (l.take k).length = k := by simp; omega
  have hdl : (damaged (l.take k)).length = k := by rw [damaged_length (by omega), hl]
  have hdr : (l.take k).dropLast = l.take (k - 1) := by
    rw [List.dropLast_eq_take, hl, List.take_take]
    congr 1
    omega
  refine ⟨by omega, by omega, ?_, ?_⟩
  · rw [hdl]
    have e : max d (k - 1) = k - 1 := by omega
    rw [e]
    unfold damaged
    rw [hdr, List.take_append_of_le_length (by simp; omega), List.take_take]
    congr 1
    omega
  · intro n hn hne
    right
    rw [hdl] at hn hne
    have e : n = k - 1 := by omega
    subst e
    have : (damaged (l.take k)).getD (k - 1) 0 = ~~~ (l.getD (k - 1) 0) := by
      unfold damaged
      rw [hdr, getLastD_take (by omega) h2, List.getD_eq_getElem?_getD, List.getElem?_append_right (by simp; omega)]
      simp
      rw [show k - 1 - min (k - 1) l.length = 0 by omega]
      rfl
    rw [this]
    rw [UInt8.toNat_not]
    rfl
theorem startFile_begins {l : Bs} {d : Nat} (h : d ≤ l.length) (sc : List Int) : Begins l d (startFile ⟨l, d⟩ sc).1.bytes := by
  have hp := pick_le' sc (l.length - d)
  unfold startFile
  simp only
  generalize pick sc (l.length - d) = p at hp
  obtain ⟨k, sc'⟩ := p
  simp only at hp ⊢
  by_cases hk : 0 < k
  · rw [if_pos hk]
    split
    · exact begins_damaged (by omega) (by omega)
    · exact begins_take (by omega) (by omega)
  · rw [if_neg hk]
    exact begins_take (by omega) (by omega)

/-- A disk with one file, "a", whose name is durable. -/
def Pf (c : Int) (l : Bs) (d : Nat) : M := ⟨c, -1, false, [⟨l, d⟩], [([97], 0)], [([97], 0)], []⟩
/-- The same ahead of Publish. -/
def Pn (c : Int) (l : Bs) (d : Nat) : M := ⟨c, -1, false, [⟨l, d⟩], [([97], 0)], [], [⟨[], [97], 0⟩]⟩

theorem p_new (c : Int) (l : Bs) (hl : (l.length : Int) ≤ c) : (M.new c).append [97] l = (0, Pn c l 0) := by
  have h : ¬ c < 0 + l.length := by omega
  simp [M.append, M.new, isA, find, M.used, M.failing, M.counted, M.fresh, M.apply, M.added, changed, withOne, without, ins, setFile, addTo, outcome, Pn]
  omega
theorem p_publish (c : Int) (l : Bs) (d : Nat) : (Pn c l d).publish = (0, Pf c l d) := by
  simp [M.publish, Pn, Pf, M.failing, M.counted]
theorem p_sync' (c : Int) (l : Bs) (d : Nat) : (Pn c l d).sync [97] = (0, Pn c l l.length) := by
  simp [M.sync, Pn, find, M.failing, M.counted, setFile, synced]
theorem p_append (c : Int) (l p : Bs) (d : Nat) (hl : ((l.length + p.length : Nat) : Int) ≤ c) : (Pf c l d).append [97] p = (0, Pf c (l ++ p) d) := by
  have h : ¬ c < ((l.length : Nat) : Int) + p.length := by omega
  simp [M.append, isA, find, M.used, M.len, M.failing, M.counted, M.added, setFile, addTo, outcome, Pf, h]
theorem p_sync (c : Int) (l : Bs) (d : Nat) : (Pf c l d).sync [97] = (0, Pf c l l.length) := by
  simp [M.sync, Pf, find, M.failing, M.counted, setFile, synced]
theorem p_read (c : Int) (l : Bs) (d : Nat) (h : d ≤ l.length) (sc : List Int) : ∃ s, ((Pf c l d).crash.start sc).read [97] = (s, 0) ∧ Begins l d s := by
  refine ⟨_, ?_, startFile_begins h (pick sc 0).2⟩
  simp [M.start, M.crash, Pf, M.read, all, find, startAll, startOne]
end Go.Dsk

/- An act upon the plain disk; and a file that no act concerns: plain lemmas. -/
namespace Go.Dsk

/-- What an act does to a disk. -/
def M.actOn (m : M) (kind : Int) (a b : Bs) (num : Int) (sc : List Int) : Int × M :=
  if kind % 11 = 1 then m.sync a
  else if kind % 11 = 2 then m.rename a b
  else if kind % 11 = 3 then m.remove a
  else if kind % 11 = 4 then m.publish
  else if kind % 11 = 5 then m.setLimit num
  else if kind % 11 = 6 then (0, m.crash)
  else if kind % 11 = 7 then (0, m.start sc)
  else m.append a b

theorem counted_wt' (m : M) : m.counted.wt = m.wt := by unfold M.wt; rw [counted_durable, counted_pending]
theorem apply_wt (m : M) (c : Ch) : (m.apply c).wt = m.wt + 1 := by simp [M.wt, M.apply]; omega
theorem append_wt (m : M) (a d : Bs) : (m.append a d).2.wt ≤ m.wt + 1 := by
  unfold M.append
  split
  · exact Nat.le_succ _
  · split
    · exact Nat.le_succ _
    · split
      · exact Nat.le_succ _
      · split
        · exact Nat.le_succ _
        · split
          · next j _ =>
            have : (m.counted.added j d).wt = m.counted.wt := rfl
            rw [this, counted_wt']
            exact Nat.le_succ _
          · have : ((m.counted.fresh a).added m.files.length d).wt = (m.counted.fresh a).wt := rfl
            rw [this]
            unfold M.fresh
            rw [apply_wt]
            have : ({ m.counted with files := m.counted.files ++ [⟨[], 0⟩] } : M).wt = m.counted.wt := rfl
            rw [this, counted_wt']
            exact Nat.le_refl _
theorem start_wt' (m : M) (sc : List Int) : (m.start sc).wt ≤ m.wt := by
  unfold M.start
  split
  · exact Nat.le_refl _
  · unfold M.wt
    simp only [List.length_nil]
    have h1 := length_all (m.pending.take (pick sc m.pending.length).1) m.durable
    have h2 : (m.pending.take (pick sc m.pending.length).1).length ≤ m.pending.length := by simp; omega
    omega
theorem actOn_wt {m : M} (h : m.Ok) (kind : Int) (a b : Bs) (num : Int) (sc : List Int) : (m.actOn kind a b num sc).2.wt ≤ m.wt + 1 := by
  unfold M.actOn
  split
  · unfold M.sync
    split
    · exact Nat.le_succ _
    · split
      · exact Nat.le_succ _
      · split
        · rw [counted_wt']; exact Nat.le_succ _
        · show m.counted.wt ≤ _
          rw [counted_wt']; exact Nat.le_succ _
  split
  · unfold M.rename
    split
    · exact Nat.le_succ _
    · split
      · exact Nat.le_succ _
      · split
        · exact Nat.le_succ _
        · show (m.counted.apply _).wt ≤ _
          rw [apply_wt, counted_wt']
          exact Nat.le_refl _
  split
  · unfold M.remove
    split
    · exact Nat.le_succ _
    · split
      · exact Nat.le_succ _
      · show (m.counted.apply _).wt ≤ _
        rw [apply_wt, counted_wt']
        exact Nat.le_refl _
  split
  · unfold M.publish
    split
    · exact Nat.le_succ _
    · split
      · rw [counted_wt']; exact Nat.le_succ _
      · have := names_length h
        show m.names.length + 0 ≤ _
        omega
  split
  · unfold M.setLimit
    split
    · exact Nat.le_succ _
    · exact Nat.le_succ _
  split
  · exact Nat.le_succ _
  split
  · have := start_wt' m sc
    show (m.start sc).wt ≤ _
    omega
  · exact append_wt m a b

/-! ### a file that no act concerns -/
/-- The name n leads to the file k, and no other name does; no change that is pending concerns them. -/
def Holds (n : Bs) (k : Nat) (l : Dir) : Prop := find l n = some k ∧ ∀ p ∈ l, p.2 = k → p.1 = n
def Apart (n : Bs) (k : Nat) (c : Ch) : Prop := c.src ≠ n ∧ c.dst ≠ n ∧ (c.dst ≠ [] → c.file ≠ k)
structure Kept (n : Bs) (k : Nat) (b : Bs) (m : M) : Prop where
  dur : Holds n k m.durable
  pend : ∀ c ∈ m.pending, Apart n k c
  file : m.files.getD k ⟨[], 0⟩ = ⟨b, b.length⟩
  lt : k < m.files.length

theorem find_without {l : Dir} {n a : Bs} (h : a ≠ n) : find (without l a) n = find l n := by
  unfold find without
  induction l with
  | nil => rfl
  | cons p r ih =>
    by_cases hp : p.1 = a
    · have : p.1 ≠ n := fun e => h (hp.symm.trans e)
      simpa [hp, h] using ih
    · by_cases hn : p.1 = n
      · simp [hn, h.symm]
      · simpa [hp, hn] using ih
theorem find_ins {l : Dir} {n : Bs} {x : Bs × Nat} (h : x.1 ≠ n) : find (ins x l) n = find l n := by
  induction l with
  | nil => simp [find, ins, h]
  | cons p r ih =>
    unfold ins
    split
    · simp [find, h]
    · unfold find at ih ⊢
      by_cases hn : p.1 = n
      · simp [hn]
      · simpa [hn] using ih
theorem holds_without {l : Dir} {n a : Bs} {k : Nat} (h : Holds n k l) (ha : a ≠ n) : Holds n k (without l a) :=
  ⟨by rw [find_without ha]; exact h.1, fun p hp => h.2 p (mem_without.1 hp).1⟩
theorem holds_changed {l : Dir} {n : Bs} {k : Nat} {c : Ch} (h : Holds n k l) (hc : Apart n k c) : Holds n k (changed l c) := by
  have h1 : Holds n k (if c.src = [] then l else without l c.src) := by
    split
    · exact h
    · exact holds_without h hc.1
  unfold changed
  simp only
  split
  · exact h1
  · next hd =>
    unfold withOne
    have h2 := holds_without (a := c.dst) h1 hc.2.1
    refine ⟨by rw [find_ins hc.2.1]; exact h2.1, fun p hp hk => ?_⟩
    rcases mem_ins.1 hp with rfl | hp
    · exact absurd hk (hc.2.2 hd)
    · exact h2.2 p hp hk
theorem holds_all {n : Bs} {k : Nat} : ∀ {cs : List Ch} {l : Dir}, Holds n k l → (∀ c ∈ cs, Apart n k c) → Holds n k (all l cs)
  | [], _, h, _ => h
  | c :: r, l, h, hc => by
    have := holds_all (cs := r) (holds_changed h (hc c (by simp))) (fun d hd => hc d (by simp [hd]))
    simpa [all] using this
theorem Kept.now {n : Bs} {k : Nat} {b : Bs} {m : M} (h : Kept n k b m) (ok : m.Ok) : Holds n k m.names := by
  rw [ok.now]
  exact holds_all h.dur h.pend
theorem Kept.other {n a : Bs} {k j : Nat} {b : Bs} {m : M} (h : Kept n k b m) (ok : m.Ok) (ha : a ≠ n) (hf : find m.names a = some j) : j ≠ k := by
  intro e
  subst e
  exact ha ((h.now ok).2 _ (find_mem hf) rfl)
theorem Kept.counted {n : Bs} {k : Nat} {b : Bs} {m : M} (h : Kept n k b m) : Kept n k b m.counted :=
  ⟨by rw [counted_durable]; exact h.dur, by rw [counted_pending]; exact h.pend, by rw [counted_files]; exact h.file, by rw [counted_files]; exact h.lt⟩
theorem Kept.apply {n : Bs} {k : Nat} {b : Bs} {m : M} (h : Kept n k b m) {c : Ch} (hc : Apart n k c) : Kept n k b (m.apply c) := by
  refine ⟨h.dur, fun d hd => ?_, h.file, h.lt⟩
  have hd' : d ∈ m.pending ++ [c] := hd
  rcases List.mem_append.1 hd' with h1 | h1
  · exact h.pend d h1
  · obtain rfl : d = c := by simpa using h1
    exact hc
theorem getD_set_ne {l : List Fl} {j k : Nat} (h : j ≠ k) (f : Fl) : (l.set j f).getD k ⟨[], 0⟩ = l.getD k ⟨[], 0⟩ := by
  simp [List.getD_eq_getElem?_getD, h]
theorem Kept.setF {n : Bs} {k j : Nat} {b : Bs} {m : M} (h : Kept n k b m) (hj : j ≠ k) (f : Fl → Fl) : Kept n k b { m with files := Dsk.setFile m.files j f } :=
  ⟨h.dur, h.pend, by show (Dsk.setFile m.files j f).getD k _ = _; unfold Dsk.setFile; rw [getD_set_ne hj]; exact h.file, by show k < (Dsk.setFile m.files j f).length; simp [Dsk.setFile]; exact h.lt⟩

theorem Kept.append {n a : Bs} {k : Nat} {b : Bs} {m : M} (h : Kept n k b m) (ok : m.Ok) (ha : a ≠ n) (d : Bs) : Kept n k b (m.append a d).2 := by
  unfold M.append
  split
  · exact h
  split
  · exact h
  split
  · exact h
  split
  · exact h
  split
  · next j hj => exact h.counted.setF (h.other ok ha hj) _
  · have h1 : Kept n k b ({ m.counted with files := m.counted.files ++ [⟨[], 0⟩] } : M) := by
      have hc := h.counted
      refine ⟨hc.dur, hc.pend, ?_, ?_⟩
      · show (m.counted.files ++ [(⟨[], 0⟩ : Fl)]).getD k _ = _
        rw [List.getD_eq_getElem?_getD, List.getElem?_append_left hc.lt, ← List.getD_eq_getElem?_getD]
        exact hc.file
      · show k < (m.counted.files ++ [(⟨[], 0⟩ : Fl)]).length
        have := hc.lt
        simp
        omega
    have hlt := h.lt
    have h2 : Kept n k b (m.counted.fresh a) := h1.apply ⟨fun e => ?_, ha, fun _ => by show m.counted.files.length ≠ k; rw [counted_files]; omega⟩
    · exact h2.setF (j := m.files.length) (by omega) _
    · have hn := find_mem (h.now ok).1
      have := (ok.names.2 _ hn).1
      exact isName_ne this e.symm
theorem Kept.sync {n a : Bs} {k : Nat} {b : Bs} {m : M} (h : Kept n k b m) (ok : m.Ok) (ha : a ≠ n) : Kept n k b (m.sync a).2 := by
  unfold M.sync
  split
  · exact h
  split
  · exact h
  · next j hj =>
    split
    · exact h.counted
    · have := h.counted.setF (h.other ok ha hj) synced
      rw [counted_files] at this
      exact this
theorem Kept.rename {n a c : Bs} {k : Nat} {b : Bs} {m : M} (h : Kept n k b m) (ok : m.Ok) (ha : a ≠ n) (hc : c ≠ n) : Kept n k b (m.rename a c).2 := by
  unfold M.rename
  split
  · exact h
  split
  · exact h
  · next j hj =>
    split
    · exact h
    · exact h.counted.apply ⟨ha, hc, fun _ => h.other ok ha hj⟩
theorem Kept.remove {n a : Bs} {k : Nat} {b : Bs} {m : M} (h : Kept n k b m) (ok : m.Ok) (ha : a ≠ n) : Kept n k b (m.remove a).2 := by
  unfold M.remove
  split
  · exact h
  split
  · exact h
  · refine h.counted.apply ⟨ha, fun e => ?_, fun e => absurd rfl e⟩
    have hn := find_mem (h.now ok).1
    exact isName_ne (ok.names.2 _ hn).1 e.symm
theorem Kept.publish {n : Bs} {k : Nat} {b : Bs} {m : M} (h : Kept n k b m) (ok : m.Ok) : Kept n k b m.publish.2 := by
  unfold M.publish
  split
  · exact h
  split
  · exact h.counted
  · have hc := h.counted
    exact ⟨h.now ok, fun c hc => absurd hc (by simp), hc.file, hc.lt⟩
theorem Kept.setLimit {n : Bs} {k : Nat} {b : Bs} {m : M} (h : Kept n k b m) (l : Int) : Kept n k b (m.setLimit l).2 := by
  unfold M.setLimit
  split
  · exact h
  · exact ⟨h.dur, h.pend, h.file, h.lt⟩
theorem Kept.crash {n : Bs} {k : Nat} {b : Bs} {m : M} (h : Kept n k b m) : Kept n k b m.crash := ⟨h.dur, h.pend, h.file, h.lt⟩
theorem Kept.start {n : Bs} {k : Nat} {b : Bs} {m : M} (h : Kept n k b m) (sc : List Int) : Kept n k b (m.start sc) := by
  unfold M.start
  split
  · exact h
  · refine ⟨holds_all h.dur (fun c hc => h.pend c (List.mem_of_mem_take hc)), fun c hc => absurd hc (by simp), ?_, ?_⟩
    · exact startAll_keeps k ⟨b, b.length⟩ rfl _ _ _ h.lt h.file
    · show k < (startAll _ _ _).1.length
      rw [startAll_length]
      exact h.lt
theorem Kept.actOn {n a c : Bs} {k : Nat} {b : Bs} {m : M} (h : Kept n k b m) (ok : m.Ok) (ha : a ≠ n) (hc : c ≠ n) (kind num : Int) (sc : List Int) : Kept n k b (m.actOn kind a c num sc).2 := by
  unfold M.actOn
  split
  · exact h.sync ok ha
  split
  · exact h.rename ok ha hc
  split
  · exact h.remove ok ha
  split
  · exact h.publish ok
  split
  · exact h.setLimit num
  split
  · exact h.crash
  split
  · exact h.start sc
  · exact h.append ok ha c
theorem Kept.read {n : Bs} {k : Nat} {b : Bs} {m : M} (h : Kept n k b m) (ok : m.Ok) (hd : m.down = false) : m.read n = (b, 0) := by
  unfold M.read
  rw [hd]
  simp only [Bool.false_eq_true, if_false]
  rw [(h.now ok).1]
  simp only
  rw [h.file]
theorem start_down (m : M) (sc : List Int) : (m.start sc).down = false := by
  unfold M.start
  cases hd : m.down
  · simpa using hd
  · simp

/-! ### DiskKeeps: the file "kept" -/
def kept : Bs := [107, 101, 112, 116]
theorem isKept : isName kept = true := rfl
def Kn (l : Bs) (d : Nat) : M := ⟨1000, -1, false, [⟨l, d⟩], [(kept, 0)], [], [⟨[], kept, 0⟩]⟩
def Kf (l : Bs) : M := ⟨1000, -1, false, [⟨l, l.length⟩], [(kept, 0)], [(kept, 0)], []⟩
theorem k_new (l : Bs) (hl : l.length ≤ 50) : (M.new 1000).append kept l = (0, Kn l 0) := by
  have h : ¬ (1000 : Int) < 0 + l.length := by omega
  simp [M.append, M.new, isKept, find, M.used, M.failing, M.counted, M.fresh, M.apply, M.added, changed, withOne, without, ins, setFile, addTo, outcome, Kn]
  rw [if_neg (by omega)]
  rfl
theorem k_sync (l : Bs) : (Kn l 0).sync kept = (0, Kn l l.length) := by
  simp [M.sync, Kn, find, M.failing, M.counted, setFile, synced]
theorem k_publish (l : Bs) : (Kn l l.length).publish = (0, Kf l) := by
  simp [M.publish, Kn, Kf, M.failing, M.counted]
theorem k_kept (l : Bs) : Kept kept 0 l (Kf l) := by
  refine ⟨⟨rfl, fun p hp _ => ?_⟩, fun c hc => absurd hc (by simp [Kf]), rfl, by simp [Kf]⟩
  have : p = (kept, 0) := by simpa [Kf] using hp
  rw [this]
end Go.Dsk

/- Two plain disks that differ only in how their files are numbered behave alike. -/
namespace Go.Dsk

def mapDir (r : Nat → Nat) (l : Dir) : Dir := l.map fun p => (p.1, r p.2)
def ren (r : Nat → Nat) (c : Ch) : Ch := if c.dst = [] then c else { c with file := r c.file }
structure Sim (r : Nat → Nat) (a b : M) : Prop where
  cap : b.cap = a.cap
  limit : b.limit = a.limit
  down : b.down = a.down
  names : b.names = mapDir r a.names
  durable : b.durable = mapDir r a.durable
  pend : b.pending = a.pending.map (ren r)
  files : ∀ k, k < a.files.length → r k < b.files.length ∧ b.files.getD (r k) ⟨[], 0⟩ = a.files.getD k ⟨[], 0⟩
  inj : ∀ i j, i < a.files.length → j < a.files.length → r i = r j → i = j
def SimE (a b : M) : Prop := ∃ r, Sim r a b

theorem ren_src (r : Nat → Nat) (c : Ch) : (ren r c).src = c.src := by unfold ren; split <;> rfl
theorem ren_dst (r : Nat → Nat) (c : Ch) : (ren r c).dst = c.dst := by unfold ren; split <;> rfl
theorem ren_file (r : Nat → Nat) (c : Ch) (h : c.dst ≠ []) : (ren r c).file = r c.file := by unfold ren; rw [if_neg h]
theorem find_map (r : Nat → Nat) (n : Bs) (l : Dir) : find (mapDir r l) n = (find l n).map r := by
  unfold find mapDir
  rw [List.find?_map, Option.map_map, Option.map_map]
  rfl
theorem without_map (r : Nat → Nat) (n : Bs) (l : Dir) : without (mapDir r l) n = mapDir r (without l n) := by
  unfold without mapDir
  rw [List.filter_map]
  rfl
theorem ins_map (r : Nat → Nat) (x : Bs × Nat) : ∀ l : Dir, ins (x.1, r x.2) (mapDir r l) = mapDir r (ins x l)
  | [] => rfl
  | y :: t => by
    have ih := ins_map r x t
    unfold mapDir at ih ⊢
    unfold ins
    simp only [List.map_cons]
    split
    · rfl
    · rw [ih]; rfl
theorem withOne_map (r : Nat → Nat) (n : Bs) (k : Nat) (l : Dir) : withOne (mapDir r l) (n, r k) = mapDir r (withOne l (n, k)) := by
  unfold withOne
  rw [without_map]
  exact ins_map r (n, k) _
theorem changed_map (r : Nat → Nat) (c : Ch) (l : Dir) : changed (mapDir r l) (ren r c) = mapDir r (changed l c) := by
  unfold changed
  simp only [ren_src, ren_dst]
  by_cases hd : c.dst = []
  · simp only [hd, if_true]
    split
    · rfl
    · exact without_map _ _ _
  · simp only [hd, if_false, ren_file r c hd]
    split
    · exact withOne_map _ _ _ _
    · rw [without_map]; exact withOne_map _ _ _ _
theorem all_map (r : Nat → Nat) : ∀ (cs : List Ch) (l : Dir), all (mapDir r l) (cs.map (ren r)) = mapDir r (all l cs)
  | [], _ => rfl
  | c :: t, l => by
    have := all_map r t (changed l c)
    unfold all at this ⊢
    simp only [List.map_cons, List.foldl_cons, changed_map, this]
theorem mapDir_congr {r r' : Nat → Nat} {l : Dir} (h : ∀ p ∈ l, r p.2 = r' p.2) : mapDir r l = mapDir r' l := List.map_congr_left fun p hp => by rw [h p hp]
theorem mapDir_length (r : Nat → Nat) (l : Dir) : (mapDir r l).length = l.length := by simp [mapDir]
theorem mapDir_names (r : Nat → Nat) (l : Dir) : (mapDir r l).map (·.1) = l.map (·.1) := by simp [mapDir]
theorem good_names {n : Nat} {l : Dir} (h : Good n l) : ∀ p ∈ l, p.2 < n := fun p hp => (h.2 p hp).2

section
variable {r : Nat → Nat} {a b : M}
theorem Sim.find (h : Sim r a b) (n : Bs) : find b.names n = (find a.names n).map r := by rw [h.names, find_map]
theorem Sim.len (h : Sim r a b) {k : Nat} (hk : k < a.files.length) : b.len (r k) = a.len k := by unfold M.len; rw [(h.files k hk).2]
theorem Sim.used (h : Sim r a b) (ha : a.Ok) : b.used = a.used := by
  unfold M.used
  rw [h.names]
  unfold mapDir
  rw [List.map_map]
  congr 1
  exact List.map_congr_left fun p hp => h.len (good_names ha.names p hp)
theorem Sim.counted (h : Sim r a b) : Sim r a.counted b.counted := by
  have hl := h.limit
  unfold M.counted
  by_cases h0 : a.limit = 0
  · rw [if_pos h0, if_pos (hl.trans h0)]
    exact ⟨h.cap, hl, rfl, h.names, h.durable, h.pend, h.files, h.inj⟩
  · rw [if_neg h0, if_neg (show ¬ b.limit = 0 from fun e => h0 (hl.symm.trans e))]
    by_cases h1 : 0 < a.limit
    · rw [if_pos h1, if_pos (show 0 < b.limit by omega)]
      exact ⟨h.cap, by simp [hl], h.down, h.names, h.durable, h.pend, h.files, h.inj⟩
    · rw [if_neg h1, if_neg (show ¬ 0 < b.limit by omega)]
      exact h
theorem Sim.failing (h : Sim r a b) : b.failing = a.failing := by unfold M.failing; rw [h.limit]
theorem Sim.apply (h : Sim r a b) (c : Ch) : Sim r (a.apply c) (b.apply (ren r c)) :=
  ⟨h.cap, h.limit, h.down, by show changed b.names _ = _; rw [h.names, changed_map]; rfl, h.durable, by show b.pending ++ _ = _; rw [h.pend]; simp [M.apply], h.files, h.inj⟩
theorem getD_set (l : List Fl) (k j : Nat) (f : Fl) (hk : k < l.length) : (l.set k f).getD j ⟨[], 0⟩ = if j = k then f else l.getD j ⟨[], 0⟩ := by
  simp only [List.getD_eq_getElem?_getD, List.getElem?_set]
  by_cases h : k = j
  · subst h; simp [hk]
  · rw [if_neg h, if_neg (fun e => h e.symm)]
theorem Sim.set (h : Sim r a b) {k : Nat} (hk : k < a.files.length) (f : Fl) : Sim r { a with files := a.files.set k f } { b with files := b.files.set (r k) f } := by
  refine ⟨h.cap, h.limit, h.down, h.names, h.durable, h.pend, ?_, ?_⟩
  · intro j hj
    simp only [List.length_set] at hj ⊢
    refine ⟨(h.files j hj).1, ?_⟩
    rw [getD_set _ _ _ _ hk, getD_set _ _ _ _ (h.files k hk).1]
    by_cases e : j = k
    · subst e; simp
    · rw [if_neg e, if_neg (fun e2 => e (h.inj j k hj hk e2))]
      exact (h.files j hj).2
  · intro i j hi hj
    simp only [List.length_set] at hi hj
    exact h.inj i j hi hj
theorem Sim.setFile (h : Sim r a b) {k : Nat} (hk : k < a.files.length) (f : Fl → Fl) : Sim r { a with files := setFile a.files k f } { b with files := setFile b.files (r k) f } := by
  unfold Dsk.setFile
  rw [(h.files k hk).2]
  exact h.set hk _
theorem ren_congr {r r' : Nat → Nat} {c : Ch} (h : c.dst ≠ [] → r c.file = r' c.file) : ren r c = ren r' c := by
  unfold ren
  split
  · rfl
  · rw [h ‹_›]
theorem chain_files {n : Nat} : ∀ {l : Dir} {cs : List Ch}, Chain n l cs → ∀ c ∈ cs, c.dst ≠ [] → c.file < n
  | _, _ :: _, h, c, hc, hd => by
    rcases List.mem_cons.1 hc with rfl | hc
    · exact h.1.2.2.2.1 hd
    · exact chain_files h.2 c hc hd
/-- A new file. -/
theorem Sim.grow (h : Sim r a b) (ha : a.Ok) : Sim (fun k => if k = a.files.length then b.files.length else r k) { a with files := a.files ++ [⟨[], 0⟩] } { b with files := b.files ++ [⟨[], 0⟩] } := by
  have hne : ∀ k, k < a.files.length → (if k = a.files.length then b.files.length else r k) = r k := fun k hk => if_neg (by omega)
  refine ⟨h.cap, h.limit, h.down, ?_, ?_, ?_, ?_, ?_⟩
  · show b.names = mapDir _ a.names
    rw [h.names]
    exact mapDir_congr fun p hp => (hne _ (good_names ha.names p hp)).symm
  · show b.durable = mapDir _ a.durable
    rw [h.durable]
    exact mapDir_congr fun p hp => (hne _ (good_names ha.durable p hp)).symm
  · show b.pending = a.pending.map _
    rw [h.pend]
    exact List.map_congr_left fun c hc => ren_congr fun hd => (hne _ (chain_files ha.chain c hc hd)).symm
  · intro k hk
    simp only [List.length_append, List.length_singleton] at hk ⊢
    by_cases e : k = a.files.length
    · rw [if_pos e]
      refine ⟨by omega, ?_⟩
      subst e
      simp [List.getD_eq_getElem?_getD]
    · have hk' : k < a.files.length := by omega
      rw [if_neg e]
      obtain ⟨h1, h2⟩ := h.files k hk'
      refine ⟨by omega, ?_⟩
      simp only [List.getD_eq_getElem?_getD] at h2 ⊢
      rw [List.getElem?_append_left h1, List.getElem?_append_left hk', h2]
  · intro i j hi hj he
    simp only [List.length_append, List.length_singleton] at hi hj
    by_cases e1 : i = a.files.length
    · by_cases e2 : j = a.files.length
      · omega
      · rw [if_pos e1, if_neg e2] at he
        have := (h.files j (by omega)).1
        omega
    · by_cases e2 : j = a.files.length
      · rw [if_neg e1, if_pos e2] at he
        have := (h.files i (by omega)).1
        omega
      · rw [if_neg e1, if_neg e2] at he
        exact h.inj i j (by omega) (by omega) he
end

section
variable {a b : M}
theorem sim_append (h : SimE a b) (ha : a.Ok) (n d : Bs) : (b.append n d).1 = (a.append n d).1 ∧ SimE (a.append n d).2 (b.append n d).2 := by
  obtain ⟨r, h⟩ := h
  have hu := h.used ha
  have hf := h.find n
  have hl : b.names.length = a.names.length := by rw [h.names, mapDir_length]
  have hN : (find b.names n).isNone = (find a.names n).isNone := by rw [hf]; simp
  have hB : (b.cap < (b.used : Int) + d.length) = (a.cap < (a.used : Int) + d.length) := by rw [hu, h.cap]
  unfold M.append
  rw [h.down, hN, hl]
  simp only [hB]
  split
  · exact ⟨rfl, r, h⟩
  split
  · exact ⟨rfl, r, h⟩
  rename_i _ hnm
  split
  · exact ⟨rfl, r, h⟩
  split
  · exact ⟨rfl, r, h⟩
  rw [hf]
  cases hk : find a.names n with
  | some k =>
    have hlt := (find_good ha.names hk).2
    simp only [Option.map_some]
    refine ⟨by rw [h.failing], r, ?_⟩
    exact h.counted.setFile (by rw [counted_files]; exact hlt) _
  | none =>
    simp only [Option.map_none]
    refine ⟨by rw [h.failing], ?_⟩
    have hg := h.counted.grow (counted_ok ha)
    have hap := hg.apply ⟨[], n, a.counted.files.length⟩
    refine ⟨fun k => if k = a.counted.files.length then b.counted.files.length else r k, ?_⟩
    have hren : ren (fun k => if k = a.counted.files.length then b.counted.files.length else r k) ⟨[], n, a.counted.files.length⟩ = ⟨[], n, b.counted.files.length⟩ := by
      unfold ren
      have hn : n ≠ [] := isName_ne (by simpa using hnm)
      simp [hn]
    rw [hren] at hap
    have := hap.setFile (k := a.counted.files.length) (by simp [M.apply]) (addTo d)
    simp only [if_true] at this
    have e1 : a.counted.files.length = a.files.length := by rw [counted_files]
    have e2 : b.counted.files.length = b.files.length := by rw [counted_files]
    unfold M.fresh M.added
    rw [← e1, ← e2]
    exact this
theorem sim_sync (h : SimE a b) (ha : a.Ok) (n : Bs) : (b.sync n).1 = (a.sync n).1 ∧ SimE (a.sync n).2 (b.sync n).2 := by
  obtain ⟨r, h⟩ := h
  have hf := h.find n
  unfold M.sync
  rw [h.down, hf]
  split
  · exact ⟨rfl, r, h⟩
  cases hk : find a.names n with
  | none => exact ⟨rfl, r, h⟩
  | some k =>
    have hlt := (find_good ha.names hk).2
    simp only [Option.map_some]
    rw [h.failing]
    split
    · exact ⟨rfl, r, h.counted⟩
    · have := h.counted.setFile (k := k) (by rw [counted_files]; exact hlt) synced
      simp only [counted_files] at this
      exact ⟨rfl, r, this⟩
theorem sim_rename (h : SimE a b) (_ha : a.Ok) (n t : Bs) : (b.rename n t).1 = (a.rename n t).1 ∧ SimE (a.rename n t).2 (b.rename n t).2 := by
  obtain ⟨r, h⟩ := h
  have hf := h.find n
  unfold M.rename
  rw [h.down, hf]
  split
  · exact ⟨rfl, r, h⟩
  cases hk : find a.names n with
  | none => exact ⟨rfl, r, h⟩
  | some k =>
    simp only [Option.map_some]
    split
    · exact ⟨rfl, r, h⟩
    · rename_i hnm
      have hn : t ≠ [] := isName_ne (by simpa using hnm)
      have := h.counted.apply ⟨n, t, k⟩
      rw [show ren r ⟨n, t, k⟩ = ⟨n, t, r k⟩ by simp [ren, hn]] at this
      exact ⟨by rw [h.failing], r, this⟩
theorem sim_remove (h : SimE a b) (n : Bs) : (b.remove n).1 = (a.remove n).1 ∧ SimE (a.remove n).2 (b.remove n).2 := by
  obtain ⟨r, h⟩ := h
  have hf := h.find n
  unfold M.remove
  rw [h.down, hf]
  split
  · exact ⟨rfl, r, h⟩
  cases hk : find a.names n with
  | none => exact ⟨rfl, r, h⟩
  | some k =>
    simp only [Option.map_some]
    exact ⟨by rw [h.failing], r, h.counted.apply ⟨n, [], 0⟩⟩
theorem sim_publish (h : SimE a b) : b.publish.1 = a.publish.1 ∧ SimE a.publish.2 b.publish.2 := by
  obtain ⟨r, h⟩ := h
  unfold M.publish
  rw [h.down, h.failing]
  split
  · exact ⟨rfl, r, h⟩
  split
  · exact ⟨rfl, r, h.counted⟩
  · have c := h.counted
    exact ⟨rfl, r, ⟨c.cap, c.limit, c.down, c.names, h.names, rfl, c.files, c.inj⟩⟩
theorem sim_limit (h : SimE a b) (n : Int) : (b.setLimit n).1 = (a.setLimit n).1 ∧ SimE (a.setLimit n).2 (b.setLimit n).2 := by
  obtain ⟨r, h⟩ := h
  unfold M.setLimit
  rw [h.down]
  split
  · exact ⟨rfl, r, h⟩
  · exact ⟨rfl, r, ⟨h.cap, rfl, rfl, h.names, h.durable, h.pend, h.files, h.inj⟩⟩
theorem sim_crash (h : SimE a b) : SimE a.crash b.crash := by
  obtain ⟨r, h⟩ := h
  exact ⟨r, ⟨h.cap, h.limit, rfl, h.names, h.durable, h.pend, h.files, h.inj⟩⟩
/-- Starting files: the same bytes, whatever their numbers. -/
theorem sim_startAll {r : Nat → Nat} : ∀ (l : Dir) (fs gs : List Fl) (sc : List Int), (∀ p ∈ l, p.2 < fs.length) → (∀ k, k < fs.length → r k < gs.length ∧ gs.getD (r k) ⟨[], 0⟩ = fs.getD k ⟨[], 0⟩) → (∀ i j, i < fs.length → j < fs.length → r i = r j → i = j) →
    (startAll fs sc l).1.length = fs.length ∧ ∀ k, k < fs.length → r k < (startAll gs sc (mapDir r l)).1.length ∧ (startAll gs sc (mapDir r l)).1.getD (r k) ⟨[], 0⟩ = (startAll fs sc l).1.getD k ⟨[], 0⟩
  | [], fs, gs, sc, _, h2, _ => ⟨rfl, h2⟩
  | p :: t, fs, gs, sc, h1, h2, h3 => by
    have hp := h1 p (by simp)
    obtain ⟨g1, g2⟩ := h2 p.2 hp
    have e1 : startAll gs sc (mapDir r (p :: t)) = startAll (gs.set (r p.2) (startFile (fs.getD p.2 ⟨[], 0⟩) sc).1) (startFile (fs.getD p.2 ⟨[], 0⟩) sc).2 (mapDir r t) := by
      rw [← g2]; rfl
    have e2 : startAll fs sc (p :: t) = startAll (fs.set p.2 (startFile (fs.getD p.2 ⟨[], 0⟩) sc).1) (startFile (fs.getD p.2 ⟨[], 0⟩) sc).2 t := rfl
    rw [e1, e2]
    generalize startFile (fs.getD p.2 ⟨[], 0⟩) sc = q
    have := sim_startAll (r := r) t (fs.set p.2 q.1) (gs.set (r p.2) q.1) q.2 (fun x hx => by simpa using h1 x (by simp [hx])) (fun k hk => by
      simp only [List.length_set] at hk ⊢
      refine ⟨(h2 k hk).1, ?_⟩
      rw [getD_set _ _ _ _ hp, getD_set _ _ _ _ g1]
      by_cases e : k = p.2
      · subst e; simp
      · rw [if_neg e, if_neg (fun e2 => e (h3 k p.2 hk hp e2))]
        exact (h2 k hk).2) (fun i j hi hj => h3 i j (by simpa using hi) (by simpa using hj))
    simpa only [List.length_set] using this
theorem sim_start (h : SimE a b) (ha : a.Ok) (sc : List Int) : SimE (a.start sc) (b.start sc) := by
  obtain ⟨r, h⟩ := h
  unfold M.start
  rw [h.down]
  split
  · exact ⟨r, h⟩
  have hl : b.pending.length = a.pending.length := by rw [h.pend]; simp
  have hd : all b.durable (b.pending.take (pick sc a.pending.length).1) = mapDir r (all a.durable (a.pending.take (pick sc a.pending.length).1)) := by
    rw [h.durable, h.pend, ← List.map_take, all_map]
  have hg : Good a.files.length (all a.durable (a.pending.take (pick sc a.pending.length).1)) := good_all ha.durable (chain_take _ ha.chain)
  simp only [hl, hd]
  generalize all a.durable (a.pending.take (pick sc a.pending.length).1) = d at hg
  generalize (pick sc a.pending.length).2 = s2
  obtain ⟨k1, k2⟩ := sim_startAll (r := r) d a.files b.files s2 (good_names hg) h.files h.inj
  exact ⟨r, ⟨h.cap, rfl, rfl, rfl, rfl, rfl, fun k hk => k2 k (by rw [← k1]; exact hk), fun i j hi hj => h.inj i j (by rw [← k1]; exact hi) (by rw [← k1]; exact hj)⟩⟩
theorem sim_actOn (h : SimE a b) (ha : a.Ok) (kind : Int) (x y : Bs) (n : Int) (sc : List Int) : (b.actOn kind x y n sc).1 = (a.actOn kind x y n sc).1 ∧ SimE (a.actOn kind x y n sc).2 (b.actOn kind x y n sc).2 := by
  unfold M.actOn
  split
  · exact sim_sync h ha _
  split
  · exact sim_rename h ha _ _
  split
  · exact sim_remove h _
  split
  · exact sim_publish h
  split
  · exact sim_limit h _
  split
  · exact ⟨rfl, sim_crash h⟩
  split
  · exact ⟨rfl, sim_start h ha _⟩
  · exact sim_append h ha _ _
theorem sim_read (h : SimE a b) (ha : a.Ok) (n : Bs) : b.read n = a.read n := by
  obtain ⟨r, h⟩ := h
  unfold M.read
  rw [h.down, h.find n]
  split
  · rfl
  cases hk : find a.names n with
  | none => rfl
  | some k =>
    simp only [Option.map_some]
    rw [(h.files k (find_good ha.names hk).2).2]
theorem sim_list (h : SimE a b) : b.list = a.list := by
  obtain ⟨r, h⟩ := h
  unfold M.list
  rw [h.down, h.names, mapDir_names]
theorem sim_free (h : SimE a b) (ha : a.Ok) : b.free = a.free := by
  obtain ⟨r, h⟩ := h
  unfold M.free
  rw [h.down, h.used ha, h.cap]
theorem sim_down (h : SimE a b) : b.down = a.down := by
  obtain ⟨r, h⟩ := h
  exact h.down
end
end Go.Dsk

/- A plain disk whose files are numbered anew, in the order in which they were copied. -/
namespace Go.Dsk

def idx (L : List (Nat × Nat)) (k : Nat) : Nat := L.findIdx (fun p => p.1 == k)
def unidx (L : List (Nat × Nat)) (i : Nat) : Nat := (L.getD i (0, 0)).1
def M.renum (m : M) (L : List (Nat × Nat)) : M :=
  { m with files := L.map (fun p => m.files.getD p.1 ⟨[], 0⟩), names := mapDir (idx L) m.names, durable := mapDir (idx L) m.durable, pending := m.pending.map (ren (idx L)) }

theorem idx_lt {L : List (Nat × Nat)} {k : Nat} (h : k ∈ L.map (·.1)) : idx L k < L.length := by
  obtain ⟨p, hp, rfl⟩ := List.mem_map.1 h
  exact List.findIdx_lt_length_of_exists ⟨p, hp, by simp⟩
theorem idx_at {L : List (Nat × Nat)} {k : Nat} (h : k ∈ L.map (·.1)) : (L.getD (idx L k) (0, 0)).1 = k := by
  have hl := idx_lt h
  have := @List.findIdx_getElem (Nat × Nat) (fun p => p.1 == k) L hl
  rw [List.getD_eq_getElem?_getD, List.getElem?_eq_getElem hl]
  exact beq_iff_eq.1 this
theorem unidx_idx {L : List (Nat × Nat)} {k : Nat} (h : k ∈ L.map (·.1)) : unidx L (idx L k) = k := idx_at h
theorem mapDir_mapDir (r s : Nat → Nat) (l : Dir) : mapDir r (mapDir s l) = mapDir (fun k => r (s k)) l := by simp [mapDir]
theorem mapDir_id {r : Nat → Nat} {l : Dir} (h : ∀ p ∈ l, r p.2 = p.2) : mapDir r l = l := by
  unfold mapDir
  conv => rhs; rw [← List.map_id l]
  exact List.map_congr_left fun p hp => by rw [h p hp]; rfl
theorem ren_ren {r s : Nat → Nat} {c : Ch} (h : c.dst ≠ [] → r (s c.file) = c.file) : ren r (ren s c) = c := by
  by_cases hd : c.dst = []
  · have e : ren s c = c := if_pos hd
    rw [e]
    exact if_pos hd
  · have e : ren s c = { c with file := s c.file } := if_neg hd
    rw [e]
    have e2 : ren r { c with file := s c.file } = { c with file := r (s c.file) } := if_neg hd
    rw [e2, h hd]
/-- Files that a directory names, and that pending changes set, are all that pending changes name. -/
theorem chain_in {n : Nat} (K : Nat → Prop) : ∀ {l : Dir} {cs : List Ch}, Chain n l cs → (∀ p ∈ l, K p.2) → (∀ c ∈ cs, c.src = [] → K c.file) → ∀ c ∈ cs, c.dst ≠ [] → K c.file
  | _, [], _, _, _ => fun _ hc => by cases hc
  | l, c :: t, h, hl, hs => by
    have hc : c.dst ≠ [] → K c.file := fun hd => by
      by_cases hsrc : c.src = []
      · exact hs c (by simp) hsrc
      · exact hl (c.src, c.file) (find_mem (h.1.2.2.2.2 hsrc hd))
    intro d hd
    rcases List.mem_cons.1 hd with rfl | hd
    · exact hc
    · refine chain_in K h.2 (fun p hp => ?_) (fun x hx => hs x (by simp [hx])) d hd
      unfold changed at hp
      have hw : ∀ q ∈ (if c.src = [] then l else without l c.src), K q.2 := fun q hq => by
        split at hq
        · exact hl q hq
        · exact hl q (mem_without.1 hq).1
      simp only at hp
      split at hp
      · exact hw p hp
      · rename_i hdst
        unfold withOne at hp
        rcases mem_ins.1 hp with rfl | hp
        · exact hc hdst
        · exact hw p (mem_without.1 hp).1
theorem chain_map {n n' : Nat} (r : Nat → Nat) : ∀ {l : Dir} {cs : List Ch}, Chain n l cs → (∀ c ∈ cs, c.dst ≠ [] → r c.file < n') → Chain n' (mapDir r l) (cs.map (ren r))
  | _, [], _, _ => trivial
  | l, c :: t, h, hf => by
    refine ⟨?_, ?_⟩
    · obtain ⟨h1, h2, h3, h4, h5⟩ := h.1
      refine ⟨by rw [ren_src]; exact h1, by rw [ren_dst]; exact h2, by rw [ren_src, ren_dst]; exact h3, ?_, ?_⟩
      · rw [ren_dst]; intro hd; rw [ren_file _ _ hd]; exact hf c (by simp) hd
      · rw [ren_src, ren_dst]; intro hs hd; rw [find_map, h5 hs hd, ren_file _ _ hd]; rfl
    · rw [changed_map]
      exact chain_map r h.2 (fun x hx => hf x (by simp [hx]))
theorem sorted_map (r : Nat → Nat) {l : Dir} (h : Sorted l) : Sorted (mapDir r l) := by
  unfold Sorted mapDir at *
  rw [List.pairwise_map]
  exact h
theorem good_map {n n' : Nat} (r : Nat → Nat) {l : Dir} (h : Good n l) (hr : ∀ p ∈ l, r p.2 < n') : Good n' (mapDir r l) := by
  refine ⟨sorted_map r h.1, fun p hp => ?_⟩
  obtain ⟨q, hq, rfl⟩ := List.mem_map.1 hp
  exact ⟨(h.2 q hq).1, hr q hq⟩
section
variable {m : M} {L : List (Nat × Nat)}
theorem renum_ok (h : m.Ok) (h1 : ∀ p ∈ m.names, p.2 ∈ L.map (·.1)) (h2 : ∀ p ∈ m.durable, p.2 ∈ L.map (·.1)) (h3 : ∀ c ∈ m.pending, c.src = [] → c.file ∈ L.map (·.1)) (hi : ∀ p ∈ L, p.1 < m.files.length) : (m.renum L).Ok := by
  have h4 := chain_in (fun k => k ∈ L.map (·.1)) h.chain h2 h3
  refine ⟨?_, ?_, ?_, ?_, ?_, h.cap0, h.cap1, h.lim0, h.lim1⟩
  · exact good_map _ h.names (fun p hp => by simpa [M.renum] using idx_lt (h1 p hp))
  · exact good_map _ h.durable (fun p hp => by simpa [M.renum] using idx_lt (h2 p hp))
  · exact chain_map _ h.chain (fun c hc hd => by simpa [M.renum] using idx_lt (h4 c hc hd))
  · show mapDir _ _ = all (mapDir _ _) (m.pending.map _)
    rw [all_map, h.now]
  · intro f hf
    obtain ⟨p, hp, rfl⟩ := List.mem_map.1 hf
    have := hi p hp
    exact h.sizes _ (by rw [List.getD_eq_getElem?_getD, List.getElem?_eq_getElem this]; exact List.getElem_mem this)
theorem renum_sim (h : m.Ok) (h1 : ∀ p ∈ m.names, p.2 ∈ L.map (·.1)) (h2 : ∀ p ∈ m.durable, p.2 ∈ L.map (·.1)) (h3 : ∀ c ∈ m.pending, c.src = [] → c.file ∈ L.map (·.1)) (hi : ∀ p ∈ L, p.1 < m.files.length) (hn : (L.map (·.1)).Nodup) : SimE (m.renum L) m := by
  have h4 := chain_in (fun k => k ∈ L.map (·.1)) h.chain h2 h3
  refine ⟨unidx L, rfl, rfl, rfl, ?_, ?_, ?_, ?_, ?_⟩
  · show m.names = mapDir _ (mapDir _ m.names)
    rw [mapDir_mapDir, mapDir_id (fun p hp => unidx_idx (h1 p hp))]
  · show m.durable = mapDir _ (mapDir _ m.durable)
    rw [mapDir_mapDir, mapDir_id (fun p hp => unidx_idx (h2 p hp))]
  · show m.pending = (m.pending.map _).map _
    rw [List.map_map]
    conv => lhs; rw [← List.map_id m.pending]
    exact List.map_congr_left fun c hc => (ren_ren fun hd => unidx_idx (h4 c hc hd)).symm
  · intro k hk
    have hk' : k < L.length := by simpa [M.renum] using hk
    refine ⟨?_, ?_⟩
    · unfold unidx
      rw [List.getD_eq_getElem?_getD, List.getElem?_eq_getElem hk']
      exact hi _ (List.getElem_mem hk')
    · unfold unidx M.renum
      simp only [List.getD_eq_getElem?_getD, List.getElem?_map, List.getElem?_eq_getElem hk', Option.map_some, Option.getD_some]
  · intro i j hi' hj' he
    have hi1 : i < L.length := by simpa [M.renum] using hi'
    have hj1 : j < L.length := by simpa [M.renum] using hj'
    unfold unidx at he
    simp only [List.getD_eq_getElem?_getD, List.getElem?_eq_getElem hi1, List.getElem?_eq_getElem hj1, Option.getD_some] at he
    have := (List.getElem_inj (h₀ := by simpa using hi1) (h₁ := by simpa using hj1) hn).1 (by simpa using he)
    exact this
theorem renum_wt : (m.renum L).wt = m.wt := by simp [M.wt, M.renum, mapDir]
end
end Go.Dsk

/- Each operation keeps a plain disk right. -/
namespace Go.Dsk
section
variable {m : M}
theorem append_keeps (h : m.Ok) (n d : Bs) : (m.append n d).2.Ok := by
  unfold M.append
  split
  · exact h
  split
  · exact h
  split
  · exact h
  split
  · exact h
  rename_i _ hnm _ hcap
  have hn : isName n = true := by simpa using hnm
  split
  · rename_i k hf
    refine setFile_ok (m := m.counted) (counted_ok h) k (addTo d) ?_
    rw [counted_files, counted_cap]
    have h1 := len_le_used hf
    have h2 := getD_size h k
    unfold M.len at h1
    simp only [addTo, List.length_append]
    constructor <;> omega
  · refine setFile_ok (m := m.counted.fresh n) (fresh_ok (counted_ok h) hn) m.files.length (addTo d) ?_
    have e : (m.counted.fresh n).files.getD m.files.length ⟨[], 0⟩ = ⟨[], 0⟩ := by
      simp [M.fresh, M.apply, counted_files, List.getD_eq_getElem?_getD]
    have c : (m.counted.fresh n).cap = m.cap := by simp only [M.fresh, M.apply]; exact counted_cap m
    rw [e, c]
    simp only [addTo, List.nil_append]
    constructor <;> omega
theorem sync_keeps (h : m.Ok) (n : Bs) : (m.sync n).2.Ok := by
  unfold M.sync
  split
  · exact h
  split
  · exact h
  rename_i k hf
  split
  · exact counted_ok h
  · have t := setFile_ok (m := m.counted) (counted_ok h) k synced ⟨by rw [counted_files, counted_cap]; exact (getD_size h k).1, Nat.le_refl _⟩
    rw [counted_files] at t
    exact t
theorem rename_keeps (h : m.Ok) (a b : Bs) : (m.rename a b).2.Ok := by
  unfold M.rename
  split
  · exact h
  split
  · exact h
  rename_i k hf
  split
  · exact h
  rename_i hnm
  have hn : isName b = true := by simpa using hnm
  have hg := find_good h.names hf
  refine apply_ok (counted_ok h) ?_
  rw [counted_files, counted_names]
  exact ⟨.inr hg.1, .inr hn, fun _ => isName_ne hn, fun _ => hg.2, fun _ _ => hf⟩
theorem remove_keeps (h : m.Ok) (a : Bs) : (m.remove a).2.Ok := by
  unfold M.remove
  split
  · exact h
  split
  · exact h
  rename_i k hf
  have hg := find_good h.names hf
  refine apply_ok (counted_ok h) ?_
  rw [counted_files, counted_names]
  exact ⟨.inr hg.1, .inl rfl, fun e => absurd e (isName_ne hg.1), fun e => absurd rfl e, fun _ e => absurd rfl e⟩
theorem publish_keeps (h : m.Ok) : m.publish.2.Ok := by
  unfold M.publish
  split
  · exact h
  split
  · exact counted_ok h
  · have c := counted_ok h
    have e := counted_names m
    have g : Good m.counted.files.length m.names := by rw [← e]; exact c.names
    exact ⟨c.names, g, trivial, e, c.sizes, c.cap0, c.cap1, c.lim0, c.lim1⟩
theorem crash_keeps (h : m.Ok) : m.crash.Ok := ⟨h.names, h.durable, h.chain, h.now, h.sizes, h.cap0, h.cap1, h.lim0, h.lim1⟩
end
end Go.Dsk

/- The journal's bytes as plain Lean: checks, frames, and what is right of some bytes. No program stands here. -/
namespace Go.Jnl
open Go.Dsk (Bs)

/-! ### the check of some bytes -/
def ckStep (p : Nat × Nat) (c : UInt8) : Nat × Nat := ((p.1 + c.toNat) % 65521, (p.2 + (p.1 + c.toNat) % 65521) % 65521)
def ck (s : Bs) : Nat × Nat := s.foldl ckStep (1, 0)
def check (s : Bs) : Nat := (ck s).2 * 65536 + (ck s).1
theorem ck_fold : ∀ (s : Bs) (p : Nat × Nat), p.1 < 65521 → p.2 < 65521 → (s.foldl ckStep p).1 < 65521 ∧ (s.foldl ckStep p).2 < 65521
  | [], p, h1, h2 => ⟨h1, h2⟩
  | c :: t, p, _, _ => ck_fold t (ckStep p c) (Nat.mod_lt _ (by decide)) (Nat.mod_lt _ (by decide))
theorem ck_lt (s : Bs) : (ck s).1 < 65521 ∧ (ck s).2 < 65521 := ck_fold s (1, 0) (by decide) (by decide)
theorem check_lt (s : Bs) : check s < 4294967296 := by
  have := ck_lt s
  unfold check
  omega
theorem ck_snoc (s : Bs) (c : UInt8) : ck (s ++ [c]) = ckStep (ck s) c := by simp [ck, List.foldl_append]

/-! ### numbers of four bytes -/
def four (n : Nat) : Bs := [UInt8.ofNat (n / 16777216), UInt8.ofNat (n / 65536), UInt8.ofNat (n / 256), UInt8.ofNat n]
def number (s : Bs) : Nat := (s.getD 0 0).toNat * 16777216 + (s.getD 1 0).toNat * 65536 + (s.getD 2 0).toNat * 256 + (s.getD 3 0).toNat
theorem four_length (n : Nat) : (four n).length = 4 := rfl
theorem number_four {n : Nat} (h : n < 4294967296) (t : Bs) : number (four n ++ t) = n := by
  simp only [number, four, List.cons_append, List.nil_append, List.getD_cons_zero, List.getD_cons_succ, UInt8.toNat_ofNat']
  omega
theorem number_lt (s : Bs) : number s < 4294967296 := by
  have h0 := (s.getD 0 0).toNat_lt
  have h1 := (s.getD 1 0).toNat_lt
  have h2 := (s.getD 2 0).toNat_lt
  have h3 := (s.getD 3 0).toNat_lt
  unfold number
  omega
theorem byte_ofNat {n : Nat} {c : UInt8} (h : n % 256 = c.toNat) : UInt8.ofNat n = c := by
  rw [← UInt8.toNat_inj, UInt8.toNat_ofNat', h]
theorem four_number : ∀ {s : Bs}, 4 ≤ s.length → four (number s) = s.take 4
  | a :: b :: c :: d :: t, _ => by
    have h0 := a.toNat_lt
    have h1 := b.toNat_lt
    have h2 := c.toNat_lt
    have h3 := d.toNat_lt
    simp only [number, four, List.getD_cons_zero, List.getD_cons_succ, List.take_succ_cons, List.take_zero]
    rw [byte_ofNat (c := a) (by omega), byte_ofNat (c := b) (by omega), byte_ofNat (c := c) (by omega), byte_ofNat (c := d) (by omega)]
  | [], h => by simp at h
  | [_], h => by simp at h
  | [_, _], h => by simp at h
  | [_, _, _], h => by simp at h

/-! ### frames -/
def frame (s : Bs) : Bs := four s.length ++ (four (check s) ++ s)
theorem frame_length (s : Bs) : (frame s).length = 8 + s.length := by simp [frame, four_length]; omega

/-- The record with which some bytes begin, and the bytes behind it; whether it is right. -/
def cut (d : Bs) : Bs × Bs × Bool :=
  if d.length < 8 then ([], d, false)
  else if 4096 < number d ∨ d.length - 8 < number d then ([], d, false)
  else ((d.drop 8).take (number d), d.drop (8 + number d), decide (number (d.drop 4) = check ((d.drop 8).take (number d))))
theorem cut_rest_length {d : Bs} (h : (cut d).2.2 = true) : (cut d).2.1.length + 8 ≤ d.length := by
  unfold cut at h ⊢
  split at h
  · cases h
  · split at h
    · cases h
    · rename_i h1 h2
      rw [if_neg h1, if_neg h2]
      simp only [List.length_drop]
      omega
theorem cut_le (d : Bs) : (cut d).2.1.length ≤ d.length := by
  unfold cut
  split
  · exact Nat.le_refl _
  · split
    · exact Nat.le_refl _
    · simp
/-- The records with which some bytes begin, and what is left. -/
def recsN : Nat → Bs → List Bs × Bs
  | 0, d => ([], d)
  | n + 1, d => if (cut d).2.2 = true then ((cut d).1 :: (recsN n (cut d).2.1).1, (recsN n (cut d).2.1).2) else ([], d)
def recs (d : Bs) : List Bs × Bs := recsN d.length d
theorem recsN_eq : ∀ (n : Nat) (d : Bs), d.length ≤ n → ∀ k, d.length ≤ k → recsN n d = recsN k d
  | 0, d, h, k, hk => by
    obtain rfl : d = [] := List.length_eq_zero_iff.1 (by omega)
    cases k with
    | zero => rfl
    | succ k => simp [recsN, cut]
  | n + 1, d, h, k, hk => by
    cases k with
    | zero =>
      obtain rfl : d = [] := List.length_eq_zero_iff.1 (by omega)
      simp [recsN, cut]
    | succ k =>
      unfold recsN
      by_cases hc : (cut d).2.2 = true
      · have := cut_rest_length hc
        rw [if_pos hc, if_pos hc, recsN_eq n (cut d).2.1 (by omega) k (by omega)]
      · rw [if_neg hc, if_neg hc]
theorem recs_step {d : Bs} (h : (cut d).2.2 = true) : recs d = ((cut d).1 :: (recs (cut d).2.1).1, (recs (cut d).2.1).2) := by
  have := cut_rest_length h
  unfold recs
  rw [recsN_eq d.length d (Nat.le_refl _) (d.length + 1) (by omega)]
  conv => lhs; unfold recsN
  rw [if_pos h, recsN_eq d.length (cut d).2.1 (by omega) (cut d).2.1.length (Nat.le_refl _)]
theorem recs_stop {d : Bs} (h : (cut d).2.2 = false) : recs d = ([], d) := by
  unfold recs
  cases hl : d.length with
  | zero => rfl
  | succ n => unfold recsN; rw [if_neg (by rw [h]; simp)]
theorem recsN_le : ∀ (n : Nat) (d : Bs), (recsN n d).2.length ≤ d.length ∧ (recsN n d).1.length * 8 ≤ d.length
  | 0, d => ⟨Nat.le_refl _, by simp [recsN]⟩
  | n + 1, d => by
    unfold recsN
    split
    · rename_i h
      have h1 := cut_rest_length h
      have h2 := recsN_le n (cut d).2.1
      simp only [List.length_cons]
      omega
    · simp
theorem recs_le (d : Bs) : (recs d).2.length ≤ d.length ∧ (recs d).1.length * 8 ≤ d.length := recsN_le _ _

/-- The number that a head stands for; 0 for none. -/
def headOf (s : Bs) : Nat :=
  match Lib.atoiAll s with
  | .ok v => if 1 ≤ v ∧ v ≤ 1099511627776 ∧ Lib.itoa v = s then v.toNat else 0
  | _ => 0
/-- What is right of some bytes: the first number, the records, how many bytes. -/
def scan (d : Bs) : Nat × List Bs × Nat :=
  if (cut d).2.2 = true ∧ headOf (cut d).1 ≠ 0 then (headOf (cut d).1, (recs (cut d).2.1).1, d.length - (recs (cut d).2.1).2.length) else (1, [], 0)

/-! ### the same, as the document's model says it -/
theorem take_split (d : Bs) (n : Nat) : d.take (8 + n) = d.take 4 ++ ((d.drop 4).take 4 ++ (d.drop 8).take n) := by
  have a : d.take (8 + n) = d.take 8 ++ (d.drop 8).take n := List.take_add
  have b : d.take 8 = d.take 4 ++ (d.drop 4).take 4 := List.take_add (i := 4) (j := 4)
  rw [a, b, List.append_assoc]
theorem four_inj {a b : Nat} (ha : a < 4294967296) (hb : b < 4294967296) (h : four a = four b) : a = b := by
  have x := number_four ha []
  have y := number_four hb []
  rw [h] at x
  omega
theorem take_cut {d : Bs} (h8 : 8 ≤ d.length) (hn : 8 + number d ≤ d.length) : (d.take (8 + number d) = frame ((d.drop 8).take (number d))) ↔ number (d.drop 4) = check ((d.drop 8).take (number d)) := by
  have hl : ((d.drop 8).take (number d)).length = number d := by simp; omega
  have c := check_lt ((d.drop 8).take (number d))
  have f4 : four (number (d.drop 4)) = (d.drop 4).take 4 := four_number (by simp; omega)
  rw [take_split, frame, hl, four_number (by omega : 4 ≤ d.length)]
  constructor
  · intro h
    have h2 := List.append_cancel_left h
    have h3 : (d.drop 4).take 4 = four (check ((d.drop 8).take (number d))) := (List.append_inj h2 (by simp [four_length]; omega)).1
    rw [← f4] at h3
    exact four_inj (number_lt _) c h3
  · intro h
    rw [← h, f4]
/-- The record at the beginning of some bytes, as the document's model finds it. -/
theorem cut_frame (s t : Bs) (hs : s.length ≤ 4096) : cut (frame s ++ t) = (s, t, true) := by
  have hnum : number (frame s ++ t) = s.length := by
    unfold frame
    rw [List.append_assoc]
    exact number_four (by omega) _
  have h4 : (frame s ++ t).drop 4 = four (check s) ++ (s ++ t) := by
    unfold frame
    rw [List.append_assoc, List.drop_append_of_le_length (by simp [four_length]), List.append_assoc]
    simp [four]
  have h8 : (frame s ++ t).drop 8 = s ++ t := by
    have : (frame s ++ t).drop 8 = ((frame s ++ t).drop 4).drop 4 := by rw [List.drop_drop]
    rw [this, h4, List.drop_append_of_le_length (by simp [four_length])]
    simp [four]
  have hlen : (frame s ++ t).length = 8 + s.length + t.length := by rw [List.length_append, frame_length]
  have hn4 : number ((frame s ++ t).drop 4) = check s := by rw [h4]; exact number_four (check_lt s) _
  have hd : (frame s ++ t).drop (8 + s.length) = t := by
    rw [← List.drop_drop, h8]
    simp
  unfold cut
  rw [if_neg (by omega), hnum, if_neg (by omega), h8, hn4, hd]
  simp
end Go.Jnl

/- The journal as a plain value on a plain disk: its methods, as the chapter defines them, and the same upon a disk that looks alike. No program stands here. -/
namespace Go.Jnl
open Go.Dsk (Bs M SimE)

structure J where
  first : Nat
  recs : List Bs
  pend : List Bs
  has : Bool
  broken : Bool

def J.new : J := ⟨1, [], [], false, false⟩
def logName (n : Bs) : Bs := n ++ [46, 108, 111, 103]
def newName (n : Bs) : Bs := n ++ [46, 110, 101, 119]
def jname (s : Bs) : Bool := !s.any Dsk.badByte && (decide (0 < s.length) && decide (s.length ≤ 36))
def bad (e : Int) : Bool := e == 32 || e == 18
def J.did (j : J) (e : Int) : J := { j with broken := j.broken || bad e }

/-- Steps upon a disk, until one of them returns an error. -/
abbrev Step := M → Int × M
def run : List Step → J → M → Int × J × M
  | [], j, d => (0, j, d)
  | f :: r, j, d => if (f d).1 = 0 then run r j (f d).2 else ((f d).1, j.did (f d).1, (f d).2)
def appends (n x : Bs) : Step := fun d => d.append n x
def syncs (n : Bs) : Step := fun d => d.sync n
def renames (n t : Bs) : Step := fun d => d.rename n t
def removes (n : Bs) : Step := fun d => d.remove n
def publishes : Step := fun d => d.publish
def replaceSteps (n x : Bs) : List Step := [appends (newName n) x, syncs (newName n), renames (newName n) (logName n), publishes]

def frames (l : List Bs) : Bs := (l.map frame).flatten
/-- The bytes of a journal. -/
def content (first : Nat) (l : List Bs) : Bs := frame (Lib.itoa first) ++ frames l

def J.last (j : J) : Int := if j.broken then 0 else (j.first : Int) + j.recs.length - 1
def J.append (j : J) (r : Bs) : Int × Int × J :=
  if j.broken then (0, 18, j)
  else if 4096 < r.length then (0, 5, j)
  else if 64 ≤ j.pend.length then (0, 6, j)
  else (j.last + (j.pend.length + 1), 0, { j with pend := j.pend ++ [r] })
def commitSteps (n x : Bs) (has : Bool) : List Step := [appends (logName n) x, syncs (logName n)] ++ (if has then [] else [publishes])
def J.data (j : J) : Bs := (if j.has then [] else frame (Lib.itoa j.first)) ++ frames j.pend
def J.commit (n : Bs) (j : J) (d : M) : Int × Int × J × M :=
  if j.broken then (0, 18, j, d)
  else if j.pend = [] then (j.last, 0, j, d)
  else
    let r := run (commitSteps n j.data j.has) j d
    if r.1 = 0 then ((j.first : Int) + (j.recs ++ j.pend).length - 1, 0, { j with recs := j.recs ++ j.pend, pend := [], has := true }, r.2.2) else (0, r.1, r.2.1, r.2.2)
def J.discard (j : J) : Int × J := if j.broken then (18, j) else (0, { j with pend := [] })
def J.records (j : J) (f : Int) : List Bs × Int :=
  if j.broken then ([], 18)
  else if f < j.first ∨ j.last + 1 < f then ([], 10)
  else (j.recs.drop (f - j.first).toNat, 0)
def J.cut (n : Bs) (j : J) (d : M) (f : Int) : Int × J × M :=
  if j.broken then (18, j, d)
  else if j.pend ≠ [] then (17, j, d)
  else if f < j.first ∨ j.last + 1 < f then (10, j, d)
  else if 1099511627776 < f then (2, j, d)
  else if f = j.first then (0, j, d)
  else
    let r := run (replaceSteps n (content f.toNat (j.recs.drop (f - j.first).toNat))) j d
    if r.1 = 0 then (0, { j with first := f.toNat, recs := j.recs.drop (f - j.first).toNat }, r.2.2) else r
/-- Behind the removal of a file that was to replace the journal's. -/
def opened2 (n : Bs) (d : M) (x : Bs) : Int × Option J × M :=
  let r := if (scan x).2.2 = 0 then run [removes (logName n), publishes] J.new d
    else if (scan x).2.2 < x.length then run (replaceSteps n (x.take (scan x).2.2)) J.new d
    else (0, J.new, d)
  if r.1 = 0 then (0, some ⟨(scan x).1, (scan x).2.1, [], decide (0 < (scan x).2.2), false⟩, r.2.2) else (r.1, none, r.2.2)
def cleaned (n : Bs) (d : M) : Int × M := if (Dsk.find d.names (newName n)).isSome then d.remove (newName n) else (0, d)
def opened (n : Bs) (d : M) : Int × Option J × M :=
  if !jname n then (11, none, d)
  else if d.down then (18, none, d)
  else if (cleaned n d).1 = 0 then
    (if (Dsk.find d.names (logName n)).isSome then opened2 n (cleaned n d).2 ((cleaned n d).2.read (logName n)).1 else (0, some J.new, (cleaned n d).2))
  else ((cleaned n d).1, none, (cleaned n d).2)

/-! ### upon a disk that looks alike -/
def StepSim (f : Step) : Prop := ∀ a b, SimE a b → a.Ok → (f b).1 = (f a).1 ∧ SimE (f a).2 (f b).2 ∧ (f a).2.Ok
theorem appends_sim (n x : Bs) : StepSim (appends n x) := fun _ _ h ha => ⟨(Dsk.sim_append h ha n x).1, (Dsk.sim_append h ha n x).2, Dsk.append_keeps ha n x⟩
theorem syncs_sim (n : Bs) : StepSim (syncs n) := fun _ _ h ha => ⟨(Dsk.sim_sync h ha n).1, (Dsk.sim_sync h ha n).2, Dsk.sync_keeps ha n⟩
theorem renames_sim (n t : Bs) : StepSim (renames n t) := fun _ _ h ha => ⟨(Dsk.sim_rename h ha n t).1, (Dsk.sim_rename h ha n t).2, Dsk.rename_keeps ha n t⟩
theorem removes_sim (n : Bs) : StepSim (removes n) := fun _ _ h ha => ⟨(Dsk.sim_remove h n).1, (Dsk.sim_remove h n).2, Dsk.remove_keeps ha n⟩
theorem publishes_sim : StepSim publishes := fun _ _ h ha => ⟨(Dsk.sim_publish h).1, (Dsk.sim_publish h).2, Dsk.publish_keeps ha⟩
/-- Alike: the same answer and the same journal, and disks that look alike. -/
structure Alike {α : Type} (x y : α × M) : Prop where
  val : y.1 = x.1
  sim : SimE x.2 y.2
  ok : x.2.Ok
theorem run_sim : ∀ {l : List Step} {j : J} {a b : M}, (∀ f ∈ l, StepSim f) → SimE a b → a.Ok →
    (run l j b).1 = (run l j a).1 ∧ (run l j b).2.1 = (run l j a).2.1 ∧ SimE (run l j a).2.2 (run l j b).2.2 ∧ (run l j a).2.2.Ok
  | [], _, _, _, _, h, ha => ⟨rfl, rfl, h, ha⟩
  | f :: r, j, a, b, hl, h, ha => by
    obtain ⟨h1, h2, h3⟩ := hl f (by simp) a b h ha
    unfold run
    rw [h1]
    by_cases e : (f a).1 = 0
    · rw [if_pos e, if_pos e]
      exact run_sim (fun g hg => hl g (by simp [hg])) h2 h3
    · rw [if_neg e, if_neg e]
      exact ⟨rfl, rfl, h2, h3⟩
theorem replace_sims (n x : Bs) : ∀ f ∈ replaceSteps n x, StepSim f := by
  intro f hf
  simp only [replaceSteps, List.mem_cons, List.not_mem_nil, or_false] at hf
  rcases hf with rfl | rfl | rfl | rfl
  · exact appends_sim _ _
  · exact syncs_sim _
  · exact renames_sim _ _
  · exact publishes_sim
theorem commit_sims (n x : Bs) (has : Bool) : ∀ f ∈ commitSteps n x has, StepSim f := by
  intro f hf
  cases has
  · simp only [commitSteps, Bool.false_eq_true, if_false, List.cons_append, List.nil_append, List.mem_cons, List.not_mem_nil, or_false] at hf
    rcases hf with rfl | rfl | rfl
    · exact appends_sim _ _
    · exact syncs_sim _
    · exact publishes_sim
  · simp only [commitSteps, if_true, List.append_nil, List.mem_cons, List.not_mem_nil, or_false] at hf
    rcases hf with rfl | rfl
    · exact appends_sim _ _
    · exact syncs_sim _
section
variable {a b : M}
theorem commit_sim (n : Bs) (j : J) (h : SimE a b) (ha : a.Ok) : (j.commit n b).1 = (j.commit n a).1 ∧ (j.commit n b).2.1 = (j.commit n a).2.1 ∧ (j.commit n b).2.2.1 = (j.commit n a).2.2.1 ∧ SimE (j.commit n a).2.2.2 (j.commit n b).2.2.2 := by
  obtain ⟨h1, h2, h3, _⟩ := run_sim (j := j) (commit_sims n j.data j.has) h ha
  unfold J.commit
  split
  · exact ⟨rfl, rfl, rfl, h⟩
  split
  · exact ⟨rfl, rfl, rfl, h⟩
  simp only [h1]
  split
  · exact ⟨rfl, rfl, rfl, h3⟩
  · exact ⟨rfl, rfl, h2, h3⟩
theorem cut_sim (n : Bs) (j : J) (f : Int) (h : SimE a b) (ha : a.Ok) : (j.cut n b f).1 = (j.cut n a f).1 ∧ (j.cut n b f).2.1 = (j.cut n a f).2.1 ∧ SimE (j.cut n a f).2.2 (j.cut n b f).2.2 := by
  obtain ⟨h1, h2, h3, _⟩ := run_sim (j := j) (replace_sims n (content f.toNat (j.recs.drop (f - j.first).toNat))) h ha
  unfold J.cut
  split
  · exact ⟨rfl, rfl, h⟩
  split
  · exact ⟨rfl, rfl, h⟩
  split
  · exact ⟨rfl, rfl, h⟩
  split
  · exact ⟨rfl, rfl, h⟩
  split
  · exact ⟨rfl, rfl, h⟩
  simp only [h1]
  split
  · exact ⟨rfl, rfl, h3⟩
  · exact ⟨h1, h2, h3⟩
theorem opened2_sim (n x : Bs) (h : SimE a b) (ha : a.Ok) : (opened2 n b x).1 = (opened2 n a x).1 ∧ (opened2 n b x).2.1 = (opened2 n a x).2.1 ∧ SimE (opened2 n a x).2.2 (opened2 n b x).2.2 := by
  have hs : ∀ f ∈ [removes (logName n), publishes], StepSim f := by
    intro f hf
    simp only [List.mem_cons, List.not_mem_nil, or_false] at hf
    rcases hf with rfl | rfl
    · exact removes_sim _
    · exact publishes_sim
  have key : ∀ {l : List Step}, (∀ f ∈ l, StepSim f) →
      (if (run l J.new b).1 = 0 then ((0, some ⟨(scan x).1, (scan x).2.1, [], decide (0 < (scan x).2.2), false⟩, (run l J.new b).2.2) : Int × Option J × M) else ((run l J.new b).1, none, (run l J.new b).2.2)).1 = (if (run l J.new a).1 = 0 then ((0, some ⟨(scan x).1, (scan x).2.1, [], decide (0 < (scan x).2.2), false⟩, (run l J.new a).2.2) : Int × Option J × M) else ((run l J.new a).1, none, (run l J.new a).2.2)).1 ∧
      (if (run l J.new b).1 = 0 then ((0, some ⟨(scan x).1, (scan x).2.1, [], decide (0 < (scan x).2.2), false⟩, (run l J.new b).2.2) : Int × Option J × M) else ((run l J.new b).1, none, (run l J.new b).2.2)).2.1 = (if (run l J.new a).1 = 0 then ((0, some ⟨(scan x).1, (scan x).2.1, [], decide (0 < (scan x).2.2), false⟩, (run l J.new a).2.2) : Int × Option J × M) else ((run l J.new a).1, none, (run l J.new a).2.2)).2.1 ∧
      SimE (if (run l J.new a).1 = 0 then ((0, some ⟨(scan x).1, (scan x).2.1, [], decide (0 < (scan x).2.2), false⟩, (run l J.new a).2.2) : Int × Option J × M) else ((run l J.new a).1, none, (run l J.new a).2.2)).2.2 (if (run l J.new b).1 = 0 then ((0, some ⟨(scan x).1, (scan x).2.1, [], decide (0 < (scan x).2.2), false⟩, (run l J.new b).2.2) : Int × Option J × M) else ((run l J.new b).1, none, (run l J.new b).2.2)).2.2 := by
    intro l hl
    obtain ⟨h1, _, h3, _⟩ := run_sim (j := J.new) hl h ha
    rw [h1]
    split
    · exact ⟨rfl, rfl, h3⟩
    · exact ⟨rfl, rfl, h3⟩
  unfold opened2
  by_cases c1 : (scan x).2.2 = 0
  · simp only [if_pos c1]
    exact key hs
  · simp only [if_neg c1]
    by_cases c2 : (scan x).2.2 < x.length
    · simp only [if_pos c2]
      exact key (replace_sims n _)
    · simp only [if_neg c2]
      exact key (l := []) (by simp)
theorem cleaned_sim (n : Bs) (h : SimE a b) (ha : a.Ok) : (cleaned n b).1 = (cleaned n a).1 ∧ SimE (cleaned n a).2 (cleaned n b).2 ∧ (cleaned n a).2.Ok := by
  have hf : (Dsk.find b.names (newName n)).isSome = (Dsk.find a.names (newName n)).isSome := by
    obtain ⟨r, h⟩ := h
    rw [h.find]; simp
  unfold cleaned
  rw [hf]
  split
  · exact ⟨(Dsk.sim_remove h _).1, (Dsk.sim_remove h _).2, Dsk.remove_keeps ha _⟩
  · exact ⟨rfl, h, ha⟩
theorem opened_sim (n : Bs) (h : SimE a b) (ha : a.Ok) : (opened n b).1 = (opened n a).1 ∧ (opened n b).2.1 = (opened n a).2.1 ∧ SimE (opened n a).2.2 (opened n b).2.2 := by
  obtain ⟨c1, c2, c3⟩ := cleaned_sim n h ha
  have hf : (Dsk.find b.names (logName n)).isSome = (Dsk.find a.names (logName n)).isSome := by
    obtain ⟨r, h⟩ := h
    rw [h.find]; simp
  have hd := Dsk.sim_down h
  unfold opened
  rw [c1, hf, hd, Dsk.sim_read c2 c3]
  split
  · exact ⟨rfl, rfl, h⟩
  split
  · exact ⟨rfl, rfl, h⟩
  split
  · split
    · exact opened2_sim n _ c2 c3
    · exact ⟨rfl, rfl, c2⟩
  · exact ⟨rfl, rfl, c2⟩
end
end Go.Jnl

/- The examples of the chapter, as plain values. -/
namespace Go.Jnl
open Go.Dsk (Bs M)
theorem itoa1 : Lib.itoa 1 = [49] := by
  unfold Lib.itoa
  rw [if_neg (by decide)]
  unfold Lib.decDigits
  simp
def lit : Bs := [0,0,0,1,0,50,0,50,49,0,0,0,0,0,0,0,1,63]
theorem head1 : headOf [49] = 1 := by
  unfold headOf
  have h : Lib.atoiAll [49] = .ok 1 := by decide
  rw [h]
  simp only [itoa1]
  decide
theorem scan_lit : scan lit = (1, [[]], 17) := by
  have hc : cut lit = ([49], [0,0,0,0,0,0,0,1,63], true) := by decide
  unfold scan
  rw [hc, head1]
  decide
def J1 : J := (J.new.append [120]).2.2
def dataL : Bs := frame [49] ++ frames [[120]]
def D2 : M := (run (commitSteps [106] dataL false) J1 (M.new 1000)).2.2
def J2 : J := ⟨1, [[120]], [], true, false⟩
theorem commit_lit : J1.commit [106] (M.new 1000) = (1, 0, J2, D2) := by
  have hd : J1.data = dataL := by
    show frame (Lib.itoa 1) ++ frames [[120]] = dataL
    rw [itoa1]
    rfl
  unfold J.commit
  rw [hd]
  rfl
def J3 : J := (J2.append [121]).2.2
theorem app1 : J.new.append [120] = (1, 0, J1) := rfl
theorem app2 : (J2.append [121]).2.2 = J3 := rfl
theorem rec_lit : J3.records 1 = ([[120]], 0) := by decide
theorem check_a : check [97] = 6422626 := by decide
end Go.Jnl

/- The bytes of a journal, some cut off at the end, the last one perhaps another one: what is right of them. No program stands here. -/
namespace Go.Jnl
open Go.Dsk (Bs)

/-! ### a number and its digits -/
theorem parse_digits (u : Nat) : u < 1844674407370955162 → ∀ r : Bs, Lib.parseUint10 0 (Lib.decDigits u ++ r) = Lib.parseUint10 u r := by
  induction u using Nat.strongRecOn with
  | ind u ih =>
    intro hu r
    by_cases h : u < 10
    · rw [Lib.decDigits_one h]
      have e : (UInt8.ofNat (48 + u)).toNat = 48 + u := by rw [UInt8.toNat_ofNat']; omega
      simp only [List.cons_append, List.nil_append, Lib.parseUint10, e]
      rw [if_pos (by omega), if_neg (by omega), if_neg (by omega)]
      congr 1
      omega
    · have e : (UInt8.ofNat (48 + u % 10)).toNat = 48 + u % 10 := by rw [UInt8.toNat_ofNat']; omega
      rw [Lib.decDigits, dif_neg h, List.append_assoc, ih (u / 10) (by omega) (by omega)]
      simp only [List.cons_append, List.nil_append, Lib.parseUint10, e]
      rw [if_pos (by omega), if_neg (by omega), if_neg (by omega)]
      congr 1
      omega
theorem digits_head (u : Nat) : ∃ c r, Lib.decDigits u = c :: r ∧ 48 ≤ c.toNat := by
  induction u using Nat.strongRecOn with
  | ind u ih =>
    by_cases h : u < 10
    · exact ⟨_, [], Lib.decDigits_one h, by rw [UInt8.toNat_ofNat']; omega⟩
    · obtain ⟨c, r, e, hc⟩ := ih (u / 10) (by omega)
      exact ⟨c, r ++ [_], by rw [Lib.decDigits, dif_neg h, e]; rfl, hc⟩
theorem atoi_itoa (f : Nat) (h : f ≤ 1099511627776) : Lib.atoiAll (Lib.itoa (f : Int)) = .ok (f : Int) := by
  obtain ⟨c, r, e, hc⟩ := digits_head f
  have hp := parse_digits f (by omega) []
  rw [List.append_nil, e] at hp
  simp only [Lib.parseUint10] at hp
  rw [Lib.itoa_nonneg, e]
  unfold Lib.atoiAll
  have n43 : ¬ (c.toNat = 43 ∨ c.toNat = 45) := by omega
  have n45 : ¬ c.toNat = 45 := by omega
  simp only [if_neg n43, if_neg n45, Lib.parseMag]
  rw [if_neg (by simp)]
  simp only [Lib.parseUint10]
  rw [hp]
  simp only [n45, not_false_eq_true, true_and, false_and, if_false]
  rw [if_neg (by omega)]
theorem headOf_itoa {f : Nat} (h1 : 1 ≤ f) (h : f ≤ 1099511627776) : headOf (Lib.itoa (f : Int)) = f := by
  unfold headOf
  rw [atoi_itoa f h]
  simp only
  rw [if_pos ⟨by omega, by omega, trivial⟩]
  omega

/-! ### the check finds another last byte -/
theorem check_last {u : Bs} {a b : UInt8} (h : check (u ++ [a]) = check (u ++ [b])) : a = b := by
  have ha := ck_lt (u ++ [a])
  have hb := ck_lt (u ++ [b])
  have h0 := ck_lt u
  unfold check at h
  have e : (ck (u ++ [a])).1 = (ck (u ++ [b])).1 := by omega
  rw [ck_snoc, ck_snoc] at e
  unfold ckStep at e
  simp only at e
  have := a.toNat_lt
  have := b.toNat_lt
  exact UInt8.toNat_inj.1 (by omega)

/-! ### a beginning of some bytes, the last one perhaps another one -/
def Near (s x : Bs) : Prop := s.length ≤ x.length ∧ ∀ i, i + 1 < s.length → s[i]? = x[i]?
theorem near_take (x : Bs) (k : Nat) : Near (x.take k) x :=
  ⟨List.length_take_le' k x, fun i hi => List.getElem?_take_of_lt (by rw [List.length_take] at hi; omega)⟩
theorem near_other {s x : Bs} (h : Near s x) (hs : 0 < s.length) (c : UInt8) : Near (s.take (s.length - 1) ++ [c]) x := by
  have e : (s.take (s.length - 1) ++ [c]).length = s.length := by simp; omega
  refine ⟨by rw [e]; exact h.1, fun i hi => ?_⟩
  rw [e] at hi
  rw [List.getElem?_append_left (by simp; omega), List.getElem?_take_of_lt (by omega)]
  exact h.2 i hi
theorem near_behind {s a b : Bs} (h : Near s (a ++ b)) (hl : a.length < s.length) : ∃ t, s = a ++ t ∧ Near t b := by
  have e : s.take a.length = a := by
    refine List.ext_getElem? fun i => ?_
    by_cases hi : i < a.length
    · rw [List.getElem?_take_of_lt hi, h.2 i (by omega), List.getElem?_append_left hi]
    · rw [List.getElem?_eq_none (by rw [List.length_take]; omega), List.getElem?_eq_none (by omega)]
  have e2 : s = a ++ s.drop a.length := by
    conv => lhs; rw [← List.take_append_drop a.length s, e]
  refine ⟨s.drop a.length, e2, ?_, fun i hi => ?_⟩
  · have := h.1
    rw [List.length_append] at this
    rw [List.length_drop]
    omega
  · rw [List.length_drop] at hi
    rw [List.getElem?_drop, h.2 (a.length + i) (by omega), List.getElem?_append_right (by omega), Nat.add_sub_cancel_left]
theorem near_getD {s x : Bs} (h : Near s x) {i : Nat} (hi : i + 1 < s.length) : s.getD i 0 = x.getD i 0 := by
  rw [List.getD_eq_getElem?_getD, List.getD_eq_getElem?_getD, h.2 i hi]
/-- The first frame, if nothing stands behind it. -/
theorem near_first {s r b : Bs} (h : Near s (frame r ++ b)) (hr : r.length ≤ 4096) (hl : s.length ≤ (frame r).length) (hc : (cut s).2.2 = true) : (cut s).1 = r ∧ (cut s).2.1 = [] := by
  rw [frame_length] at hl
  have h8 : ¬ s.length < 8 := by
    intro h
    unfold cut at hc
    rw [if_pos h] at hc
    cases hc
  have hnum : number s = r.length := by
    have e : number s = number (frame r ++ b) := by
      unfold number
      rw [near_getD h (i := 0) (by omega), near_getD h (i := 1) (by omega), near_getD h (i := 2) (by omega), near_getD h (i := 3) (by omega)]
    rw [e]
    unfold frame
    rw [List.append_assoc]
    exact number_four (by omega) _
  unfold cut at hc ⊢
  rw [if_neg h8] at hc ⊢
  rw [hnum] at hc ⊢
  by_cases hs : s.length - 8 < r.length
  · rw [if_pos (.inr hs)] at hc
    cases hc
  · have hs8 : s.length = 8 + r.length := by omega
    have hno : ¬ (4096 < r.length ∨ s.length - 8 < r.length) := by omega
    rw [if_neg hno] at hc ⊢
    simp only [decide_eq_true_eq] at hc ⊢
    refine ⟨?_, List.drop_eq_nil_of_le (by omega)⟩
    have hxl : ((s.drop 8).take r.length).length = r.length := by simp; omega
    generalize hx : (s.drop 8).take r.length = x at hc hxl ⊢
    have hxe : x = s.drop 8 := by rw [← hx]; exact List.take_of_length_le (by simp; omega)
    clear hx
    cases hm : r.length with
    | zero =>
      rw [List.length_eq_zero_iff.1 hm]
      exact List.length_eq_zero_iff.1 (by omega)
    | succ m =>
      have hn4 : number (s.drop 4) = check r := by
        have g : ∀ i, i < 4 → (s.drop 4).getD i 0 = ((frame r ++ b).drop 4).getD i 0 := fun i hi => by
          rw [List.getD_eq_getElem?_getD, List.getD_eq_getElem?_getD, List.getElem?_drop, List.getElem?_drop, h.2 (4 + i) (by omega)]
        have e : number (s.drop 4) = number ((frame r ++ b).drop 4) := by
          unfold number
          rw [g 0 (by omega), g 1 (by omega), g 2 (by omega), g 3 (by omega)]
        have h4 : (frame r ++ b).drop 4 = four (check r) ++ (r ++ b) := by
          unfold frame
          rw [List.append_assoc, List.drop_append_of_le_length (by simp [four_length]), List.append_assoc]
          simp [four]
        rw [e, h4]
        exact number_four (check_lt r) _
      rw [hn4] at hc
      have hat : ∀ i, i < m → x[i]? = r[i]? := fun i hi => by
        have h8' : (frame r ++ b).drop 8 = r ++ b := by
          have h4 : (frame r ++ b).drop 4 = four (check r) ++ (r ++ b) := by
            unfold frame
            rw [List.append_assoc, List.drop_append_of_le_length (by simp [four_length]), List.append_assoc]
            simp [four]
          have : (frame r ++ b).drop 8 = ((frame r ++ b).drop 4).drop 4 := by rw [List.drop_drop]
          rw [this, h4, List.drop_append_of_le_length (by simp [four_length])]
          simp [four]
        have : (s.drop 8)[i]? = ((frame r ++ b).drop 8)[i]? := by
          rw [List.getElem?_drop, List.getElem?_drop, h.2 (8 + i) (by omega)]
        rw [hxe, this, h8', List.getElem?_append_left (by omega)]
      have ht : x.take m = r.take m := by
        refine List.ext_getElem? fun i => ?_
        by_cases hi : i < m
        · rw [List.getElem?_take_of_lt hi, List.getElem?_take_of_lt hi, hat i hi]
        · rw [List.getElem?_eq_none (by rw [List.length_take]; omega), List.getElem?_eq_none (by rw [List.length_take]; omega)]
      have ex : x = r.take m ++ [x[m]'(by omega)] := by
        rw [← ht, List.take_append_getElem (by omega), List.take_of_length_le (by omega)]
      have er : r = r.take m ++ [r[m]'(by omega)] := by
        rw [List.take_append_getElem (by omega), List.take_of_length_le (by omega)]
      generalize x[m]'(by omega) = p at ex
      generalize r[m]'(by omega) = q at er
      rw [ex]
      rw [ex] at hc
      have hc2 : check (r.take m ++ [q]) = check (r.take m ++ [p]) := by rw [← er]; exact hc
      rw [← check_last hc2]
      exact er.symm
theorem recs_near : ∀ (l : List Bs) (s : Bs), (∀ r ∈ l, r.length ≤ 4096) → Near s (frames l) → ∃ m, (recs s).1 = l.take m
  | [], s, _, h => by
    have h0 := h.1
    simp only [frames, List.map_nil, List.flatten_nil, List.length_nil, Nat.le_zero_eq] at h0
    rw [List.length_eq_zero_iff.1 h0]
    exact ⟨0, by rw [recs_stop (by simp [cut])]; rfl⟩
  | r :: l, s, hl, h => by
    have hr := hl r (by simp)
    have e : frames (r :: l) = frame r ++ frames l := by simp [frames]
    rw [e] at h
    by_cases hs : (frame r).length < s.length
    · obtain ⟨t, rfl, ht⟩ := near_behind h hs
      obtain ⟨m, hm⟩ := recs_near l t (fun x hx => hl x (by simp [hx])) ht
      have hc := cut_frame r t hr
      refine ⟨m + 1, ?_⟩
      rw [recs_step (by rw [hc]), hc]
      simp [hm]
    · cases hc : (cut s).2.2 with
      | false => exact ⟨0, by rw [recs_stop hc]; rfl⟩
      | true =>
        obtain ⟨h1, h2⟩ := near_first h hr (by omega) hc
        refine ⟨1, ?_⟩
        rw [recs_step hc, h1, h2, recs_stop (by simp [cut])]
        simp
/-- What is right of the bytes of a journal, some cut off, the last one perhaps another one. -/
theorem scan_near {f : Nat} {l : List Bs} {s : Bs} (h1 : 1 ≤ f) (h2 : f ≤ 1099511627776) (hl : ∀ r ∈ l, r.length ≤ 4096) (h : Near s (content f l)) :
    ((scan s).1 = f ∨ (scan s).2.1 = []) ∧ ∃ m, (scan s).2.1 = l.take m := by
  have hi : (Lib.itoa (f : Int)).length ≤ 4096 := by
    have := Lib.itoa_length_le (f : Int) (by omega) (by omega)
    omega
  unfold content at h
  unfold scan
  split
  · rename_i hc
    by_cases hs : (frame (Lib.itoa f)).length < s.length
    · obtain ⟨t, rfl, ht⟩ := near_behind h hs
      have hcf := cut_frame (Lib.itoa f) t hi
      obtain ⟨m, hm⟩ := recs_near l t hl ht
      rw [hcf]
      exact ⟨.inl (headOf_itoa h1 h2), m, hm⟩
    · obtain ⟨_, e⟩ := near_first h hi (by omega) hc.1
      rw [e, recs_stop (by simp [cut])]
      exact ⟨.inr rfl, 0, rfl⟩
  · exact ⟨.inr rfl, 0, rfl⟩
end Go.Jnl

/- Opening a journal: what the steps leave on the plain disk. No program stands here. -/
namespace Go.Jnl
open Go.Dsk (Bs M find outcome)

theorem new_log (n : Bs) : newName n ≠ logName n := by
  unfold newName logName
  intro h
  have := List.append_cancel_left h
  exact absurd this (by decide)
theorem outcome_zero {b : Bool} (h : outcome b = 0) : b = false := by
  cases b
  · rfl
  · cases h
theorem remove_ok {d : M} {a : Bs} (h : (d.remove a).1 = 0) : d.down = false ∧ (d.remove a).2 = d.counted.apply ⟨a, [], 0⟩ ∧ d.limit ≠ 0 := by
  unfold M.remove at h ⊢
  split at h
  · cases h
  · rename_i hd
    split at h
    · cases h
    · rename_i k hk
      have := outcome_zero h
      unfold M.failing at this
      exact ⟨by simpa using hd, by rw [if_neg hd], by simpa using this⟩
theorem counted_up {d : M} (h : d.down = false) (hl : d.limit ≠ 0) : d.counted.down = false := by
  unfold M.counted
  rw [if_neg hl]
  split <;> exact h
theorem remove_find {d : M} {a n : Bs} (ha : a ≠ []) (hn : a ≠ n) (h : (d.remove a).1 = 0) : (d.remove a).2.down = false ∧ find (d.remove a).2.names n = find d.names n := by
  obtain ⟨h1, h2, h3⟩ := remove_ok h
  rw [h2]
  refine ⟨counted_up h1 h3, ?_⟩
  show find (Dsk.changed d.counted.names ⟨a, [], 0⟩) n = _
  rw [Dsk.counted_names]
  unfold Dsk.changed
  simp only [if_neg ha, if_true]
  exact Dsk.find_without hn
theorem newName_ne (n : Bs) : newName n ≠ [] := by
  unfold newName
  intro h
  have := congrArg List.length h
  simp at this
/-- Behind the removal of the file that was to replace. -/
theorem cleaned_find {n : Bs} {d : M} (hd : d.down = false) (h : (cleaned n d).1 = 0) : (cleaned n d).2.down = false ∧ find (cleaned n d).2.names (logName n) = find d.names (logName n) := by
  unfold cleaned at h ⊢
  split
  · rename_i hc
    rw [if_pos hc] at h
    exact remove_find (newName_ne n) (new_log n) h
  · exact ⟨hd, rfl⟩
theorem read_some {d : M} {n : Bs} (hd : d.down = false) (h : (find d.names n).isSome = true) : (d.read n).2 = 0 := by
  unfold M.read
  rw [hd]
  cases hf : find d.names n with
  | none => rw [hf] at h; cases h
  | some k => rfl
theorem read_none {d : M} {n : Bs} (hd : d.down = false) (h : (find d.names n).isSome = false) : d.read n = ([], 10) := by
  unfold M.read
  rw [hd]
  cases hf : find d.names n with
  | none => rfl
  | some k => rw [hf] at h; cases h
theorem read_size {d : M} (hk : d.Ok) (n : Bs) : (d.read n).1.length ≤ 16777216 := by
  unfold M.read
  split
  · simp
  · split
    · simp
    · rename_i k _
      simp only
      rw [List.getD_eq_getElem?_getD]
      cases hf : d.files[k]? with
      | none => simp
      | some f =>
        have h1 := hk.sizes f (List.mem_of_getElem? hf)
        have h2 := hk.cap1
        simp only [Option.getD_some]
        omega
/-! ### what a scan gives fits -/
theorem cut_first_length (d : Bs) : (cut d).1.length ≤ 4096 := by
  unfold cut
  split
  · simp
  · split
    · simp
    · rename_i h
      simp only [List.length_take]
      omega
theorem recsN_fit : ∀ (n : Nat) (d : Bs), ∀ r ∈ (recsN n d).1, r.length ≤ 4096
  | 0, d, r, h => by simp [recsN] at h
  | n + 1, d, r, h => by
    unfold recsN at h
    split at h
    · simp only [List.mem_cons] at h
      rcases h with rfl | h
      · exact cut_first_length d
      · exact recsN_fit n _ r h
    · simp at h
theorem headOf_le (s : Bs) : headOf s ≤ 1099511627776 := by
  unfold headOf
  split
  · split
    · omega
    · omega
  · omega
theorem scan_fit (d : Bs) : (scan d).1 ≤ 1099511627776 ∧ (scan d).2.1.length ≤ d.length ∧ (∀ r ∈ (scan d).2.1, r.length ≤ 4096) ∧ (scan d).2.2 ≤ d.length := by
  unfold scan
  split
  · have h1 := recs_le (cut d).2.1
    have h2 := cut_le d
    exact ⟨headOf_le _, by simp only; omega, recsN_fit _ _, by simp only; omega⟩
  · exact ⟨by simp, by simp, by simp, by simp⟩
/-! ### the ways through opening -/
section
variable {n x : Bs} {d : M}
theorem opened_name (h : jname n = false) : opened n d = (11, none, d) := by unfold opened; simp [h]
theorem opened_down (h : jname n = true) (hd : d.down = true) : opened n d = (18, none, d) := by unfold opened; simp [h, hd]
theorem opened_unclean (h : jname n = true) (hd : d.down = false) (hc : (cleaned n d).1 ≠ 0) : opened n d = ((cleaned n d).1, none, (cleaned n d).2) := by unfold opened; simp [h, hd, hc]
theorem opened_none (h : jname n = true) (hd : d.down = false) (hc : (cleaned n d).1 = 0) (hf : (find d.names (logName n)).isSome = false) : opened n d = (0, some J.new, (cleaned n d).2) := by unfold opened; simp [h, hd, hc, hf]
theorem opened_some (h : jname n = true) (hd : d.down = false) (hc : (cleaned n d).1 = 0) (hf : (find d.names (logName n)).isSome = true) : opened n d = opened2 n (cleaned n d).2 ((cleaned n d).2.read (logName n)).1 := by unfold opened; simp [h, hd, hc, hf]
theorem cleaned_new (hf : (find d.names (newName n)).isSome = true) : cleaned n d = d.remove (newName n) := by unfold cleaned; rw [if_pos hf]
theorem cleaned_not (hf : (find d.names (newName n)).isSome = false) : cleaned n d = (0, d) := by unfold cleaned; rw [if_neg (by rw [hf]; simp)]
/-- The journal behind opening. -/
def opJ (x : Bs) : J := ⟨(scan x).1, (scan x).2.1, [], decide (0 < (scan x).2.2), false⟩
theorem opened2_run {l : List Step} (hl : (if (scan x).2.2 = 0 then [removes (logName n), publishes] else if (scan x).2.2 < x.length then replaceSteps n (x.take (scan x).2.2) else []) = l) :
    opened2 n d x = if (run l J.new d).1 = 0 then (0, some (opJ x), (run l J.new d).2.2) else ((run l J.new d).1, none, (run l J.new d).2.2) := by
  subst hl
  unfold opened2
  by_cases h1 : (scan x).2.2 = 0
  · simp only [if_pos h1]
    rfl
  · simp only [if_neg h1]
    by_cases h2 : (scan x).2.2 < x.length
    · simp only [if_pos h2]
      rfl
    · simp only [if_neg h2]
      rfl
theorem opened2_zero1 (hk : (scan x).2.2 = 0) {r : Int} {d1 : M} (h1 : d.remove (logName n) = (r, d1)) (hr : r ≠ 0) : opened2 n d x = (r, none, d1) := by
  rw [opened2_run (if_pos hk)]
  simp [run, removes, h1, hr]
theorem opened2_zero2 (hk : (scan x).2.2 = 0) {d1 : M} (h1 : d.remove (logName n) = (0, d1)) {r : Int} {d2 : M} (h2 : d1.publish = (r, d2)) (hr : r ≠ 0) : opened2 n d x = (r, none, d2) := by
  rw [opened2_run (if_pos hk)]
  simp [run, removes, publishes, h1, h2, hr]
theorem opened2_zero3 (hk : (scan x).2.2 = 0) {d1 : M} (h1 : d.remove (logName n) = (0, d1)) {d2 : M} (h2 : d1.publish = (0, d2)) : opened2 n d x = (0, some (opJ x), d2) := by
  rw [opened2_run (if_pos hk)]
  simp [run, removes, publishes, h1, h2]
theorem opened2_part1 (hk : (scan x).2.2 ≠ 0) (hl : (scan x).2.2 < x.length) {Z : Int × J × M} (hz : run (replaceSteps n (x.take (scan x).2.2)) J.new d = Z) (hr : Z.1 ≠ 0) : opened2 n d x = (Z.1, none, Z.2.2) := by
  rw [opened2_run ((if_neg hk).trans (if_pos hl)), hz, if_neg hr]
theorem opened2_part2 (hk : (scan x).2.2 ≠ 0) (hl : (scan x).2.2 < x.length) {Z : Int × J × M} (hz : run (replaceSteps n (x.take (scan x).2.2)) J.new d = Z) (hr : Z.1 = 0) : opened2 n d x = (0, some (opJ x), Z.2.2) := by
  rw [opened2_run ((if_neg hk).trans (if_pos hl)), hz, if_pos hr]
theorem opened2_all (hk : (scan x).2.2 ≠ 0) (hl : ¬ (scan x).2.2 < x.length) : opened2 n d x = (0, some (opJ x), d) := by
  rw [opened2_run ((if_neg hk).trans (if_neg hl))]
  rfl
end
end Go.Jnl

/- What stays true of a journal and its disk. No program stands here. -/
namespace Go.Jnl
open Go.Dsk (Bs M find outcome)

/-- The journal knows whether its file is there. -/
def Knows (n : Bs) (j : J) (d : M) : Prop := j.broken = false → d.down = false → j.has = (find d.names (logName n)).isSome
structure Inv (n : Bs) (j : J) (d : M) : Prop where
  ok : d.Ok
  knows : Knows n j d
  recs : j.recs ≠ [] → j.has = true
theorem simE_refl (d : M) : Dsk.SimE d d := by
  refine ⟨id, rfl, rfl, rfl, ?_, ?_, ?_, fun k hk => ⟨hk, rfl⟩, fun i j _ _ h => h⟩
  · simp [Dsk.mapDir]
  · simp [Dsk.mapDir]
  · have : Dsk.ren id = id := by
      funext c
      unfold Dsk.ren
      split <;> rfl
    rw [this, List.map_id]
theorem find_ins_self {x : Bs × Nat} : ∀ {l : Dsk.Dir}, (∀ p ∈ l, p.1 ≠ x.1) → find (Dsk.ins x l) x.1 = some x.2
  | [], _ => by simp [Dsk.ins, find]
  | y :: r, h => by
    have hy := h y (by simp)
    unfold Dsk.ins
    split
    · simp [find]
    · have ih := find_ins_self (l := r) fun p hp => h p (by simp [hp])
      unfold find at ih ⊢
      rw [List.find?_cons]
      have : (y.1 == x.1) = false := by simpa using hy
      rw [this]
      exact ih
theorem find_withOne_self (l : Dsk.Dir) (n : Bs) (k : Nat) : find (Dsk.withOne l (n, k)) n = some k :=
  find_ins_self (x := (n, k)) fun _ hp => (Dsk.mem_without.1 hp).2
theorem counted_down {d : M} (h : d.failing = true) : d.counted.down = true := by
  have hl : d.limit = 0 := by simpa [M.failing] using h
  unfold M.counted
  rw [if_pos hl]
theorem append_ok {d : M} {n x : Bs} (h : (d.append n x).1 = 0) : d.down = false ∧ (d.append n x).2.down = false ∧ (find (d.append n x).2.names n).isSome = true ∧ d.limit ≠ 0 := by
  unfold M.append at h ⊢
  by_cases h1 : d.down = true
  · rw [if_pos h1] at h; cases h
  · rw [if_neg h1] at h ⊢
    by_cases h2 : (!Dsk.isName n) = true
    · rw [if_pos h2] at h; cases h
    · rw [if_neg h2] at h ⊢
      by_cases h3 : ((find d.names n).isNone && decide (64 ≤ d.names.length)) = true
      · rw [if_pos h3] at h; cases h
      · rw [if_neg h3] at h ⊢
        by_cases h4 : d.cap < (d.used : Int) + x.length
        · rw [if_pos h4] at h; cases h
        · rw [if_neg h4] at h ⊢
          have hd : d.down = false := by simpa using h1
          have hne : n ≠ [] := Dsk.isName_ne (by simpa using h2)
          cases hf : find d.names n with
          | some k =>
            rw [hf] at h
            have hl : d.limit ≠ 0 := by simpa [M.failing] using outcome_zero h
            refine ⟨hd, ?_, ?_, hl⟩
            · exact counted_up hd hl
            · show (find d.counted.names n).isSome = true
              rw [Dsk.counted_names, hf]
              rfl
          | none =>
            rw [hf] at h
            have hl : d.limit ≠ 0 := by simpa [M.failing] using outcome_zero h
            refine ⟨hd, ?_, ?_, hl⟩
            · exact counted_up hd hl
            · show (find (Dsk.changed d.counted.names ⟨[], n, d.counted.files.length⟩) n).isSome = true
              unfold Dsk.changed
              simp only [if_true, if_neg hne]
              rw [find_withOne_self]
              rfl
theorem append_bad {d : M} {n x : Bs} (h : (d.append n x).1 ≠ 0) : (bad (d.append n x).1 = true ∧ (d.append n x).2.down = true) ∨ (d.append n x).2 = d := by
  unfold M.append at h ⊢
  by_cases h1 : d.down = true
  · rw [if_pos h1]; exact .inr rfl
  · rw [if_neg h1] at h ⊢
    by_cases h2 : (!Dsk.isName n) = true
    · rw [if_pos h2]; exact .inr rfl
    · rw [if_neg h2] at h ⊢
      by_cases h3 : ((find d.names n).isNone && decide (64 ≤ d.names.length)) = true
      · rw [if_pos h3]; exact .inr rfl
      · rw [if_neg h3] at h ⊢
        by_cases h4 : d.cap < (d.used : Int) + x.length
        · rw [if_pos h4]; exact .inr rfl
        · rw [if_neg h4] at h ⊢
          cases hf : find d.names n <;>
          · rw [hf] at h
            simp only at h ⊢
            cases hb : d.failing with
            | true => exact .inl ⟨rfl, counted_down hb⟩
            | false => rw [hb] at h; exact absurd rfl h
theorem sync_ok {d : M} {n : Bs} (h : (d.sync n).1 = 0) : (d.sync n).2.down = false ∧ (d.sync n).2.names = d.names := by
  unfold M.sync at h ⊢
  by_cases h1 : d.down = true
  · rw [if_pos h1] at h; cases h
  · rw [if_neg h1] at h ⊢
    cases hf : find d.names n with
    | none => rw [hf] at h; cases h
    | some k =>
      rw [hf] at h
      simp only at h ⊢
      by_cases hb : d.failing = true
      · rw [if_pos hb] at h; cases h
      · rw [if_neg hb]
        have hl : d.limit ≠ 0 := by simpa [M.failing] using hb
        exact ⟨counted_up (by simpa using h1) hl, Dsk.counted_names d⟩
theorem sync_bad {d : M} {n : Bs} (hf : (find d.names n).isSome = true) (h : (d.sync n).1 ≠ 0) : bad (d.sync n).1 = true ∧ (d.sync n).2.down = true := by
  unfold M.sync at h ⊢
  by_cases h1 : d.down = true
  · rw [if_pos h1]; exact ⟨rfl, h1⟩
  · rw [if_neg h1] at h ⊢
    cases hx : find d.names n with
    | none => rw [hx] at hf; cases hf
    | some k =>
      rw [hx] at h
      simp only at h ⊢
      by_cases hb : d.failing = true
      · rw [if_pos hb]; exact ⟨rfl, counted_down hb⟩
      · rw [if_neg hb] at h; exact absurd rfl h
theorem publish_ok {d : M} (h : d.publish.1 = 0) : d.publish.2.down = false ∧ d.publish.2.names = d.names := by
  unfold M.publish at h ⊢
  by_cases h1 : d.down = true
  · rw [if_pos h1] at h; cases h
  · rw [if_neg h1] at h ⊢
    by_cases hb : d.failing = true
    · rw [if_pos hb] at h; cases h
    · rw [if_neg hb]
      have hl : d.limit ≠ 0 := by simpa [M.failing] using hb
      exact ⟨counted_up (by simpa using h1) hl, Dsk.counted_names d⟩
theorem publish_bad {d : M} (h : d.publish.1 ≠ 0) : bad d.publish.1 = true ∧ d.publish.2.down = true := by
  unfold M.publish at h ⊢
  by_cases h1 : d.down = true
  · rw [if_pos h1]; exact ⟨rfl, h1⟩
  · rw [if_neg h1] at h ⊢
    by_cases hb : d.failing = true
    · rw [if_pos hb]; exact ⟨rfl, counted_down hb⟩
    · rw [if_neg hb] at h; exact absurd rfl h
theorem rename_ok {d : M} {a b : Bs} (h : (d.rename a b).1 = 0) : (d.rename a b).2.down = false ∧ (find (d.rename a b).2.names b).isSome = true := by
  unfold M.rename at h ⊢
  by_cases h1 : d.down = true
  · rw [if_pos h1] at h; cases h
  · rw [if_neg h1] at h ⊢
    cases hf : find d.names a with
    | none => rw [hf] at h; cases h
    | some k =>
      rw [hf] at h
      simp only at h ⊢
      by_cases h2 : (!Dsk.isName b) = true
      · rw [if_pos h2] at h; cases h
      · rw [if_neg h2] at h ⊢
        have hl : d.limit ≠ 0 := by simpa [M.failing] using outcome_zero h
        have hne : b ≠ [] := Dsk.isName_ne (by simpa using h2)
        refine ⟨counted_up (by simpa using h1) hl, ?_⟩
        show (find (Dsk.changed d.counted.names ⟨a, b, k⟩) b).isSome = true
        unfold Dsk.changed
        simp only [if_neg hne]
        rw [find_withOne_self]
        rfl
theorem rename_bad {d : M} {a b : Bs} (hf : (find d.names a).isSome = true) (hb : Dsk.isName b = true) (h : (d.rename a b).1 ≠ 0) : bad (d.rename a b).1 = true ∧ (d.rename a b).2.down = true := by
  unfold M.rename at h ⊢
  by_cases h1 : d.down = true
  · rw [if_pos h1]; exact ⟨rfl, h1⟩
  · rw [if_neg h1] at h ⊢
    cases hx : find d.names a with
    | none => rw [hx] at hf; cases hf
    | some k =>
      rw [hx] at h
      simp only at h ⊢
      rw [if_neg (by rw [hb]; simp)] at h ⊢
      simp only at h ⊢
      cases hq : d.failing with
      | true => exact ⟨rfl, counted_down hq⟩
      | false => rw [hq] at h; exact absurd rfl h
theorem remove_bad {d : M} {a : Bs} (hf : (find d.names a).isSome = true) (h : (d.remove a).1 ≠ 0) : (d.remove a).2.down = true := by
  unfold M.remove at h ⊢
  by_cases h1 : d.down = true
  · rw [if_pos h1]; exact h1
  · rw [if_neg h1] at h ⊢
    cases hx : find d.names a with
    | none => rw [hx] at hf; cases hf
    | some k =>
      rw [hx] at h
      simp only at h ⊢
      cases hq : d.failing with
      | false => rw [hq] at h; exact absurd rfl h
      | true =>
        have hl : d.limit = 0 := by simpa [M.failing] using hq
        show (d.counted.apply ⟨a, [], 0⟩).down = true
        show d.counted.down = true
        unfold M.counted
        rw [if_pos hl]
/-- A run stops at the first step that fails. -/
theorem run_one {f : Step} {l : List Step} {j : J} {d : M} (h : (f d).1 ≠ 0) : run (f :: l) j d = ((f d).1, j.did (f d).1, (f d).2) := by
  show (if (f d).1 = 0 then _ else _) = _
  rw [if_neg h]
theorem run_two {f : Step} {l : List Step} {j : J} {d : M} (h : (f d).1 = 0) : run (f :: l) j d = run l j (f d).2 := by
  show (if (f d).1 = 0 then _ else _) = _
  rw [if_pos h]
theorem did_broken {j : J} {e : Int} (h : bad e = true) : (j.did e).broken = true := by
  show (j.broken || bad e) = true
  rw [h, Bool.or_true]
/-- What the steps of a commit leave. -/
theorem run_commit {n x : Bs} {b : Bool} {j : J} {d : M} {Z : Int × J × M} (hZ : run (commitSteps n x b) j d = Z) :
    (Z.1 = 0 ∧ Z.2.2.down = false ∧ (find Z.2.2.names (logName n)).isSome = true) ∨ (Z.1 ≠ 0 ∧ Z.2.1 = j.did Z.1 ∧ (((Z.2.1).broken = true ∧ Z.2.2.down = true) ∨ Z.2.2 = d)) := by
  subst hZ
  unfold commitSteps
  by_cases h1 : (appends (logName n) x d).1 = 0
  · obtain ⟨a1, a2, a3, a4⟩ := append_ok (n := logName n) (x := x) h1
    show (_ ∨ _)
    rw [List.cons_append, run_two h1]
    by_cases h2 : (syncs (logName n) (appends (logName n) x d).2).1 = 0
    · obtain ⟨s1, s2⟩ := sync_ok h2
      rw [List.cons_append, run_two h2, List.nil_append]
      cases b with
      | true => exact .inl ⟨rfl, s1, (congrArg (fun l => (find l (logName n)).isSome) s2).trans a3⟩
      | false =>
        show (_ ∨ _)
        simp only [Bool.false_eq_true, if_false]
        by_cases h3 : (publishes (syncs (logName n) (appends (logName n) x d).2).2).1 = 0
        · obtain ⟨p1, p2⟩ := publish_ok h3
          rw [run_two h3]
          exact .inl ⟨rfl, p1, (congrArg (fun l => (find l (logName n)).isSome) p2).trans ((congrArg (fun l => (find l (logName n)).isSome) s2).trans a3)⟩
        · rw [run_one h3]
          exact .inr ⟨h3, rfl, .inl ⟨did_broken (publish_bad h3).1, (publish_bad h3).2⟩⟩
    · rw [List.cons_append, run_one h2]
      exact .inr ⟨h2, rfl, .inl ⟨did_broken (sync_bad a3 h2).1, (sync_bad a3 h2).2⟩⟩
  · rw [List.cons_append, run_one h1]
    refine .inr ⟨h1, rfl, ?_⟩
    rcases append_bad (n := logName n) (x := x) h1 with h | h
    · exact .inl ⟨did_broken h.1, h.2⟩
    · exact .inr h
/-- What the steps of a replacement leave. -/
theorem run_replace {n x : Bs} {j : J} {d : M} (hn : Dsk.isName (logName n) = true) {Z : Int × J × M} (hZ : run (replaceSteps n x) j d = Z) :
    (Z.1 = 0 ∧ Z.2.2.down = false ∧ (find Z.2.2.names (logName n)).isSome = true) ∨ (Z.1 ≠ 0 ∧ Z.2.1 = j.did Z.1 ∧ (((Z.2.1).broken = true ∧ Z.2.2.down = true) ∨ Z.2.2 = d)) := by
  subst hZ
  unfold replaceSteps
  by_cases h1 : (appends (newName n) x d).1 = 0
  · obtain ⟨a1, a2, a3, a4⟩ := append_ok (n := newName n) (x := x) h1
    rw [run_two h1]
    by_cases h2 : (syncs (newName n) (appends (newName n) x d).2).1 = 0
    · obtain ⟨s1, s2⟩ := sync_ok h2
      rw [run_two h2]
      have s3 : (find (syncs (newName n) (appends (newName n) x d).2).2.names (newName n)).isSome = true := (congrArg (fun l => (find l (newName n)).isSome) s2).trans a3
      by_cases h3 : (renames (newName n) (logName n) (syncs (newName n) (appends (newName n) x d).2).2).1 = 0
      · obtain ⟨r1, r2⟩ := rename_ok h3
        rw [run_two h3]
        by_cases h4 : (publishes (renames (newName n) (logName n) (syncs (newName n) (appends (newName n) x d).2).2).2).1 = 0
        · obtain ⟨p1, p2⟩ := publish_ok h4
          rw [run_two h4]
          exact .inl ⟨rfl, p1, (congrArg (fun l => (find l (logName n)).isSome) p2).trans r2⟩
        · rw [run_one h4]
          exact .inr ⟨h4, rfl, .inl ⟨did_broken (publish_bad h4).1, (publish_bad h4).2⟩⟩
      · rw [run_one h3]
        exact .inr ⟨h3, rfl, .inl ⟨did_broken (rename_bad s3 hn h3).1, (rename_bad s3 hn h3).2⟩⟩
    · rw [run_one h2]
      exact .inr ⟨h2, rfl, .inl ⟨did_broken (sync_bad a3 h2).1, (sync_bad a3 h2).2⟩⟩
  · rw [run_one h1]
    refine .inr ⟨h1, rfl, ?_⟩
    rcases append_bad (n := newName n) (x := x) h1 with h | h
    · exact .inl ⟨did_broken h.1, h.2⟩
    · exact .inr h
section
variable {n : Bs} {j : J} {d : M}
theorem inv_other (h : Inv n j d) {j' : J} (hb : j'.broken = j.broken) (hh : j'.has = j.has) (hr : j'.recs = j.recs) : Inv n j' d :=
  ⟨h.ok, fun h1 h2 => by rw [hh]; exact h.knows (hb ▸ h1) h2, fun h1 => by rw [hh]; exact h.recs (hr ▸ h1)⟩
theorem inv_append (h : Inv n j d) (r : Bs) : Inv n (j.append r).2.2 d := by
  unfold J.append
  split
  · exact h
  split
  · exact h
  split
  · exact h
  · exact inv_other h rfl rfl rfl
theorem inv_discard (h : Inv n j d) : Inv n j.discard.2 d := by
  unfold J.discard
  split
  · exact h
  · exact inv_other h rfl rfl rfl
theorem inv_failed (h : Inv n j d) {e : Int} {d' : M} (hk : d'.Ok) (hx : ((j.did e).broken = true ∧ d'.down = true) ∨ d' = d) : Inv n (j.did e) d' := by
  rcases hx with ⟨hx, -⟩ | rfl
  · exact ⟨hk, fun h1 => absurd (hx.symm.trans h1) (by simp), fun h1 => h.recs h1⟩
  · refine ⟨hk, fun h1 h2 => ?_, fun h1 => h.recs h1⟩
    have : j.broken = false := by
      have : (j.broken || bad e) = false := h1
      simp at this
      exact this.1
    exact h.knows this h2
theorem inv_commit (h : Inv n j d) : Inv n (j.commit n d).2.2.1 (j.commit n d).2.2.2 := by
  have hk := (run_sim (j := j) (commit_sims n j.data j.has) (simE_refl d) h.ok).2.2.2
  unfold J.commit
  split
  · exact h
  split
  · exact h
  obtain ⟨Z, hZ⟩ : ∃ Z, run (commitSteps n j.data j.has) j d = Z := ⟨_, rfl⟩
  rw [hZ] at hk
  simp only [hZ]
  rcases run_commit hZ with ⟨h1, h2, h3⟩ | ⟨h1, h2, h3⟩
  · rw [if_pos h1]
    exact ⟨hk, fun _ _ => h3.symm, fun _ => rfl⟩
  · rw [if_neg h1]
    show Inv n Z.2.1 Z.2.2
    rw [h2] at h3 ⊢
    exact inv_failed h hk h3
theorem inv_cut (hn : Dsk.isName (logName n) = true) (h : Inv n j d) (f : Int) : Inv n (j.cut n d f).2.1 (j.cut n d f).2.2 := by
  have hk := (run_sim (j := j) (replace_sims n (content f.toNat (j.recs.drop (f - j.first).toNat))) (simE_refl d) h.ok).2.2.2
  unfold J.cut
  split
  · exact h
  split
  · exact h
  split
  · exact h
  split
  · exact h
  split
  · exact h
  rename_i c1 c2 c3 c4 c5
  obtain ⟨Z, hZ⟩ : ∃ Z, run (replaceSteps n (content f.toNat (j.recs.drop (f - j.first).toNat))) j d = Z := ⟨_, rfl⟩
  rw [hZ] at hk
  simp only [hZ]
  rcases run_replace hn hZ with ⟨h1, h2, h3⟩ | ⟨h1, h2, h3⟩
  · rw [if_pos h1]
    have hr : j.recs ≠ [] := by
      intro e
      have hl : j.last = (j.first : Int) + j.recs.length - 1 := by unfold J.last; rw [if_neg c1]
      rw [e] at hl
      simp only [List.length_nil] at hl
      omega
    have hh := h.recs hr
    exact ⟨hk, fun _ _ => by rw [h3]; exact hh, fun _ => hh⟩
  · rw [if_neg h1, h2]
    rw [h2] at h3
    exact inv_failed h hk h3
theorem scan_zero {x : Bs} (h : (scan x).2.2 = 0) : (scan x).2.1 = [] := by
  unfold scan at h ⊢
  split
  · rename_i hc
    rw [if_pos hc] at h
    have h1 := cut_rest_length hc.1
    have h2 := (recs_le (cut x).2.1).1
    simp only at h
    omega
  · rfl
theorem find_without_self (l : Dsk.Dir) (a : Bs) : find (Dsk.without l a) a = none := by
  unfold find
  rw [Option.map_eq_none_iff, List.find?_eq_none]
  intro p hp
  have := (Dsk.mem_without.1 hp).2
  simpa using this
theorem remove_gone {a : Bs} (ha : a ≠ []) (h : (d.remove a).1 = 0) : (find (d.remove a).2.names a).isSome = false := by
  obtain ⟨h1, h2, h3⟩ := remove_ok h
  rw [h2]
  show (find (Dsk.changed d.counted.names ⟨a, [], 0⟩) a).isSome = false
  rw [Dsk.counted_names]
  unfold Dsk.changed
  simp only [if_neg ha, if_true]
  rw [find_without_self]
  rfl
theorem logName_ne (n : Bs) : logName n ≠ [] := by
  unfold logName
  intro h
  have := congrArg List.length h
  simp at this
theorem inv_down (h : Inv n j d) {d' : M} (hk : d'.Ok) (hd : d'.down = true) : Inv n j d' := ⟨hk, fun _ h2 => (by rw [hd] at h2; cases h2), h.recs⟩
/-- What opening leaves: of the new journal, or, if there is none, of the old one. -/
theorem inv_opened (hn : Dsk.isName (logName n) = true) (h : Inv n j d) : (∀ j', (opened n d).2.1 = some j' → Inv n j' (opened n d).2.2) ∧ ((opened n d).2.1 = none → Inv n j (opened n d).2.2) := by
  cases hnm : jname n with
  | false => rw [opened_name hnm]; exact ⟨fun j' h => (by cases h), fun _ => h⟩
  | true =>
    cases hdd : d.down with
    | true => rw [opened_down hnm hdd]; exact ⟨fun j' h => (by cases h), fun _ => h⟩
    | false =>
      obtain ⟨-, -, hck⟩ := cleaned_sim n (simE_refl d) h.ok
      by_cases hc : (cleaned n d).1 = 0
      · obtain ⟨c1, c2⟩ := cleaned_find hdd hc
        have hcd : Inv n j (cleaned n d).2 := ⟨hck, fun h1 _ => by rw [c2]; exact h.knows h1 hdd, h.recs⟩
        cases hf : (find d.names (logName n)).isSome with
        | false =>
          rw [opened_none hnm hdd hc hf]
          refine ⟨fun j' e => ?_, fun e => by cases e⟩
          cases e
          exact ⟨hck, fun _ _ => by rw [c2, hf]; rfl, fun e => absurd rfl e⟩
        | true =>
          rw [opened_some hnm hdd hc hf]
          have hf2 : (find (cleaned n d).2.names (logName n)).isSome = true := by rw [c2]; exact hf
          generalize (cleaned n d).2 = c at *
          generalize (c.read (logName n)).1 = x at *
          by_cases hk0 : (scan x).2.2 = 0
          · have e := opened2_run (n := n) (x := x) (d := c) (if_pos hk0)
            have hrk := (run_sim (l := [removes (logName n), publishes]) (j := J.new) (by
              intro f hf
              simp only [List.mem_cons, List.not_mem_nil, or_false] at hf
              rcases hf with rfl | rfl
              · exact removes_sim _
              · exact publishes_sim) (simE_refl c) hck).2.2.2
            rw [e]
            by_cases h1 : (removes (logName n) c).1 = 0
            · rw [run_two h1] at hrk ⊢
              have hg := remove_gone (logName_ne n) h1
              by_cases h2 : (publishes (removes (logName n) c).2).1 = 0
              · obtain ⟨p1, p2⟩ := publish_ok h2
                rw [run_two h2] at hrk ⊢
                refine ⟨fun j' e => ?_, fun e => by cases e⟩
                cases e
                refine ⟨hrk, fun _ _ => ?_, fun e => absurd (scan_zero hk0) e⟩
                have : (find (publishes (removes (logName n) c).2).2.names (logName n)).isSome = false := (congrArg (fun l => (find l (logName n)).isSome) p2).trans hg
                show decide (0 < (scan x).2.2) = _
                rw [hk0]
                exact this.symm
              · rw [run_one h2] at hrk ⊢
                rw [if_neg h2]
                exact ⟨fun j' e => (by cases e), fun _ => inv_down h hrk (publish_bad h2).2⟩
            · rw [run_one h1] at hrk ⊢
              rw [if_neg h1]
              exact ⟨fun j' e => (by cases e), fun _ => inv_down h hrk (remove_bad hf2 h1)⟩
          · have hkp : decide (0 < (scan x).2.2) = true := decide_eq_true (by omega)
            by_cases hkx : (scan x).2.2 < x.length
            · obtain ⟨Z, hZ⟩ : ∃ Z, run (replaceSteps n (x.take (scan x).2.2)) J.new c = Z := ⟨_, rfl⟩
              have hrk := (run_sim (j := J.new) (replace_sims n (x.take (scan x).2.2)) (simE_refl c) hck).2.2.2
              rw [hZ] at hrk
              rcases run_replace hn hZ with ⟨r1, r2, r3⟩ | ⟨r1, r2, r3⟩
              · rw [opened2_part2 hk0 hkx hZ r1]
                refine ⟨fun j' e => ?_, fun e => by cases e⟩
                cases e
                exact ⟨hrk, fun _ _ => by show decide (0 < (scan x).2.2) = _; rw [hkp, r3], fun _ => hkp⟩
              · rw [opened2_part1 hk0 hkx hZ r1]
                refine ⟨fun j' e => (by cases e), fun _ => ?_⟩
                rcases r3 with ⟨_, r3⟩ | r3
                · exact inv_down h hrk r3
                · show Inv n j Z.2.2
                  rw [r3]
                  exact hcd
            · rw [opened2_all hk0 hkx]
              refine ⟨fun j' e => ?_, fun e => by cases e⟩
              cases e
              exact ⟨hck, fun _ _ => by show decide (0 < (scan x).2.2) = _; rw [hkp, hf2], fun _ => hkp⟩
      · rw [opened_unclean hnm hdd hc]
        refine ⟨fun j' e => (by cases e), fun _ => inv_down h hck ?_⟩
        cases hq : (find d.names (newName n)).isSome with
        | true =>
          rw [cleaned_new hq] at hc ⊢
          exact remove_bad hq hc
        | false => rw [cleaned_not hq] at hc; exact absurd rfl hc
end
end Go.Jnl

/- A first commit upon a new disk with room enough. No program stands here. -/
namespace Go.Jnl
open Go.Dsk (Bs M find)

theorem run_cons_ok {f : Step} {l : List Step} {j : J} {d d' : M} (h : f d = (0, d')) : run (f :: l) j d = run l j d' := by
  show (if (f d).1 = 0 then run l j (f d).2 else _) = _
  rw [h]
  rfl
def jn (p : List Bs) : J := ⟨1, [], p, false, false⟩
theorem commit_new {n : Bs} (hn : Dsk.isName (logName n) = true) {p : List Bs} (hp : p ≠ []) {c : Int} (hc : ((jn p).data.length : Int) ≤ c) :
    ∃ X, (jn p).commit n (M.new c) = ((p.length : Int), 0, ⟨1, p, [], true, false⟩, X) := by
  obtain ⟨x, hx⟩ : ∃ x, (jn p).data = x := ⟨_, rfl⟩
  rw [hx] at hc
  have hcn : (M.new c).counted = M.new c := by simp [M.counted, M.new]
  have e1 : appends (logName n) x (M.new c) = (0, ((M.new c).fresh (logName n)).added 0 x) := by
    unfold appends M.append
    have h1 : find (M.new c).names (logName n) = none := rfl
    have h2 : (M.new c).used = 0 := rfl
    rw [h1, hcn, h2]
    have h3 : (M.new c).down = false := rfl
    have h4 : (M.new c).cap = c := rfl
    have h5 : (M.new c).names.length = 0 := rfl
    have h6 : (M.new c).files.length = 0 := rfl
    have h7 : (M.new c).failing = false := rfl
    rw [h3, h4, h5, h6, h7, hn]
    have h8 : ¬ c < ((0 : Nat) : Int) + (x.length : Int) := by omega
    simp only [Bool.false_eq_true, if_false, Bool.not_true, Option.isNone_none, Bool.true_and, decide_eq_true_eq]
    rw [if_neg (by decide), if_neg h8]
    rfl
  obtain ⟨D1, hD1⟩ : ∃ D1, ((M.new c).fresh (logName n)).added 0 x = D1 := ⟨_, rfl⟩
  have hn0 := Dsk.isName_ne hn
  have d1 : D1.down = false := by rw [← hD1]; rfl
  have l1 : D1.limit = -1 := by rw [← hD1]; rfl
  have f1 : find D1.names (logName n) = some 0 := by
    rw [← hD1]
    show find (Dsk.changed [] ⟨[], logName n, 0⟩) (logName n) = _
    simp [Dsk.changed, Dsk.withOne, Dsk.without, Dsk.ins, find, hn0]
  have g1 : D1.failing = false := by unfold M.failing; rw [l1]; rfl
  have c1 : D1.counted = D1 := by unfold M.counted; rw [l1]; simp
  have e2 : ∃ D2, syncs (logName n) D1 = (0, D2) ∧ D2.down = false ∧ D2.limit = -1 := by
    refine ⟨{ D1.counted with files := Dsk.setFile D1.files 0 Dsk.synced }, ?_, by rw [c1]; exact d1, by rw [c1]; exact l1⟩
    unfold syncs M.sync
    rw [if_neg (by rw [d1]; simp), f1]
    simp only
    rw [if_neg (by rw [g1]; simp)]
  obtain ⟨D2, e2, d2, l2⟩ := e2
  have e3 : ∃ X, publishes D2 = (0, X) := by
    have g2 : D2.failing = false := by unfold M.failing; rw [l2]; rfl
    unfold publishes M.publish
    rw [if_neg (by rw [d2]; simp), if_neg (by rw [g2]; simp)]
    exact ⟨_, rfl⟩
  obtain ⟨X, e3⟩ := e3
  refine ⟨X, ?_⟩
  unfold J.commit
  rw [if_neg (by simp [jn]), if_neg (by simpa [jn] using hp)]
  have hr : run (commitSteps n (jn p).data (jn p).has) (jn p) (M.new c) = (0, jn p, X) := by
    rw [hx]
    show run [appends (logName n) x, syncs (logName n), publishes] (jn p) (M.new c) = _
    rw [run_cons_ok e1, hD1, run_cons_ok e2, run_cons_ok e3]
    rfl
  simp only [hr, if_true]
  simp [jn]
  omega
end Go.Jnl
