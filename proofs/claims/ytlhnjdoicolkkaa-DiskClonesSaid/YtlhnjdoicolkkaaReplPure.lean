/- What a failure leaves: plain lemmas; and the file that is replaced. -/
import Derived.Test.YtlhnjdoicolkkaaPure
namespace Go.Dsk

theorem pick_zero (sc : List Int) : (pick sc 0).1 = 0 := by
  unfold pick
  split
  · rfl
  · rename_i n r
    simp only
    have h1 := Int.tmod_lt_of_pos n (show (0 : Int) < ((0 : Nat) : Int) + 1 by omega)
    omega
theorem startFile_done {f : Fl} (h : f.dur = f.bytes.length) (sc : List Int) : (startFile f sc).1 = f := by
  have e : f.bytes.length - f.dur = 0 := by omega
  have hp := pick_zero sc
  unfold startFile
  rw [e]
  simp only [hp]
  simp
  cases f
  simp at h
  simp [h]
theorem startOne_length (a : List Fl × List Int) (p : Bs × Nat) : (startOne a p).1.length = a.1.length := by simp [startOne]
theorem startAll_length (l : Dir) : ∀ (fs : List Fl) (sc : List Int), (startAll fs sc l).1.length = fs.length := by
  induction l with
  | nil => intro fs sc; rfl
  | cons p r ih =>
    intro fs sc
    have h := ih (startOne (fs, sc) p).1 (startOne (fs, sc) p).2
    rw [startOne_length] at h
    simpa [startAll] using h
/-- A file whose bytes are all durable stays. -/
theorem startAll_keeps (k : Nat) (f : Fl) (hf : f.dur = f.bytes.length) (l : Dir) : ∀ (fs : List Fl) (sc : List Int), k < fs.length → fs.getD k ⟨[], 0⟩ = f → (startAll fs sc l).1.getD k ⟨[], 0⟩ = f := by
  induction l with
  | nil => intro fs sc _ h; exact h
  | cons p r ih =>
    intro fs sc hk h
    have e : (startOne (fs, sc) p).1.getD k ⟨[], 0⟩ = f := by
      unfold startOne
      simp only [List.getD_eq_getElem?_getD, List.getElem?_set]
      by_cases hp : p.2 = k
      · subst hp
        rw [if_pos rfl, if_pos hk]
        simp only [Option.getD_some]
        rw [← List.getD_eq_getElem?_getD, h]
        exact startFile_done hf sc
      · rw [if_neg hp, ← List.getD_eq_getElem?_getD]; exact h
    have := ih (startOne (fs, sc) p).1 (startOne (fs, sc) p).2 (by rw [startOne_length]; exact hk) e
    simpa [startAll] using this
/-- Such a file can be read behind a start, if its name is there then. -/
theorem start_read {m : M} (hd : m.down = true) (sc : List Int) {n : Bs} {k : Nat} {b : Bs} (hk : m.files.getD k ⟨[], 0⟩ = ⟨b, b.length⟩) (hkl : k < m.files.length) (hf : ∀ j, j ≤ m.pending.length → find (all m.durable (m.pending.take j)) n = some k) : (m.start sc).read n = (b, 0) := by
  have hle : (pick sc m.pending.length).1 ≤ m.pending.length := by
    unfold pick
    split
    · simp
    · rename_i x r
      simp only
      have h1 := Int.tmod_lt_of_pos x (show (0 : Int) < (m.pending.length : Int) + 1 by omega)
      omega
  unfold M.start
  rw [hd]
  simp only [Bool.not_true, Bool.false_eq_true, if_false]
  unfold M.read
  simp only [Bool.false_eq_true, if_false]
  rw [hf _ hle]
  simp only
  rw [startAll_keeps k ⟨b, b.length⟩ rfl _ _ _ hkl hk]

section
variable (old new : Bs)
def R1 : M := ⟨200, -1, false, [⟨old, 0⟩], [([97], 0)], [], [⟨[], [97], 0⟩]⟩
def R2 : M := ⟨200, -1, false, [⟨old, old.length⟩], [([97], 0)], [], [⟨[], [97], 0⟩]⟩
def R3 (l : Int) : M := ⟨200, l, false, [⟨old, old.length⟩], [([97], 0)], [([97], 0)], []⟩
def R4 (l : Int) (d : Bool) : M := ⟨200, l, d, [⟨old, old.length⟩, ⟨new, 0⟩], [([97], 0), ([98], 1)], [([97], 0)], [⟨[], [98], 1⟩]⟩
def R5 (l : Int) (d : Bool) : M := ⟨200, l, d, [⟨old, old.length⟩, ⟨new, new.length⟩], [([97], 0), ([98], 1)], [([97], 0)], [⟨[], [98], 1⟩]⟩
def R6 (l : Int) (d : Bool) : M := ⟨200, l, d, [⟨old, old.length⟩, ⟨new, new.length⟩], [([97], 1)], [([97], 0)], [⟨[], [98], 1⟩, ⟨[98], [97], 1⟩]⟩
def R7 (l : Int) (d : Bool) : M := ⟨200, l, d, [⟨old, old.length⟩, ⟨new, new.length⟩], [([97], 1)], [([97], 1)], []⟩

theorem isA : isName [97] = true := rfl
theorem isB : isName [98] = true := rfl

theorem r1 (ho : old.length ≤ 50) : (M.new 200).append [97] old = (0, R1 old) := by
  have h : ¬ (200 : Int) < 0 + old.length := by omega
  simp [M.append, M.new, isA, find, M.used, M.failing, M.counted, M.fresh, M.apply, M.added, changed, withOne, without, ins, setFile, addTo, outcome, R1]
  omega
theorem r2 : (R1 old).sync [97] = (0, R2 old) := by
  simp [M.sync, R1, R2, find, M.failing, M.counted, setFile, synced]
theorem r3 : (R2 old).publish = (0, R3 old (-1)) := by
  simp [M.publish, R2, R3, M.failing, M.counted]
theorem r3' (l : Int) (hl : 0 ≤ l) : (R3 old (-1)).setLimit l = (0, R3 old l) := by
  simp [M.setLimit, R3]; omega
theorem r4z (ho : old.length ≤ 50) (hn : new.length ≤ 50) : (R3 old 0).append [98] new = (32, R4 old new 0 true) := by
  have h : ¬ (200 : Int) < old.length + new.length := by omega
  simp [M.append, R3, R4, isB, find, M.used, M.len, M.failing, M.counted, M.fresh, M.apply, M.added, changed, withOne, without, ins, setFile, addTo, outcome, bytesBefore]
  omega
theorem r4s (l : Int) (hl : 0 < l) (ho : old.length ≤ 50) (hn : new.length ≤ 50) : (R3 old l).append [98] new = (0, R4 old new (l - 1) false) := by
  have h : ¬ (200 : Int) < old.length + new.length := by omega
  have h0 : ¬ l = 0 := by omega
  simp [M.append, R3, R4, isB, find, M.used, M.len, M.failing, M.counted, M.fresh, M.apply, M.added, changed, withOne, without, ins, setFile, addTo, outcome, bytesBefore, h0, hl]
  omega
theorem r5z : (R4 old new 0 false).sync [98] = (32, R4 old new 0 true) := by
  simp [M.sync, R4, find, M.failing, M.counted]
theorem r5s (l : Int) (hl : 0 < l) : (R4 old new l false).sync [98] = (0, R5 old new (l - 1) false) := by
  have h0 : ¬ l = 0 := by omega
  simp [M.sync, R4, R5, find, M.failing, M.counted, setFile, synced, h0, hl]
theorem r6z : (R5 old new 0 false).rename [98] [97] = (32, R6 old new 0 true) := by
  simp [M.rename, R5, R6, isA, find, M.failing, M.counted, M.apply, changed, withOne, without, ins, outcome]
theorem r6s (l : Int) (hl : 0 < l) : (R5 old new l false).rename [98] [97] = (0, R6 old new (l - 1) false) := by
  have h0 : ¬ l = 0 := by omega
  simp [M.rename, R5, R6, isA, find, M.failing, M.counted, M.apply, changed, withOne, without, ins, outcome, h0, hl]
theorem r7z : (R6 old new 0 false).publish = (32, R6 old new 0 true) := by
  simp [M.publish, R6, M.failing, M.counted]
theorem r7s (l : Int) (hl : 0 < l) : (R6 old new l false).publish = (0, R7 old new (l - 1) false) := by
  have h0 : ¬ l = 0 := by omega
  simp [M.publish, R6, R7, M.failing, M.counted, h0, hl]

theorem r4_read (l : Int) (d : Bool) (sc : List Int) : ((R4 old new l d).crash.start sc).read [97] = (old, 0) := by
  refine start_read rfl sc (k := 0) rfl (by simp [R4, M.crash]) ?_
  intro j hj
  have hj' : j ≤ 1 := hj
  rcases (show j = 0 ∨ j = 1 by omega) with rfl | rfl <;> rfl
theorem r7_read (l : Int) (d : Bool) (sc : List Int) : ((R7 old new l d).crash.start sc).read [97] = (new, 0) := by
  refine start_read rfl sc (k := 1) rfl (by simp [R7, M.crash]) ?_
  intro j hj
  have hj' : j ≤ 0 := hj
  obtain rfl : j = 0 := by omega
  rfl
theorem r6_read (l : Int) (d : Bool) (sc : List Int) : ((R6 old new l d).crash.start sc).read [97] = (old, 0) ∨ ((R6 old new l d).crash.start sc).read [97] = (new, 0) := by
  have hf : ∀ k, k < 2 → ∀ f, (R6 old new l d).files.getD k ⟨[], 0⟩ = f → f.dur = f.bytes.length := by
    intro k hk f hf
    rcases (show k = 0 ∨ k = 1 by omega) with rfl | rfl <;> (subst hf; rfl)
  have hle : (pick sc 2).1 ≤ 2 := by
    unfold pick
    split
    · simp
    · rename_i x r
      simp only
      have h1 := Int.tmod_lt_of_pos x (show (0 : Int) < ((2 : Nat) : Int) + 1 by omega)
      omega
  have hp : (R6 old new l d).crash.pending.length = 2 := rfl
  unfold M.start
  have hd : (R6 old new l d).crash.down = true := rfl
  rw [hd, hp]
  simp only [Bool.not_true, Bool.false_eq_true, if_false]
  unfold M.read
  simp only [Bool.false_eq_true, if_false]
  rcases (show (pick sc 2).1 = 0 ∨ (pick sc 2).1 = 1 ∨ (pick sc 2).1 = 2 by omega) with h | h | h
  · left
    rw [h]
    have e : find (all (R6 old new l d).crash.durable ((R6 old new l d).crash.pending.take 0)) [97] = some 0 := rfl
    rw [e]
    simp only
    rw [startAll_keeps 0 ⟨old, old.length⟩ rfl _ _ _ (by simp [R6, M.crash]) rfl]
  · left
    rw [h]
    have e : find (all (R6 old new l d).crash.durable ((R6 old new l d).crash.pending.take 1)) [97] = some 0 := rfl
    rw [e]
    simp only
    rw [startAll_keeps 0 ⟨old, old.length⟩ rfl _ _ _ (by simp [R6, M.crash]) rfl]
  · right
    rw [h]
    have e : find (all (R6 old new l d).crash.durable ((R6 old new l d).crash.pending.take 2)) [97] = some 1 := rfl
    rw [e]
    simp only
    rw [startAll_keeps 1 ⟨new, new.length⟩ rfl _ _ _ (by simp [R6, M.crash]) rfl]
end
end Go.Dsk
