/- What is there of a file behind a failure is a beginning of it: plain lemmas. -/
import Derived.Test.YtlhnjdoicolkkaaReplPure
namespace Go.Dsk

theorem pick_le' (sc : List Int) (n : Nat) : (pick sc n).1 ≤ n := by
  unfold pick
  split
  · simp
  · rename_i x r
    simp only
    have h1 := Int.tmod_lt_of_pos x (show (0 : Int) < (n : Int) + 1 by omega)
    omega

/-- s is a beginning of l with its first d bytes at least; its last byte behind these may be another one. -/
def Begins (l : Bs) (d : Nat) (s : Bs) : Prop :=
  d ≤ s.length ∧ s.length ≤ l.length ∧ s.take (max d (s.length - 1)) = l.take (max d (s.length - 1)) ∧
    ∀ n, n = max d (s.length - 1) → s.length ≠ n → s.getD n 0 = l.getD n 0 ∨ (s.getD n 0).toNat = 255 - (l.getD n 0).toNat

theorem begins_take {l : Bs} {d k : Nat} (h1 : d ≤ k) (h2 : k ≤ l.length) : Begins l d (l.take k) := by
  have hl : (l.take k).length = k := by simp; omega
  refine ⟨by omega, by omega, ?_, ?_⟩
  · rw [hl, List.take_take]
    congr 1
    omega
  · intro n hn hne
    left
    rw [hl] at hn hne
    have : n < k := by omega
    simp [List.getD_eq_getElem?_getD, this]

theorem damaged_length {t : Bs} (h : 0 < t.length) : (damaged t).length = t.length := by
  simp [damaged]
  omega
theorem getLastD_take {l : Bs} {k : Nat} (h0 : 0 < k) (h1 : k ≤ l.length) : (l.take k).getLastD 0 = l.getD (k - 1) 0 := by
  rw [List.getLastD_eq_getLast?, List.getLast?_eq_getElem?, List.getD_eq_getElem?_getD]
  have hl : (l.take k).length = k := by simp; omega
  rw [hl, List.getElem?_take, if_pos (by omega)]
theorem begins_damaged {l : Bs} {d k : Nat} (h1 : d < k) (h2 : k ≤ l.length) : Begins l d (damaged (l.take k)) := by
  have hl : (l.take k).length = k := by simp; omega
  have hdl : (damaged (l.take k)).length = k := by rw [damaged_length (by omega), hl]
  have hdr : (l.take k).dropLast = l.take (k - 1) := by
    rw [List.dropLast_eq_take, hl, List.take_take]
    congr 1
    omega
  refine ⟨by omega, by omega, ?_, ?_⟩
  · rw [hdl]
    have e : max d (k - 1) = k - 1 := by omega
    rw [e]
    unfold damaged
    rw [hdr, List.take_append_of_le_length (by simp; omega), List.take_take]
    congr 1
    omega
  · intro n hn hne
    right
    rw [hdl] at hn hne
    have e : n = k - 1 := by omega
    subst e
    have : (damaged (l.take k)).getD (k - 1) 0 = ~~~ (l.getD (k - 1) 0) := by
      unfold damaged
      rw [hdr, getLastD_take (by omega) h2, List.getD_eq_getElem?_getD, List.getElem?_append_right (by simp; omega)]
      simp
      rw [show k - 1 - min (k - 1) l.length = 0 by omega]
      rfl
    rw [this]
    rw [UInt8.toNat_not]
    rfl
theorem startFile_begins {l : Bs} {d : Nat} (h : d ≤ l.length) (sc : List Int) : Begins l d (startFile ⟨l, d⟩ sc).1.bytes := by
  have hp := pick_le' sc (l.length - d)
  unfold startFile
  simp only
  generalize pick sc (l.length - d) = p at hp
  obtain ⟨k, sc'⟩ := p
  simp only at hp ⊢
  by_cases hk : 0 < k
  · rw [if_pos hk]
    split
    · exact begins_damaged (by omega) (by omega)
    · exact begins_take (by omega) (by omega)
  · rw [if_neg hk]
    exact begins_take (by omega) (by omega)

/-- A disk with one file, "a", whose name is durable. -/
def Pf (c : Int) (l : Bs) (d : Nat) : M := ⟨c, -1, false, [⟨l, d⟩], [([97], 0)], [([97], 0)], []⟩
/-- The same ahead of Publish. -/
def Pn (c : Int) (l : Bs) (d : Nat) : M := ⟨c, -1, false, [⟨l, d⟩], [([97], 0)], [], [⟨[], [97], 0⟩]⟩

theorem p_new (c : Int) (l : Bs) (hl : (l.length : Int) ≤ c) : (M.new c).append [97] l = (0, Pn c l 0) := by
  have h : ¬ c < 0 + l.length := by omega
  simp [M.append, M.new, isA, find, M.used, M.failing, M.counted, M.fresh, M.apply, M.added, changed, withOne, without, ins, setFile, addTo, outcome, Pn]
  omega
theorem p_publish (c : Int) (l : Bs) (d : Nat) : (Pn c l d).publish = (0, Pf c l d) := by
  simp [M.publish, Pn, Pf, M.failing, M.counted]
theorem p_sync' (c : Int) (l : Bs) (d : Nat) : (Pn c l d).sync [97] = (0, Pn c l l.length) := by
  simp [M.sync, Pn, find, M.failing, M.counted, setFile, synced]
theorem p_append (c : Int) (l p : Bs) (d : Nat) (hl : ((l.length + p.length : Nat) : Int) ≤ c) : (Pf c l d).append [97] p = (0, Pf c (l ++ p) d) := by
  have h : ¬ c < ((l.length : Nat) : Int) + p.length := by omega
  simp [M.append, isA, find, M.used, M.len, M.failing, M.counted, M.added, setFile, addTo, outcome, Pf, h]
theorem p_sync (c : Int) (l : Bs) (d : Nat) : (Pf c l d).sync [97] = (0, Pf c l l.length) := by
  simp [M.sync, Pf, find, M.failing, M.counted, setFile, synced]
theorem p_read (c : Int) (l : Bs) (d : Nat) (h : d ≤ l.length) (sc : List Int) : ∃ s, ((Pf c l d).crash.start sc).read [97] = (s, 0) ∧ Begins l d s := by
  refine ⟨_, ?_, startFile_begins h (pick sc 0).2⟩
  simp [M.start, M.crash, Pf, M.read, all, find, startAll, startOne]
end Go.Dsk
