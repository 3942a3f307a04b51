/- A disk that is filled to its last byte, and to its last name: plain lemmas. -/
import Derived.Test.YtlhnjdoicolkkaaActPure
namespace Go.Dsk

/-- The i-th name. -/
def nm (i : Nat) : Bs := [98, UInt8.ofNat (48 + i / 10), UInt8.ofNat (48 + i % 10)]
def nmsK (k : Nat) : Dir := ([97], 0) :: (List.range k).map fun j => (nm (j + 1), j + 1)
theorem nm_facts : ∀ k, k < 63 → isName (nm (k + 1)) = true ∧ find (nmsK k) (nm (k + 1)) = none ∧ withOne (nmsK k) (nm (k + 1), k + 1) = nmsK (k + 1) := by decide +kernel
theorem nmsK_length (k : Nat) : (nmsK k).length = k + 1 := by simp [nmsK]
theorem find_a (k : Nat) : find (nmsK k) [97] = some 0 := by simp [nmsK, find]
theorem find_c : find (nmsK 63) [99] = none := by decide +kernel

/-- A disk of n bytes with one file of them and k empty ones. -/
def L (z : Bs) (k : Nat) : M := ⟨z.length, -1, false, ⟨z, 0⟩ :: List.replicate k ⟨[], 0⟩, nmsK k, [], ⟨[], [97], 0⟩ :: (List.range k).map fun j => ⟨[], nm (j + 1), j + 1⟩⟩
theorem L_used (z : Bs) (k : Nat) : (L z k).used = z.length := by
  have h : ((List.range k).map fun j => (nm (j + 1), j + 1)).map (fun p => (L z k).len p.2) = List.replicate k 0 := by
    rw [List.map_map]
    apply List.ext_getElem
    · simp
    · intro i h1 h2
      simp only [List.length_map, List.length_range] at h1
      simp [M.len, L, List.getD_eq_getElem?_getD, h1]
  unfold M.used
  show ((nmsK k).map fun p => (L z k).len p.2).sum = _
  unfold nmsK
  rw [List.map_cons, h, List.sum_cons]
  have : (L z k).len 0 = z.length := rfl
  rw [this]
  simp
theorem l_new (z : Bs) : (M.new z.length).append [97] z = (0, L z 0) := by
  have h : ¬ (z.length : Int) < 0 + z.length := by omega
  simp [M.append, M.new, isA, find, M.used, M.failing, M.counted, M.fresh, M.apply, M.added, changed, withOne, without, ins, setFile, addTo, outcome, L, nmsK]
theorem l_free (z : Bs) : (L z 0).free = 0 := by
  unfold M.free
  rw [L_used]
  simp [L]
theorem l_full (z : Bs) : (L z 0).append [97] [120] = (33, L z 0) := by
  have h := L_used z 0
  unfold M.append
  rw [h]
  have e : find (L z 0).names [97] = some 0 := find_a 0
  rw [e]
  simp [L, isA]
  intro h
  omega
theorem set_zero (z : Bs) (k : Nat) : setFile (L z k).files 0 (addTo []) = (L z k).files := by
  simp [L, setFile, addTo]
theorem l_more (z : Bs) (k : Nat) : (L z k).append [97] [] = (0, L z k) := by
  have h := L_used z k
  unfold M.append
  rw [h]
  have e : find (L z k).names [97] = some 0 := find_a k
  rw [e]
  have hs := set_zero z k
  have hc : (L z k).counted = L z k := by simp [M.counted, L]
  rw [hc]
  have ha : (L z k).added 0 [] = L z k := by unfold M.added; rw [hs]
  have hd : (L z k).down = false := rfl
  have hcap : ¬ (L z k).cap < (z.length : Int) + (([] : Bs).length : Nat) := by simp [L]
  have ho : outcome (L z k).failing = 0 := rfl
  simp only [hd, isA, ha, ho, hcap, Bool.not_true, Bool.false_eq_true, if_false, Option.isNone_some, Bool.false_and]
theorem l_next (z : Bs) (k : Nat) (hk : k < 63) : (L z k).append (nm (k + 1)) [] = (0, L z (k + 1)) := by
  obtain ⟨h1, h2, h3⟩ := nm_facts k hk
  have hu := L_used z k
  have hn : isName (nm (k + 1)) = true := h1
  have hf : find (L z k).names (nm (k + 1)) = none := h2
  have hl : (L z k).names.length = k + 1 := nmsK_length k
  have hc : (L z k).counted = L z k := by simp [M.counted, L]
  have hm : (L z k).files.length = k + 1 := by simp [L]
  unfold M.append
  rw [hu, hn, hf, hl, hc, hm]
  have hd : (L z k).down = false := rfl
  have h64 : ¬ 64 ≤ k + 1 := by omega
  have hcap : ¬ (L z k).cap < (z.length : Int) + (([] : Bs).length : Nat) := by simp [L]
  simp only [hd, Bool.not_true, Bool.false_eq_true, if_false, Option.isNone_none, Bool.true_and, decide_eq_true_eq, h64, hcap]
  have ho : outcome (L z k).failing = 0 := rfl
  rw [ho]
  congr 1
  unfold M.fresh M.apply M.added
  have e1 : changed (L z k).names ⟨[], nm (k + 1), (L z k).files.length⟩ = nmsK (k + 1) := by
    rw [hm]
    unfold changed
    simp only [if_true]
    rw [if_neg (by simp [nm])]
    exact h3
  simp only
  rw [e1]
  have e2 : setFile ((L z k).files ++ [⟨[], 0⟩]) (k + 1) (addTo []) = (L z (k + 1)).files := by
    simp [L, setFile, addTo, List.replicate_succ']
  rw [e2]
  simp [L, List.range_succ, List.replicate_succ']
theorem l_last (z : Bs) : (L z 63).append [99] [] = (6, L z 63) := by
  unfold M.append
  have e : find (L z 63).names [99] = none := find_c
  have hl : (L z 63).names.length = 64 := nmsK_length 63
  rw [e, hl]
  have hn : isName [99] = true := rfl
  rw [hn]
  simp [L]
theorem l_list (z : Bs) : (L z 63).list.length = 64 := by
  simp [M.list, L, nmsK]
theorem l_wt (z : Bs) (k : Nat) : (L z k).wt = k + 1 := by simp [M.wt, L]
end Go.Dsk
