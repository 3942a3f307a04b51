/- Grown expressions: what numbers make (plain). -/
import Derived.Test.YtdgimcmappmjdaaGreatDoorK1
set_option linter.unusedSimpArgs false
set_option linter.unusedVariables false
set_option maxRecDepth 100000
namespace Go.Proofs.YtdgimcmappmjdaaGreatDoor
open Go.Gx
set_option maxHeartbeats 4000000

def headB (l : List Int) : Nat := (l.headD 0).toNat
def smallZ (n : Nat) : Rat := ((((n % 13 : Nat) : Int) - 6 : Int) : Rat) / ((2 : Int) : Rat)
def smallQ (l : List Int) : Rat := smallZ (headB l)
def growF (d : Nat) (l : List Int) : LF := ⟨smallQ l, ((List.replicate d 0).set (headB (l.drop 1) % d) (smallQ (l.drop 2))).set (headB (l.drop 3) % d) (smallQ (l.drop 4))⟩
theorem smallZ_fine : ∀ n, ab (smallZ n) ≤ 3 ∧ M2 1 (smallZ n) := by
 have h : ∀ n : Fin 13, ab (((((n.val : Nat) : Int) - 6 : Int) : Rat) / ((2 : Int) : Rat)) ≤ 3 := by decide +kernel
 intro n
 refine ⟨h ⟨n % 13, Nat.mod_lt _ (by decide)⟩, ((n % 13 : Nat) : Int) - 6, ?_⟩
 unfold smallZ
 exact Rat.div_mul_cancel (by decide)
def W3 : Nat → Rat
 | 0 => 16
 | L + 1 => 3 * W3 L
def B3 : Nat → Nat
 | 0 => 326
 | L + 1 => 3 * B3 L + 65
structure GFine (d L : Nat) (x : GEx) : Prop where
 over : Over d x
 den : Den (L + 1) x
 wt : Go.Gx.wt x ≤ W3 L
 dep : Go.Gx.dep x ≤ L + 1
 bsz : Go.Proofs.YtdgimcmappmjdaaGreatDoor.bsz x ≤ B3 L
def K3 : Nat → Rat
 | 0 => 0
 | n + 1 => 3 + K3 n
theorem sumAb_k3 : ∀ {l : List Rat}, (∀ r, r ∈ l → ab r ≤ 3) → sumAb l ≤ K3 l.length
 | [], _ => by rw [sumAb]; exact Rat.le_refl
 | a :: l, h => by
  have h1 := sumAb_k3 (l := l) fun r hr => h r (by simp [hr])
  have h2 := h a (by simp)
  rw [sumAb, List.length_cons, K3]
  grind
theorem growF_mem {d : Nat} {l : List Int} {r : Rat} (h : r ∈ (growF d l).t) : r = 0 ∨ ∃ n, r = smallZ n := by
 unfold growF at h
 rcases List.mem_or_eq_of_mem_set h with h | h
 ·rcases List.mem_or_eq_of_mem_set h with h | h
  ·exact .inl (List.eq_of_mem_replicate h)
  ·exact .inr ⟨_, h⟩
 ·exact .inr ⟨_, h⟩
theorem growF_len (d : Nat) (l : List Int) : (growF d l).t.length = d := by unfold growF; simp
theorem growF_fine {d : Nat} (hd : d ≤ 4) (l : List Int) : LD 1 (growF d l) ∧ (growF d l).wt ≤ 16 := by
 have h0 : ab (0 : Rat) ≤ 3 := by unfold ab; grind
 refine ⟨⟨(smallZ_fine _).2, fun r hr => ?_⟩, ?_⟩
 ·rcases growF_mem hr with h | ⟨n, h⟩
  ·rw [h]; exact m2_zero 1
  ·rw [h]; exact (smallZ_fine n).2
 ·have h1 := sumAb_k3 (l := (growF d l).t) fun r hr => by
   rcases growF_mem hr with h | ⟨n, h⟩
   ·rw [h]; exact h0
   ·rw [h]; exact (smallZ_fine n).1
  rw [growF_len] at h1
  have h2 : K3 d ≤ 12 := by
   match d, hd with
   | 0, _ => unfold K3; grind
   | 1, _ => unfold K3 K3; grind
   | 2, _ => unfold K3 K3 K3; grind
   | 3, _ => unfold K3 K3 K3 K3; grind
   | 4, _ => unfold K3 K3 K3 K3 K3; grind
  have h3 : ab (growF d l).c ≤ 3 := (smallZ_fine _).1
  unfold LF.wt
  grind
end Go.Proofs.YtdgimcmappmjdaaGreatDoor
