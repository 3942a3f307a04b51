/- Texts of small rationals: what they read as. No walk stands here. -/
import Derived.Test.YtgofihilkobenaaGreatDoorKZ
import Derived.Test.YtgofihilkobenaaGreatDoorKO
import Derived.Lib.ItoaLen
set_option maxRecDepth 100000
namespace Go.Proofs.YtgofihilkobenaaGreatDoor
open Go.RowKit Go.Num Go.Flow
set_option maxHeartbeats 4000000

theorem den_len {n : Nat} (h : n ≤ 1000) : (Lib.decDigits n).length ≤ 21 := by
 have h1 := Lib.itoa_length_le (n : Int) (by omega) (by omega)
 unfold Lib.itoa at h1
 rw [if_neg (by omega)] at h1
 simpa using h1
/-- A number of at most a hundredth parts has a short text. -/
theorem part_len {q : Rat} {M : Int} (h : q = Rat.divInt M 100) (h0 : -1000000000000000 ≤ M) (h1 : M ≤ 1000000000000000) : (numText q).length ≤ 100 := by
 have e : q.num * 100 = M * q.den := by
  have h2 : Rat.divInt q.num q.den = Rat.divInt M 100 := by rw [Rat.num_divInt_den]; exact h
  exact (Rat.divInt_eq_divInt_iff (by have := q.den_pos; omega) (by decide)).1 h2
 have hd : q.den ∣ 100 := by
  have h3 : q.den ∣ q.num.natAbs * 100 := ⟨M.natAbs, by
   have := congrArg Int.natAbs e
   rw [Int.natAbs_mul, Int.natAbs_mul] at this
   rw [show q.num.natAbs * 100 = q.num.natAbs * Int.natAbs 100 from rfl, this, Nat.mul_comm]
   rfl⟩
  exact (Nat.Coprime.dvd_of_dvd_mul_left q.reduced.symm h3)
 have hd2 : q.den ≤ 100 := Nat.le_of_dvd (by decide) hd
 have hn : -1000000000000000 ≤ q.num ∧ q.num ≤ 1000000000000000 := by
  have hp := q.den_pos
  obtain ⟨d, hdd⟩ : ∃ d, d = q.den := ⟨_, rfl⟩
  rw [← hdd] at e hp hd2
  have h5 : -100000000000000000 ≤ M * d ∧ M * d ≤ 100000000000000000 := by
   constructor
   ·have := Int.mul_le_mul_of_nonneg_right (c := (d : Int)) h0 (by omega); omega
   ·have := Int.mul_le_mul_of_nonneg_right (c := (d : Int)) h1 (by omega); omega
  omega
 have h6 := Lib.itoa_length_le q.num (by omega) (by omega)
 have h7 := den_len (n := q.den) (by omega)
 unfold numText
 split
 ·omega
 ·rw [List.length_append, List.length_cons]; omega
def numTexts (l : List Rat) : List ByteArray := l.map fun q => ⟨(numText q).toArray⟩
theorem texts_val (l : List Rat) : readsVal (numTexts l) = l := by
 unfold readsVal numTexts
 rw [List.map_map]
 conv => rhs; rw [← List.map_id l]
 refine List.map_congr_left fun q _ => ?_
 exact read_num q
theorem texts_ok {l : List Rat} (h : ∀ q, q ∈ l → (numText q).length ≤ 100) : readsErr (numTexts l) = 0 ∧ ∀ s, s ∈ numTexts l → s.size ≤ 100 := by
 have h2 : ∀ s, s ∈ numTexts l → s.size ≤ 100 ∧ readErr s.data.toList 65536 = 0 := fun s hs => by
  unfold numTexts at hs
  rw [List.mem_map] at hs
  obtain ⟨q, hq, rfl⟩ := hs
  have := h q hq
  exact ⟨by simpa [ByteArray.size] using this, read_num_ok (by omega) (by omega)⟩
 refine ⟨reads_ok _ fun j hj => ?_, fun s hs => (h2 s hs).1⟩
 rw [List.getD_eq_getElem?_getD, List.getElem?_eq_getElem hj]
 exact (h2 _ (List.getElem_mem hj)).2
theorem int_hundred (z : Int) : (z : Rat) = Rat.divInt (z * 100) 100 := by
 rw [Rat.divInt_eq_div, Rat.intCast_mul]
 grind
theorem whole_len {z : Int} (h0 : -10000000000000 ≤ z) (h1 : z ≤ 10000000000000) : (numText (z : Rat)).length ≤ 100 := part_len (int_hundred z) (by omega) (by omega)
theorem frac_len {a m : Int} (h0 : -10000000000 ≤ a) (h1 : a ≤ 10000000000) (h2 : -100000000000000 ≤ m) (h3 : m ≤ 100000000000000) : (numText (sumQ [(a : Rat), (m : Rat) / ((100 : Int) : Rat)])).length ≤ 100 := by
 refine part_len (M := a * 100 + m) ?_ (by omega) (by omega)
 have e : sumQ [(a : Rat), (m : Rat) / ((100 : Int) : Rat)] = (a : Rat) + (m : Rat) / ((100 : Int) : Rat) := by
  unfold sumQ
  simp only [List.foldl_cons, List.foldl_nil, Rat.zero_add]
 rw [e, Rat.divInt_eq_div]
 rw [Rat.intCast_add, Rat.intCast_mul]
 grind
theorem zero_len {a : Int} (h0 : -10000000000 ≤ a) (h1 : a ≤ 10000000000) : (numText (sumQ [(a : Rat), 0])).length ≤ 100 := by
 have e : sumQ [(a : Rat), 0] = (a : Rat) := by
  unfold sumQ
  simp only [List.foldl_cons, List.foldl_nil, Rat.zero_add, Rat.add_zero]
 rw [e]
 exact whole_len (by omega) (by omega)
end Go.Proofs.YtgofihilkobenaaGreatDoor
