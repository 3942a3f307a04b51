/- What Number writes, Read reads. No walk stands here. -/
import Derived.Test.YtgofihilkobenaaGreatDoorKH
set_option maxRecDepth 100000
namespace Go.Proofs.YtgofihilkobenaaGreatDoor
open Go.RowKit Go.Num Go.Flow
set_option maxHeartbeats 4000000

theorem index_cons1 (b : UInt8) (l : List UInt8) (c : UInt8) : Lib.index (b :: l) [c] = if b = c then 0 else if Lib.index l [c] == -1 then -1 else Lib.index l [c] + 1 := by
 rw [Lib.index]
 have e : List.isPrefixOf [c] (b :: l) = (c == b) := by simp [List.isPrefixOf]
 rw [e]
 by_cases h : b = c
 ·rw [if_pos (by rw [h]; simp), if_pos h]
 ·rw [if_neg (by rw [beq_iff_eq]; exact fun e => h e.symm), if_neg h]
theorem index_not : ∀ {l : List UInt8} {c : UInt8}, c ∉ l → Lib.index l [c] = -1
 | [], _, _ => rfl
 | b :: l, c, h => by
  rw [List.mem_cons, not_or] at h
  rw [index_cons1, if_neg (fun e => h.1 e.symm), index_not h.2]
  rfl
theorem index_here : ∀ {l m : List UInt8} {c : UInt8}, c ∉ l → Lib.index (l ++ c :: m) [c] = l.length
 | [], m, c, _ => by rw [List.nil_append, index_cons1, if_pos rfl]; rfl
 | b :: l, m, c, h => by
  rw [List.mem_cons, not_or] at h
  rw [List.cons_append, index_cons1, if_neg (fun e => h.1 e.symm), index_here h.2, if_neg (by rw [beq_iff_eq]; omega), List.length_cons]
  omega
theorem cut_not {l : List UInt8} {c : UInt8} (h : c ∉ l) : Lib.cut l [c] = (l, [], false) := by
 unfold Lib.cut
 rw [index_not h, if_neg (by decide)]
theorem cut_here {l m : List UInt8} {c : UInt8} (h : c ∉ l) : Lib.cut (l ++ c :: m) [c] = (l, m, true) := by
 unfold Lib.cut
 rw [index_here h, if_pos (by omega)]
 refine Prod.ext ?_ (Prod.ext ?_ rfl)
 ·simp
 ·simp
theorem dig_not {l : List UInt8} {c : UInt8} (h : l.all isDig = true) (hc : isDig c = false) : c ∉ l := fun hm => by
 rw [List.all_eq_true] at h
 rw [h c hm] at hc
 cases hc
theorem dec_no (n : Nat) {c : UInt8} (hc : isDig c = false) : c ∉ Lib.decDigits n := dig_not (dec_dig n) hc
theorem dec_head_ne (n : Nat) {c : UInt8} (hc : isDig c = false) : (Lib.decDigits n).head? ≠ some c := fun h => dec_no n hc (List.mem_of_mem_head? (by rw [h]; simp))
theorem itoa_no (n : Int) {c : UInt8} (hc : isDig c = false) (h45 : c ≠ 45) : c ∉ Lib.itoa n := by
 unfold Lib.itoa
 split
 ·rw [List.mem_cons, not_or]
  exact ⟨h45, dec_no _ hc⟩
 ·exact dec_no _ hc
theorem itoa_minus (n : Int) : hasMinus (Lib.itoa n) = decide (n < 0) := by
 unfold hasMinus Lib.itoa
 by_cases h : n < 0
 ·rw [if_pos h]; simp [h]
 ·rw [if_neg h]
  rw [decide_eq_decide]
  exact ⟨fun e => absurd e (dec_head_ne _ (by decide)), fun e => absurd e h⟩
theorem itoa_unsign (n : Int) : unsign (Lib.itoa n) = Lib.decDigits n.natAbs := by
 unfold unsign Lib.itoa
 by_cases h : n < 0
 ·rw [if_pos h, if_pos (by rfl)]; rfl
 ·rw [if_neg h, if_neg (dec_head_ne _ (by decide)), show n.toNat = n.natAbs by omega]
theorem parse_itoa (n : Int) : parseVal (Lib.itoa n) = n := by
 unfold parseVal
 rw [itoa_minus, itoa_unsign, dec_val]
 by_cases h : n < 0
 ·rw [if_pos (decide_eq_true h)]; omega
 ·rw [if_neg (by simp [h])]; omega
theorem canon_head (n : Nat) : (Lib.decDigits n).head? = some 48 → n = 0 := fun h => by
 rcases Nat.eq_zero_or_pos n with h0 | h0
 ·exact h0
 ·obtain ⟨b, r, e, hb⟩ := dec_head h0
  rw [e] at h
  simp at h
  rw [h] at hb
  exact absurd rfl hb
theorem parse_itoa_ok {n : Int} (hl : (Lib.itoa n).length ≤ 65536) : parseErr (Lib.itoa n) = 0 := by
 unfold parseErr
 rw [if_neg (by omega), itoa_unsign, itoa_minus, if_neg (by rw [dec_dig]; simp [dec_ne]), if_neg]
 rintro ⟨h1, h2⟩
 have h0 := canon_head _ h1
 rw [h0, dec_zero] at h2
 simp at h2
 omega
theorem digs_dec (n : Nat) : digs (Lib.decDigits n) = true := by
 unfold digs
 rw [dec_dig, Bool.and_true]
 cases h : Lib.decDigits n with
 | nil => exact absurd h (dec_ne n)
 | cons b r => rfl
theorem dec_pos_not_zeros {n : Nat} (h : 0 < n) : ((Lib.decDigits n).all fun b => b == 48) = false := by
 obtain ⟨b, r, e, hb⟩ := dec_head h
 rw [e, List.all_cons, Bool.and_eq_false_iff]
 left
 rw [beq_eq_false_iff_ne]
 rintro rfl
 exact hb rfl
theorem num_cut (q : Rat) : Lib.cut (numText q) [47] = if isInt q = true then (Lib.itoa q.num, [], false) else (Lib.itoa q.num, Lib.decDigits q.den, true) := by
 unfold numText
 split
 ·exact cut_not (itoa_no _ (by decide) (by decide))
 ·exact cut_here (itoa_no _ (by decide) (by decide))
/-- What is written is read as it was. -/
theorem read_num (q : Rat) : readVal (numText q) = q := by
 unfold readVal
 rw [num_cut]
 by_cases h : isInt q = true
 ·rw [if_pos h]
  simp only [parse_itoa]
  unfold isInt at h
  rw [beq_iff_eq] at h
  rw [if_neg (by decide)]
  exact Rat.ext (by simp) (by simp [h])
 ·rw [if_neg h]
  simp only [if_true, parse_itoa]
  rw [← itoa_nat, parse_itoa]
  rw [Rat.divInt_ofNat, Rat.mkRat_self]
theorem num_len_num (q : Rat) : (Lib.itoa q.num).length ≤ (numText q).length := by
 unfold numText
 split
 ·exact Nat.le_refl _
 ·rw [List.length_append]; omega
theorem num_len_den {q : Rat} (h : isInt q = false) : (Lib.decDigits q.den).length ≤ (numText q).length := by
 unfold numText
 rw [if_neg (by rw [h]; simp), List.length_append, List.length_cons]
 omega
theorem read_num_ok {q : Rat} {most : Nat} (hm : (numText q).length ≤ most) (hl : (numText q).length ≤ 65536) : readErr (numText q) most = 0 := by
 have hn := num_len_num q
 unfold readErr
 rw [if_neg (by omega), num_cut]
 by_cases h : isInt q = true
 ·rw [if_pos h]
  simp only [itoa_unsign, digs_dec, parse_itoa_ok (show (Lib.itoa q.num).length ≤ 65536 by omega)]
  simp
 ·have h' : isInt q = false := by cases e : isInt q <;> simp_all
  have hd := num_len_den h'
  rw [if_neg h]
  simp only [itoa_unsign, digs_dec, parse_itoa_ok (show (Lib.itoa q.num).length ≤ 65536 by omega), dec_pos_not_zeros q.den_pos]
  rw [← itoa_nat, parse_itoa_ok (by rw [itoa_nat]; omega), parse_itoa, parse_itoa]
  have hg : Nat.gcd q.num.natAbs (q.den : Int).natAbs = 1 := q.reduced
  have h1 : ¬ (q.den : Int) = 1 := by
   unfold isInt at h'
   rw [beq_eq_false_iff_ne] at h'
   omega
  simp [h1]
  exact_mod_cast q.reduced
end Go.Proofs.YtgofihilkobenaaGreatDoor
