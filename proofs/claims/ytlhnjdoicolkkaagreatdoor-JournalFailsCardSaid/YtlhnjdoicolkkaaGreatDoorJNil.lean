/- right; the methods of a nil journal; Open of what there is not. -/
import Derived.Test.YtlhnjdoicolkkaaGreatDoorJKnown
set_option maxRecDepth 100000
namespace Go.Proofs.YtlhnjdoicolkkaaGreatDoor
open Go.RowKit Go.Dsk Go.Maps Go.WideMaps
set_option maxHeartbeats 2000000
open Jnl (J)

theorem jname_bad {s : ByteArray} {k : Nat} (hk : k < s.size) (h : badByte s[k] = true) : Jnl.jname s.data.toList = false := by
  have : s.data.toList.any badByte = true := List.any_eq_true.2 ⟨s[k], List.getElem_mem (l := s.data.toList) hk, h⟩
  unfold Jnl.jname
  rw [this]
  rfl
theorem jname_good {s : ByteArray} (h : (s.data.toList.take s.size).any badByte = false) : Jnl.jname s.data.toList = (decide (0 < s.size) && decide (s.size ≤ 36)) := by
  have hl : s.data.toList.length = s.size := rfl
  rw [← hl, List.take_length] at h
  unfold Jnl.jname
  rw [h, hl]
  rfl
theorem right_any (s : ByteArray) (hs : s.size ≤ 1099511627776) (w : World) : Calls Tryz.prog 26 #[.string s] w fun e w' => e = .returned (.bool (Jnl.jname s.data.toList)) ∧ w = w' := by
  go_enter Tryz.func26, Tryz.ntmps26
  go_wp2
  go_loop [3] (fun n => ∃ k : Nat, k ≤ s.size ∧ n = .int .i64 k ∧ (s.data.toList.take k).any badByte = false) (fun n => s.size - (intOf n).toNat)
  case atStart => exact ⟨0, Nat.zero_le _, rfl, rfl⟩
  case round =>
    obtain ⟨k, hk, rfl, hb⟩ := hrel
    have Hb := Lib.hid hb
    clear hb
    by_cases hlt : k < s.size
    · have hc := s[k].toNat_lt
      have hbb := bad_eq s[k]
      rcases (show s[k].toNat < 45 ∨ s[k].toNat = 45 ∨ s[k].toNat = 46 ∨ s[k].toNat = 47 ∨ (48 ≤ s[k].toNat ∧ s[k].toNat ≤ 57) ∨ (58 ≤ s[k].toNat ∧ s[k].toNat ≤ 96) ∨ (97 ≤ s[k].toNat ∧ s[k].toNat ≤ 122) ∨ 122 < s[k].toNat by omega) with h | h | h | h | h | h | h | h
      all_goals
        first
          | (have H := Lib.hid (hbb.trans (decide_eq_true (by omega)))
             clear hbb
             go_wp2
             all_goals first
               | (exfalso; simp at *; omega)
               | (go_ret; exact ⟨retB (jname_bad hlt H.out).symm, rfl⟩))
          | (have H := Lib.hid (hbb.trans (decide_eq_false (by omega)))
             clear hbb
             go_wp2
             all_goals first
               | (exfalso; simp at *; omega)
               | (go_round
                  case rel => exact ⟨k + 1, by omega, by go_num, any_snoc hlt Hb.out H.out⟩
                  case measure => simp [intOf]; omega))
    · obtain rfl : k = s.size := by omega
      by_cases h0 : 0 < s.size
      · by_cases h1 : s.size ≤ 36
        · go_wp2
          all_goals (go_ret; exact ⟨retB (by rw [jname_good Hb.out]; simp [h0, h1]; try omega), rfl⟩)
        · go_wp2
          all_goals (go_ret; exact ⟨retB (by rw [jname_good Hb.out]; simp [h0, h1]; try omega), rfl⟩)
      · go_wp2
        all_goals (go_ret; exact ⟨retB (by rw [jname_good Hb.out]; simp [h0]), rfl⟩)
theorem Append_nil (s : ByteArray) (w : World) : Calls Tryz.prog 22 #[.pointer none, .string s] w fun e w' => e = .returned (.tuple #[.int .i64 0, .int .i64 1]) ∧ Below w.heap.size w w' := by
  go_enter Tryz.func22, Tryz.ntmps22
  go_wp2_with fail
  refine state_nil.mono ?_
  rintro e w1 ⟨rfl, rfl⟩
  go_wp2_with fail
  go_ret2
  exact ⟨rfl, Below.refl _ _⟩
theorem Commit_nil (w : World) : Calls Tryz.prog 24 #[.pointer none] w fun e w' => e = .returned (.tuple #[.int .i64 0, .int .i64 1]) ∧ Below w.heap.size w w' := by
  have hb := (Below.refl _ w).alloc (Nat.le_refl _) (.cells #[.pointer none] 43)
  have HB := Lib.hid hb
  clear hb
  go_enter Tryz.func24, Tryz.ntmps24
  go_wp2_with fail
  refine state_nil.mono ?_
  rintro e w1 ⟨rfl, hw1⟩
  obtain rfl := hw1.symm
  go_wp2_with fail
  go_ret2
  exact ⟨rfl, HB.out⟩
theorem Records_nil (w : World) : Calls Tryz.prog 29 #[.pointer none, .int .i64 1] w fun e w' => e = .returned (.tuple #[.slice none 0 0, .int .i64 1]) ∧ Below w.heap.size w w' := by
  go_enter Tryz.func29, Tryz.ntmps29
  go_wp2_with fail
  refine state_nil.mono ?_
  rintro e w1 ⟨rfl, rfl⟩
  go_wp2_with fail
  go_ret2
  exact ⟨rfl, Below.refl _ _⟩
theorem Discard_nil (w : World) : Calls Tryz.prog 30 #[.pointer none] w fun e w' => e = .returned (.int .i64 1) ∧ Below w.heap.size w w' := by
  go_enter Tryz.func30, Tryz.ntmps30
  go_wp2_with fail
  refine state_nil.mono ?_
  rintro e w1 ⟨rfl, rfl⟩
  go_wp2_with fail
  go_ret
  exact ⟨rfl, Below.refl _ _⟩
theorem Cut_nil (w : World) : Calls Tryz.prog 31 #[.pointer none, .int .i64 1] w fun e w' => e = .returned (.int .i64 1) ∧ Below w.heap.size w w' := by
  go_enter Tryz.func31, Tryz.ntmps31
  go_wp2_with fail
  refine state_nil.mono ?_
  rintro e w1 ⟨rfl, rfl⟩
  go_wp2_with fail
  go_ret
  exact ⟨rfl, Below.refl _ _⟩
theorem First_nil (w : World) : Calls Tryz.prog 32 #[.pointer none] w fun e w' => e = .returned (.int .i64 0) ∧ Below w.heap.size w w' := by
  go_enter Tryz.func32, Tryz.ntmps32
  go_wp2_with fail
  refine state_nil.mono ?_
  rintro e w1 ⟨rfl, rfl⟩
  go_wp2_with fail
  go_ret
  exact ⟨rfl, Below.refl _ _⟩
theorem Last_nil (w : World) : Calls Tryz.prog 33 #[.pointer none] w fun e w' => e = .returned (.int .i64 0) ∧ Below w.heap.size w w' := by
  go_enter Tryz.func33, Tryz.ntmps33
  go_wp2_with fail
  refine state_nil.mono ?_
  rintro e w1 ⟨rfl, rfl⟩
  go_wp2_with fail
  go_ret
  exact ⟨rfl, Below.refl _ _⟩
theorem Pending_nil (w : World) : Calls Tryz.prog 23 #[.pointer none] w fun e w' => e = .returned (.int .i64 0) ∧ Below w.heap.size w w' := by
  go_enter Tryz.func23, Tryz.ntmps23
  go_wp2_with fail
  refine state_nil.mono ?_
  rintro e w1 ⟨rfl, rfl⟩
  go_wp2_with fail
  go_ret
  exact ⟨rfl, Below.refl _ _⟩
theorem Open_nil (n : ByteArray) (w : World) : Calls Tryz.prog 27 #[.pointer none, .string n] w fun e w' => e = .returned (.tuple #[.pointer none, .int .i64 1]) ∧ Below w.heap.size w w' := by
  go_enter Tryz.func27, Tryz.ntmps27
  go_wp2_with fail
  go_ret2
  exact ⟨rfl, Below.refl _ _⟩
section
variable {w0 w : World} {bd : Nat} {d : M} {R : SP}
theorem Open_name (bd : Nat) (w : World) {n : ByteArray} (hs : n.size ≤ 1048576) (hn : Jnl.jname n.data.toList = false) :
    Calls Tryz.prog 27 #[.pointer (some ⟨bd, 0, none⟩), .string n] w fun e w' => e = .returned (.tuple #[.pointer none, .int .i64 11]) ∧ Below w.heap.size w w' := by
  have hnm := jisName_any n (by omega) w
  rw [hn] at hnm
  clear hn
  go_enter Tryz.func27, Tryz.ntmps27
  go_wp2_with fail
  refine hnm.mono ?_
  rintro e w1 ⟨rfl, hb1⟩
  go_wp2_with fail
  go_ret2
  exact ⟨rfl, hb1⟩
theorem Open_down (hR : Nice R) (h : Dr R w0 w bd d) {n : ByteArray} (hs : n.size ≤ 1048576) (hn : Jnl.jname n.data.toList = true) (hd : d.down = true) :
    Calls Tryz.prog 27 #[.pointer (some ⟨bd, 0, none⟩), .string n] w fun e w' => e = .returned (.tuple #[.pointer none, .int .i64 18]) ∧ Below w.heap.size w w' := by
  have hnm := jisName_any n (by omega) w
  rw [hn] at hnm
  have hdn := fun w' (hb : Below w.heap.size w w') => dr_down (h.moved (Nice.star (nice_disk _ _) hR) hb) hd
  have HD := Lib.hid hdn
  clear hn hdn h hd
  go_enter Tryz.func27, Tryz.ntmps27
  go_wp2_with fail
  refine hnm.mono ?_
  rintro e w1 ⟨rfl, hb1⟩
  have HB := Lib.hid hb1
  clear hb1
  go_wp2_with fail
  refine (HD.out _ HB.out).mono ?_
  rintro e w2 ⟨rfl, hw2⟩
  obtain rfl := hw2
  go_wp2_with fail
  go_ret2
  exact ⟨rfl, HB.out⟩
end
end Go.Proofs.YtlhnjdoicolkkaaGreatDoor
