/- The small functions of the disk: what each call gives, and what it leaves in memory. -/
import Derived.Test.YtlhnjdoicolkkaaRep
import Derived.BigQuiet
import Derived.Deep.QuietTactic
set_option maxRecDepth 100000
namespace Go.Proofs.Ytlhnjdoicolkkaa
open Go.RowKit Go.Dsk Go.Maps Go.WideMaps
set_option maxHeartbeats 400000

theorem retB {a b : Bool} (h : a = b) : Ending.returned (.bool a) = .returned (.bool b) := by rw [h]
theorem retI {k : IntKind} {a b : Int} (h : a = b) : Ending.returned (.int k a) = .returned (.int k b) := by rw [h]
theorem bad_eq (c : UInt8) : badByte c = (decide ((c.toNat < 97 ∨ 122 < c.toNat) ∧ (c.toNat < 48 ∨ 57 < c.toNat) ∧ c.toNat ≠ 46 ∧ c.toNat ≠ 45)) := by
  have e (n : UInt8) : (c != n) = decide (c.toNat ≠ n.toNat) := by
    rw [Bool.eq_iff_iff, bne_iff_ne, decide_eq_true_eq, ne_eq, ne_eq, UInt8.toNat_inj]
  unfold badByte
  rw [e, e]
  simp only [UInt8.lt_iff_toNat_lt]
  rw [Bool.eq_iff_iff]
  simp
  omega
theorem any_snoc {s : ByteArray} {k : Nat} (hk : k < s.size) (h : (s.data.toList.take k).any badByte = false) (hb : badByte s[k] = false) : (s.data.toList.take (k + 1)).any badByte = false := by
  rw [List.take_succ_eq_append_getElem (by simpa using hk), List.any_append, h]
  have e : s.data.toList[k]'(by simpa using hk) = s[k] := rfl
  rw [e]; simpa using hb
theorem isName_bad {s : ByteArray} {k : Nat} (hk : k < s.size) (hb : badByte s[k] = true) : isName s.data.toList = false := by
  have : s.data.toList.any badByte = true := List.any_eq_true.2 ⟨s.data.toList[k]'(by simpa using hk), List.getElem_mem _, hb⟩
  simp [isName, this]
theorem isName_good {s : ByteArray} (hb : (s.data.toList.take s.size).any badByte = false) : isName s.data.toList = (decide (0 < s.size) && decide (s.size ≤ 40)) := by
  have e : s.data.toList.length = s.size := by simp
  rw [← e, List.take_length] at hb
  unfold isName
  rw [hb, e]; simp

theorem isName_any (s : ByteArray) (w : World) (hs : s.size ≤ maxLen) : Calls Try.prog 38 #[.string s] w fun e w' => e = .returned (.bool (isName s.data.toList)) ∧ w = w' := by
  unfold maxLen at hs
  go_enter Try.func38, Try.ntmps38
  go_wp2
  go_loop [7] (fun n => ∃ k : Nat, k ≤ s.size ∧ n = .int .i64 k ∧ (s.data.toList.take k).any badByte = false) (fun n => s.size - (intOf n).toNat)
  case atStart => exact ⟨0, Nat.zero_le _, rfl, rfl⟩
  case round =>
    obtain ⟨k, hk, rfl, hb⟩ := hrel
    have Hb := Lib.hid hb
    clear hb
    by_cases hlt : k < s.size
    · have hc := s[k].toNat_lt
      have hbb := bad_eq s[k]
      rcases (show s[k].toNat < 45 ∨ s[k].toNat = 45 ∨ s[k].toNat = 46 ∨ s[k].toNat = 47 ∨ (48 ≤ s[k].toNat ∧ s[k].toNat ≤ 57) ∨ (58 ≤ s[k].toNat ∧ s[k].toNat ≤ 96) ∨ (97 ≤ s[k].toNat ∧ s[k].toNat ≤ 122) ∨ 122 < s[k].toNat by omega) with h | h | h | h | h | h | h | h
      all_goals
        first
          | (have H := Lib.hid (hbb.trans (decide_eq_true (by omega)))
             clear hbb
             go_wp2
             all_goals first
               | (exfalso; simp at *; omega)
               | (go_ret; exact ⟨retB (isName_bad hlt H.out).symm, rfl⟩))
          | (have H := Lib.hid (hbb.trans (decide_eq_false (by omega)))
             clear hbb
             go_wp2
             all_goals first
               | (exfalso; simp at *; omega)
               | (go_round
                  case rel => exact ⟨k + 1, by omega, by go_num, any_snoc hlt Hb.out H.out⟩
                  case measure => simp [intOf]; omega))
    · obtain rfl : k = s.size := by omega
      by_cases h0 : 0 < s.size
      · by_cases h1 : s.size ≤ 40
        · go_wp2
          all_goals (go_ret; exact ⟨retB (by rw [isName_good Hb.out]; simp [h0, h1]; try omega), rfl⟩)
        · go_wp2
          all_goals (go_ret; exact ⟨retB (by rw [isName_good Hb.out]; simp [h0, h1]; try omega), rfl⟩)
      · go_wp2
        all_goals (go_ret; exact ⟨retB (by rw [isName_good Hb.out]; simp [h0]), rfl⟩)


theorem outcome_any (b : Bool) (w : World) : Calls Try.prog 43 #[.bool b] w fun e w' => e = .returned (.int .i64 (outcome b)) ∧ w = w' := by
  cases b
  all_goals
    go_enter Try.func43, Try.ntmps43
    go_wp2
    go_ret
    exact ⟨rfl, rfl⟩

theorem ready_nil (w : World) : Calls Try.prog 37 #[.pointer none] w fun e w' => e = .returned (.int .i64 1) ∧ w = w' := by
  go_enter Try.func37, Try.ntmps37
  go_wp2
  go_ret
  exact ⟨rfl, rfl⟩

section
variable {loc : Nat → Nat} {S : Nat → Prop} {w : World} {bd bn bm : Nat} {sl : Value} {bs : List (Nat × Nat)} {lft : Int} {m : M}
theorem Rep.c0 (h : Rep loc S w bd bn bm sl bs lft m) : w.cell? ⟨bd, 0, none⟩ = some (.int .i64 m.cap) := block_cell h.hd 0
theorem Rep.c1 (h : Rep loc S w bd bn bm sl bs lft m) : w.cell? ⟨bd, 1, none⟩ = some (.map (some bn)) := block_cell h.hd 1
theorem Rep.c2 (h : Rep loc S w bd bn bm sl bs lft m) : w.cell? ⟨bd, 2, none⟩ = some (.map (some bm)) := block_cell h.hd 2
theorem Rep.c3 (h : Rep loc S w bd bn bm sl bs lft m) : w.cell? ⟨bd, 3, none⟩ = some sl := block_cell h.hd 3
theorem Rep.c4 (h : Rep loc S w bd bn bm sl bs lft m) : w.cell? ⟨bd, 4, none⟩ = some (.bool (decide (0 ≤ m.limit))) := block_cell h.hd 4
theorem Rep.c5 (h : Rep loc S w bd bn bm sl bs lft m) : w.cell? ⟨bd, 5, none⟩ = some (.int .i64 lft) := block_cell h.hd 5
theorem Rep.c6 (h : Rep loc S w bd bn bm sl bs lft m) : w.cell? ⟨bd, 6, none⟩ = some (.bool m.down) := block_cell h.hd 6
theorem Rep.fr (h : Rep loc S w bd bn bm sl bs lft m) (i : Nat) : w.frozen? ⟨bd, i, none⟩ = false := block_free h.hd i
theorem Rep.file (h : Rep loc S w bd bn bm sl bs lft m) {k : Nat} (hk : k < m.files.length) : w.cell? ⟨loc k, 0, none⟩ = some (.string ⟨(m.files.getD k ⟨[], 0⟩).bytes.toArray⟩) := block_cell (h.hf k hk).2 0
theorem Rep.fdur (h : Rep loc S w bd bn bm sl bs lft m) {k : Nat} (hk : k < m.files.length) : w.cell? ⟨loc k, 1, none⟩ = some (.int .i64 (m.files.getD k ⟨[], 0⟩).dur) := block_cell (h.hf k hk).2 1
theorem Rep.ffr (h : Rep loc S w bd bn bm sl bs lft m) {k : Nat} (hk : k < m.files.length) (i : Nat) : w.frozen? ⟨loc k, i, none⟩ = false := block_free (h.hf k hk).2 i

/-- One scalar field is written. -/
theorem Rep.put (h : Rep loc S w bd bn bm sl bs lft m) (i : Nat) (v : Value) {m' : M} {lft' : Int} (hc : (diskCells m bn bm sl lft).setIfInBounds i v = diskCells m' bn bm sl lft')
    (hl : 0 ≤ m'.limit → lft' = m'.limit) (e1 : m'.names = m.names) (e2 : m'.durable = m.durable) (e3 : m'.pending = m.pending) (e4 : m'.files = m.files) (ok : m'.Ok) :
    Rep loc S (w.setCell ⟨bd, i, none⟩ v) bd bn bm sl bs lft' m' ∧ Fr S w (w.setCell ⟨bd, i, none⟩ v) := by
  have hf : Fr S w (w.setCell ⟨bd, i, none⟩ v) := (Fr.refl S w).setCell (.inl h.sd) h.noBoxD v
  exact ⟨h.scalars (by rw [block_set h.hd, hc]) (fun j hj => block_other hj v) (by simp [World.setCell]) hf hl e1 e2 e3 e4 ok, hf⟩

theorem ready_any (h : Rep loc S w bd bn bm sl bs lft m) : Calls Try.prog 37 #[.pointer (some ⟨bd, 0, none⟩)] w fun e w' => e = .returned (.int .i64 (if m.down then 18 else 0)) ∧ w = w' := by
  have h6 := h.c6
  clear h
  cases hd : m.down
  all_goals
    rw [hd] at h6
    clear hd
    go_enter Try.func37, Try.ntmps37
    go_wp2
    go_ret
    exact ⟨rfl, rfl⟩

theorem fails_any (h : Rep loc S w bd bn bm sl bs lft m) : Calls Try.prog 40 #[.pointer (some ⟨bd, 0, none⟩)] w fun e w' => e = .returned (.bool m.failing) ∧ (∃ lft', Rep loc S w' bd bn bm sl bs lft' m.counted) ∧ Fr S w w' := by
  have h4 := h.c4
  have h5 := h.c5
  have f5 := h.fr 5
  have f6 := h.fr 6
  have h6 := h.c6
  have l1 := h.ok.lim1
  rcases Int.lt_trichotomy m.limit 0 with hl | hl | hl
  · have e : m.counted = m := by unfold M.counted; rw [if_neg (by omega), if_neg (by omega)]
    have ef : m.failing = false := by simp [M.failing]; omega
    have H := Lib.hid h
    have E := Lib.hid e
    have EF := Lib.hid ef
    rw [decide_eq_false (by omega)] at h4
    clear h hl l1 h5 e ef
    go_enter Try.func40, Try.ntmps40
    go_wp2
    go_ret
    exact ⟨retB EF.out.symm, ⟨_, by rw [E.out]; exact H.out⟩, Fr.refl _ _⟩
  · have e : m.counted = { m with down := true } := by unfold M.counted; rw [if_pos hl]
    have ef : m.failing = true := by simp [M.failing, hl]
    have H := Lib.hid h
    have E := Lib.hid e
    have EF := Lib.hid ef
    have el : lft = 0 := by rw [h.hl (by omega), hl]
    have EL := Lib.hid el
    have ok := Lib.hid (counted_ok h.ok)
    rw [decide_eq_true (by omega)] at h4
    rw [el] at h5
    clear h hl l1 e ef el
    go_enter Try.func40, Try.ntmps40
    go_wp2
    go_ret
    have R := H.out.put 6 (.bool true) (m' := m.counted) (lft' := lft) (by rw [E.out]; rfl) (by rw [E.out]; exact H.out.hl) (by rw [E.out]) (by rw [E.out]) (by rw [E.out]) (by rw [E.out]) ok.out
    exact ⟨retB EF.out.symm, ⟨_, R.1⟩, R.2⟩
  · have e : m.counted = { m with limit := m.limit - 1 } := by unfold M.counted; rw [if_neg (by omega), if_pos hl]
    have ef : m.failing = false := by simp [M.failing]; omega
    have H := Lib.hid h
    have E := Lib.hid e
    have EF := Lib.hid ef
    have el : lft = m.limit := h.hl (by omega)
    have EL := Lib.hid el
    have ok := Lib.hid (counted_ok h.ok)
    rw [decide_eq_true (by omega)] at h4
    rw [el] at h5
    have HL := Lib.hid hl
    clear h e ef el
    go_enter Try.func40, Try.ntmps40
    go_wp2
    go_ret
    have R := H.out.put 5 (.int .i64 (m.limit - 1)) (m' := m.counted) (lft' := m.limit - 1) (by rw [E.out]; simp [diskCells]; omega) (by rw [E.out]; simp) (by rw [E.out]) (by rw [E.out]) (by rw [E.out]) (by rw [E.out]) ok.out
    exact ⟨retB EF.out.symm, ⟨_, R.1⟩, R.2⟩
end
end Go.Proofs.Ytlhnjdoicolkkaa
