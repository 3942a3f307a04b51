/- isName: which names a journal may have. -/
import Derived.Test.YtlhnjdoicolkkaaGreatDoorJCommit1
import Derived.Deep.RegionHeld3
set_option maxRecDepth 100000
namespace Go.Proofs.YtlhnjdoicolkkaaGreatDoor
open Go.RowKit Go.Dsk Go.Maps Go.WideMaps
set_option maxHeartbeats 2000000

def badRune (r : Nat) : Bool := decide ((r < 97 ∨ 122 < r) ∧ (r < 48 ∨ 57 < r) ∧ r ≠ 46 ∧ r ≠ 45)
theorem badRune_byte (c : UInt8) : badRune c.toNat = badByte c := (bad_eq c).symm
theorem badRune_big {r : Nat} (h : 128 ≤ r) : badRune r = true := by
  unfold badRune
  rw [decide_eq_true_iff]
  omega
theorem isNameF_any (W : World) (r : Nat) : Calls Tryz.prog 102 #[.int .i32 (r : Int)] W fun e w' => e = .returned (.bool (badRune r)) ∧ ∃ q, w' = W.drewN q := by
  obtain ⟨b, hb⟩ : ∃ b, badRune r = b := ⟨_, rfl⟩
  rw [hb]
  unfold badRune at hb
  have fin : ∀ {x : Bool}, x = b → Ending.returned (.bool x) = .returned (.bool b) := fun h => by rw [h]
  go_enter Tryz.func102, Tryz.ntmps102
  go_wp2_with fail
  all_goals
    go_ret
    refine ⟨?_, 0, rfl⟩
    refine fin ?_
    rw [← hb, Bool.eq_iff_iff]
    simp
    try omega
theorem decode_small (s : ByteArray) {i : Nat} (hi : i < s.size) (h : s[i].toNat < 128) : Utf8.decode s i = (s[i].toNat, 1) := by
  have e : s.get! i = s[i] := by
    have h1 : s.get! i = s.data[i]! := rfl
    rw [h1]
    exact getElem!_pos s.data i hi
  unfold Utf8.decode
  simp only [Nat.add_zero, e]
  rw [if_pos h]
theorem decode_big (s : ByteArray) {i : Nat} (hi : i < s.size) (h : ¬ s[i].toNat < 128) : 128 ≤ (Utf8.decode s i).1 := by
  have e : s.get! i = s[i] := by
    have h1 : s.get! i = s.data[i]! := rfl
    rw [h1]
    exact getElem!_pos s.data i hi
  unfold Utf8.decode
  simp only [Nat.add_zero, e]
  rw [if_neg h]
  split
  · split
    · assumption
    · decide
  split
  · split
    · rename_i h2
      simp at h2 ⊢
      omega
    · decide
  split
  · split
    · rename_i h2
      simp at h2 ⊢
      omega
    · decide
  decide
theorem idx_bad (s : ByteArray) : ∀ (f pos : Nat), s.size - pos ≤ f → (0 ≤ Lib.idxFuncFrom badRune true s f pos ↔ ∃ k, ∃ hk : k < s.size, pos ≤ k ∧ badByte s[k] = true)
  | 0, pos, h => by
    simp only [Lib.idxFuncFrom]
    constructor
    · intro h; omega
    · rintro ⟨k, hk, hp, _⟩
      omega
  | f + 1, pos, h => by
    unfold Lib.idxFuncFrom
    by_cases hp : pos < s.size
    · rw [if_pos hp]
      by_cases hb : badByte s[pos] = true
      · have hq : badRune (Utf8.decode s pos).1 = true := by
          by_cases hs : s[pos].toNat < 128
          · rw [decode_small s hp hs, badRune_byte, hb]
          · exact badRune_big (decode_big s hp hs)
        rw [if_pos hq]
        exact ⟨fun _ => ⟨pos, hp, Nat.le_refl _, hb⟩, fun _ => by omega⟩
      · have hs : s[pos].toNat < 128 := by
          by_cases hs : s[pos].toNat < 128
          · exact hs
          · exfalso
            apply hb
            rw [bad_eq, decide_eq_true_iff]
            omega
        have hd := decode_small s hp hs
        have hq : badRune (Utf8.decode s pos).1 ≠ true := by rw [hd, badRune_byte]; exact hb
        rw [if_neg hq, hd, idx_bad s f (pos + 1) (by omega)]
        constructor
        · rintro ⟨k, hk, h1, h2⟩
          exact ⟨k, hk, by omega, h2⟩
        · rintro ⟨k, hk, h1, h2⟩
          refine ⟨k, hk, ?_, h2⟩
          rcases Nat.lt_or_ge pos k with h | h
          · exact h
          · have : k = pos := by omega
            subst this
            exact absurd h2 hb
    · rw [if_neg hp]
      constructor
      · intro h; omega
      · rintro ⟨k, hk, h1, _⟩
        omega
theorem idx_any (s : ByteArray) : decide (0 ≤ Lib.idxFunc badRune true s) = s.data.toList.any badByte := by
  have h := idx_bad s s.size 0 (by omega)
  have hl : s.data.toList.length = s.size := rfl
  rw [Bool.eq_iff_iff, decide_eq_true_iff, List.any_eq_true]
  unfold Lib.idxFunc
  rw [h]
  constructor
  · rintro ⟨k, hk, _, hb⟩
    exact ⟨s[k], List.getElem_mem (l := s.data.toList) hk, hb⟩
  · rintro ⟨x, hx, hb⟩
    obtain ⟨k, hk, rfl⟩ := List.getElem_of_mem hx
    exact ⟨k, hk, Nat.zero_le _, hb⟩
theorem enters_isNameF (args : Array Value) (w : World) : (callFunc 102 args).run Tryz.prog w = .ok (.enter 102 args) w := by
  exact enters_of Tryz.func102 (by kernel_rfl) rfl args w
theorem jisName_any (s : ByteArray) (hs : s.size ≤ 1099511627776) (w : World) : Calls Tryz.prog 60 #[.string s] w fun e w' => e = .returned (.bool (Jnl.jname s.data.toList)) ∧ Below w.heap.size w w' := by
  have hl : s.data.toList.length = s.size := rfl
  have hcf := Tryz.strings_ContainsFunc 102 #[] enters_isNameF badRune s w (fun W r _ => isNameF_any W r)
  rw [idx_any] at hcf
  unfold Jnl.jname
  rw [hl]
  generalize s.data.toList.any badByte = b at hcf ⊢
  by_cases h0 : s.size = 0
  · have h0' : (!s.toList.isEmpty) = false := by
      have : s.data.toList = [] := List.eq_nil_of_length_eq_zero (hl.trans h0)
      rw [ByteArray.toList_eq, this]
      rfl
    have hv : (!b && (decide (0 < s.size) && decide (s.size ≤ 36))) = false := by simp [h0]
    rw [hv]
    clear hcf hv hl
    go_enter Tryz.func60, Tryz.ntmps60
    go_wp2_with fail
    go_ret
    exact ⟨rfl, Below.refl _ _⟩
  · have h0' : (!s.toList.isEmpty) = true := by
      have : s.data.toList ≠ [] := fun e => h0 (by rw [← hl, e]; rfl)
      rw [ByteArray.toList_eq]
      simpa using this
    by_cases h1 : s.size ≤ 36
    · have h1' : ((s.size : Int) ≤ 36) = True := by simp; omega
      have hv : (!b && (decide (0 < s.size) && decide (s.size ≤ 36))) = !b := by simp [h1, Nat.pos_of_ne_zero h0]
      rw [hv]
      clear hv hl
      go_enter Tryz.func60, Tryz.ntmps60
      go_wp2_with fail
      refine hcf.mono ?_
      rintro e w1 ⟨rfl, hb1⟩
      go_wp2_with fail
      go_ret
      exact ⟨rfl, hb1⟩
    · have h1' : ((s.size : Int) ≤ 36) = False := by simp; omega
      have hv : (!b && (decide (0 < s.size) && decide (s.size ≤ 36))) = false := by simp [h1]
      rw [hv]
      clear hcf hv hl
      go_enter Tryz.func60, Tryz.ntmps60
      go_wp2_with fail
      go_ret
      exact ⟨rfl, Below.refl _ _⟩
end Go.Proofs.YtlhnjdoicolkkaaGreatDoor

/- Records: the durable records from a number on. -/
set_option maxRecDepth 100000
namespace Go.Proofs.YtlhnjdoicolkkaaGreatDoor
open Go.RowKit Go.Dsk Go.Maps Go.WideMaps
set_option maxHeartbeats 2000000
open Jnl (J)

section
variable {w0 w : World} {bj bd : Nat} {n : ByteArray} {j : J} {R : SP} {vr vp : Value}
theorem own_reads {base : Nat} {v : Value} {l : List Bs} (h : w.ownsRow base 9 1 v l.length (l.map strV)) : StrsIn w v l := by
  obtain ⟨h1, ⟨rfl, h2⟩ | ⟨g, cap, cur, rfl, hg, hh, h3, h4, h5, h6⟩⟩ := h
  · exact ⟨none, 0, by rw [h2], by omega, by unfold maxLen; omega, fun h => by omega⟩
  · refine ⟨_, cap, rfl, h3, h4, fun h0 => ⟨g, 0, rfl, lt_of_block hh, fun j hj => ?_⟩⟩
    have e : cur[j]? = some (strV (l.getD j [])) := by
      have e1 : (cur.toList.take (l.length * 1))[j]? = (l.map strV)[j]? := by rw [h6]
      rw [List.getElem?_take_of_lt (by omega)] at e1
      rw [← Array.getElem?_toList, e1]
      simp [List.getD_eq_getElem?_getD, List.getElem?_eq_getElem hj]
    rw [Nat.zero_add, block_cell hh]
    exact e
theorem strsClone_any {W : World} {a : Addr} {c k : Nat} {l : List Bs} (h : StrsIn W (.slice (some a) l.length c) l) (hk : k ≤ l.length) (hl : l.length ≤ 1099511627776) :
    Calls Tryz.prog 68 #[.slice (if c = k then some a else some (a.add k)) (l.length - k) (c - k)] W fun e w' => ∃ v, e = .returned v ∧ StrsIn w' v (l.drop k) ∧ Below W.heap.size W w' := by
  obtain ⟨ao, c', e, h1, h2, hc⟩ := h
  simp only [Value.slice.injEq, true_and] at e
  obtain ⟨rfl, rfl⟩ := e
  by_cases hz : l.length - k = 0
  · have hd : l.drop k = [] := List.drop_eq_nil_of_le (by omega)
    rw [hz, hd]
    obtain ⟨a', ha'⟩ : ∃ a' : Addr, (if c = k then some a else some (a.add k)) = some a' := by split <;> exact ⟨_, rfl⟩
    rw [ha']
    refine (Tryz.slices_Clone_string_zero a' (c - k) W).mono ?_
    rintro e w' ⟨v, rfl, ho, _, hb⟩
    exact ⟨v, rfl, own_reads (l := []) ho, hb⟩
  · obtain ⟨b, off, e, hlt, hcell⟩ := hc (by omega)
    simp only [Option.some.injEq] at e
    subst e
    rw [if_neg (by omega), add_plain2]
    have hzl : ((l.drop k).map fun x => (⟨x.toArray⟩ : ByteArray)).length = l.length - k := by simp
    refine (Tryz.slices_Clone_string b (off + k) (l.length - k) (c - k) ((l.drop k).map fun x => ⟨x.toArray⟩) W (by rw [hzl]; exact Nat.le_refl _) (by omega) (fun j hj => ?_)).mono ?_
    · rw [hzl] at hj
      rw [Nat.add_assoc, hcell (k + j) (by omega)]
      unfold strV
      simp only [List.getD_eq_getElem?_getD, List.getElem?_map, List.getElem?_drop]
      rw [List.getElem?_eq_getElem (by omega : k + j < l.length)]
      rfl
    · rintro e w' ⟨v, rfl, ho, _, hb⟩
      refine ⟨v, rfl, own_reads (base := W.heap.size) ?_, hb⟩
      have e1 : (l.drop k).length = l.length - k := by simp
      rw [e1]
      rw [List.take_of_length_le (by rw [hzl]; exact Nat.le_refl _), List.map_map] at ho
      exact ho
theorem records_out (h : JSee w bj bd n j vr vp) (f : Int) (hf : f < 1073741824000000 ∧ -1073741824000000 < f) {e : Int} (he : (j.broken = true ∧ e = 18) ∨ (j.broken = false ∧ f < j.first ∧ e = 10) ∨ (j.broken = false ∧ ¬ f < j.first ∧ j.last + 1 < f ∧ e = 10)) :
    Calls Tryz.prog 29 #[pj bj, .int .i64 f] w fun x w' => x = .returned (.tuple #[.slice none 0 0, .int .i64 e]) ∧ Below w.heap.size w w' := by
  have c2 := h.c2
  rcases he with ⟨hb, rfl⟩ | ⟨hb, h1, rfl⟩ | ⟨hb, h1, h2, rfl⟩
  · have hst := state_broken h hb
    clear h
    go_enter Tryz.func29, Tryz.ntmps29
    go_wp2_with fail
    refine hst.mono ?_
    rintro e w1 ⟨rfl, rfl⟩
    go_wp2_with fail
    go_ret2
    exact ⟨rfl, Below.refl _ _⟩
  · have hst := state_well h hb
    have h1' : (f < (j.first : Int)) = True := by simp; omega
    clear h
    go_enter Tryz.func29, Tryz.ntmps29
    go_wp2_with fail
    refine hst.mono ?_
    rintro e w1 ⟨rfl, rfl⟩
    go_wp2_with fail
    go_ret2
    exact ⟨rfl, Below.refl _ _⟩
  · have hst := state_well h hb
    have h1' : (f < (j.first : Int)) = False := by simp; omega
    have hl := Last_any h
    have f1 := h.fit.first
    have f2 := h.fit.recs
    have hlv : j.last = (j.first : Int) + j.recs.length - 1 := by unfold Jnl.J.last; rw [hb]; simp
    obtain ⟨L, hL⟩ : ∃ L, j.last = L := ⟨_, rfl⟩
    rw [hL] at hl h2 hlv
    have hw : wrap64 (L + 1) = L + 1 := IntWalk.wrap64_in _ (by omega)
    have h2' : (L + 1 < f) = True := by simp; omega
    clear h hlv hL
    go_enter Tryz.func29, Tryz.ntmps29
    go_wp2_with fail
    refine hst.mono ?_
    rintro e w1 ⟨rfl, hw1⟩
    obtain rfl := hw1.symm
    go_wp2_with fail
    refine hl.mono ?_
    rintro e w2 ⟨rfl, q, rfl⟩
    go_wp2_with fail
    go_ret2
    exact ⟨rfl, below_drawn w q⟩
theorem records_in (h : JSee w bj bd n j vr vp) (k : Nat) (hb : j.broken = false) (hk : k ≤ j.recs.length) :
    Calls Tryz.prog 29 #[pj bj, .int .i64 ((j.first : Int) + k)] w fun x w' => ∃ v, x = .returned (.tuple #[v, .int .i64 0]) ∧ StrsIn w' v (j.recs.drop k) ∧ Below w.heap.size w w' := by
  have c2 := h.c2
  have c3 := h.c3
  have hst := state_well h hb
  have hl := Last_any h
  have f1 := h.fit.first
  have f2 := h.fit.recs
  have hlv : j.last = (j.first : Int) + j.recs.length - 1 := by unfold Jnl.J.last; rw [hb]; simp
  obtain ⟨L, hL⟩ : ∃ L, j.last = L := ⟨_, rfl⟩
  rw [hL] at hl hlv
  have hw : wrap64 (L + 1) = L + 1 := IntWalk.wrap64_in _ (by omega)
  have h1' : ((j.first : Int) + (k : Int) < (j.first : Int)) = False := by simp; omega
  have h2' : (L + 1 < (j.first : Int) + (k : Int)) = False := by simp; omega
  have hw2 : wrap64 ((j.first : Int) + (k : Int) - (j.first : Int)) = (k : Int) := (IntWalk.wrap64_in _ (by omega)).trans (by omega)
  have hw3 : IntKind.i64.wrap ((j.first : Int) + (k : Int) - (j.first : Int)) = (k : Int) := (IntWalk.i64_in _ (by omega)).trans (by omega)
  have hk0 : (0 : Int) ≤ (k : Int) := by omega
  have hk1 : (k : Int) ≤ (j.recs.length : Int) := by omega
  obtain ⟨ao, c, rfl, hc1, hc2, hcell⟩ := h.r
  unfold maxLen at hc2
  have HC := Lib.hid hcell
  clear h hlv hL hcell
  go_enter Tryz.func29, Tryz.ntmps29
  go_wp2_with fail
  refine hst.mono ?_
  rintro e w1 ⟨rfl, hw1⟩
  obtain rfl := hw1.symm
  go_wp2_with fail
  refine hl.mono ?_
  rintro e w2 ⟨rfl, q, rfl⟩
  cases ao with
  | none =>
    have hz : j.recs.length = 0 := by
      rcases Nat.eq_zero_or_pos j.recs.length with h | h
      · exact h
      · obtain ⟨b, off, e, _⟩ := HC.out h
        cases e
    go_upto_region 6 with fail
    generalize hwq : w.drewN q = wq
    have hbq : Below w.heap.size w wq := by rw [← hwq]; exact below_drawn w q
    have c2 : wq.cell? ⟨bj, 2, none⟩ = some (.int .i64 j.first) := by rw [← hwq]; exact c2
    have c3 : wq.cell? ⟨bj, 3, none⟩ = some (.slice none j.recs.length c) := by rw [← hwq]; exact c3
    have HBQ := Lib.hid hbq
    clear hwq hbq
    go_region_with (go_at_call 68; refine (Tryz.slices_Clone_string_nil _ _ _).mono ?_; rintro e w3 ⟨rfl, rfl⟩)
    all_goals
      go_wp2_with fail
      go_ret2
      refine ⟨_, rfl, ?_, HBQ.out.drew⟩
      have hd : j.recs.drop k = [] := List.drop_eq_nil_of_le (by omega)
      rw [hd]
      exact ⟨none, 0, rfl, Nat.le_refl _, by unfold maxLen; omega, fun h => absurd h (by simp)⟩
  | some a =>
    go_upto_region 6 with fail
    generalize hwq : w.drewN q = wq
    have hbq : Below w.heap.size w wq := by rw [← hwq]; exact below_drawn w q
    have c2 : wq.cell? ⟨bj, 2, none⟩ = some (.int .i64 j.first) := by rw [← hwq]; exact c2
    have c3 : wq.cell? ⟨bj, 3, none⟩ = some (.slice (some a) j.recs.length c) := by rw [← hwq]; exact c3
    have hsi : StrsIn wq.drew (.slice (some a) j.recs.length c) j.recs := StrsIn.below (w := w) ⟨_, c, rfl, hc1, by unfold maxLen; exact hc2, HC.out⟩ hbq.drew
    have hcl := strsClone_any hsi hk (by omega)
    have HBQ := Lib.hid hbq
    clear hsi hwq hbq
    by_cases hck : c = k
    · rw [if_pos hck, show c - k = 0 by omega] at hcl
      have HCL := Lib.hid hcl
      clear hcl
      go_region_with (go_at_call 68; refine HCL.out.mono ?_; rintro e w3 ⟨v, rfl, hv, hb3⟩; have HV := Lib.hid (And.intro hv hb3); clear hv hb3)
      all_goals
        go_wp2_with fail
        go_ret2
        exact ⟨v, rfl, HV.out.1, HBQ.out.drew.trans (HV.out.2.mono HBQ.out.size)⟩
    · rw [if_neg hck] at hcl
      have HCL := Lib.hid hcl
      clear hcl
      go_region_with (go_at_call 68; refine HCL.out.mono ?_; rintro e w3 ⟨v, rfl, hv, hb3⟩; have HV := Lib.hid (And.intro hv hb3); clear hv hb3)
      all_goals
        go_wp2_with fail
        go_ret2
        exact ⟨v, rfl, HV.out.1, HBQ.out.drew.trans (HV.out.2.mono HBQ.out.size)⟩
/-- What Records gives. -/
theorem Records_any (h : JSee w bj bd n j vr vp) (f : Int) (hf : f < 1073741824000000 ∧ -1073741824000000 < f) :
    Calls Tryz.prog 29 #[pj bj, .int .i64 f] w fun x w' => ∃ v, x = .returned (.tuple #[v, .int .i64 (j.records f).2]) ∧ StrsIn w' v (j.records f).1 ∧ Below w.heap.size w w' := by
  have nilIn : ∀ w' : World, StrsIn w' (.slice none 0 0) [] := fun w' => ⟨none, 0, rfl, Nat.le_refl _, by unfold maxLen; omega, fun h => absurd h (by simp)⟩
  unfold Jnl.J.records
  cases hb : j.broken with
  | true => exact (records_out h f hf (.inl ⟨hb, rfl⟩)).mono fun _ w' ⟨a, b⟩ => ⟨_, a, nilIn w', b⟩
  | false =>
    simp only [Bool.false_eq_true, if_false]
    by_cases h1 : f < j.first
    · rw [if_pos (.inl h1)]
      exact (records_out h f hf (.inr (.inl ⟨hb, h1, rfl⟩))).mono fun _ w' ⟨a, b⟩ => ⟨_, a, nilIn w', b⟩
    · by_cases h2 : j.last + 1 < f
      · rw [if_pos (.inr h2)]
        exact (records_out h f hf (.inr (.inr ⟨hb, h1, h2, rfl⟩))).mono fun _ w' ⟨a, b⟩ => ⟨_, a, nilIn w', b⟩
      · rw [if_neg (fun h => h.elim h1 h2)]
        have hlv : j.last = (j.first : Int) + j.recs.length - 1 := by unfold Jnl.J.last; rw [hb]; simp
        obtain ⟨k, hk⟩ : ∃ k : Nat, k = (f - j.first).toNat := ⟨_, rfl⟩
        have hfk : f = (j.first : Int) + k := by omega
        rw [← hk, hfk]
        exact records_in h k hb (by omega)
end
end Go.Proofs.YtlhnjdoicolkkaaGreatDoor
