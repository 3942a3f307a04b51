/- The small functions of the disk: what each call gives, and what it leaves in memory. -/
import Derived.Test.YtlhnjdoicolkkaaGreatDoorRep
import Derived.BigQuiet
import Derived.Deep.QuietTactic
import Derived.Sort.KeysCollected
import Derived.Laws.EntriesVeiled
import Derived.Deep.AppendLies
import Derived.Deep.RegionLaw
set_option maxRecDepth 100000
namespace Go.Proofs.YtlhnjdoicolkkaaGreatDoor
open Go.RowKit Go.Dsk Go.Maps Go.WideMaps
set_option maxHeartbeats 400000

theorem retB {a b : Bool} (h : a = b) : Ending.returned (.bool a) = .returned (.bool b) := by rw [h]
theorem retI {k : IntKind} {a b : Int} (h : a = b) : Ending.returned (.int k a) = .returned (.int k b) := by rw [h]
theorem bad_eq (c : UInt8) : badByte c = (decide ((c.toNat < 97 ∨ 122 < c.toNat) ∧ (c.toNat < 48 ∨ 57 < c.toNat) ∧ c.toNat ≠ 46 ∧ c.toNat ≠ 45)) := by
  have e (n : UInt8) : (c != n) = decide (c.toNat ≠ n.toNat) := by
    rw [Bool.eq_iff_iff, bne_iff_ne, decide_eq_true_eq, ne_eq, ne_eq, UInt8.toNat_inj]
  unfold badByte
  rw [e, e]
  simp only [UInt8.lt_iff_toNat_lt]
  rw [Bool.eq_iff_iff]
  simp
  omega
theorem any_snoc {s : ByteArray} {k : Nat} (hk : k < s.size) (h : (s.data.toList.take k).any badByte = false) (hb : badByte s[k] = false) : (s.data.toList.take (k + 1)).any badByte = false := by
  rw [List.take_succ_eq_append_getElem (by simpa using hk), List.any_append, h]
  have e : s.data.toList[k]'(by simpa using hk) = s[k] := rfl
  rw [e]; simpa using hb
theorem isName_bad {s : ByteArray} {k : Nat} (hk : k < s.size) (hb : badByte s[k] = true) : isName s.data.toList = false := by
  have : s.data.toList.any badByte = true := List.any_eq_true.2 ⟨s.data.toList[k]'(by simpa using hk), List.getElem_mem _, hb⟩
  simp [isName, this]
theorem isName_good {s : ByteArray} (hb : (s.data.toList.take s.size).any badByte = false) : isName s.data.toList = (decide (0 < s.size) && decide (s.size ≤ 40)) := by
  have e : s.data.toList.length = s.size := by simp
  rw [← e, List.take_length] at hb
  unfold isName
  rw [hb, e]; simp

theorem isName_any (s : ByteArray) (w : World) (hs : s.size ≤ maxLen) : Calls Tryz.prog 94 #[.string s] w fun e w' => e = .returned (.bool (isName s.data.toList)) ∧ w = w' := by
  unfold maxLen at hs
  go_enter Tryz.func94, Tryz.ntmps94
  go_wp2
  go_loop [7] (fun n => ∃ k : Nat, k ≤ s.size ∧ n = .int .i64 k ∧ (s.data.toList.take k).any badByte = false) (fun n => s.size - (intOf n).toNat)
  case atStart => exact ⟨0, Nat.zero_le _, rfl, rfl⟩
  case round =>
    obtain ⟨k, hk, rfl, hb⟩ := hrel
    have Hb := Lib.hid hb
    clear hb
    by_cases hlt : k < s.size
    · have hc := s[k].toNat_lt
      have hbb := bad_eq s[k]
      rcases (show s[k].toNat < 45 ∨ s[k].toNat = 45 ∨ s[k].toNat = 46 ∨ s[k].toNat = 47 ∨ (48 ≤ s[k].toNat ∧ s[k].toNat ≤ 57) ∨ (58 ≤ s[k].toNat ∧ s[k].toNat ≤ 96) ∨ (97 ≤ s[k].toNat ∧ s[k].toNat ≤ 122) ∨ 122 < s[k].toNat by omega) with h | h | h | h | h | h | h | h
      all_goals
        first
          | (have H := Lib.hid (hbb.trans (decide_eq_true (by omega)))
             clear hbb
             go_wp2
             all_goals first
               | (exfalso; simp at *; omega)
               | (go_ret; exact ⟨retB (isName_bad hlt H.out).symm, rfl⟩))
          | (have H := Lib.hid (hbb.trans (decide_eq_false (by omega)))
             clear hbb
             go_wp2
             all_goals first
               | (exfalso; simp at *; omega)
               | (go_round
                  case rel => exact ⟨k + 1, by omega, by go_num, any_snoc hlt Hb.out H.out⟩
                  case measure => simp [intOf]; omega))
    · obtain rfl : k = s.size := by omega
      by_cases h0 : 0 < s.size
      · by_cases h1 : s.size ≤ 40
        · go_wp2
          all_goals (go_ret; exact ⟨retB (by rw [isName_good Hb.out]; simp [h0, h1]; try omega), rfl⟩)
        · go_wp2
          all_goals (go_ret; exact ⟨retB (by rw [isName_good Hb.out]; simp [h0, h1]; try omega), rfl⟩)
      · go_wp2
        all_goals (go_ret; exact ⟨retB (by rw [isName_good Hb.out]; simp [h0]), rfl⟩)


theorem outcome_any (b : Bool) (w : World) : Calls Tryz.prog 99 #[.bool b] w fun e w' => e = .returned (.int .i64 (outcome b)) ∧ w = w' := by
  cases b
  all_goals
    go_enter Tryz.func99, Tryz.ntmps99
    go_wp2
    go_ret
    exact ⟨rfl, rfl⟩

theorem ready_nil (w : World) : Calls Tryz.prog 75 #[.pointer none] w fun e w' => e = .returned (.int .i64 1) ∧ w = w' := by
  go_enter Tryz.func75, Tryz.ntmps75
  go_wp2
  go_ret
  exact ⟨rfl, rfl⟩

section
variable {loc : Nat → Nat} {S : Nat → Prop} {w : World} {bd bn bm : Nat} {sl : Value} {bs : List (Nat × Nat)} {lft : Int} {m : M}
theorem Rep.c0 (h : Rep loc S w bd bn bm sl bs lft m) : w.cell? ⟨bd, 0, none⟩ = some (.int .i64 m.cap) := block_cell h.hd 0
theorem Rep.c1 (h : Rep loc S w bd bn bm sl bs lft m) : w.cell? ⟨bd, 1, none⟩ = some (.map (some bn)) := block_cell h.hd 1
theorem Rep.c2 (h : Rep loc S w bd bn bm sl bs lft m) : w.cell? ⟨bd, 2, none⟩ = some (.map (some bm)) := block_cell h.hd 2
theorem Rep.c3 (h : Rep loc S w bd bn bm sl bs lft m) : w.cell? ⟨bd, 3, none⟩ = some sl := block_cell h.hd 3
theorem Rep.c4 (h : Rep loc S w bd bn bm sl bs lft m) : w.cell? ⟨bd, 4, none⟩ = some (.bool (decide (0 ≤ m.limit))) := block_cell h.hd 4
theorem Rep.c5 (h : Rep loc S w bd bn bm sl bs lft m) : w.cell? ⟨bd, 5, none⟩ = some (.int .i64 lft) := block_cell h.hd 5
theorem Rep.c6 (h : Rep loc S w bd bn bm sl bs lft m) : w.cell? ⟨bd, 6, none⟩ = some (.bool m.down) := block_cell h.hd 6
theorem Rep.fr (h : Rep loc S w bd bn bm sl bs lft m) (i : Nat) : w.frozen? ⟨bd, i, none⟩ = false := block_free h.hd i
theorem Rep.file (h : Rep loc S w bd bn bm sl bs lft m) {k : Nat} (hk : k < m.files.length) : w.cell? ⟨loc k, 0, none⟩ = some (.string ⟨(m.files.getD k ⟨[], 0⟩).bytes.toArray⟩) := block_cell (h.hf k hk).2 0
theorem Rep.fdur (h : Rep loc S w bd bn bm sl bs lft m) {k : Nat} (hk : k < m.files.length) : w.cell? ⟨loc k, 1, none⟩ = some (.int .i64 (m.files.getD k ⟨[], 0⟩).dur) := block_cell (h.hf k hk).2 1
theorem Rep.ffr (h : Rep loc S w bd bn bm sl bs lft m) {k : Nat} (hk : k < m.files.length) (i : Nat) : w.frozen? ⟨loc k, i, none⟩ = false := block_free (h.hf k hk).2 i

/-- One scalar field is written. -/
theorem Rep.put (h : Rep loc S w bd bn bm sl bs lft m) (i : Nat) (v : Value) {m' : M} {lft' : Int} (hc : (diskCells m bn bm sl lft).setIfInBounds i v = diskCells m' bn bm sl lft')
    (hl : 0 ≤ m'.limit → lft' = m'.limit) (e1 : m'.names = m.names) (e2 : m'.durable = m.durable) (e3 : m'.pending = m.pending) (e4 : m'.files = m.files) (ok : m'.Ok) :
    Rep loc S (w.setCell ⟨bd, i, none⟩ v) bd bn bm sl bs lft' m' ∧ Fr S w (w.setCell ⟨bd, i, none⟩ v) := by
  have hf : Fr S w (w.setCell ⟨bd, i, none⟩ v) := (Fr.refl S w).setCell (.inl h.sd) h.noBoxD v
  exact ⟨h.scalars (by rw [block_set h.hd, hc]) (fun j hj => block_other hj v) (by simp [World.setCell]) hf hl e1 e2 e3 e4 ok, hf⟩

theorem ready_any (h : Rep loc S w bd bn bm sl bs lft m) : Calls Tryz.prog 75 #[.pointer (some ⟨bd, 0, none⟩)] w fun e w' => e = .returned (.int .i64 (if m.down then 18 else 0)) ∧ w = w' := by
  have h6 := h.c6
  clear h
  cases hd : m.down
  all_goals
    rw [hd] at h6
    clear hd
    go_enter Tryz.func75, Tryz.ntmps75
    go_wp2
    go_ret
    exact ⟨rfl, rfl⟩

theorem fails_any (h : Rep loc S w bd bn bm sl bs lft m) : Calls Tryz.prog 96 #[.pointer (some ⟨bd, 0, none⟩)] w fun e w' => e = .returned (.bool m.failing) ∧ (∃ lft', Rep loc S w' bd bn bm sl bs lft' m.counted) ∧ Fr S w w' := by
  have h4 := h.c4
  have h5 := h.c5
  have f5 := h.fr 5
  have f6 := h.fr 6
  have h6 := h.c6
  have l1 := h.ok.lim1
  rcases Int.lt_trichotomy m.limit 0 with hl | hl | hl
  · have e : m.counted = m := by unfold M.counted; rw [if_neg (by omega), if_neg (by omega)]
    have ef : m.failing = false := by simp [M.failing]; omega
    have H := Lib.hid h
    have E := Lib.hid e
    have EF := Lib.hid ef
    rw [decide_eq_false (by omega)] at h4
    clear h hl l1 h5 e ef
    go_enter Tryz.func96, Tryz.ntmps96
    go_wp2
    go_ret
    exact ⟨retB EF.out.symm, ⟨_, by rw [E.out]; exact H.out⟩, Fr.refl _ _⟩
  · have e : m.counted = { m with down := true } := by unfold M.counted; rw [if_pos hl]
    have ef : m.failing = true := by simp [M.failing, hl]
    have H := Lib.hid h
    have E := Lib.hid e
    have EF := Lib.hid ef
    have el : lft = 0 := by rw [h.hl (by omega), hl]
    have EL := Lib.hid el
    have ok := Lib.hid (counted_ok h.ok)
    rw [decide_eq_true (by omega)] at h4
    rw [el] at h5
    clear h hl l1 e ef el
    go_enter Tryz.func96, Tryz.ntmps96
    go_wp2
    go_ret
    have R := H.out.put 6 (.bool true) (m' := m.counted) (lft' := lft) (by rw [E.out]; rfl) (by rw [E.out]; exact H.out.hl) (by rw [E.out]) (by rw [E.out]) (by rw [E.out]) (by rw [E.out]) ok.out
    exact ⟨retB EF.out.symm, ⟨_, R.1⟩, R.2⟩
  · have e : m.counted = { m with limit := m.limit - 1 } := by unfold M.counted; rw [if_neg (by omega), if_pos hl]
    have ef : m.failing = false := by simp [M.failing]; omega
    have H := Lib.hid h
    have E := Lib.hid e
    have EF := Lib.hid ef
    have el : lft = m.limit := h.hl (by omega)
    have EL := Lib.hid el
    have ok := Lib.hid (counted_ok h.ok)
    rw [decide_eq_true (by omega)] at h4
    rw [el] at h5
    have HL := Lib.hid hl
    clear h e ef el
    go_enter Tryz.func96, Tryz.ntmps96
    go_wp2
    go_ret
    have R := H.out.put 5 (.int .i64 (m.limit - 1)) (m' := m.counted) (lft' := m.limit - 1) (by rw [E.out]; simp [diskCells]; omega) (by rw [E.out]; simp) (by rw [E.out]) (by rw [E.out]) (by rw [E.out]) (by rw [E.out]) ok.out
    exact ⟨retB EF.out.symm, ⟨_, R.1⟩, R.2⟩
end
end Go.Proofs.YtlhnjdoicolkkaaGreatDoor

/- How many bytes a disk has in use: the walk over its names, in whatever order they come. -/
set_option maxRecDepth 100000
namespace Go.Proofs.YtlhnjdoicolkkaaGreatDoor
open Go.RowKit Go.Dsk Go.Maps Go.WideMaps
set_option maxHeartbeats 400000

section
variable (w : World) {ops : Array Oper} {rest : List Oper} {o : Oper} {a : Act} {Q : Exit → Act → World → Prop}
/-- The step of a range over a directory. -/
theorem wpList_dir_next (hg : o.guard = none) (it : Operand) (hop : o.op = Op.next it false) (loc : Nat → Nat) (b r n : Nat) (l : Dir) (left : Lit → Bool) (cnt : Nat)
    (hit : a.eval it = .pointer (some ⟨r, 0, none⟩)) (h : w.ranges Tryz.prog 9 ptrR b r n (dirD loc l) left cnt)
    (hDone : (∀ kl, left kl = false) → wpList Tryz.prog ops Q rest (a.put o.dst (.tuple #[.bool false])) w)
    (hMore : ∀ (nm : Bs) (k : Nat) (w' : World) (cnt' : Nat), find l nm = some k → left (.string nm) = true → nm.length ≤ maxLen → w'.ranges Tryz.prog 9 ptrR b r n (dirD loc l) (fun z => left z && !z.sameKey (.string nm)) cnt' → cnt' < cnt →
      w.grownBy w' (some r) → w'.heap.size = w.heap.size → (Instr.entry (.pointer (some ⟨r, 0, none⟩))).run Tryz.prog w' = .ok (.tuple #[.string ⟨nm.toArray⟩, .pointer (some ⟨loc k, 0, none⟩)]) w' →
      wpList Tryz.prog ops Q rest (a.put o.dst (.tuple #[.bool true, .string ⟨nm.toArray⟩, .pointer (some ⟨loc k, 0, none⟩)])) w') :
    wpList Tryz.prog ops Q (o :: rest) a w :=
  wpList_next_ranges w hg it hop 9 keyed ptrR (fun l : Bs => .string ⟨l.toArray⟩) (fun x : Option Addr => .pointer x)
    (fun key kl hk => by obtain ⟨x, hx, _⟩ := Maps.keyOf_str Tryz.underlying9 hk; exact ⟨x, hx⟩) (fun v y hv => by obtain ⟨x, rfl, _⟩ := ptrR_inv hv; exact ⟨x, rfl⟩)
    b r n (dirD loc l) left cnt hit h (fun _ hl => hDone hl) (fun x c kl y w' cnt' hkey hlk hv hat hrg hlt hgr hsz hen => by
      obtain ⟨x', ex, rfl, hx⟩ := Maps.keyOf_str Tryz.underlying9 hkey
      obtain rfl : x = x' := encStr_inj ex
      simp only [ptrR, Option.some.injEq] at hv
      have h1 := hat (.held (.pointer none))
      have h2 := hat .nil
      rw [dirD_at, ← hv] at h1
      cases hf : find l x with
      | none =>
        exfalso
        have hh := dirD_has loc l x
        rw [hf] at hh
        rw [Maps.atKey_of_not_has hh, ← hv] at h2
        cases h2
      | some k =>
        rw [hf] at h1
        simp only [fptr, DataW.held.injEq, Value.pointer.injEq] at h1
        subst h1
        exact hMore x k w' cnt' hf hlk hx hrg hlt hgr hsz hen)
theorem wpList_dir_range (hg : o.guard = none) (m : Operand) (hop : o.op = Op.range 96 m) (loc : Nat → Nat) (b : Nat) (l : Dir) (hown : DirAt loc w b l) (hm : a.eval m = .map (some b))
    (hK : ∀ w', w'.ranges Tryz.prog 9 ptrR b w.heap.size l.length (dirD loc l) (Maps.has (dirD loc l)) l.length → w.grownBy w' none → w'.heap.size = w.heap.size + 1 → wpList Tryz.prog ops Q rest (a.put o.dst (.pointer (some ⟨w.heap.size, 0, none⟩))) w') :
    wpList Tryz.prog ops Q (o :: rest) a w :=
  wpList_range_own w hg m 96 hop 9 105 keyed dirT ptrR b _ _ hm hown (by rw [dirD_size]; exact hK)
end

/-- The sum over the names that have come. -/
def part (m : M) (l : Dir) (left : Lit → Bool) : Nat := ((l.filter fun p => !left (.string p.1)).map fun p => m.len p.2).sum
theorem part_none (m : M) {l : Dir} {left : Lit → Bool} (h : ∀ p ∈ l, left (.string p.1) = true) : part m l left = 0 := by
  have e : (l.filter fun p => !left (.string p.1)) = [] := by
    rw [List.filter_eq_nil_iff]; intro p hp; simp [h p hp]
  rw [part, e]; rfl
theorem part_all (m : M) {l : Dir} {left : Lit → Bool} (h : ∀ kl, left kl = false) : part m l left = (l.map fun p => m.len p.2).sum := by
  have e : (l.filter fun p => !left (.string p.1)) = l := by
    rw [List.filter_eq_self]; intro p hp; simp [h]
  rw [part, e]
theorem part_step (m : M) {left : Lit → Bool} {nm : Bs} (hn : left (.string nm) = true) : ∀ {l : Dir} {k : Nat}, Sorted l → find l nm = some k → part m l (fun z => left z && !z.sameKey (.string nm)) = part m l left + m.len k
  | [], _, _, h => by cases h
  | p :: r, k, hs, h => by
    obtain ⟨h1, h2⟩ := List.pairwise_cons.1 hs
    have step (q : Bs × Nat) (f : Lit → Bool) : part m (q :: r) f = (if f (.string q.1) then 0 else m.len q.2) + part m r f := by
      unfold part
      rw [List.filter_cons]
      cases f (.string q.1) <;> simp
    rw [step, step]
    by_cases hp : p.1 = nm
    · have hk : p.2 = k := by simpa [find, hp] using h
      have hr : part m r (fun z => left z && !z.sameKey (.string nm)) = part m r left := by
        unfold part
        congr 2
        apply List.filter_congr
        intro q hq
        have : q.1 ≠ nm := by rw [← hp]; exact (bytesBefore_ne (h1 q hq)).symm
        have e : Lit.sameKey (.string q.1) (.string nm) = false := by simpa [Lit.sameKey] using this
        simp [e]
      have e : Lit.sameKey (.string p.1) (.string nm) = true := by simp [Lit.sameKey, hp]
      rw [hr]
      simp only [hp, hn, hk]
      rw [hp] at e
      simp [e]
      omega
    · have hf : find r nm = some k := by
        have e : (p.1 == nm) = false := by simpa using hp
        simpa [find, List.find?_cons, e] using h
      have e : Lit.sameKey (.string p.1) (.string nm) = false := by simpa [Lit.sameKey] using hp
      rw [part_step m hn h2 hf]
      simp [e]
      omega
theorem part_le (m : M) (l : Dir) (left : Lit → Bool) : part m l left ≤ (l.map fun p => m.len p.2).sum := by
  unfold part
  induction l with
  | nil => simp
  | cons p r ih =>
    rw [List.filter_cons]
    split
    · simp; exact ih
    · simp at ih ⊢; omega

section
variable {loc : Nat → Nat} {S : Nat → Prop} {w : World} {bd bn bm : Nat} {sl : Value} {bs : List (Nat × Nat)} {lft : Int} {m : M}
theorem used_bd (h : m.Ok) (hw : m.wt ≤ 1073741824) : (m.used : Int) ≤ 18014398509481984 := by
  have h1 := used_le h
  have h2 := names_length h
  have h3 := h.cap1
  have h0 := h.cap0
  have : (m.names.length : Int) * m.cap ≤ 1073741824 * 16777216 := Int.mul_le_mul (by omega) h3 h0 (by omega)
  omega

theorem used_any (h : Rep loc S w bd bn bm sl bs lft m) (hw : m.wt ≤ 1073741824) : Calls Tryz.prog 95 #[.pointer (some ⟨bd, 0, none⟩)] w fun e w' => e = .returned (.int .i64 m.used) ∧ Fr (fun _ => False) w w' := by
  have h1 := h.c1
  have hub := used_bd h.ok hw
  have hdir := h.hn
  have H := Lib.hid h
  have hbd := lt_of_block h.hd
  clear h hw
  go_enter Tryz.func95, Tryz.ntmps95
  go_wp2_with (first
    | (at_range; refine wpList_dir_range _ rfl _ rfl loc bn _ hdir rfl ?_; intro w0 hrg0 hg0 hs0)
    | go_in)
  go_frame
  go_loopw [3] (fun t wr => ∃ left cnt, wr.ranges Tryz.prog 9 ptrR bn w.heap.size m.names.length (dirD loc m.names) left cnt ∧ t = .int .i64 (part m m.names left) ∧ Fr (fun _ => False) w wr) (fun _ wr => wr.rangeLeft bn w.heap.size)
  case atStart =>
    refine ⟨_, _, hrg0, ?_, ⟨hg0.os, hg0.tape, hg0.output, hg0.size, fun i hi _ => hg0.block i hi (by simp)⟩⟩
    rw [part_none]
    · rfl
    · intro p hp
      rw [dirD_has]
      cases hf : find m.names p.1 with
      | none => exact absurd rfl (find_none hf p hp)
      | some _ => rfl
  case round =>
    obtain ⟨left, cnt, hrg, rfl, hfr⟩ := hrel
    have hpl := part_le m m.names left
    go_wp2_with (first
      | (at_next; refine wpList_dir_next _ rfl _ rfl loc bn w.heap.size _ _ left cnt rfl hrg ?_ ?_)
      | go_in)
    · intro hl0
      have e := part_all m (l := m.names) hl0
      have E := Lib.hid e
      clear e
      go_wp2
      go_ret
      exact ⟨retI (by rw [E.out]; rfl), hfr⟩
    · intro nm k w1 cnt1 hf hlk hnl hrg1 hlt hg1 hs1 hen
      have hstep := part_step m hlk H.out.ok.names.1 hf
      have hle := part_le m m.names (fun z => left z && !z.sameKey (.string nm))
      have hk := (find_good H.out.ok.names hf).2
      have hfr1 : Fr (fun _ => False) w w1 := hfr.grown hg1 (.inr (Nat.le_refl _)) (by
        rintro ⟨s, hs⟩
        obtain ⟨es, clock, since, seen, c0, _, _, _, _, hh, _⟩ := hrg
        rw [hh] at hs; cases hs)
      have hc := (H.out.keep hfr1 (fun _ _ => id)).file hk
      have hlen : m.len k = (m.files.getD k ⟨[], 0⟩).bytes.length := rfl
      generalize (m.files.getD k ⟨[], 0⟩).bytes = by_ at hc hlen
      have HS := Lib.hid hstep
      have HL := Lib.hid hlen
      have hub2 : (part m m.names left : Int) + by_.length ≤ 18014398509481984 := by
        have : ((m.names.map fun p => m.len p.2).sum : Int) ≤ 18014398509481984 := hub
        omega
      clear hstep hlen hle hub hpl
      go_wp2
      go_roundw
      case rel => exact ⟨_, cnt1, hrg1, by rw [HS.out, HL.out]; go_num, hfr1⟩
      case measure => rw [hrg1.left_eq, hrg.left_eq]; exact hlt
end
end Go.Proofs.YtlhnjdoicolkkaaGreatDoor

/- The changes of a directory: what makes one, and what it does when it is carried out. -/
set_option maxRecDepth 100000
namespace Go.Proofs.YtlhnjdoicolkkaaGreatDoor
open Go.RowKit Go.Dsk Go.Maps Go.WideMaps
set_option maxHeartbeats 400000

theorem toList_mk (l : Bs) : (⟨l.toArray⟩ : ByteArray).data.toList = l := rfl
theorem size_mk (l : Bs) : (⟨l.toArray⟩ : ByteArray).size = l.length := by simp [ByteArray.size]
theorem mk_toList (s : ByteArray) : (⟨s.data.toList.toArray⟩ : ByteArray) = s := by simp

theorem makes (P : Program) (fn : Fn) (first cap : Array Value) (w : World) : (Instr.makeFunc fn first cap).run P w = .ok (.func fn first cap) w := rfl

/-- d[name] = f -/
theorem setF_any (loc : Nat → Nat) (b bn k : Nat) (l : Dir) (s : ByteArray) (hs : s.size ≤ maxLen) (hl : l.length < maxLen) (w : World) (hb : w.cell? ⟨b, 0, none⟩ = some (.string s)) (hd : DirAt loc w bn l) :
    Calls Tryz.prog 123 #[.map (some bn), .pointer (some ⟨loc k, 0, none⟩), .pointer (some ⟨b, 0, none⟩)] w fun e w' => e = .returned (.tuple #[]) ∧ DirAt loc w' bn (withOne l (s.data.toList, k)) ∧ w.grownBy w' (some bn) ∧ w'.heap.size = w.heap.size := by
  go_enter Tryz.func123, Tryz.ntmps123
  go_wp2_with (first
    | (at_mapUpdate; refine wpList_dir_set _ rfl _ _ _ rfl loc bn l hd hl s hs k rfl rfl rfl ?_; intro w1 hd1 hg1 hs1)
    | go_in)
  go_end0
  exact ⟨rfl, hd1, hg1, hs1⟩

/-- delete(d, name) -/
theorem removeF_any (loc : Nat → Nat) (b bn : Nat) (l : Dir) (s : ByteArray) (hs : s.size ≤ maxLen) (w : World) (hb : w.cell? ⟨b, 0, none⟩ = some (.string s)) (hd : DirAt loc w bn l) :
    Calls Tryz.prog 125 #[.map (some bn), .pointer none, .pointer (some ⟨b, 0, none⟩)] w fun e w' => e = .returned (.tuple #[]) ∧ DirAt loc w' bn (without l s.data.toList) ∧ w.grownBy w' (some bn) ∧ w'.heap.size = w.heap.size := by
  go_enter Tryz.func125, Tryz.ntmps125
  go_wp2_with (first
    | (at_delete; refine wpList_dir_del _ rfl _ _ rfl loc bn l hd s hs rfl rfl ?_; intro w1 hd1 hg1 hs1)
    | go_in)
  go_end0
  exact ⟨rfl, hd1, hg1, hs1⟩

/-- f := d[from]; delete(d, from); d[to] = f -/
theorem renameF_any (loc : Nat → Nat) (b c bn k : Nat) (l : Dir) (s t : ByteArray) (hs : s.size ≤ maxLen) (ht : t.size ≤ maxLen) (hl : l.length < maxLen) (hf : find l s.data.toList = some k) (w : World) (hb : w.heap[b]? = some (.cells #[.string s] 9 (0, 0))) (hc : w.heap[c]? = some (.cells #[.string t] 9 (0, 0))) (hd : DirAt loc w bn l) :
    Calls Tryz.prog 137 #[.map (some bn), .pointer none, .pointer (some ⟨b, 0, none⟩), .pointer (some ⟨c, 0, none⟩)] w fun e w' => e = .returned (.tuple #[]) ∧ DirAt loc w' bn (withOne (without l s.data.toList) (t.data.toList, k)) ∧ w.grownBy w' (some bn) ∧ w'.heap.size = w.heap.size := by
  have hb0 := cell_of_one hb
  have hc0 := cell_of_one hc
  have HC := Lib.hid hc
  have hcn : c ≠ bn := (hd.noRow hc).symm
  clear hb hc
  have hl' : (without l s.data.toList).length < maxLen := Nat.lt_of_le_of_lt (length_without _ _) hl
  go_enter Tryz.func137, Tryz.ntmps137
  go_wp2_with (first
    | (at_lookup; refine wpList_dir_at _ rfl _ _ rfl loc bn l hd s hs k hf rfl rfl ?_)
    | (at_delete; refine wpList_dir_del _ rfl _ _ rfl loc bn l hd s hs rfl rfl ?_; intro w1 hd1 hg1 hs1; have hc1 := cell_of_one ((hg1.block c (lt_of_block HC.out) (by simpa using hcn)).trans HC.out))
    | (at_mapUpdate; refine wpList_dir_set _ rfl _ _ _ rfl loc bn _ (by assumption) hl' t ht k rfl rfl rfl ?_; intro w2 hd2 hg2 hs2)
    | go_in)
  go_end0
  exact ⟨rfl, hd2, ⟨hg2.os.trans hg1.os, hg2.tape.trans hg1.tape, hg2.output.trans hg1.output, Nat.le_trans hg1.size hg2.size, fun i hi hn => (hg2.block i (by omega) hn).trans (hg1.block i hi hn)⟩, by omega⟩

theorem set_any (s : ByteArray) (p : Nat) (w : World) : Calls Tryz.prog 98 #[.string s, .pointer (some ⟨p, 0, none⟩)] w fun e w' =>
    e = .returned (.agg #[.pointer (some ⟨p, 0, none⟩), .func (.func 123) #[] #[.pointer (some ⟨w.heap.size, 0, none⟩)]]) ∧ w'.heap[w.heap.size]? = some (.cells #[.string s] 9 (0, 0)) ∧ Below w.heap.size w w' := by
  have hmf := makes Tryz.prog
  go_enter Tryz.func98, Tryz.ntmps98
  go_wp2
  refine bodyPost_ret (v := .agg #[.pointer (some ⟨p, 0, none⟩), .func (.func 123) #[] #[.pointer (some ⟨w.heap.size, 0, none⟩)]]) (by simp [results, Tryz.results98, go_sem]) rfl ⟨rfl, ?_, ((Below.refl _ _).alloc (Nat.le_refl _) _).alloc (by simp) _⟩
  rw [Below.heap_alloc _ _ _ (by simp), heap_alloc_new]

theorem remove_any (s : ByteArray) (w : World) : Calls Tryz.prog 104 #[.string s] w fun e w' =>
    e = .returned (.agg #[.pointer none, .func (.func 125) #[] #[.pointer (some ⟨w.heap.size, 0, none⟩)]]) ∧ w'.heap[w.heap.size]? = some (.cells #[.string s] 9 (0, 0)) ∧ Below w.heap.size w w' := by
  have hmf := makes Tryz.prog
  go_enter Tryz.func104, Tryz.ntmps104
  go_wp2
  refine bodyPost_ret (v := .agg #[.pointer none, .func (.func 125) #[] #[.pointer (some ⟨w.heap.size, 0, none⟩)]]) (by simp [results, Tryz.results104, go_sem]) rfl ⟨rfl, ?_, ((Below.refl _ _).alloc (Nat.le_refl _) _).alloc (by simp) _⟩
  rw [Below.heap_alloc _ _ _ (by simp), heap_alloc_new]

theorem rename_any (s t : ByteArray) (w : World) : Calls Tryz.prog 126 #[.string s, .string t] w fun e w' =>
    e = .returned (.agg #[.pointer none, .func (.func 137) #[] #[.pointer (some ⟨w.heap.size, 0, none⟩), .pointer (some ⟨w.heap.size + 1, 0, none⟩)]]) ∧ w'.heap[w.heap.size]? = some (.cells #[.string s] 9 (0, 0)) ∧ w'.heap[w.heap.size + 1]? = some (.cells #[.string t] 9 (0, 0)) ∧ Below w.heap.size w w' := by
  have hmf := makes Tryz.prog
  go_enter Tryz.func126, Tryz.ntmps126
  go_wp2
  refine bodyPost_ret (v := .agg #[.pointer none, .func (.func 137) #[] #[.pointer (some ⟨w.heap.size, 0, none⟩), .pointer (some ⟨w.heap.size + 1, 0, none⟩)]]) (by simp [results, Tryz.results126, go_sem]) rfl ⟨rfl, ?_, ?_, (((Below.refl _ _).alloc (Nat.le_refl _) _).alloc (by simp) _).alloc (by simp; omega) _⟩
  · rw [Below.heap_alloc _ _ _ (by simp; omega), Below.heap_alloc _ _ _ (by simp), heap_alloc_new]
  · rw [Below.heap_alloc _ _ _ (by simp)]
    have := heap_alloc_new (w.alloc (.cells #[.string s] 9)) (.cells #[.string t] 9)
    simpa using this
end Go.Proofs.YtlhnjdoicolkkaaGreatDoor
