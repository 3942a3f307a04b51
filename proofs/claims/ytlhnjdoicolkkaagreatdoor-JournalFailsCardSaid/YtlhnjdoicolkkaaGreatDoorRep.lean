/- How a disk lies in memory, and the laws of the walk for its maps. -/
import Derived.Test.YtlhnjdoicolkkaaGreatDoorProg
import Derived.Test.YtlhnjdoicolkkaaGreatDoorPure
import Derived.WalkKit
import Derived.Outline
import Derived.WalkLawsBesides
import Derived.WalkSpells
import Derived.Maps.Own
import Derived.Maps.OwnOps
import Derived.Maps.OwnSet
import Derived.Maps.RangeWalk
import Derived.Maps.Ext
import Derived.Lib.Hide
set_option maxRecDepth 100000
namespace Go.Proofs.YtlhnjdoicolkkaaGreatDoor
open Go.RowKit Go.Dsk Go.Maps Go.WideMaps

/-! ### what an operation may write -/
/-- A block that holds a captured string: nothing writes it. -/
def IsBox (w : World) (i : Nat) : Prop := ∃ s, w.heap[i]? = some (.cells #[.string s] 9 (0, 0))

/-- Of what lay before nothing has turned outside S, and no box. -/
structure Fr (S : Nat → Prop) (w w' : World) : Prop where
  os : w'.os = w.os
  tape : w'.tape = w.tape
  output : w'.output = w.output
  size : w.heap.size ≤ w'.heap.size
  block : ∀ i, i < w.heap.size → (¬ S i ∨ IsBox w i) → w'.heap[i]? = w.heap[i]?

theorem Fr.refl (S : Nat → Prop) (w : World) : Fr S w w := ⟨rfl, rfl, rfl, Nat.le_refl _, fun _ _ _ => rfl⟩
theorem Fr.box {S : Nat → Prop} {w w' : World} (h : Fr S w w') {i : Nat} (hb : IsBox w i) : IsBox w' i := by
  obtain ⟨s, hs⟩ := hb
  exact ⟨s, (h.block i (lt_of_block hs) (.inr ⟨s, hs⟩)).trans hs⟩
theorem Fr.trans' {S S' : Nat → Prop} {a b c : World} (h : Fr S a b) (k : Fr S' b c) (hs : ∀ i, S' i → S i ∨ a.heap.size ≤ i) : Fr S a c :=
  ⟨k.os.trans h.os, k.tape.trans h.tape, k.output.trans h.output, Nat.le_trans h.size k.size, fun i hi hn => by
    rw [k.block i (Nat.lt_of_lt_of_le hi h.size) (hn.imp (fun hn hs' => (hs i hs').elim hn (fun h => absurd h (by omega))) h.box)]
    exact h.block i hi hn⟩
theorem Fr.trans {S : Nat → Prop} {a b c : World} (h : Fr S a b) (k : Fr S b c) : Fr S a c := h.trans' k (fun _ => .inl)
theorem Fr.mono {S S' : Nat → Prop} {w w' : World} (h : Fr S w w') (hs : ∀ i, S i → S' i) : Fr S' w w' :=
  ⟨h.os, h.tape, h.output, h.size, fun i hi hn => h.block i hi (hn.imp (fun hn hs' => hn (hs i hs')) id)⟩
theorem Fr.alloc {S : Nat → Prop} {a w : World} (h : Fr S a w) (o : Obj) : Fr S a (w.alloc o) :=
  h.trans ⟨rfl, rfl, rfl, by simp, fun k hk _ => Below.heap_alloc _ _ _ hk⟩
theorem Fr.drew {S : Nat → Prop} {a w : World} (h : Fr S a w) : Fr S a w.drew := ⟨h.os, h.tape, h.output, h.size, h.block⟩
theorem Fr.drewN {S : Nat → Prop} {a w : World} (h : Fr S a w) (n : Nat) : Fr S a (w.drewN n) := ⟨h.os, h.tape, h.output, h.size, h.block⟩
theorem Fr.setCell {S : Nat → Prop} {a w : World} (h : Fr S a w) {p : Addr} (hp : S p.block ∨ a.heap.size ≤ p.block) (hb : ¬ IsBox w p.block) (u : Value) : Fr S a (w.setCell p u) :=
  ⟨h.os, h.tape, h.output, by simpa [World.setCell] using h.size, fun k hk hn => by
    rw [Below.heap_setCell _ _ _ _ (fun e => by
      subst e
      rcases hn with hn | hn
      · rcases hp with hp | hp
        · exact hn hp
        · omega
      · exact hb (h.box hn))]
    exact h.block k hk hn⟩
theorem Fr.grown {S : Nat → Prop} {a w w' : World} {b : Nat} (h : Fr S a w) (hg : w.grownBy w' (some b)) (hp : S b ∨ a.heap.size ≤ b) (hb : ¬ IsBox w b) : Fr S a w' :=
  ⟨hg.os.trans h.os, hg.tape.trans h.tape, hg.output.trans h.output, Nat.le_trans h.size hg.size, fun k hk hn => by
    rw [hg.block k (Nat.lt_of_lt_of_le hk h.size) (fun e => by
      obtain rfl : k = b := by simpa using e
      rcases hn with hn | hn
      · rcases hp with hp | hp
        · exact hn hp
        · omega
      · exact hb (h.box hn))]
    exact h.block k hk hn⟩
theorem Fr.below {S : Nat → Prop} {w w' : World} (h : Below w.heap.size w w') : Fr S w w' := ⟨h.os, h.tape, h.output, h.size, fun i hi _ => h.block i hi⟩
theorem Fr.toBelow {S : Nat → Prop} {w w' : World} (h : Fr S w w') {B : Nat} (hB : B ≤ w.heap.size) (hS : ∀ i, S i → B ≤ i) : Below B w w' :=
  ⟨h.os, h.tape, h.output, h.size, fun i hi => h.block i (by omega) (.inl fun hs => by have := hS i hs; omega)⟩
theorem Fr.same {S : Nat → Prop} {w w' : World} (h : Fr S w w') {i : Nat} (hs : ¬ S i) {o : Obj} (ho : w.heap[i]? = some o) : w'.heap[i]? = some o := (h.block i (lt_of_block ho) (.inl hs)).trans ho
theorem Fr.boxed {S : Nat → Prop} {w w' : World} (h : Fr S w w') {i : Nat} {s : ByteArray} (ho : w.heap[i]? = some (.cells #[.string s] 9 (0, 0))) : w'.heap[i]? = some (.cells #[.string s] 9 (0, 0)) := (h.block i (lt_of_block ho) (.inr ⟨s, ho⟩)).trans ho

/-! ### a row of cells as a whole block -/
theorem block_cell {w : World} {b : Nat} {cs : Array Value} {t : TypeId} (h : w.heap[b]? = some (.cells cs t (0, 0))) (i : Nat) : w.cell? ⟨b, i, none⟩ = cs[i]? := by simp [World.cell?, h]
theorem block_free {w : World} {b : Nat} {cs : Array Value} {t : TypeId} (h : w.heap[b]? = some (.cells cs t (0, 0))) (i : Nat) : w.frozen? ⟨b, i, none⟩ = false := by simp [World.frozen?, h]
theorem block_set {w : World} {b : Nat} {cs : Array Value} {t : TypeId} (h : w.heap[b]? = some (.cells cs t (0, 0))) (i : Nat) (v : Value) : (w.setCell ⟨b, i, none⟩ v).heap[b]? = some (.cells (cs.setIfInBounds i v) t (0, 0)) := by
  have hlt := lt_of_block h
  have h' : w.heap[b] = .cells cs t (0, 0) := by simpa [Array.getElem?_eq_getElem hlt] using h
  show (w.heap.modify b _)[b]? = _
  rw [Array.getElem?_eq_getElem (by simpa using hlt), Array.getElem_modify_self, h']
  rfl
theorem block_other {w : World} {b c i : Nat} (hne : c ≠ b) (v : Value) : (w.setCell ⟨b, i, none⟩ v).heap[c]? = w.heap[c]? := Below.heap_setCell _ _ _ _ hne

/-! ### a directory -/
def fptr (loc : Nat → Nat) : Option Nat → Option Addr
  | none => none
  | some k => some ⟨loc k, 0, none⟩
def ptrR (v : Value) : Option (DataW Value × List MemPlace) :=
  match v with
  | .pointer a => some (.held (.pointer a), [])
  | _ => none
theorem ptrR_mk (a : Option Addr) : ptrR (.pointer a) = some (.held (.pointer a), []) := rfl
theorem ptrR_inv {v : Value} {z : DataW Value × List MemPlace} (h : ptrR v = some z) : ∃ a, v = .pointer a ∧ z = (.held (.pointer a), []) := by
  unfold ptrR at h
  split at h
  · cases h; exact ⟨_, rfl, rfl⟩
  · cases h

def dirD (loc : Nat → Nat) (l : Dir) : DataW Value := .map (l.map fun p => (.string p.1, .held (.pointer (some ⟨loc p.2, 0, none⟩))))

theorem dirD_ins (loc : Nat → Nat) (x : Bs × Nat) : ∀ l : Dir, (ins x l).map (fun p => ((.string p.1 : Lit), (.held (.pointer (some ⟨loc p.2, 0, none⟩)) : DataW Value))) =
    DataW.insert (.string x.1, .held (.pointer (some ⟨loc x.2, 0, none⟩))) (l.map fun p => (.string p.1, .held (.pointer (some ⟨loc p.2, 0, none⟩))))
  | [] => rfl
  | y :: r => by
    by_cases hb : bytesBefore x.1 y.1 = true
    · have e1 : ins x (y :: r) = x :: y :: r := if_pos hb
      rw [e1, List.map_cons, List.map_cons]
      exact (if_pos (show Lit.before (.string x.1) (.string y.1) = true from hb)).symm
    · have e1 : ins x (y :: r) = y :: ins x r := if_neg hb
      rw [e1, List.map_cons, List.map_cons, dirD_ins loc x r]
      exact (if_neg (show ¬ Lit.before (.string x.1) (.string y.1) = true from hb)).symm
theorem dirD_without (loc : Nat → Nat) (n : Bs) (l : Dir) : (without l n).map (fun p => ((.string p.1 : Lit), (.held (.pointer (some ⟨loc p.2, 0, none⟩)) : DataW Value))) =
    (l.map fun p => ((.string p.1 : Lit), (.held (.pointer (some ⟨loc p.2, 0, none⟩)) : DataW Value))).filter fun p => !p.1.sameKey (.string n) := by
  unfold without
  rw [List.filter_map]
  rfl
theorem dirD_put (loc : Nat → Nat) (l : Dir) (n : Bs) (k : Nat) : (dirD loc l).put (.string n) (.held (.pointer (some ⟨loc k, 0, none⟩))) = dirD loc (withOne l (n, k)) := by
  unfold dirD DataW.put withOne
  rw [dirD_ins, dirD_without]
theorem dirD_del (loc : Nat → Nat) (l : Dir) (n : Bs) : (dirD loc l).del (.string n) = dirD loc (without l n) := by
  unfold dirD DataW.del
  rw [dirD_without]
theorem dirD_find (loc : Nat → Nat) (l : Dir) (n : Bs) : (l.map fun p => ((.string p.1 : Lit), (.held (.pointer (some ⟨loc p.2, 0, none⟩)) : DataW Value))).find? (fun p => p.1.sameKey (.string n)) =
    (l.find? (fun p => p.1 == n)).map fun p => (.string p.1, .held (.pointer (some ⟨loc p.2, 0, none⟩))) := by
  rw [List.find?_map]
  rfl
theorem dirD_at (loc : Nat → Nat) (l : Dir) (n : Bs) : (dirD loc l).atKey (.string n) (.held (.pointer none)) = .held (.pointer (fptr loc (find l n))) := by
  unfold dirD DataW.atKey find
  simp only [dirD_find]
  cases l.find? (fun p => p.1 == n) <;> rfl
theorem dirD_has (loc : Nat → Nat) (l : Dir) (n : Bs) : Maps.has (dirD loc l) (.string n) = (find l n).isSome := by
  unfold dirD find
  rw [Maps.has_eq, Option.isSome_map, List.any_map, List.isSome_find?]
  rfl
theorem dirD_size (loc : Nat → Nat) (l : Dir) : Maps.size (dirD loc l) = l.length := by simp [dirD, Maps.size]
theorem dirD_keys (loc : Nat → Nat) (l : Dir) : strKeys (dirD loc l) = l.map (·.1) := by
  simp [dirD, strKeys, strOf]
theorem dirD_congr {loc loc' : Nat → Nat} {l : Dir} (h : ∀ p ∈ l, loc p.2 = loc' p.2) : dirD loc l = dirD loc' l := by
  unfold dirD
  congr 1
  exact List.map_congr_left fun p hp => by rw [h p hp]

/-- The keys' law at this dump. -/
theorem keyed : Keyed Tryz.prog 9 := string_keyed Tryz.underlying9
theorem zeroPtr (w : World) : (zeroValue 105).run Tryz.prog w = .ok (.pointer none) w := by kernel_rfl
theorem dirT : Tryz.prog.underlying 96 = some (.map 9 105) := Tryz.underlying96

/-- Block b is the directory l. -/
def DirAt (loc : Nat → Nat) (w : World) (b : Nat) (l : Dir) : Prop := w.ownsMap Tryz.prog 9 ptrR b l.length (dirD loc l)

theorem DirAt.of {loc : Nat → Nat} {w : World} {b n : Nat} {l : Dir} (h : w.ownsMap Tryz.prog 9 ptrR b n (dirD loc l)) : DirAt loc w b l := by
  obtain ⟨es, clock, hb, F, hs, hD⟩ := h
  refine ⟨es, clock, hb, F, ?_, hD⟩
  have := congrArg Maps.size hD
  rw [dirD_size, Maps.size_eq, length_sorted] at this
  simp at this
  omega
theorem DirAt.same {loc : Nat → Nat} {w w' : World} {b : Nat} {l : Dir} (h : DirAt loc w b l) (hb : w'.heap[b]? = w.heap[b]?) : DirAt loc w' b l := by
  obtain ⟨es, clock, h1, h2⟩ := h
  exact ⟨es, clock, hb.trans h1, h2⟩
theorem DirAt.congr {loc loc' : Nat → Nat} {w : World} {b : Nat} {l : Dir} (h : DirAt loc w b l) (hl : ∀ p ∈ l, loc p.2 = loc' p.2) : DirAt loc' w b l := by
  unfold DirAt at *
  rwa [← dirD_congr hl]
theorem DirAt.lt {loc : Nat → Nat} {w : World} {b : Nat} {l : Dir} (h : DirAt loc w b l) : b < w.heap.size := World.ownsMap.lt h
theorem DirAt.noBox {loc : Nat → Nat} {w : World} {b : Nat} {l : Dir} (h : DirAt loc w b l) : ¬ IsBox w b := by
  obtain ⟨es, clock, h1, _⟩ := h
  rintro ⟨s, hs⟩
  rw [h1] at hs
  cases hs
theorem DirAt.noRow {loc : Nat → Nat} {w : World} {b c : Nat} {l : Dir} (h : DirAt loc w b l) {cs : Array Value} {t : TypeId} {f : Nat × Nat} (hc : w.heap[c]? = some (.cells cs t f)) : b ≠ c := by
  obtain ⟨es, clock, h1, _⟩ := h
  rintro rfl
  rw [h1] at hc
  cases hc

section
variable (w : World) {ops : Array Oper} {rest : List Oper} {o : Oper} {a : Act} {Q : Exit → Act → World → Prop}

theorem wpList_dir_ok_some (hg : o.guard = none) (m x : Operand) (hop : o.op = Op.lookup 96 m x true) (loc : Nat → Nat) (b : Nat) (l : Dir) (h : DirAt loc w b l) (s : ByteArray) (hs : s.size ≤ maxLen) (k : Nat) (hf : find l s.data.toList = some k)
    (hm : a.eval m = .map (some b)) (hx : a.eval x = .string s) (hK : wpList Tryz.prog ops Q rest (a.put o.dst (.tuple #[.pointer (some ⟨loc k, 0, none⟩), .bool true])) w) : wpList Tryz.prog ops Q (o :: rest) a w :=
  wpList_lookup_own_ok w hg m x 96 hop 9 105 keyed dirT ptrR (zeroPtr w) _ _ (ptrR_mk none) b _ _ hm h _ _ hx (keyOf_string_mk Tryz.underlying9 hs) (fun v ps hv => by
    obtain ⟨a, rfl, hz⟩ := ptrR_inv hv
    rw [dirD_at, hf] at hz
    simp only [Prod.mk.injEq, DataW.held.injEq, Value.pointer.injEq] at hz
    rw [← hz.1, dirD_has, hf]
    exact hK)
theorem wpList_dir_ok_none (hg : o.guard = none) (m x : Operand) (hop : o.op = Op.lookup 96 m x true) (loc : Nat → Nat) (b : Nat) (l : Dir) (h : DirAt loc w b l) (s : ByteArray) (hs : s.size ≤ maxLen) (hf : find l s.data.toList = none)
    (hm : a.eval m = .map (some b)) (hx : a.eval x = .string s) (hK : wpList Tryz.prog ops Q rest (a.put o.dst (.tuple #[.pointer none, .bool false])) w) : wpList Tryz.prog ops Q (o :: rest) a w :=
  wpList_lookup_own_ok w hg m x 96 hop 9 105 keyed dirT ptrR (zeroPtr w) _ _ (ptrR_mk none) b _ _ hm h _ _ hx (keyOf_string_mk Tryz.underlying9 hs) (fun v ps hv => by
    obtain ⟨a, rfl, hz⟩ := ptrR_inv hv
    rw [dirD_at, hf] at hz
    simp only [Prod.mk.injEq, DataW.held.injEq, Value.pointer.injEq] at hz
    rw [← hz.1, dirD_has, hf]
    exact hK)
/-- 'm[k]' without ok. -/
theorem wpList_dir_at (hg : o.guard = none) (m x : Operand) (hop : o.op = Op.lookup 96 m x false) (loc : Nat → Nat) (b : Nat) (l : Dir) (h : DirAt loc w b l) (s : ByteArray) (hs : s.size ≤ maxLen) (k : Nat) (hf : find l s.data.toList = some k)
    (hm : a.eval m = .map (some b)) (hx : a.eval x = .string s) (hK : wpList Tryz.prog ops Q rest (a.put o.dst (.pointer (some ⟨loc k, 0, none⟩))) w) : wpList Tryz.prog ops Q (o :: rest) a w := by
  refine wpList_plain hg fun K' hK' => ?_
  obtain ⟨v, ps, hrun, hv⟩ := World.ownsMap.lookup h keyed dirT (zeroPtr w) (ptrR_mk none) (keyOf_string_mk Tryz.underlying9 hs)
  obtain ⟨a, rfl, hz⟩ := ptrR_inv hv
  rw [dirD_at, hf] at hz
  simp only [Prod.mk.injEq, DataW.held.injEq, Value.pointer.injEq] at hz
  rw [← hz.1] at hrun
  unfold Oper.wp
  simp [execOp, hop, hm, hx, hrun, Result.andThen]
  exact hK' _ _ hK
theorem wpList_dir_set (hg : o.guard = none) (m x v : Operand) (hop : o.op = Op.mapUpdate 96 m x v) (loc : Nat → Nat) (b : Nat) (l : Dir) (h : DirAt loc w b l) (hl : l.length < maxLen) (s : ByteArray) (hs : s.size ≤ maxLen) (k : Nat)
    (hm : a.eval m = .map (some b)) (hx : a.eval x = .string s) (hv : a.eval v = .pointer (some ⟨loc k, 0, none⟩))
    (hK : ∀ w', DirAt loc w' b (withOne l (s.data.toList, k)) → w.grownBy w' (some b) → w'.heap.size = w.heap.size → wpList Tryz.prog ops Q rest (a.put o.dst undef) w') : wpList Tryz.prog ops Q (o :: rest) a w :=
  wpList_mapUpdate_in w hg m x v 96 hop 9 105 keyed dirT ptrR b _ _ hm h hl _ _ _ hx hv (keyOf_string_mk Tryz.underlying9 hs) _ _ (ptrR_mk _) (fun w' h1 h2 => by
    rw [dirD_put] at h1
    refine hK w' (DirAt.of h1) h2.grown ?_
    obtain ⟨es, clock, es', clock', _, rfl⟩ := h2
    simp [ChangeMaps.setBlock])
theorem wpList_dir_del (hg : o.guard = none) (m x : Operand) (hop : o.op = Op.call { callee := Callee.builtin Builtin.delete, args := #[m, x], argTypes := #[96, 9] }) (loc : Nat → Nat) (b : Nat) (l : Dir) (h : DirAt loc w b l) (s : ByteArray) (hs : s.size ≤ maxLen)
    (hm : a.eval m = .map (some b)) (hx : a.eval x = .string s)
    (hK : ∀ w', DirAt loc w' b (without l s.data.toList) → w.grownBy w' (some b) → w'.heap.size = w.heap.size → wpList Tryz.prog ops Q rest (a.put o.dst (.tuple #[])) w') : wpList Tryz.prog ops Q (o :: rest) a w :=
  wpList_delete_own w hg m x 96 9 hop 105 keyed dirT ptrR b _ _ hm h _ _ hx (keyOf_string_mk Tryz.underlying9 hs) (fun w' h1 h2 => by
    rw [dirD_del] at h1
    refine hK w' (DirAt.of h1) h2.grown ?_
    obtain ⟨es, clock, es', clock', _, rfl⟩ := h2
    simp [ChangeMaps.setBlock])
theorem wpList_dir_len (hg : o.guard = none) (m : Operand) (hop : o.op = Op.call { callee := Callee.builtin Builtin.len, args := #[m], argTypes := #[96] }) (loc : Nat → Nat) (b : Nat) (l : Dir) (h : DirAt loc w b l)
    (hm : a.eval m = .map (some b)) (hK : wpList Tryz.prog ops Q rest (a.put o.dst (.int .i64 l.length)) w) : wpList Tryz.prog ops Q (o :: rest) a w :=
  wpList_len_own w hg m 96 hop 9 105 dirT ptrR b _ _ hm h (by rw [dirD_size]; exact hK)
end

/-! ### pending changes -/
/-- What a pending change looks like: its two cells; b: the boxes of its names. -/
def chV (loc : Nat → Nat) (c : Ch) (b : Nat × Nat) : List Value :=
  if c.src = [] then [.pointer (some ⟨loc c.file, 0, none⟩), .func (.func 123) #[] #[.pointer (some ⟨b.1, 0, none⟩)]]
  else if c.dst = [] then [.pointer none, .func (.func 125) #[] #[.pointer (some ⟨b.1, 0, none⟩)]]
  else [.pointer none, .func (.func 137) #[] #[.pointer (some ⟨b.1, 0, none⟩), .pointer (some ⟨b.2, 0, none⟩)]]
def box (w : World) (b : Nat) (s : Bs) : Prop := w.heap[b]? = some (.cells #[.string ⟨s.toArray⟩] 9 (0, 0))
def chBoxes (w : World) (c : Ch) (b : Nat × Nat) : Prop :=
  if c.src = [] then box w b.1 c.dst else if c.dst = [] then box w b.1 c.src else box w b.1 c.src ∧ box w b.2 c.dst
/-- The slice of the pending changes. -/
structure PendAt (loc : Nat → Nat) (w : World) (sl : Value) (l : List Ch) (bs : List (Nat × Nat)) : Prop where
  len : bs.length = l.length
  row : w.ownsRow 0 108 2 sl l.length ((l.zip bs).flatMap fun p => chV loc p.1 p.2)
  box : ∀ p ∈ l.zip bs, chBoxes w p.1 p.2

theorem box_same {S : Nat → Prop} {w w' : World} (h : Fr S w w') {b : Nat} {s : Bs} (k : box w b s) : box w' b s := h.boxed k
theorem chBoxes_same {S : Nat → Prop} {w w' : World} (h : Fr S w w') {c : Ch} {b : Nat × Nat} (k : chBoxes w c b) : chBoxes w' c b := by
  unfold chBoxes at *
  split
  · rw [if_pos ‹_›] at k; exact box_same h k
  · rw [if_neg ‹_›] at k
    split
    · rw [if_pos ‹_›] at k; exact box_same h k
    · rw [if_neg ‹_›] at k; exact ⟨box_same h k.1, box_same h k.2⟩
theorem row_same {w w' : World} {base : Nat} {e : TypeId} {size : Nat} {v : Value} {n : Nat} {xs : List Value} (h : w.ownsRow base e size v n xs) (hb : ∀ j, v.ownBlock = some j → w'.heap[j]? = w.heap[j]?) : w'.ownsRow base e size v n xs := by
  obtain ⟨h1, h2⟩ := h
  refine ⟨h1, ?_⟩
  rcases h2 with h2 | ⟨g, cap, cur, rfl, hg, hh, r⟩
  · exact .inl h2
  · exact .inr ⟨g, cap, cur, rfl, hg, (hb g rfl).trans hh, r⟩
theorem row_block {w : World} {base : Nat} {e : TypeId} {size : Nat} {v : Value} {n : Nat} {xs : List Value} (h : w.ownsRow base e size v n xs) {j : Nat} (hj : v.ownBlock = some j) : ∃ cur, w.heap[j]? = some (.cells cur e (0, 0)) := by
  rcases h.2 with h2 | ⟨g, cap, cur, rfl, hg, hh, r⟩
  · rw [h2.1] at hj; cases hj
  · simp [Value.ownBlock] at hj; subst hj; exact ⟨_, hh⟩
theorem PendAt.same {loc : Nat → Nat} {S : Nat → Prop} {w w' : World} {sl : Value} {l : List Ch} {bs : List (Nat × Nat)} (h : PendAt loc w sl l bs) (hf : Fr S w w') (hb : ∀ j, sl.ownBlock = some j → w'.heap[j]? = w.heap[j]?) : PendAt loc w' sl l bs :=
  ⟨h.len, row_same h.row hb, fun p hp => chBoxes_same hf (h.box p hp)⟩
theorem chV_congr {loc loc' : Nat → Nat} {c : Ch} {b : Nat × Nat} (h : c.src = [] → loc c.file = loc' c.file) : chV loc c b = chV loc' c b := by
  unfold chV
  split
  · rw [h ‹_›]
  · rfl
theorem PendAt.congr {loc loc' : Nat → Nat} {w : World} {sl : Value} {l : List Ch} {bs : List (Nat × Nat)} (h : PendAt loc w sl l bs) (hl : ∀ c ∈ l, c.src = [] → loc c.file = loc' c.file) : PendAt loc' w sl l bs := by
  refine ⟨h.len, ?_, h.box⟩
  have e : ((l.zip bs).flatMap fun p => chV loc p.1 p.2) = (l.zip bs).flatMap fun p => chV loc' p.1 p.2 := by
    rw [List.flatMap_def, List.flatMap_def]
    congr 1
    exact List.map_congr_left fun p hp => chV_congr (hl p.1 (List.of_mem_zip hp).1)
  rw [← e]; exact h.row

/-! ### a disk -/
def FileAt (w : World) (b : Nat) (f : Fl) : Prop := w.heap[b]? = some (.cells #[.string ⟨f.bytes.toArray⟩, .int .i64 f.dur] 114 (0, 0))
def diskCells (m : M) (bn bm : Nat) (sl : Value) (lft : Int) : Array Value := #[.int .i64 m.cap, .map (some bn), .map (some bm), sl, .bool (decide (0 ≤ m.limit)), .int .i64 lft, .bool m.down]

structure Rep (loc : Nat → Nat) (S : Nat → Prop) (w : World) (bd bn bm : Nat) (sl : Value) (bs : List (Nat × Nat)) (lft : Int) (m : M) : Prop where
  lt : ∀ i, S i → i < w.heap.size
  sd : S bd
  sn : S bn
  sm : S bm
  ne : bn ≠ bm
  hd : w.heap[bd]? = some (.cells (diskCells m bn bm sl lft) 99 (0, 0))
  hl : 0 ≤ m.limit → lft = m.limit
  hn : DirAt loc w bn m.names
  hm : DirAt loc w bm m.durable
  hp : PendAt loc w sl m.pending bs
  sp : ∀ j, sl.ownBlock = some j → S j
  hf : ∀ k, k < m.files.length → S (loc k) ∧ FileAt w (loc k) (m.files.getD k ⟨[], 0⟩)
  inj : ∀ i j, i < m.files.length → j < m.files.length → loc i = loc j → i = j
  ok : m.Ok

/-- The disk at bd is m; it lies in S. -/
def DiskAt (S : Nat → Prop) (w : World) (bd : Nat) (m : M) : Prop := ∃ loc bn bm sl bs lft, Rep loc S w bd bn bm sl bs lft m
/-- Behind a call: the disk is m', in what it had and new blocks; nothing else has turned. -/
def After (S : Nat → Prop) (w : World) (bd : Nat) (m' : M) (w' : World) : Prop := ∃ S', (∀ i, S' i → S i ∨ w.heap.size ≤ i) ∧ DiskAt S' w' bd m' ∧ Fr S w w'

section
variable {loc : Nat → Nat} {S : Nat → Prop} {w : World} {bd bn bm : Nat} {sl : Value} {bs : List (Nat × Nat)} {lft : Int} {m : M}

theorem Rep.after (h : Rep loc S w bd bn bm sl bs lft m) : After S w bd m w := ⟨S, fun _ => .inl, ⟨_, _, _, _, _, _, h⟩, Fr.refl _ _⟩

theorem Rep.noBoxD (h : Rep loc S w bd bn bm sl bs lft m) : ¬ IsBox w bd := by
  rintro ⟨s, hs⟩; rw [h.hd] at hs; simp at hs
theorem FileAt.noBox {w : World} {b : Nat} {f : Fl} (h : FileAt w b f) : ¬ IsBox w b := by
  rintro ⟨s, hs⟩; rw [h] at hs; simp at hs
theorem Rep.bdn (h : Rep loc S w bd bn bm sl bs lft m) : bn ≠ bd := h.hn.noRow h.hd
theorem Rep.bdm (h : Rep loc S w bd bn bm sl bs lft m) : bm ≠ bd := h.hm.noRow h.hd
theorem Rep.bdf (h : Rep loc S w bd bn bm sl bs lft m) {k : Nat} (hk : k < m.files.length) : loc k ≠ bd := by
  intro e; have := (h.hf k hk).2; rw [e, FileAt, h.hd] at this; simp at this
theorem Rep.bdp (h : Rep loc S w bd bn bm sl bs lft m) {j : Nat} (hj : sl.ownBlock = some j) : j ≠ bd := by
  obtain ⟨cur, hc⟩ := row_block h.hp.row hj
  rintro rfl; rw [h.hd] at hc; simp at hc
theorem Rep.fp (h : Rep loc S w bd bn bm sl bs lft m) {j k : Nat} (hj : sl.ownBlock = some j) (hk : k < m.files.length) : j ≠ loc k := by
  obtain ⟨cur, hc⟩ := row_block h.hp.row hj
  rintro rfl; have := (h.hf k hk).2; rw [FileAt, hc] at this; simp at this

/-- The disk stays while what lies outside it turns. -/
theorem Rep.keep (h : Rep loc S w bd bn bm sl bs lft m) {T : Nat → Prop} {w' : World} (hf : Fr T w w') (hT : ∀ i, S i → ¬ T i) : Rep loc S w' bd bn bm sl bs lft m := by
  have hs : ∀ i, S i → w'.heap[i]? = w.heap[i]? := fun i hi => hf.block i (h.lt i hi) (.inl (hT i hi))
  exact ⟨fun i hi => Nat.lt_of_lt_of_le (h.lt i hi) hf.size, h.sd, h.sn, h.sm, h.ne, (hs _ h.sd).trans h.hd, h.hl, h.hn.same (hs _ h.sn), h.hm.same (hs _ h.sm), h.hp.same hf (fun j hj => hs j (h.sp j hj)), h.sp,
    fun k hk => ⟨(h.hf k hk).1, (hs _ (h.hf k hk).1).trans (h.hf k hk).2⟩, h.inj, h.ok⟩
theorem DiskAt.keep (h : DiskAt S w bd m) {T : Nat → Prop} {w' : World} (hf : Fr T w w') (hT : ∀ i, S i → ¬ T i) : DiskAt S w' bd m := by
  obtain ⟨_, _, _, _, _, _, h⟩ := h; exact ⟨_, _, _, _, _, _, h.keep hf hT⟩
theorem DiskAt.none (h : DiskAt S w bd m) {w' : World} (hf : Fr (fun _ => False) w w') : DiskAt S w' bd m := h.keep hf (fun _ _ => id)
theorem DiskAt.lt (h : DiskAt S w bd m) : ∀ i, S i → i < w.heap.size := by
  obtain ⟨_, _, _, _, _, _, h⟩ := h; exact h.lt
theorem DiskAt.ok (h : DiskAt S w bd m) : m.Ok := by
  obtain ⟨_, _, _, _, _, _, h⟩ := h; exact h.ok

/-- The scalar fields are written. -/
theorem Rep.scalars (h : Rep loc S w bd bn bm sl bs lft m) {w' : World} {m' : M} {lft' : Int} (hd : w'.heap[bd]? = some (.cells (diskCells m' bn bm sl lft') 99 (0, 0))) (ho : ∀ i, i ≠ bd → w'.heap[i]? = w.heap[i]?) (hsz : w'.heap.size = w.heap.size)
    (hfr : Fr S w w') (hl : 0 ≤ m'.limit → lft' = m'.limit) (e1 : m'.names = m.names) (e2 : m'.durable = m.durable) (e3 : m'.pending = m.pending) (e4 : m'.files = m.files) (ok : m'.Ok) : Rep loc S w' bd bn bm sl bs lft' m' :=
  ⟨fun i hi => by rw [hsz]; exact h.lt i hi, h.sd, h.sn, h.sm, h.ne, hd, hl, by rw [e1]; exact h.hn.same (ho _ h.bdn), by rw [e2]; exact h.hm.same (ho _ h.bdm), by rw [e3]; exact h.hp.same hfr (fun j hj => ho j (h.bdp hj)), h.sp,
    by rw [e4]; exact fun k hk => ⟨(h.hf k hk).1, (ho _ (h.bdf hk)).trans (h.hf k hk).2⟩, by rw [e4]; exact h.inj, ok⟩
end
end Go.Proofs.YtlhnjdoicolkkaaGreatDoor
