/- Lists of strings in a row of the call's own that may begin within it: slicing, appending. -/
import Derived.Test.YtlhnjdoicolkkaaGreatDoorMj
import Derived.Deep.Upon
import Derived.Deep.AppendSrc
import Derived.Test.YtlhnjdoicolkkaaGreatDoorJOpA
import Derived.Test.YtlhnjdoicolkkaaGreatDoorSurvPure
import Derived.Test.YtlhnjdoicolkkaaGreatDoorJStart
import Derived.Test.YtlhnjdoicolkkaaGreatDoorJShort
import Derived.Test.YtlhnjdoicolkkaaGreatDoorJBnd
import Derived.Deep.DeepCutAuto
set_option maxRecDepth 100000
namespace Go.Proofs.YtlhnjdoicolkkaaGreatDoor
open Go.RowKit Go.Dsk Go.Maps Go.WideMaps
set_option maxHeartbeats 2000000

/-- A row of strings of its own, from some cell on. -/
def OffP (v : Value) (l : List Bs) : SP := fun S w =>
  (v = .slice none 0 0 ∧ l = [] ∧ ∀ i, ¬ S i) ∨
  ∃ g off cap cur, v = .slice (some ⟨g, off, none⟩) l.length cap ∧ (∀ i, S i ↔ i = g) ∧ w.heap[g]? = some (.cells cur 9 (0, 0)) ∧ off + cap ≤ cur.size ∧ l.length ≤ cap ∧ (cap = 0 ∨ 1 ≤ off + l.length) ∧ cap ≤ maxLen ∧
    ∀ j, j < l.length → cur[off + j]? = some (strV (l.getD j []))
theorem nice_off (v : Value) (l : List Bs) : Nice (OffP v l) where
  lt h i hi := by
    rcases h with ⟨_, _, h⟩ | ⟨g, off, cap, cur, _, h1, h2, _⟩
    · exact absurd hi (h i)
    · rw [(h1 i).1 hi]; exact lt_of_block h2
  keep h hf hd := by
    rcases h with h | ⟨g, off, cap, cur, h0, h1, h2, h3⟩
    · exact .inl h
    · exact .inr ⟨g, off, cap, cur, h0, h1, (hf.block g (lt_of_block h2) (.inl (hd g ((h1 g).2 rfl)))).trans h2, h3⟩
theorem off_nil (w : World) : OffP (.slice none 0 0) [] (fun _ => False) w := .inl ⟨rfl, rfl, fun _ h => h⟩
section
variable {v vp : Value} {l p : List Bs} {S : Nat → Prop} {w w0 : World} {R : SP}
theorem OffP.reads (h : OffP v l S w) : StrsIn w v l := by
  rcases h with ⟨rfl, rfl, _⟩ | ⟨g, off, cap, cur, rfl, _, h2, h3, h4, _, h5, h6⟩
  · exact ⟨none, 0, rfl, by simp, by unfold maxLen; omega, fun h => absurd h (by simp)⟩
  · exact ⟨_, cap, rfl, h4, h5, fun _ => ⟨g, off, rfl, lt_of_block h2, fun j hj => by rw [block_cell h2]; exact h6 j hj⟩⟩
theorem OffP.shape (h : OffP v l S w) : ∃ ao c, v = .slice ao l.length c ∧ l.length ≤ c ∧ c ≤ maxLen ∧ (ao = none → c = 0) ∧ ∀ b off sp, ao = some ⟨b, off, sp⟩ → sp = none := by
  rcases h with ⟨rfl, rfl, _⟩ | ⟨g, off, cap, cur, rfl, _, h2, h3, h4, _, h5, h6⟩
  · exact ⟨none, 0, rfl, by simp, by unfold maxLen; omega, fun _ => rfl, fun _ _ _ h => (by cases h)⟩
  · exact ⟨_, cap, rfl, h4, h5, fun h => (by cases h), fun b o sp h => (by cases h; rfl)⟩
theorem off_cut {ao : Option Addr} {c : Nat} (h : OffP (.slice ao l.length c) l S w) {k : Nat} (hk : k ≤ l.length) : OffP (.slice (ao.map fun a => if c = k then a else a.add k) (l.length - k) (c - k)) (l.drop k) S w := by
  rcases h with ⟨h, rfl, h0⟩ | ⟨g, off, cap, cur, e, h1, h2, h3, h4, h5, h6, h7⟩
  · simp only [Value.slice.injEq] at h
    obtain ⟨rfl, -, rfl⟩ := h
    exact .inl ⟨by simp, by simp, h0⟩
  · simp only [Value.slice.injEq, true_and] at e
    obtain ⟨rfl, rfl⟩ := e
    have hg : ∀ j, j < (l.drop k).length → cur[off + k + j]? = some (strV ((l.drop k).getD j [])) := fun j hj => by
      rw [List.length_drop] at hj
      have := h7 (k + j) (by omega)
      rw [show off + k + j = off + (k + j) by omega, this]
      simp [List.getD_eq_getElem?_getD]
    by_cases hck : c = k
    · refine .inr ⟨g, off, 0, cur, ?_, h1, h2, by omega, by rw [List.length_drop]; omega, .inl rfl, Nat.zero_le _, fun j hj => ?_⟩
      · rw [List.length_drop, Option.map_some, if_pos hck, hck, Nat.sub_self]
      · rw [List.length_drop] at hj
        omega
    · refine .inr ⟨g, off + k, c - k, cur, ?_, h1, h2, by omega, by rw [List.length_drop]; omega, by rw [List.length_drop]; omega, by omega, hg⟩
      rw [List.length_drop, Option.map_some, if_neg hck, add_plain2]
theorem block_sets {g : Nat} {t : TypeId} : ∀ (vs : List Value) (o : Nat) {w : World} {cur : Array Value}, w.heap[g]? = some (.cells cur t (0, 0)) → o + vs.length ≤ cur.size →
    ∃ cur', (w.setCells g o vs).heap[g]? = some (.cells cur' t (0, 0)) ∧ cur'.size = cur.size ∧ (∀ i, i < o → cur'[i]? = cur[i]?) ∧ ∀ i, i < vs.length → cur'[o + i]? = vs[i]?
  | [], o, w, cur, h, _ => ⟨cur, h, rfl, fun _ _ => rfl, fun i hi => absurd hi (by simp)⟩
  | v :: vs, o, w, cur, h, hs => by
    simp only [List.length_cons] at hs
    obtain ⟨cur', h1, h2, h3, h4⟩ := block_sets vs (o + 1) (block_set h o v) (by simpa using by omega)
    refine ⟨cur', h1, by simpa using h2, fun i hi => ?_, fun i hi => ?_⟩
    · rw [h3 i (by omega), Array.getElem?_setIfInBounds, if_neg (by omega)]
    · cases i with
      | zero =>
        rw [Nat.add_zero, h3 o (by omega), Array.getElem?_setIfInBounds, if_pos rfl, if_pos (by omega)]
        rfl
      | succ i =>
        rw [show o + (i + 1) = o + 1 + i by omega, h4 i (by simpa using hi)]
        rfl
theorem tape_sets (g : Nat) : ∀ (vs : List Value) (o : Nat) (w : World), (w.setCells g o vs).tape = w.tape
  | [], _, _ => rfl
  | v :: vs, o, w => (tape_sets g vs (o + 1) (w.setCell ⟨g, o, none⟩ v)).trans rfl
theorem size_sets (g : Nat) : ∀ (vs : List Value) (o : Nat) (w : World), (w.setCells g o vs).heap.size = w.heap.size
  | [], _, _ => rfl
  | v :: vs, o, w => (size_sets g vs (o + 1) (w.setCell ⟨g, o, none⟩ v)).trans (by simp)
theorem fr_sets {g o : Nat} {cs : List Value} (hb : ¬ IsBox w g) : Fr (fun i => i = g) w (w.setCells g o cs) :=
  ⟨World.os_setCells w g o cs, tape_sets g cs o w, World.output_setCells w g o cs, Nat.le_of_eq (size_sets g cs o w).symm, fun i hi h => by
    refine World.heap_setCells_other w g o cs hi ?_
    rintro rfl
    rcases h with h | h
    · exact h rfl
    · exact hb h⟩
theorem news_of {w' : World} {b off : Nat} {l : List Bs} (hc : ∀ j, j < l.length → w'.cell? ⟨b, off + j, none⟩ = some (strV (l.getD j []))) : ∀ j u, (l.map strV)[j]? = some u → w'.cell? ((⟨b, off, none⟩ : Addr).add j) = some u := fun j u hu => by
  rw [List.getElem?_map] at hu
  cases hi : l[j]? with
  | none => rw [hi] at hu; cases hu
  | some x =>
    rw [hi] at hu
    simp only [Option.map_some, Option.some.injEq] at hu
    have hlt : j < l.length := (List.getElem?_eq_some_iff.1 hi).1
    rw [add_plain2, hc j hlt, ← hu, List.getD_eq_getElem?_getD, hi]
    rfl
theorem one_of {l : List Bs} : ∀ u ∈ l.map strV, u.oneCell' = true := fun u hu => by
  obtain ⟨x, _, rfl⟩ := List.mem_map.1 hu
  rfl
theorem strs_src (h : StrsIn w v p) : Src Tryz.prog 1 25 v p.length (p.map strV) w := by
  obtain ⟨ao, c, rfl, h1, h2, h3⟩ := h
  cases hl : p.length with
  | zero =>
    have e := List.length_eq_zero_iff.1 hl
    subst e
    exact ⟨.inl ⟨_, Tryz.underlying25⟩, fun w' => by cases ao <;> simp [Builtin.lenOf], by cases ao <;> simp [Builtin.firstCells, loadCells, loadCellsFrom], by cases ao <;> simp [Builtin.firstCells, loadCells, loadCellsFrom], by simp, by simp⟩
  | succ m =>
    obtain ⟨b, off, rfl, hlt, hc⟩ := h3 (by omega)
    rw [← hl]
    exact Src.ofSlice w Tryz.underlying25 ⟨b, off, none⟩ p.length c (p.map strV) (by simp) (news_of hc) one_of
/-- Appending a list to such a row. -/
theorem off_append (hR : Nice R) (h : Has w0 w (Star (OffP v l) R)) (hp : StrsIn w vp p) (hl : l.length + p.length ≤ 4096) :
    ∃ v' w', (Builtin.append_ #[25, 25] 25 #[v, vp]).run Tryz.prog w = .ok v' w' ∧ Has w0 w' (Star (OffP v' (l ++ p)) R) := by
  obtain ⟨i0, hi, hz0, hz1, hz2⟩ := info_parts infoStr
  have hsrc := strs_src hp
  have hs1 : i0.size = 1 := hz1
  have hs2 : i0.bytes = 16 := hz2
  have hrd : StrsIn w v l := h.quiet fun _ hS => hS.reads
  have hsh := h.quiet fun _ hS => hS.shape
  obtain ⟨ao, c, hv, hc1, hc2, -⟩ := hsh
  subst hv
  by_cases hroom : l.length + p.length ≤ c
  · cases hpl : p with
    | nil =>
      subst hpl
      have hr := run_append_nothing (P := Tryz.prog) w 25 25 25 9 i0 Tryz.underlying25 hi ao l.length c hc1 vp (by rw [hs1]; exact hsrc)
      exact ⟨_, _, hr, by rw [List.append_nil]; exact h⟩
    | cons p0 pr =>
      rw [← hpl]
      have hp0 : 0 < p.length := by rw [hpl]; simp
      obtain ⟨b, off, rfl⟩ : ∃ b off, ao = some ⟨b, off, none⟩ := by
        refine h.quiet fun S hS => ?_
        rcases hS with ⟨e, _⟩ | ⟨g, off, cap, cur, e, _⟩
        · simp only [Value.slice.injEq] at e
          omega
        · simp only [Value.slice.injEq] at e
          exact ⟨g, off, e.1⟩
      refine ⟨.slice (some ⟨b, off, none⟩) (l.length + p.length) c, w.setCells b (off + l.length * i0.size) (p.map strV), ?_, ?_⟩
      · exact run_append_room_src (P := Tryz.prog) w 25 25 25 9 i0 Tryz.underlying25 hi b off l.length c vp p.length (p.map strV) (by rw [hs1]; exact hsrc) hroom
          (fun j hj => h.quiet fun S hS => by
            rcases hS with ⟨e, _⟩ | ⟨g, off', cap, cur, e, _, h2, h3, _⟩
            · simp at e
            · simp only [Value.slice.injEq, Option.some.injEq, Addr.mk.injEq, and_true, true_and] at e
              obtain ⟨⟨rfl, rfl⟩, rfl⟩ := e
              rw [List.length_map] at hj
              rw [block_cell h2, hs1, Array.getElem?_eq_getElem (by omega)]
              rfl)
          (fun j hj => h.quiet fun S hS => by
            rcases hS with ⟨e, _⟩ | ⟨g, off', cap, cur, e, _, h2, h3, _⟩
            · simp at e
            · simp only [Value.slice.injEq, Option.some.injEq, Addr.mk.injEq, and_true, true_and] at e
              obtain ⟨⟨rfl, rfl⟩, rfl⟩ := e
              exact block_free h2 _)
      · refine h.turn hR fun S hS => ?_
        rcases hS with ⟨e, _⟩ | ⟨g, off', cap, cur, e, h1, h2, h3, h4, h5, h6, h7⟩
        · simp at e
        · simp only [Value.slice.injEq, Option.some.injEq, Addr.mk.injEq, and_true, true_and] at e
          obtain ⟨⟨rfl, rfl⟩, rfl⟩ := e
          obtain ⟨cur', k1, k2, k3, k4⟩ := block_sets (p.map strV) (off + l.length * i0.size) h2 (by rw [hs1, List.length_map]; omega)
          have nb : ¬ IsBox w b := by
            rintro ⟨s, hs⟩
            rw [h2] at hs
            simp only [Option.some.injEq, Obj.cells.injEq, and_true] at hs
            have : cur.size = 1 := by rw [hs]; rfl
            omega
          refine ⟨S, fun _ => .inl, .inr ⟨b, off, c, cur', by rw [List.length_append], h1, k1, by omega, by rw [List.length_append]; omega, by rw [List.length_append]; omega, h6, fun j hj => ?_⟩, (fr_sets nb).mono fun i hi => (h1 i).2 hi⟩
          by_cases hj2 : j < l.length
          · rw [k3 _ (by rw [hs1]; omega), h7 j hj2]
            simp [List.getD_eq_getElem?_getD, List.getElem?_append_left hj2]
          · rw [List.length_append] at hj
            have := k4 (j - l.length) (by rw [List.length_map]; omega)
            rw [hs1, show off + l.length * 1 + (j - l.length) = off + j by omega] at this
            rw [this, List.getElem?_map, List.getD_eq_getElem?_getD, List.getElem?_append_right (by omega), List.getElem?_eq_getElem (by omega)]
            rfl
  · have hold : (Builtin.firstCells i0.size l.length (.slice ao l.length c)).run Tryz.prog w.drew = .ok (l.map strV).toArray w.drew := by
      rw [hs1]; exact (strs_src hrd).cellsD
    have hr := run_append_grow_src (P := Tryz.prog) w 25 25 25 9 i0 _ Tryz.underlying25 hi hz0 ao l.length c (l.map strV) hold vp p.length (p.map strV) (by rw [hs1]; exact hsrc) (by omega) (by omega) (growslice_fits (by omega) (by rw [hs2]; omega))
    have hge := grownCap_ge w (l.length + p.length) c 9
    have hle := grownCap_le_maxLen w (l.length + p.length) c 9 (by unfold maxLen; omega)
    generalize hG : grownCap w (l.length + p.length) c 9 = G at hr hge hle
    refine ⟨_, _, hr, h.snd.new hR ((Below.refl _ w).drew.alloc (Nat.le_refl _) _) (S := fun i => i = w.heap.size) (fun i hi => Nat.le_of_eq hi.symm) (.inr ⟨w.heap.size, 0, G, _, by rw [List.length_append], fun _ => Iff.rfl, heap_alloc_new w.drew _, ?_, by rw [List.length_append]; omega, by rw [List.length_append]; omega, hle, fun j hj => ?_⟩)⟩
    · simp only [Array.size_append, List.size_toArray, size_zeroCells, List.length_append, List.length_map]
      rw [show (Value.string ⟨#[]⟩).cells.size = 1 from rfl]
      omega
    · rw [List.length_append] at hj
      rw [Nat.zero_add, Array.getElem?_append_left (by simp; omega)]
      rw [List.getElem?_toArray, ← List.map_append, List.getElem?_map, List.getD_eq_getElem?_getD, List.getElem?_eq_getElem (by rw [List.length_append]; omega)]
      rfl
end
end Go.Proofs.YtlhnjdoicolkkaaGreatDoor

/- What survives calls: a clone that lies apart, an own row of two lists. -/
set_option maxRecDepth 100000
namespace Go.Proofs.YtlhnjdoicolkkaaGreatDoor
open Go.RowKit Go.Dsk Go.Maps Go.WideMaps
set_option maxHeartbeats 2000000
open Jnl (J)

section
variable {w0 w w1 w2 : World} {bd : Nat} {d m : M} {j : J} {P Q R : SP}
/-- What is new lies beside what was there. -/
theorem Has.both (hP : Nice P) (h : Has w0 w1 P) (h2 : Has w1 w2 Q) : Has w0 w2 (Star Q P) := by
  obtain ⟨hb, S, hS, hq⟩ := h2
  exact h.new hP hb hS hq
theorem clone_apart (h : Dr R w0 w bd m) :
    Calls Tryz.prog 49 #[.pointer (some ⟨bd, 0, none⟩)] w fun e w' => ∃ bo m0, e = .returned (.pointer (some ⟨bo, 0, none⟩)) ∧ SimE m0 m ∧ m0.wt = m.wt ∧ Dr Nil w w' bo m0 := by
  have hwt := dr_wt h
  refine dr_quiet h fun loc S bn bm sl bs lft hr => (Clone_rep hr hwt).mono ?_
  rintro e w' ⟨bo, m0, S', rfl, hs, hw, hS, hd, hb⟩
  exact ⟨bo, m0, rfl, hs, hw, (Has.start (Below.refl _ w)).new Nice.nil hb hS ⟨hd, by omega⟩⟩
/-- An empty row that a call has just made. -/
theorem off_made (w : World) : Has w (w.alloc (.cells #[] 9)) (Star (OffP (.slice (some ⟨w.heap.size, 0, none⟩) 0 0) []) Nil) :=
  (Has.start (Below.refl _ w)).new Nice.nil ((Below.refl _ w).alloc (Nat.le_refl _) _) (S := fun i => i = w.heap.size) (fun i hi => Nat.le_of_eq hi.symm)
    (.inr ⟨w.heap.size, 0, 0, #[], rfl, fun _ => Iff.rfl, heap_alloc_new w _, by simp, by simp, .inl rfl, Nat.zero_le _, fun j hj => absurd hj (by simp)⟩)
/-- A list sliced, as the walk writes it. -/
theorem strs_cut {ao : Option Addr} {c k : Nat} {l : List Bs} (h : StrsIn w (.slice ao l.length c) l) (hk : k ≤ l.length) : StrsIn w (.slice (if c = k then ao else ao.map fun x => x.add k) (l.length - k) (c - k)) (l.drop k) := by
  have e : (ao.map fun a => if c = k then a else a.add k) = if c = k then ao else ao.map fun x => x.add k := by split <;> simp
  rw [← e]
  exact strs_sub h hk
theorem off_reads {v : Value} {l : List Bs} (h : Has w0 w (Star (OffP v l) R)) : StrsIn w v l := h.quiet fun _ hS => hS.reads
end
end Go.Proofs.YtlhnjdoicolkkaaGreatDoor

/- survives: behind a failure and a start a journal has what the law says. -/
set_option maxRecDepth 100000
namespace Go.Proofs.YtlhnjdoicolkkaaGreatDoor
open Go.RowKit Go.Dsk Go.Maps Go.WideMaps
set_option maxHeartbeats 8000000
open Jnl (J)
attribute [local go_sem ↓] appX_is

/-- Cells in a block of their own. -/
def CellsP (b : Nat) (cs : Array Value) (t : TypeId) : SP := fun S w => (∀ i, S i ↔ i = b) ∧ w.heap[b]? = some (.cells cs t (0, 0))
theorem nice_cells (b : Nat) (cs : Array Value) (t : TypeId) : Nice (CellsP b cs t) where
  lt h i hi := by rw [(h.1 i).1 hi]; exact lt_of_block h.2
  keep h hf hd := ⟨h.1, (hf.block b (lt_of_block h.2) (.inl (hd b ((h.1 b).2 rfl)))).trans h.2⟩
section
variable {w0 w : World} {bd : Nat} {d : M} {j : J} {R : SP}
theorem cells_new (hR : Nice R) (h : Has w0 w R) (cs : Array Value) (t : TypeId) : Has w0 (w.alloc (.cells cs t)) (Star (CellsP w.heap.size cs t) R) :=
  h.new hR ((Below.refl _ w).alloc (Nat.le_refl _) _) (S := fun i => i = w.heap.size) (fun _ hi => Nat.le_of_eq hi.symm) ⟨fun _ => Iff.rfl, heap_alloc_new w _⟩
theorem cells_at {b : Nat} {cs : Array Value} {t : TypeId} (h : Has w0 w (Star (CellsP b cs t) R)) (i : Nat) : w.cell? ⟨b, i, none⟩ = cs[i]? := h.quiet fun _ hS => block_cell hS.2 i
theorem records_first (hb : j.broken = false) : j.records (j.first : Int) = (j.recs, 0) := by
  unfold Jnl.J.records
  have hlv : j.last = (j.first : Int) + j.recs.length - 1 := by unfold Jnl.J.last; rw [hb]; simp
  rw [if_neg (by rw [hb]; simp), if_neg (by rw [hlv]; omega)]
  simp
theorem prefix_yes {a b : List Bs} (h : a <+: b) : decide (a.length ≤ b.length ∧ a = b.take a.length) = true := by
  rw [decide_eq_true_iff]
  exact ⟨h.length_le, List.prefix_iff_eq_take.1 h⟩
theorem survives_any {first til : Nat} {dur pend : List Bs} {vd vp : Value} {lim : Int} {ao : Option Addr} {c : Nat} {sc : List Int} (hR : Nice R) (hg : Glob w0) (h : Dr R w0 w bd d)
    (hdp : ∀ wx : World, Has w0 wx R → StrsIn wx vd dur ∧ StrsIn wx vp pend) (hv : ∀ wx : World, Below w0.heap.size w0 wx → IntsAt wx (.slice ao sc.length c) sc) (hl : Jnl.Lives first til dur pend d)
    (hf : first ≤ 100000) (ht : til ≤ 100000) (hs : dur.length + pend.length ≤ 4000) (hw : d.wt < 1073740000) :
    Calls Tryz.prog 38 #[.pointer (some ⟨bd, 0, none⟩), .agg #[.int .u8 lim, .slice ao sc.length c], .int .i64 first, .int .i64 til, vd, vp] w fun e w' => e = .returned (.bool true) ∧ Below w0.heap.size w0 w' := by
  obtain ⟨f, l, ⟨d2, j1, j2, e1, e2, b1, b2, f1, f2, l1, l2⟩, hfo, hf1, hf2, hp1, hp2⟩ := hl sc
  have hwt1 : d.crash.wt = d.wt := rfl
  have hwt2 := start_wt (m := d.crash) sc
  have hfl : f ≤ 100000 := by omega
  obtain ⟨by', hby⟩ : ∃ by', by' = w.heap.size := ⟨_, rfl⟩
  have hc0 := (cells_new (Nice.star (nice_disk _ _) hR) h #[.int .u8 lim, .slice ao sc.length c] 68).left
  rw [← hby] at hc0
  have hN : Nice (Star (CellsP by' #[.int .u8 lim, .slice ao sc.length c] 68) R) := Nice.star (nice_cells _ _ _) hR
  have hNJ : Nice (Star (JrnP by' bd logB j1) R) := Nice.star (nice_jrn _ _ _ _) hR
  clear hNJ
  have H0 := Lib.hid hc0
  have HG := Lib.hid hg
  have HDP := Lib.hid hdp
  have HVV := Lib.hid hv
  have HO := Lib.hid (And.intro e1 (And.intro e2 (And.intro b1 (And.intro b2 (And.intro f1 (And.intro f2 (And.intro l1 l2)))))))
  have HP := Lib.hid (And.intro hp1 hp2)
  have HBY := Lib.hid hby
  have HNN := Lib.hid hN
  have HRR := Lib.hid hR
  clear hl h hg hdp hv hc0 hby e1 e2 b1 b2 f1 f2 l1 l2 hp1 hp2 hN hR
  go_enter Tryz.func38, Tryz.ntmps38
  go_upto_region 1 with fail
  rw [← HBY.out]
  generalize w.alloc (.cells #[.int .u8 lim, .slice ao sc.length c] 68) = wa at *
  clear HBY
  go_wp2_with fail
  refine (dr_crash HNN.out H0.out).mono ?_
  rintro e w1 ⟨rfl, h1⟩
  have x1 := cells_at h1.left 1
  simp at x1
  have H1 := Lib.hid h1
  clear h1 H0
  go_wp2_with fail
  refine (dr_start HNN.out H1.out ao sc.length c sc (HVV.out _ H1.out.below)).mono ?_
  rintro e w2 ⟨rfl, h2⟩
  have H2 := Lib.hid (h2.sub (Sub.inner (Sub.drop _ _)))
  clear h2 H1 x1
  go_wp2_with fail
  have hwd2 : d2.wt < 1073740100 := by
    have h1 := opened_wt (n := logB.data.toList) (dr_ok H2.out)
    have h2 : Jnl.opened logB.data.toList (d.crash.start sc) = _ := HO.out.1
    rw [h2] at h1
    simp only at h1
    omega
  refine (JOpen_any (n := logB) HRR.out HG.out H2.out (by decide) (by omega) HO.out.1).mono ?_
  rintro e w3 (⟨bj, j', hj, rfl, h3⟩ | ⟨hj, _⟩)
  rotate_left
  · cases hj
  simp only [Option.some.injEq] at hj
  subst hj
  obtain ⟨vr, vq, hsee⟩ := jr_see h3.left
  have hfi := First_any hsee
  rw [HO.out.2.2.1, HO.out.2.2.2.2.1] at hfi
  simp only [Bool.false_eq_true, if_false] at hfi
  have hrc := Records_any hsee (f : Int) (by omega)
  have hr1 : j1.records (f : Int) = (l, 0) := by
    have := records_first HO.out.2.2.1
    rw [HO.out.2.2.2.2.1, HO.out.2.2.2.2.2.2.1] at this
    exact this
  rw [hr1] at hrc
  have H3 := Lib.hid h3
  have HRC := Lib.hid hrc
  clear hr1 hrc hsee h3 H2
  go_wp2_with fail
  refine hfi.mono ?_
  rintro e w' ⟨rfl, rfl⟩
  clear hfi
  go_upto_region 7 with fail
  go_cut [49] (fun s wx => s = .bool false ∧ wx = w')
  case first =>
    rcases hfo with e | e
    · have q1 : ((f : Int) != (first : Int)) = false := by simp [e]
      clear e hf1
      go_wp2_with fail
      go_meet
      exact ⟨rfl, rfl⟩
    · by_cases e0 : f = first
      · have q1 : ((f : Int) != (first : Int)) = false := by simp [e0]
        clear e e0 hf1
        go_wp2_with fail
        go_meet
        exact ⟨rfl, rfl⟩
      · have q1 : ((f : Int) != (first : Int)) = true := by simp; omega
        have q2 : ((f : Int) != (til : Int)) = false := by simp [e]
        clear e e0 hf1
        go_wp2_with fail
        go_meet
        exact ⟨rfl, rfl⟩
  case rest =>
    obtain ⟨rfl, rfl⟩ := hcut
    go_wp2_with fail
    refine HRC.out.mono ?_
    rintro e w4 ⟨v, rfl, hv4, hb4⟩
    have h4 := H3.out.moved (nice_dj HRR.out) hb4
    have hdp4 := HDP.out _ (h4.snd.snd)
    obtain ⟨ad, cd, rfl, hcd1, hcd2, -⟩ := hdp4.1
    obtain ⟨u, hu⟩ : ∃ u, u = f - first := ⟨_, rfl⟩
    have hul : u ≤ dur.length := by omega
    have hfu : (f : Int) = (first : Int) + (u : Int) := by omega
    have hwu : wrap64 ((f : Int) - (first : Int)) = (u : Int) := (IntWalk.wrap64_in _ (by omega)).trans (by omega)
    have hwu2 : IntKind.i64.wrap ((f : Int) - (first : Int)) = (u : Int) := (IntWalk.i64_in _ (by omega)).trans (by omega)
    have hq0 : (0 : Int) ≤ (u : Int) := by omega
    have hq1 : (u : Int) ≤ (dur.length : Int) := by omega
    have hsub := strs_cut hdp4.1 hul
    have hp := HP.out
    rw [← hu] at hp
    have HPU := Lib.hid hp
    have HSUB := Lib.hid hsub
    have HV4 := Lib.hid hv4
    have H4 := Lib.hid h4
    unfold maxLen at hcd2
    clear hp hsub hv4 h4 hdp4 hu hfu hb4 H3 HRC HP hfo
    go_upto_region 11 with fail
    have hbg := begins_any HSUB.out HV4.out
    rw [prefix_yes HPU.out.1] at hbg
    have HBG := Lib.hid hbg
    clear hbg
    obtain ⟨va, hva⟩ : ∃ va, va = Value.slice (if cd = u then ad else ad.map fun x => x.add u) (dur.length - u) (cd - u) := ⟨_, rfl⟩
    rw [← hva] at HBG HSUB ⊢
    have HVA := Lib.hid hva
    clear hva
    go_wp2_with fail
    refine HBG.out.mono ?_
    rintro e w5 ⟨rfl, q5, hw5⟩
    have hb5 : Below w4.heap.size w4 w5 := by rw [hw5]; exact below_drawn w4 q5
    clear hw5 HBG
    have h5 := H4.out.moved (nice_dj HRR.out) hb5
    have hva5 := (HSUB.out.below hb5).below ((Below.refl _ w5).alloc (Nat.le_refl _) (.cells #[] 9))
    obtain ⟨v6, w6, hrun1, h6⟩ := off_append Nice.nil (off_made w5) hva5 (by simp only [List.length_nil, List.length_drop]; omega)
    rw [List.nil_append] at h6
    have hpe := (HDP.out _ (h5.snd.snd)).2.below h6.below
    obtain ⟨v7, w7, hrun2, h7⟩ := off_append Nice.nil h6 hpe (by simp only [List.length_drop]; omega)
    rw [appX_is] at hrun1 hrun2
    have hb57 := h7.below
    have hv7 := (HV4.out.below hb5).below hb57
    have hbg := begins_any hv7 (off_reads h7)
    rw [prefix_yes HPU.out.2] at hbg
    have HBG := Lib.hid hbg
    have H7 := Lib.hid (h5.moved (nice_dj HRR.out) hb57)
    have HV7 := Lib.hid hv7
    clear hb5 h5 hva5 h6 hpe h7 hb57 hv7 hbg H4 HSUB HV4 HVA HPU
    go_wp2_with fail
    refine HBG.out.mono ?_
    rintro e w8 ⟨rfl, q8, hw8⟩
    have hb8 : Below w7.heap.size w7 w8 := by rw [hw8]; exact below_drawn w7 q8
    have H8 := Lib.hid (H7.out.moved (nice_dj HRR.out) hb8)
    have HV8 := Lib.hid (HV7.out.below hb8)
    clear hw8 hb8 HBG H7 HV7 hrun1 hrun2
    go_wp2_with fail
    refine (clone_apart H8.out).mono ?_
    rintro e w9 ⟨bo, c0, rfl, hs9, hwc, h9⟩
    have hsim := Jnl.opened_sim logB.data.toList hs9 (dr_ok h9)
    have ho2 : Jnl.opened logB.data.toList d2 = (0, some j2, d2) := HO.out.2.1
    rw [ho2] at hsim
    obtain ⟨Z, hZ⟩ : ∃ Z, Jnl.opened logB.data.toList c0 = Z := ⟨_, rfl⟩
    rw [hZ] at hsim
    obtain ⟨z, oj, c2⟩ := Z
    obtain ⟨rfl, rfl, hs10⟩ := hsim
    have H9 := Lib.hid h9
    have HZ := Lib.hid hZ
    have HS := Lib.hid hs10
    clear h9 ho2 hZ hs10 hs9
    go_wp2_with fail
    refine (JOpen_any (n := logB) Nice.nil (HG.out.below H8.out.below) H9.out (by decide) (by omega) HZ.out).mono ?_
    rintro e w10 (⟨bk, j', hj, rfl, h10⟩ | ⟨hj, _⟩)
    rotate_left
    · cases hj
    simp only [Option.some.injEq] at hj
    subst hj
    have hnk := nice_dj (d := c2) (bd := bo) (bj := bk) (n := logB) (j := j2) Nice.nil
    obtain ⟨vr, vq, hsee⟩ := jr_see h10.left
    have hrc := Records_any hsee (f : Int) (by omega)
    have hr1 : j2.records (f : Int) = (l, 0) := by
      have := records_first HO.out.2.2.2.1
      rw [HO.out.2.2.2.2.2.1, HO.out.2.2.2.2.2.2.2] at this
      exact this
    rw [hr1] at hrc
    have H10 := Lib.hid h10
    have HRC := Lib.hid hrc
    have HNK := Lib.hid hnk
    clear hr1 hrc hsee h10 H9 HZ hnk
    go_wp2_with fail
    refine HRC.out.mono ?_
    rintro e w11 ⟨v11, rfl, hv11, hb11⟩
    have h11 := H10.out.moved HNK.out hb11
    obtain ⟨vr, vq, hsee⟩ := jr_see h11.left
    have hfi := First_any hsee
    rw [HO.out.2.2.2.1, HO.out.2.2.2.2.2.1] at hfi
    simp only [Bool.false_eq_true, if_false] at hfi
    have hsame := same_any hv11 (HV8.out.below h11.below)
    rw [decide_eq_true rfl] at hsame
    have HSA := Lib.hid hsame
    have H11 := Lib.hid h11
    have q9 : ((f : Int) == (f : Int)) = true := by simp
    clear hsame hsee h11 hb11 hv11 HRC H10 HV8
    go_wp2_with fail
    refine hfi.mono ?_
    rintro e w' ⟨rfl, rfl⟩
    clear hfi
    go_wp2_with fail
    refine HSA.out.mono ?_
    rintro e w12 ⟨rfl, q12, hw12⟩
    have hb12 : Below w'.heap.size w' w12 := by rw [hw12]; exact below_drawn w' q12
    clear hw12 HSA
    have h12 := Has.both (nice_dj HRR.out) H8.out (H11.out.moved HNK.out hb12)
    have h13 := h12.assoc.imp fun _ h => h.inner fun _ h => h.left
    have heq := equal_turned (Nice.star (Nice.star (nice_jrn _ _ _ _) Nice.nil) (Nice.star (nice_jrn _ _ _ _) HRR.out)) h13 HS.out
    have HEQ := Lib.hid heq
    have HB := Lib.hid h12.below
    clear h12 h13 heq hb12 H11 H8
    go_wp2_with fail
    refine HEQ.out.mono ?_
    rintro e w13 ⟨rfl, hb13⟩
    have HF := Lib.hid (HB.out.trans (hb13.mono HB.out.size))
    clear hb13 HEQ HB
    go_wp2_with fail
    go_ret
    exact ⟨rfl, HF.out⟩
end
end Go.Proofs.YtlhnjdoicolkkaaGreatDoor
