/- Things in memory that lie apart, and the operations of a disk beside others. -/
import Derived.Test.YtlhnjdoicolkkaaGreatDoorApi
set_option maxRecDepth 100000
namespace Go.Proofs.YtlhnjdoicolkkaaGreatDoor
open Go.RowKit Go.Dsk Go.Maps Go.WideMaps
set_option maxHeartbeats 400000

/-- A thing in memory: which blocks it has, in which world. -/
abbrev SP := (Nat → Prop) → World → Prop
structure Nice (P : SP) : Prop where
  lt : ∀ {S : Nat → Prop} {w : World}, P S w → ∀ i, S i → i < w.heap.size
  keep : ∀ {S T : Nat → Prop} {w w' : World}, P S w → Fr T w w' → (∀ i, S i → ¬ T i) → P S w'
/-- Two things that share no block. -/
def Star (P R : SP) : SP := fun U w => ∃ S T, (∀ i, U i ↔ S i ∨ T i) ∧ (∀ i, S i → ¬ T i) ∧ P S w ∧ R T w
/-- Nothing. -/
def Nil : SP := fun S _ => ∀ i, ¬ S i
theorem Nice.star {P R : SP} (hp : Nice P) (hr : Nice R) : Nice (Star P R) where
  lt h i hi := by
    obtain ⟨S, T, hu, _, h1, h2⟩ := h
    rcases (hu i).1 hi with h | h
    · exact hp.lt h1 i h
    · exact hr.lt h2 i h
  keep h hf hd := by
    obtain ⟨S, T, hu, hdj, h1, h2⟩ := h
    exact ⟨S, T, hu, hdj, hp.keep h1 hf (fun i hi => hd i ((hu i).2 (.inl hi))), hr.keep h2 hf (fun i hi => hd i ((hu i).2 (.inr hi)))⟩
theorem Nice.nil : Nice Nil := ⟨fun h i hi => absurd hi (h i), fun h _ _ => h⟩
/-- What a call does to a thing: it may grow by new blocks, and no other block turns. -/
def Does (S : Nat → Prop) (w : World) (P : SP) (w' : World) : Prop := ∃ S', (∀ i, S' i → S i ∨ w.heap.size ≤ i) ∧ P S' w' ∧ Fr S w w'
/-- In w, to which the call that began in w0 has come, P lies in new memory, and nothing that was there has turned. -/
structure Has (w0 w : World) (P : SP) : Prop where
  below : Below w0.heap.size w0 w
  ex : ∃ S, (∀ i, S i → w0.heap.size ≤ i) ∧ P S w

section
variable {w0 w w' : World} {P P' R R' : SP}
theorem Star.swap {U : Nat → Prop} (h : Star P R U w) : Star R P U w := by
  obtain ⟨S, T, hu, hd, h1, h2⟩ := h
  exact ⟨T, S, fun i => (hu i).trans Or.comm, fun i hi hs => hd i hs hi, h2, h1⟩
theorem Has.swap (h : Has w0 w (Star P R)) : Has w0 w (Star R P) := by
  obtain ⟨hb, S, hs, h⟩ := h
  exact ⟨hb, S, hs, h.swap⟩
theorem Star.left {U : Nat → Prop} {Q : SP} (h : Star P (Star Q R) U w) : Star Q (Star P R) U w := by
  obtain ⟨S, T, hu, hd, h1, A, B, hu2, hd2, h2, h3⟩ := h
  refine ⟨A, fun i => S i ∨ B i, fun i => ?_, ?_, h2, S, B, fun i => Iff.rfl, fun i hi hb => hd i hi ((hu2 i).2 (.inr hb)), h1, h3⟩
  · rw [hu i, hu2 i]
    constructor
    · rintro (h | h | h)
      · exact .inr (.inl h)
      · exact .inl h
      · exact .inr (.inr h)
    · rintro (h | h | h)
      · exact .inr (.inl h)
      · exact .inl h
      · exact .inr (.inr h)
  · rintro i ha (h | h)
    · exact hd i h ((hu2 i).2 (.inl ha))
    · exact hd2 i ha h
theorem Has.left {Q : SP} (h : Has w0 w (Star P (Star Q R))) : Has w0 w (Star Q (Star P R)) := by
  obtain ⟨hb, S, hs, h⟩ := h
  exact ⟨hb, S, hs, h.left⟩
theorem Star.right {U : Nat → Prop} {Q : SP} (h : Star P (Star Q R) U w) : Star P (Star R Q) U w := by
  obtain ⟨S, T, hu, hd, h1, h2⟩ := h
  exact ⟨S, T, hu, hd, h1, h2.swap⟩
theorem Has.right {Q : SP} (h : Has w0 w (Star P (Star Q R))) : Has w0 w (Star P (Star R Q)) := by
  obtain ⟨hb, S, hs, h⟩ := h
  exact ⟨hb, S, hs, h.right⟩
theorem Has.imp (h : Has w0 w P) (hi : ∀ S, P S w → P' S w) : Has w0 w P' := by
  obtain ⟨hb, S, hs, h⟩ := h
  exact ⟨hb, S, hs, hi S h⟩
theorem Has.fst (h : Has w0 w (Star P R)) : Has w0 w P := by
  obtain ⟨hb, U, hs, S, T, hu, hd, h1, h2⟩ := h
  exact ⟨hb, S, fun i hi => hs i ((hu i).2 (.inl hi)), h1⟩
theorem Has.moved (hP : Nice P) (h : Has w0 w P) (hb : Below w.heap.size w w') : Has w0 w' P := by
  obtain ⟨hb0, S, hs, h⟩ := h
  exact ⟨hb0.trans (hb.mono hb0.size), S, hs, hP.keep (T := fun _ => False) h (Fr.below hb) (fun _ _ => id)⟩
/-- A new thing. -/
theorem Has.new (hR : Nice R) (h : Has w0 w R) (hb : Below w.heap.size w w') {S : Nat → Prop} (hS : ∀ i, S i → w.heap.size ≤ i) (hp : P S w') : Has w0 w' (Star P R) := by
  obtain ⟨hb0, T, ht, h⟩ := h
  exact ⟨hb0.trans (hb.mono hb0.size), fun i => S i ∨ T i, fun i hi => hi.elim (fun h => Nat.le_trans hb0.size (hS i h)) (ht i), S, T, fun i => Iff.rfl, fun i hi hti => by have := hS i hi; have := hR.lt h i hti; omega, hp, hR.keep (T := fun _ => False) h (Fr.below hb) (fun _ _ => id)⟩
theorem Has.start (hb : Below w0.heap.size w0 w) : Has w0 w Nil := ⟨hb, fun _ => False, fun _ => False.elim, fun _ => id⟩
/-- A call upon one thing: the other one stays. -/
theorem Has.does (hR : Nice R) (h : Has w0 w (Star P R)) {f : FuncId} {args : Array Value} {Q : Ending → SP} (hc : ∀ S, P S w → Calls Tryz.prog f args w fun e w' => Does S w (Q e) w') : Calls Tryz.prog f args w fun e w' => Has w0 w' (Star (Q e) R) := by
  obtain ⟨hb0, U, hU, S, T, hu, hd, h1, h2⟩ := h
  refine (hc S h1).mono ?_
  rintro e w' ⟨S', hS', hq, hf⟩
  refine ⟨hb0.trans (hf.toBelow hb0.size (fun i hi => hU i ((hu i).2 (.inl hi)))), fun i => S' i ∨ T i, ?_, S', T, fun i => Iff.rfl, ?_, hq, hR.keep h2 hf (fun i hi hs => hd i hs hi)⟩
  · rintro i (hi | hi)
    · rcases hS' i hi with h | h
      · exact hU i ((hu i).2 (.inl h))
      · exact Nat.le_trans hb0.size h
    · exact hU i ((hu i).2 (.inr hi))
  · intro i hi ht
    rcases hS' i hi with h | h
    · exact hd i h ht
    · have := hR.lt h2 i ht; omega
theorem Has.pair {f : FuncId} {args : Array Value} {E : Ending → Prop} {P : SP} (h : Calls Tryz.prog f args w fun e w' => Has w0 w' (Star (fun S w => E e ∧ P S w) R)) : Calls Tryz.prog f args w fun e w' => E e ∧ Has w0 w' (Star P R) := by
  refine h.mono ?_
  rintro e w' ⟨hb, U, hU, S, T, hu, hd, ⟨he, hp⟩, hr⟩
  exact ⟨he, hb, U, hU, S, T, hu, hd, hp, hr⟩
theorem Has.quiet (h : Has w0 w (Star P R)) {Q : Prop} (hc : ∀ S, P S w → Q) : Q := by
  obtain ⟨hb0, U, hU, S, T, hu, hd, h1, h2⟩ := h
  exact hc S h1
end

/-! ### a disk beside others -/
def DiskP (bd : Nat) (m : M) : SP := fun S w => DiskAt S w bd m ∧ m.wt < 1073741823
theorem nice_disk (bd : Nat) (m : M) : Nice (DiskP bd m) := ⟨fun h => h.1.lt, fun h hf hd => ⟨h.1.keep hf hd, h.2⟩⟩

section
variable {w0 w : World} {bd : Nat} {m : M} {R : SP}
/-- A disk, and R beside it. -/
abbrev Dr (R : SP) (w0 w : World) (bd : Nat) (m : M) : Prop := Has w0 w (Star (DiskP bd m) R)
theorem dr_step (hR : Nice R) (h : Dr R w0 w bd m) {f : FuncId} {args : Array Value} {Q : Ending → Prop} {m' : M} (hw : m'.wt < 1073741823)
    (hc : ∀ loc S bn bm sl bs lft, Rep loc S w bd bn bm sl bs lft m → Calls Tryz.prog f args w fun e w' => Q e ∧ After S w bd m' w') : Calls Tryz.prog f args w fun e w' => Q e ∧ Dr R w0 w' bd m' :=
  Has.pair (h.does hR (Q := fun e S w => Q e ∧ DiskP bd m' S w) (fun S hS => by
    obtain ⟨⟨loc, bn, bm, sl, bs, lft, hr⟩, _⟩ := hS
    refine (hc loc S bn bm sl bs lft hr).mono ?_
    rintro e w' ⟨hq, S', h1, h2, h3⟩
    exact ⟨S', h1, ⟨hq, h2, hw⟩, h3⟩))
theorem dr_quiet (h : Dr R w0 w bd m) {Q : Prop} (hc : ∀ loc S bn bm sl bs lft, Rep loc S w bd bn bm sl bs lft m → Q) : Q :=
  Has.quiet h (fun S hS => by
    obtain ⟨⟨loc, bn, bm, sl, bs, lft, hr⟩, _⟩ := hS
    exact hc loc S bn bm sl bs lft hr)
theorem dr_ok (h : Dr R w0 w bd m) : m.Ok := dr_quiet h fun _ _ _ _ _ _ _ hr => hr.ok
theorem dr_wt (h : Dr R w0 w bd m) : m.wt < 1073741823 := Has.quiet h (fun _ hS => hS.2)
theorem dr_append (hR : Nice R) (h : Dr R w0 w bd m) (n d : ByteArray) (hs : n.size ≤ 1073741824) (hds : d.size ≤ 1073741824) {r : Int} {m' : M} (he : m.append n.data.toList d.data.toList = (r, m')) (hw : m'.wt < 1073741823) :
    Calls Tryz.prog 53 #[.pointer (some ⟨bd, 0, none⟩), .string n, .string d] w fun e w' => e = .returned (.int .i64 r) ∧ Dr R w0 w' bd m' :=
  dr_step hR h hw (fun loc S bn bm sl bs lft hr => by
    have := Append_rep hr (Nat.lt_trans (dr_wt h) (by omega)) n d (by unfold maxLen; omega) (by omega)
    rw [he] at this; exact this)
theorem dr_sync (hR : Nice R) (h : Dr R w0 w bd m) (n : ByteArray) (hs : n.size ≤ 1073741824) {r : Int} {m' : M} (he : m.sync n.data.toList = (r, m')) (hw : m'.wt < 1073741823) :
    Calls Tryz.prog 57 #[.pointer (some ⟨bd, 0, none⟩), .string n] w fun e w' => e = .returned (.int .i64 r) ∧ Dr R w0 w' bd m' :=
  dr_step hR h hw (fun loc S bn bm sl bs lft hr => by
    have := Sync_rep hr n (by unfold maxLen; omega)
    rw [he] at this; exact this)
theorem dr_rename (hR : Nice R) (h : Dr R w0 w bd m) (a b : ByteArray) (hs : a.size ≤ 1073741824) (hds : b.size ≤ 1073741824) {r : Int} {m' : M} (he : m.rename a.data.toList b.data.toList = (r, m')) (hw : m'.wt < 1073741823) :
    Calls Tryz.prog 108 #[.pointer (some ⟨bd, 0, none⟩), .string a, .string b] w fun e w' => e = .returned (.int .i64 r) ∧ Dr R w0 w' bd m' :=
  dr_step hR h hw (fun loc S bn bm sl bs lft hr => by
    have := Rename_rep hr (Nat.lt_trans (dr_wt h) (by omega)) a b (by unfold maxLen; omega) (by unfold maxLen; omega)
    rw [he] at this; exact this)
theorem dr_remove (hR : Nice R) (h : Dr R w0 w bd m) (a : ByteArray) (hs : a.size ≤ 1073741824) {r : Int} {m' : M} (he : m.remove a.data.toList = (r, m')) (hw : m'.wt < 1073741823) :
    Calls Tryz.prog 64 #[.pointer (some ⟨bd, 0, none⟩), .string a] w fun e w' => e = .returned (.int .i64 r) ∧ Dr R w0 w' bd m' :=
  dr_step hR h hw (fun loc S bn bm sl bs lft hr => by
    have := Remove_rep hr (Nat.lt_trans (dr_wt h) (by omega)) a (by unfold maxLen; omega)
    rw [he] at this; exact this)
theorem dr_publish (hR : Nice R) (h : Dr R w0 w bd m) {r : Int} {m' : M} (he : m.publish = (r, m')) (hw : m'.wt < 1073741823) :
    Calls Tryz.prog 58 #[.pointer (some ⟨bd, 0, none⟩)] w fun e w' => e = .returned (.int .i64 r) ∧ Dr R w0 w' bd m' :=
  dr_step hR h hw (fun loc S bn bm sl bs lft hr => by
    have := Publish_rep hr
    rw [he] at this; exact this)
theorem dr_limit (hR : Nice R) (h : Dr R w0 w bd m) (n : Int) (hn : n ≤ 9223372036854775807) {r : Int} {m' : M} (he : m.setLimit n = (r, m')) (hw : m'.wt < 1073741823) :
    Calls Tryz.prog 36 #[.pointer (some ⟨bd, 0, none⟩), .int .i64 n] w fun e w' => e = .returned (.int .i64 r) ∧ Dr R w0 w' bd m' :=
  dr_step hR h hw (fun loc S bn bm sl bs lft hr => by
    have := Limit_rep hr n hn
    rw [he] at this; exact this)
theorem dr_crash (hR : Nice R) (h : Dr R w0 w bd m) : Calls Tryz.prog 28 #[.pointer (some ⟨bd, 0, none⟩)] w fun e w' => e = .returned (.tuple #[]) ∧ Dr R w0 w' bd m.crash :=
  dr_step hR h (show m.wt < _ from dr_wt h) (fun _ _ _ _ _ _ _ hr => Crash_rep hr)
theorem dr_down (h : Dr R w0 w bd m) {b : Bool} (he : m.down = b) : Calls Tryz.prog 37 #[.pointer (some ⟨bd, 0, none⟩)] w fun e w' => e = .returned (.bool b) ∧ w = w' :=
  dr_quiet h (fun loc S bn bm sl bs lft hr => by
    have := Down_rep hr
    rw [he] at this; exact this)
theorem dr_read (h : Dr R w0 w bd m) (n : ByteArray) (hs : n.size ≤ 1073741824) {b : Bs} {r : Int} (he : m.read n.data.toList = (b, r)) :
    Calls Tryz.prog 65 #[.pointer (some ⟨bd, 0, none⟩), .string n] w fun e w' => e = .returned (.tuple #[.string ⟨b.toArray⟩, .int .i64 r]) ∧ w = w' :=
  dr_quiet h (fun loc S bn bm sl bs lft hr => by
    have := Read_rep hr n (by unfold maxLen; omega)
    rw [he] at this; exact this)
theorem dr_size (h : Dr R w0 w bd m) (n : ByteArray) (hs : n.size ≤ 1073741824) {b : Bs} {r : Int} (he : m.read n.data.toList = (b, r)) :
    Calls Tryz.prog 121 #[.pointer (some ⟨bd, 0, none⟩), .string n] w fun e w' => e = .returned (.tuple #[.int .i64 b.length, .int .i64 r]) ∧ w = w' :=
  dr_quiet h (fun loc S bn bm sl bs lft hr => by
    have := Size_rep hr n (by unfold maxLen; omega)
    rw [he] at this; exact this)
theorem dr_free (h : Dr R w0 w bd m) {r : Int} (he : m.free = r) : Calls Tryz.prog 110 #[.pointer (some ⟨bd, 0, none⟩)] w fun e w' => e = .returned (.int .i64 r) ∧ Below w.heap.size w w' :=
  dr_quiet h (fun loc S bn bm sl bs lft hr => by
    refine (Free_rep hr (by have := dr_wt h; omega)).mono ?_
    rintro e w' ⟨rfl, hf⟩
    rw [he]
    exact ⟨rfl, hf.toBelow (Nat.le_refl _) (fun _ => False.elim)⟩)
theorem dr_names (h : Dr R w0 w bd m) : Calls Tryz.prog 61 #[.pointer (some ⟨bd, 0, none⟩)] w fun e w' => ∃ ao cp, e = .returned (.slice ao m.list.length cp) ∧ m.list.length ≤ cp ∧
    (0 < m.list.length → ∃ g, ao = some ⟨g, 0, none⟩ ∧ w.heap.size ≤ g ∧ g < w'.heap.size ∧ ∀ j, j < m.list.length → w'.cell? ⟨g, j, none⟩ = some (.string ⟨(m.list.getD j []).toArray⟩)) ∧ Below w.heap.size w w' :=
  dr_quiet h (fun loc S bn bm sl bs lft hr => by
    refine (Names_rep hr (by have := dr_wt h; omega)).mono ?_
    rintro e w' ⟨v, rfl, hrow, hbl⟩
    obtain ⟨ao, cp, rfl, h1, h2⟩ := own_strings hrow
    exact ⟨ao, cp, rfl, h1, h2, hbl⟩)
theorem dr_start (hR : Nice R) (h : Dr R w0 w bd m) (ao : Option Addr) (n c : Nat) (sc : List Int) (hv : IntsAt w (.slice ao n c) sc) :
    Calls Tryz.prog 39 #[.pointer (some ⟨bd, 0, none⟩), .slice ao n c] w fun e w' => e = .returned (.tuple #[]) ∧ Dr R w0 w' bd (m.start sc) := by
  have hwt := dr_wt h
  have h1 := start_wt (m := m) sc
  cases hd : m.down with
  | true => exact dr_step hR h (by omega) (fun loc S bn bm sl bs lft hr => Start_down hr (by omega) hd ao n c sc hv)
  | false =>
    rw [start_up sc hd]
    refine dr_quiet h (fun loc S bn bm sl bs lft hr => ?_)
    refine (Start_up hr hd ao n c).mono ?_
    rintro e w' ⟨rfl, hb2⟩
    exact ⟨rfl, Has.moved (Nice.star (nice_disk bd m) hR) h hb2⟩
theorem dr_new (hR : Nice R) (h : Has w0 w R) (c : Int) (h0 : 0 ≤ c) (h1 : c ≤ 16777216) :
    Calls Tryz.prog 25 #[.int .i64 c] w fun e w' => ∃ bd, e = .returned (.tuple #[.pointer (some ⟨bd, 0, none⟩), .int .i64 0]) ∧ Dr R w0 w' bd (M.new c) := by
  refine (New_rep c h0 h1 w).mono ?_
  rintro e w' ⟨bd, rfl, S, hS, hd, hb2⟩
  exact ⟨bd, rfl, h.new hR hb2 hS ⟨hd, by simp [M.wt, M.new]⟩⟩
end
end Go.Proofs.YtlhnjdoicolkkaaGreatDoor
