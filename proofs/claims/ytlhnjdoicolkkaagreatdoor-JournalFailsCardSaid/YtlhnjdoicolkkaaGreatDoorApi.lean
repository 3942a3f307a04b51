/- One disk that a call has made itself: its operations, one contract each. -/
import Derived.Test.YtlhnjdoicolkkaaGreatDoorStart
set_option maxRecDepth 100000
namespace Go.Proofs.YtlhnjdoicolkkaaGreatDoor
open Go.RowKit Go.Dsk Go.Maps Go.WideMaps
set_option maxHeartbeats 400000

/-- In w, which the call that began in w0 has come to, the disk at bd is m; it lies in new memory, and nothing that was there has turned. -/
structure Dk (w0 w : World) (bd : Nat) (m : M) : Prop where
  ex : ∃ S, (∀ i, S i → w0.heap.size ≤ i) ∧ DiskAt S w bd m
  below : Below w0.heap.size w0 w
  wt : m.wt < 1073741823

section
variable {w0 w : World} {bd : Nat} {m : M}

theorem Dk.step (h : Dk w0 w bd m) {f : FuncId} {args : Array Value} {Q : Ending → Prop} {m' : M} (hw : m'.wt < 1073741823)
    (hc : ∀ loc S bn bm sl bs lft, Rep loc S w bd bn bm sl bs lft m → Calls Tryz.prog f args w fun e w' => Q e ∧ After S w bd m' w') : Calls Tryz.prog f args w fun e w' => Q e ∧ Dk w0 w' bd m' := by
  obtain ⟨⟨S, hS, loc, bn, bm, sl, bs, lft, hr⟩, hb, _⟩ := h
  refine (hc loc S bn bm sl bs lft hr).mono ?_
  rintro e w' ⟨hq, S', hS', hd, hf⟩
  exact ⟨hq, ⟨S', fun i hi => (hS' i hi).elim (hS i) (fun h => Nat.le_trans hb.size h), hd⟩, hb.trans (hf.toBelow hb.size hS), hw⟩
theorem Dk.quiet (h : Dk w0 w bd m) {f : FuncId} {args : Array Value} {Q : Ending → Prop}
    (hc : ∀ loc S bn bm sl bs lft, Rep loc S w bd bn bm sl bs lft m → Calls Tryz.prog f args w fun e w' => Q e ∧ w = w') : Calls Tryz.prog f args w fun e w' => Q e ∧ w = w' := by
  obtain ⟨⟨S, hS, loc, bn, bm, sl, bs, lft, hr⟩, hb, _⟩ := h
  exact hc loc S bn bm sl bs lft hr
theorem Dk.ok (h : Dk w0 w bd m) : m.Ok := by
  obtain ⟨⟨S, hS, hd⟩, hb, _⟩ := h
  exact hd.ok
/-- Other blocks are written: the disk stays. -/
theorem Dk.moved (h : Dk w0 w bd m) {w' : World} (hf : Below w.heap.size w w') : Dk w0 w' bd m := by
  obtain ⟨⟨S, hS, hd⟩, hb, hw⟩ := h
  exact ⟨⟨S, hS, hd.none (Fr.below hf)⟩, hb.trans (hf.mono hb.size), hw⟩
theorem Dk.alloc (h : Dk w0 w bd m) (o : Obj) : Dk w0 (w.alloc o) bd m := h.moved ((Below.refl _ _).alloc (Nat.le_refl _) _)
theorem Dk.drew (h : Dk w0 w bd m) : Dk w0 w.drew bd m := h.moved (Below.refl _ _).drew

theorem New_dk (c : Int) (h0 : 0 ≤ c) (h1 : c ≤ 16777216) (hb : Below w0.heap.size w0 w) :
    Calls Tryz.prog 25 #[.int .i64 c] w fun e w' => ∃ bd, e = .returned (.tuple #[.pointer (some ⟨bd, 0, none⟩), .int .i64 0]) ∧ Dk w0 w' bd (M.new c) := by
  refine (New_rep c h0 h1 w).mono ?_
  rintro e w' ⟨bd, rfl, S, hS, hd, hb2⟩
  exact ⟨bd, rfl, ⟨S, fun i hi => Nat.le_trans hb.size (hS i hi), hd⟩, hb.trans (hb2.mono hb.size), by simp [M.wt, M.new]⟩

theorem Dk.append (h : Dk w0 w bd m) (n d : ByteArray) (hs : n.size ≤ 1073741824) (hds : d.size ≤ 1073741824) {r : Int} {m' : M} (he : m.append n.data.toList d.data.toList = (r, m')) (hw : m'.wt < 1073741823) :
    Calls Tryz.prog 53 #[.pointer (some ⟨bd, 0, none⟩), .string n, .string d] w fun e w' => e = .returned (.int .i64 r) ∧ Dk w0 w' bd m' :=
  h.step hw (fun loc S bn bm sl bs lft hr => by
    have := Append_rep hr (Nat.lt_trans h.wt (by omega)) n d (by unfold maxLen; omega) (by omega)
    rw [he] at this; exact this)
theorem Dk.sync (h : Dk w0 w bd m) (n : ByteArray) (hs : n.size ≤ 1073741824) {r : Int} {m' : M} (he : m.sync n.data.toList = (r, m')) (hw : m'.wt < 1073741823) :
    Calls Tryz.prog 57 #[.pointer (some ⟨bd, 0, none⟩), .string n] w fun e w' => e = .returned (.int .i64 r) ∧ Dk w0 w' bd m' :=
  h.step hw (fun loc S bn bm sl bs lft hr => by
    have := Sync_rep hr n (by unfold maxLen; omega)
    rw [he] at this; exact this)
theorem Dk.rename (h : Dk w0 w bd m) (a b : ByteArray) (hs : a.size ≤ 1073741824) (hds : b.size ≤ 1073741824) {r : Int} {m' : M} (he : m.rename a.data.toList b.data.toList = (r, m')) (hw : m'.wt < 1073741823) :
    Calls Tryz.prog 108 #[.pointer (some ⟨bd, 0, none⟩), .string a, .string b] w fun e w' => e = .returned (.int .i64 r) ∧ Dk w0 w' bd m' :=
  h.step hw (fun loc S bn bm sl bs lft hr => by
    have := Rename_rep hr (Nat.lt_trans h.wt (by omega)) a b (by unfold maxLen; omega) (by unfold maxLen; omega)
    rw [he] at this; exact this)
theorem Dk.remove (h : Dk w0 w bd m) (a : ByteArray) (hs : a.size ≤ 1073741824) {r : Int} {m' : M} (he : m.remove a.data.toList = (r, m')) (hw : m'.wt < 1073741823) :
    Calls Tryz.prog 64 #[.pointer (some ⟨bd, 0, none⟩), .string a] w fun e w' => e = .returned (.int .i64 r) ∧ Dk w0 w' bd m' :=
  h.step hw (fun loc S bn bm sl bs lft hr => by
    have := Remove_rep hr (Nat.lt_trans h.wt (by omega)) a (by unfold maxLen; omega)
    rw [he] at this; exact this)
theorem Dk.publish (h : Dk w0 w bd m) {r : Int} {m' : M} (he : m.publish = (r, m')) (hw : m'.wt < 1073741823) :
    Calls Tryz.prog 58 #[.pointer (some ⟨bd, 0, none⟩)] w fun e w' => e = .returned (.int .i64 r) ∧ Dk w0 w' bd m' :=
  h.step hw (fun loc S bn bm sl bs lft hr => by
    have := Publish_rep hr
    rw [he] at this; exact this)
theorem Dk.limit (h : Dk w0 w bd m) (n : Int) (hn : n ≤ 9223372036854775807) {r : Int} {m' : M} (he : m.setLimit n = (r, m')) (hw : m'.wt < 1073741823) :
    Calls Tryz.prog 36 #[.pointer (some ⟨bd, 0, none⟩), .int .i64 n] w fun e w' => e = .returned (.int .i64 r) ∧ Dk w0 w' bd m' :=
  h.step hw (fun loc S bn bm sl bs lft hr => by
    have := Limit_rep hr n hn
    rw [he] at this; exact this)
theorem Dk.crash (h : Dk w0 w bd m) : Calls Tryz.prog 28 #[.pointer (some ⟨bd, 0, none⟩)] w fun e w' => e = .returned (.tuple #[]) ∧ Dk w0 w' bd m.crash :=
  h.step (by exact h.wt) (fun loc S bn bm sl bs lft hr => Crash_rep hr)
theorem Dk.down (h : Dk w0 w bd m) {b : Bool} (he : m.down = b) : Calls Tryz.prog 37 #[.pointer (some ⟨bd, 0, none⟩)] w fun e w' => e = .returned (.bool b) ∧ w = w' :=
  h.quiet (fun loc S bn bm sl bs lft hr => by
    have := Down_rep hr
    rw [he] at this; exact this)
theorem Dk.read (h : Dk w0 w bd m) (n : ByteArray) (hs : n.size ≤ 1073741824) {b : Bs} {r : Int} (he : m.read n.data.toList = (b, r)) :
    Calls Tryz.prog 65 #[.pointer (some ⟨bd, 0, none⟩), .string n] w fun e w' => e = .returned (.tuple #[.string ⟨b.toArray⟩, .int .i64 r]) ∧ w = w' :=
  h.quiet (fun loc S bn bm sl bs lft hr => by
    have := Read_rep hr n (by unfold maxLen; omega)
    rw [he] at this; exact this)
theorem Dk.size (h : Dk w0 w bd m) (n : ByteArray) (hs : n.size ≤ 1073741824) {b : Bs} {r : Int} (he : m.read n.data.toList = (b, r)) :
    Calls Tryz.prog 121 #[.pointer (some ⟨bd, 0, none⟩), .string n] w fun e w' => e = .returned (.tuple #[.int .i64 b.length, .int .i64 r]) ∧ w = w' :=
  h.quiet (fun loc S bn bm sl bs lft hr => by
    have := Size_rep hr n (by unfold maxLen; omega)
    rw [he] at this; exact this)
theorem Dk.free (h : Dk w0 w bd m) {r : Int} (he : m.free = r) : Calls Tryz.prog 110 #[.pointer (some ⟨bd, 0, none⟩)] w fun e w' => e = .returned (.int .i64 r) ∧ Dk w0 w' bd m := by
  obtain ⟨⟨S, hS, loc, bn, bm, sl, bs, lft, hr⟩, hb, hw⟩ := id h
  refine (Free_rep hr (by omega)).mono ?_
  rintro e w' ⟨rfl, hf⟩
  rw [he]
  exact ⟨rfl, h.moved (hf.toBelow (Nat.le_refl _) (fun _ => False.elim))⟩
theorem Dk.names (h : Dk w0 w bd m) : Calls Tryz.prog 61 #[.pointer (some ⟨bd, 0, none⟩)] w fun e w' => ∃ ao cp, e = .returned (.slice ao m.list.length cp) ∧ m.list.length ≤ cp ∧
    (0 < m.list.length → ∃ g, ao = some ⟨g, 0, none⟩ ∧ w.heap.size ≤ g ∧ g < w'.heap.size ∧ ∀ j, j < m.list.length → w'.cell? ⟨g, j, none⟩ = some (.string ⟨(m.list.getD j []).toArray⟩)) ∧ Below w.heap.size w w' := by
  obtain ⟨⟨S, hS, loc, bn, bm, sl, bs, lft, hr⟩, hb, hw⟩ := id h
  refine (Names_rep hr (by omega)).mono ?_
  rintro e w' ⟨v, rfl, hrow, hbl⟩
  obtain ⟨ao, cp, rfl, h1, h2⟩ := own_strings hrow
  exact ⟨ao, cp, rfl, h1, h2, hbl⟩

theorem start_wt {m : M} (sc : List Int) : (m.start sc).wt ≤ m.wt := by
  unfold M.start
  split
  · exact Nat.le_refl _
  · unfold M.wt
    simp only [List.length_nil]
    have h1 := length_all (m.pending.take (pick sc m.pending.length).1) m.durable
    have h2 : (m.pending.take (pick sc m.pending.length).1).length ≤ m.pending.length := by simp; omega
    omega
theorem start_up {m : M} (sc : List Int) (h : m.down = false) : m.start sc = m := by simp [M.start, h]
theorem Dk.start (h : Dk w0 w bd m) (ao : Option Addr) (n c : Nat) (sc : List Int) (hv : IntsAt w (.slice ao n c) sc) :
    Calls Tryz.prog 39 #[.pointer (some ⟨bd, 0, none⟩), .slice ao n c] w fun e w' => e = .returned (.tuple #[]) ∧ Dk w0 w' bd (m.start sc) := by
  have hwt := h.wt
  have h1 := start_wt (m := m) sc
  cases hd : m.down with
  | true => exact h.step (by omega) (fun loc S bn bm sl bs lft hr => Start_down hr (by omega) hd ao n c sc hv)
  | false =>
    rw [start_up sc hd]
    obtain ⟨⟨S, hS, loc, bn, bm, sl, bs, lft, hr⟩, hb, hw⟩ := id h
    refine (Start_up hr hd ao n c).mono ?_
    rintro e w' ⟨rfl, hb2⟩
    exact ⟨rfl, h.moved hb2⟩
end
end Go.Proofs.YtlhnjdoicolkkaaGreatDoor
