/- The journal in memory; its small methods. -/
import Derived.Test.YtlhnjdoicolkkaaGreatDoorLScan
import Derived.Test.YtlhnjdoicolkkaaGreatDoorPlain
set_option maxRecDepth 100000
namespace Go.Proofs.YtlhnjdoicolkkaaGreatDoor
open Go.RowKit Go.Dsk Go.Maps Go.WideMaps
set_option maxHeartbeats 2000000
open Jnl (J)

theorem Star.inner {P Q Q' : SP} {U : Nat → Prop} {w : World} (h : Star P Q U w) (hi : ∀ T, Q T w → Q' T w) : Star P Q' U w := by
  obtain ⟨S, T, hu, hd, h1, h2⟩ := h
  exact ⟨S, T, hu, hd, h1, hi T h2⟩
theorem Has.turn {w0 w w' : World} {P P' R : SP} (hR : Nice R) (h : Has w0 w (Star P R)) (hc : ∀ S, P S w → Does S w P' w') : Has w0 w' (Star P' R) := by
  obtain ⟨hb0, U, hU, S, T, hu, hd, h1, h2⟩ := h
  obtain ⟨S', hS', hq, hf⟩ := hc S h1
  refine ⟨hb0.trans (hf.toBelow hb0.size (fun i hi => hU i ((hu i).2 (.inl hi)))), fun i => S' i ∨ T i, ?_, S', T, fun i => Iff.rfl, ?_, hq, hR.keep h2 hf (fun i hi hs => hd i hs hi)⟩
  · rintro i (hi | hi)
    · rcases hS' i hi with h | h
      · exact hU i ((hu i).2 (.inl h))
      · exact Nat.le_trans hb0.size h
    · exact hU i ((hu i).2 (.inr hi))
  · intro i hi ht
    rcases hS' i hi with h | h
    · exact hd i h ht
    · have := hR.lt h2 i ht; omega

/-- A row of strings of its own; if it is empty there is no room in it. -/
def StrP (v : Value) (l : List Bs) : SP := fun S w => (∀ i, S i ↔ v.ownBlock = some i) ∧ w.ownsRow 0 9 1 v l.length (l.map strV) ∧ (∀ a cap, v = .slice a 0 cap → cap = 0)
theorem nice_str (v : Value) (l : List Bs) : Nice (StrP v l) where
  lt h i hi := (h.2.1.lt i ((h.1 i).1 hi)).2
  keep h hf hd := ⟨h.1, row_same h.2.1 fun j hj => hf.block j (h.2.1.lt j hj).2 (.inl (hd j ((h.1 j).2 hj))), h.2.2⟩
theorem str_nil (w : World) : StrP (.slice none 0 0) [] (fun _ => False) w := ⟨fun i => by simp [Value.ownBlock], World.ownsRow_nil _ _ _ _, fun a cap h => by simp at h; omega⟩
theorem StrP.reads {v : Value} {l : List Bs} {S : Nat → Prop} {w : World} (h : StrP v l S w) : StrsIn w v l := by
  obtain ⟨_, ⟨h1, ⟨rfl, h2⟩ | ⟨g, cap, cur, rfl, hg, hh, h3, h4, h5, h6⟩⟩, hn⟩ := h
  · exact ⟨none, 0, by rw [h2], by omega, by unfold maxLen; omega, fun h => by omega⟩
  · refine ⟨_, cap, rfl, h3, h4, fun h0 => ⟨g, 0, rfl, lt_of_block hh, fun j hj => ?_⟩⟩
    have e : cur[j]? = some (strV (l.getD j [])) := by
      have e1 : (cur.toList.take (l.length * 1))[j]? = (l.map strV)[j]? := by rw [h6]
      rw [List.getElem?_take_of_lt (by omega)] at e1
      rw [← Array.getElem?_toList, e1]
      simp [List.getD_eq_getElem?_getD, List.getElem?_eq_getElem hj]
    rw [Nat.zero_add, block_cell hh]
    exact e
theorem StrP.shape {v : Value} {l : List Bs} {S : Nat → Prop} {w : World} (h : StrP v l S w) : ∃ ao c, v = .slice ao l.length c ∧ l.length ≤ c ∧ c ≤ maxLen := by
  obtain ⟨ao, c, e, h1, h2, _⟩ := h.reads
  exact ⟨ao, c, e, h1, h2⟩

def jCells (bd : Nat) (n : ByteArray) (j : J) (vr vp : Value) : Array Value := #[.pointer (some ⟨bd, 0, none⟩), .string n, .int .i64 j.first, vr, vp, .bool j.has, .bool j.broken]
def JBlk (bj bd : Nat) (n : ByteArray) (j : J) (vr vp : Value) : SP := fun S w => (∀ i, S i ↔ i = bj) ∧ w.heap[bj]? = some (.cells (jCells bd n j vr vp) 86 (0, 0))
theorem nice_jblk (bj bd : Nat) (n : ByteArray) (j : J) (vr vp : Value) : Nice (JBlk bj bd n j vr vp) where
  lt h i hi := by rw [(h.1 i).1 hi]; exact lt_of_block h.2
  keep h hf hd := ⟨h.1, (hf.block bj (lt_of_block h.2) (.inl (hd bj ((h.1 bj).2 rfl)))).trans h.2⟩
/-- The sizes that a journal keeps. -/
structure Fit (j : J) : Prop where
  first : j.first ≤ 1099511627776
  recs : j.recs.length ≤ 1073741824
  pend : j.pend.length ≤ 64
  lenR : ∀ r ∈ j.recs, r.length ≤ 4096
  lenP : ∀ r ∈ j.pend, r.length ≤ 4096
/-- The journal at bj, with its disk at bd. -/
def JrnP (bj bd : Nat) (n : ByteArray) (j : J) : SP := fun S w => Fit j ∧ ∃ vr vp, Star (JBlk bj bd n j vr vp) (Star (StrP vr j.recs) (StrP vp j.pend)) S w
theorem nice_jrn (bj bd : Nat) (n : ByteArray) (j : J) : Nice (JrnP bj bd n j) where
  lt h i hi := by
    obtain ⟨_, vr, vp, h⟩ := h
    exact (Nice.star (nice_jblk bj bd n j vr vp) (Nice.star (nice_str vr j.recs) (nice_str vp j.pend))).lt h i hi
  keep h hf hd := by
    obtain ⟨hF, vr, vp, h⟩ := h
    exact ⟨hF, vr, vp, (Nice.star (nice_jblk bj bd n j vr vp) (Nice.star (nice_str vr j.recs) (nice_str vp j.pend))).keep h hf hd⟩
section
variable {w0 w : World} {bj bd : Nat} {n : ByteArray} {j : J} {R : SP}
/-- A journal, and R beside it. -/
abbrev Jr (R : SP) (w0 w : World) (bj bd : Nat) (n : ByteArray) (j : J) : Prop := Has w0 w (Star (JrnP bj bd n j) R)
/-- What can be read of a journal. -/
structure JSee (w : World) (bj bd : Nat) (n : ByteArray) (j : J) (vr vp : Value) : Prop where
  fit : Fit j
  hd : w.heap[bj]? = some (.cells (jCells bd n j vr vp) 86 (0, 0))
  r : StrsIn w vr j.recs
  p : StrsIn w vp j.pend
theorem JrnP.see {S : Nat → Prop} (h : JrnP bj bd n j S w) : ∃ vr vp, JSee w bj bd n j vr vp := by
  obtain ⟨hF, vr, vp, A, B, hu, hdj, h1, C, D, hu2, hdj2, h2, h3⟩ := h
  exact ⟨vr, vp, hF, h1.2, h2.reads, h3.reads⟩
theorem jr_see (h : Jr R w0 w bj bd n j) : ∃ vr vp, JSee w bj bd n j vr vp := Has.quiet h fun _ hS => hS.see
theorem JSee.c0 {vr vp : Value} (h : JSee w bj bd n j vr vp) : w.cell? ⟨bj, 0, none⟩ = some (.pointer (some ⟨bd, 0, none⟩)) := by have := block_cell h.hd 0; simpa [jCells] using this
theorem JSee.c1 {vr vp : Value} (h : JSee w bj bd n j vr vp) : w.cell? ⟨bj, 1, none⟩ = some (.string n) := by have := block_cell h.hd 1; simpa [jCells] using this
theorem JSee.c2 {vr vp : Value} (h : JSee w bj bd n j vr vp) : w.cell? ⟨bj, 2, none⟩ = some (.int .i64 j.first) := by have := block_cell h.hd 2; simpa [jCells] using this
theorem JSee.c3 {vr vp : Value} (h : JSee w bj bd n j vr vp) : w.cell? ⟨bj, 3, none⟩ = some vr := by have := block_cell h.hd 3; simpa [jCells] using this
theorem JSee.c4 {vr vp : Value} (h : JSee w bj bd n j vr vp) : w.cell? ⟨bj, 4, none⟩ = some vp := by have := block_cell h.hd 4; simpa [jCells] using this
theorem JSee.c5 {vr vp : Value} (h : JSee w bj bd n j vr vp) : w.cell? ⟨bj, 5, none⟩ = some (.bool j.has) := by have := block_cell h.hd 5; simpa [jCells] using this
theorem JSee.c6 {vr vp : Value} (h : JSee w bj bd n j vr vp) : w.cell? ⟨bj, 6, none⟩ = some (.bool j.broken) := by have := block_cell h.hd 6; simpa [jCells] using this
theorem JSee.free {vr vp : Value} (h : JSee w bj bd n j vr vp) (i : Nat) : w.frozen? ⟨bj, i, none⟩ = false := block_free h.hd i
theorem state_broken {vr vp : Value} (h : JSee w bj bd n j vr vp) (hb : j.broken = true) : Calls Tryz.prog 50 #[.pointer (some ⟨bj, 0, none⟩)] w fun e w' => e = .returned (.int .i64 18) ∧ w' = w := by
  have c6 := h.c6
  rw [hb] at c6
  clear h
  go_enter Tryz.func50, Tryz.ntmps50
  go_wp2_with fail
  go_ret
  exact ⟨rfl, rfl⟩
theorem state_well {vr vp : Value} (h : JSee w bj bd n j vr vp) (hb : j.broken = false) : Calls Tryz.prog 50 #[.pointer (some ⟨bj, 0, none⟩)] w fun e w' => e = .returned (.int .i64 0) ∧ w' = w := by
  have c6 := h.c6
  rw [hb] at c6
  clear h
  go_enter Tryz.func50, Tryz.ntmps50
  go_wp2_with fail
  go_ret
  exact ⟨rfl, rfl⟩
theorem state_nil : Calls Tryz.prog 50 #[.pointer none] w fun e w' => e = .returned (.int .i64 1) ∧ w' = w := by
  go_enter Tryz.func50, Tryz.ntmps50
  go_wp2_with fail
  go_ret
  exact ⟨rfl, rfl⟩
theorem First_any {vr vp : Value} (h : JSee w bj bd n j vr vp) : Calls Tryz.prog 32 #[.pointer (some ⟨bj, 0, none⟩)] w fun e w' => e = .returned (.int .i64 (if j.broken then 0 else (j.first : Int))) ∧ w' = w := by
  have c2 := h.c2
  cases hb : j.broken with
  | true =>
    have hs := state_broken h hb
    clear h
    go_enter Tryz.func32, Tryz.ntmps32
    go_wp2_with fail
    refine hs.mono ?_
    rintro e w1 ⟨rfl, rfl⟩
    go_wp2_with fail
    go_ret
    exact ⟨rfl, rfl⟩
  | false =>
    have hs := state_well h hb
    clear h
    go_enter Tryz.func32, Tryz.ntmps32
    go_wp2_with fail
    refine hs.mono ?_
    rintro e w1 ⟨rfl, rfl⟩
    go_wp2_with fail
    go_ret
    exact ⟨rfl, rfl⟩
theorem Pending_any {vr vp : Value} (h : JSee w bj bd n j vr vp) : Calls Tryz.prog 23 #[.pointer (some ⟨bj, 0, none⟩)] w fun e w' => e = .returned (.int .i64 (if j.broken then 0 else (j.pend.length : Int))) ∧ w' = w := by
  have c4 := h.c4
  obtain ⟨ao, c, rfl, -⟩ := h.p
  cases hb : j.broken with
  | true =>
    have hs := state_broken h hb
    clear h
    go_enter Tryz.func23, Tryz.ntmps23
    go_wp2_with fail
    refine hs.mono ?_
    rintro e w1 ⟨rfl, rfl⟩
    go_wp2_with fail
    go_ret
    exact ⟨rfl, rfl⟩
  | false =>
    have hs := state_well h hb
    clear h
    go_enter Tryz.func23, Tryz.ntmps23
    go_wp2_with fail
    refine hs.mono ?_
    rintro e w1 ⟨rfl, rfl⟩
    go_wp2_with fail
    go_ret
    exact ⟨rfl, rfl⟩
theorem Last_any {vr vp : Value} (h : JSee w bj bd n j vr vp) : Calls Tryz.prog 33 #[.pointer (some ⟨bj, 0, none⟩)] w fun e w' => e = .returned (.int .i64 j.last) ∧ ∃ q, w' = w.drewN q := by
  have c2 := h.c2
  have c3 := h.c3
  have f1 := h.fit.first
  have f2 := h.fit.recs
  obtain ⟨ao, c, rfl, -⟩ := h.r
  unfold Jnl.J.last
  cases hb : j.broken with
  | true =>
    have hs := state_broken h hb
    clear h
    go_enter Tryz.func33, Tryz.ntmps33
    go_wp2_with fail
    refine hs.mono ?_
    rintro e w1 ⟨rfl, rfl⟩
    go_wp2_with fail
    go_ret
    exact ⟨rfl, 0, rfl⟩
  | false =>
    have hs := state_well h hb
    have e1 : wrap64 ((j.first : Int) + (j.recs.length : Int)) = (j.first : Int) + (j.recs.length : Int) := IntWalk.wrap64_in _ (by omega)
    have e2 : wrap64 ((j.first : Int) + (j.recs.length : Int) - 1) = (j.first : Int) + (j.recs.length : Int) - 1 := IntWalk.wrap64_in _ (by omega)
    clear h
    go_enter Tryz.func33, Tryz.ntmps33
    go_wp2_with fail
    refine hs.mono ?_
    rintro e w1 ⟨rfl, rfl⟩
    go_upto_region 3 with fail
    go_quiet (fail)
    go_wp2_with fail
    go_ret
    exact ⟨rfl, nq, rfl⟩
theorem ba_log (n : ByteArray) : n ++ ⟨#[46, 108, 111, 103]⟩ = (⟨(Jnl.logName n.data.toList).toArray⟩ : ByteArray) := by
  have := ba_append n.data.toList [46, 108, 111, 103]
  rw [ba_self] at this
  exact this
theorem ba_new (n : ByteArray) : n ++ ⟨#[46, 110, 101, 119]⟩ = (⟨(Jnl.newName n.data.toList).toArray⟩ : ByteArray) := by
  have := ba_append n.data.toList [46, 110, 101, 119]
  rw [ba_self] at this
  exact this
theorem jfile_any (c1 : w.cell? ⟨bj, 1, none⟩ = some (.string n)) (hn : n.size ≤ 1048576) : Calls Tryz.prog 54 #[.pointer (some ⟨bj, 0, none⟩)] w fun e w' => e = .returned (.string ⟨(Jnl.logName n.data.toList).toArray⟩) ∧ w' = w := by
  go_enter Tryz.func54, Tryz.ntmps54
  go_wp2_with fail
  go_ret
  rw [← ba_log]
  exact ⟨rfl, rfl⟩
theorem jnext_any (c1 : w.cell? ⟨bj, 1, none⟩ = some (.string n)) (hn : n.size ≤ 1048576) : Calls Tryz.prog 63 #[.pointer (some ⟨bj, 0, none⟩)] w fun e w' => e = .returned (.string ⟨(Jnl.newName n.data.toList).toArray⟩) ∧ w' = w := by
  go_enter Tryz.func63, Tryz.ntmps63
  go_wp2_with fail
  go_ret
  rw [← ba_new]
  exact ⟨rfl, rfl⟩
end
end Go.Proofs.YtlhnjdoicolkkaaGreatDoor
