/- The document's model of a journal in memory; its small functions. -/
import Derived.Test.YtlhnjdoicolkkaaGreatDoorJReplace
import Derived.Test.YtlhnjdoicolkkaaGreatDoorJName
import Derived.BigQuiet
import Derived.Deep.RegionHeld3
set_option maxRecDepth 100000
namespace Go.Proofs.YtlhnjdoicolkkaaGreatDoor
open Go.RowKit Go.Dsk Go.Maps Go.WideMaps
set_option maxHeartbeats 2000000
open Jnl (J)

/-- The block of a list that is not empty. -/
def rdBlk : Value → Option Nat
  | .slice (some a) (_ + 1) _ => some a.block
  | _ => none
/-- A list of strings that can be read. -/
def RdP (v : Value) (l : List Bs) : SP := fun S w => (∀ i, S i ↔ rdBlk v = some i) ∧ StrsIn w v l
theorem rd_blk {w : World} {v : Value} {l : List Bs} (h : StrsIn w v l) {i : Nat} (hi : rdBlk v = some i) : i < w.heap.size := by
  obtain ⟨ao, c, rfl, h1, h2, hc⟩ := h
  cases hl : l.length with
  | zero =>
    rw [hl] at hi
    cases ao <;> simp [rdBlk] at hi
  | succ m =>
    obtain ⟨b, off, rfl, hlt, _⟩ := hc (by omega)
    rw [hl] at hi
    simp only [rdBlk, Option.some.injEq] at hi
    omega
theorem nice_rd (v : Value) (l : List Bs) : Nice (RdP v l) where
  lt h i hi := rd_blk h.2 ((h.1 i).1 hi)
  keep h hf hd := by
    obtain ⟨h0, ao, c, rfl, h1, h2, hc⟩ := h
    refine ⟨h0, ao, c, rfl, h1, h2, fun hl => ?_⟩
    obtain ⟨b, off, rfl, hlt, hcell⟩ := hc hl
    refine ⟨b, off, rfl, Nat.lt_of_lt_of_le hlt hf.size, fun j hj => ?_⟩
    have hb : rdBlk (.slice (some ⟨b, off, none⟩) l.length c) = some b := by
      cases hm : l.length with
      | zero => omega
      | succ m => rfl
    exact (World.cell?_of_block (a := ⟨b, off + j, none⟩) (hf.block b hlt (.inl (hd b ((h0 b).2 hb))))).trans (hcell j hj)
abbrev pm (b : Nat) : Value := .pointer (some ⟨b, 0, none⟩)
def mCells (bd : Nat) (n : ByteArray) (j : J) (vr vp : Value) : Array Value := #[.pointer (some ⟨bd, 0, none⟩), .string n, .int .i64 j.first, vr, vp, .bool j.broken]
def MBlk (bm bd : Nat) (n : ByteArray) (j : J) (vr vp : Value) : SP := fun S w => (∀ i, S i ↔ i = bm) ∧ w.heap[bm]? = some (.cells (mCells bd n j vr vp) 72 (0, 0))
theorem nice_mblk (bm bd : Nat) (n : ByteArray) (j : J) (vr vp : Value) : Nice (MBlk bm bd n j vr vp) where
  lt h i hi := by rw [(h.1 i).1 hi]; exact lt_of_block h.2
  keep h hf hd := ⟨h.1, (hf.block bm (lt_of_block h.2) (.inl (hd bm ((h.1 bm).2 rfl)))).trans h.2⟩
/-- The model at bm, with its disk at bd. -/
def MdlP (bm bd : Nat) (n : ByteArray) (j : J) : SP := fun S w => Fit j ∧ ∃ vr vp, Star (MBlk bm bd n j vr vp) (Star (RdP vr j.recs) (StrP vp j.pend)) S w
theorem nice_mdl (bm bd : Nat) (n : ByteArray) (j : J) : Nice (MdlP bm bd n j) where
  lt h i hi := by
    obtain ⟨_, vr, vp, h⟩ := h
    exact (Nice.star (nice_mblk bm bd n j vr vp) (Nice.star (nice_rd vr j.recs) (nice_str vp j.pend))).lt h i hi
  keep h hf hd := by
    obtain ⟨hF, vr, vp, h⟩ := h
    exact ⟨hF, vr, vp, (Nice.star (nice_mblk bm bd n j vr vp) (Nice.star (nice_rd vr j.recs) (nice_str vp j.pend))).keep h hf hd⟩
/-- A model whose two lists are known. -/
def MdlV (bm bd : Nat) (n : ByteArray) (j : J) (vr vp : Value) : SP := fun S w => Fit j ∧ Star (MBlk bm bd n j vr vp) (Star (RdP vr j.recs) (StrP vp j.pend)) S w
theorem nice_mdlv (bm bd : Nat) (n : ByteArray) (j : J) (vr vp : Value) : Nice (MdlV bm bd n j vr vp) where
  lt h i hi := (Nice.star (nice_mblk bm bd n j vr vp) (Nice.star (nice_rd vr j.recs) (nice_str vp j.pend))).lt h.2 i hi
  keep h hf hd := ⟨h.1, (Nice.star (nice_mblk bm bd n j vr vp) (Nice.star (nice_rd vr j.recs) (nice_str vp j.pend))).keep h.2 hf hd⟩
section
variable {w0 w : World} {bm bd : Nat} {n : ByteArray} {j : J} {d : M} {R : SP} {S : Nat → Prop}
/-- What can be read of a model. -/
structure MSee (w : World) (bm bd : Nat) (n : ByteArray) (j : J) (vr vp : Value) : Prop where
  fit : Fit j
  hd : w.heap[bm]? = some (.cells (mCells bd n j vr vp) 72 (0, 0))
  r : StrsIn w vr j.recs
  p : StrsIn w vp j.pend
theorem MdlP.see (h : MdlP bm bd n j S w) : ∃ vr vp, MSee w bm bd n j vr vp := by
  obtain ⟨hF, vr, vp, A, B, hu, hdj, h1, C, D, hu2, hdj2, h2, h3⟩ := h
  exact ⟨vr, vp, hF, h1.2, h2.2, h3.reads⟩
theorem MSee.c0 {vr vp : Value} (h : MSee w bm bd n j vr vp) : w.cell? ⟨bm, 0, none⟩ = some (.pointer (some ⟨bd, 0, none⟩)) := by have := block_cell h.hd 0; simpa [mCells] using this
theorem MSee.c1 {vr vp : Value} (h : MSee w bm bd n j vr vp) : w.cell? ⟨bm, 1, none⟩ = some (.string n) := by have := block_cell h.hd 1; simpa [mCells] using this
theorem MSee.c2 {vr vp : Value} (h : MSee w bm bd n j vr vp) : w.cell? ⟨bm, 2, none⟩ = some (.int .i64 j.first) := by have := block_cell h.hd 2; simpa [mCells] using this
theorem MSee.c3 {vr vp : Value} (h : MSee w bm bd n j vr vp) : w.cell? ⟨bm, 3, none⟩ = some vr := by have := block_cell h.hd 3; simpa [mCells] using this
theorem MSee.c4 {vr vp : Value} (h : MSee w bm bd n j vr vp) : w.cell? ⟨bm, 4, none⟩ = some vp := by have := block_cell h.hd 4; simpa [mCells] using this
theorem MSee.c5 {vr vp : Value} (h : MSee w bm bd n j vr vp) : w.cell? ⟨bm, 5, none⟩ = some (.bool j.broken) := by have := block_cell h.hd 5; simpa [mCells] using this
theorem MSee.free {vr vp : Value} (h : MSee w bm bd n j vr vp) (i : Nat) : w.frozen? ⟨bm, i, none⟩ = false := block_free h.hd i
theorem nobox_m {vr vp : Value} (h : w.heap[bm]? = some (.cells (mCells bd n j vr vp) 72 (0, 0))) : ¬ IsBox w bm := by
  rintro ⟨s, hs⟩
  rw [h] at hs
  simp at hs
theorem mdl_blk {j' : J} {w' : World} (h : MdlP bm bd n j S w) (hf : Fit j') (hr : j'.recs = j.recs) (hp : j'.pend = j.pend)
    (hset : ∀ vr vp, w.heap[bm]? = some (.cells (mCells bd n j vr vp) 72 (0, 0)) → w'.heap[bm]? = some (.cells (mCells bd n j' vr vp) 72 (0, 0))) (hfr : Fr (fun i => i = bm) w w') : Does S w (MdlP bm bd n j') w' := by
  obtain ⟨hF, vr, vp, A, B, hu, hdj, h1, h2⟩ := h
  refine ⟨S, fun i hi => .inl hi, ⟨hf, vr, vp, A, B, hu, hdj, ⟨h1.1, hset vr vp h1.2⟩, ?_⟩, hfr.mono fun i hi => (hu i).2 (.inl ((h1.1 i).2 hi))⟩
  rw [hr, hp]
  exact (Nice.star (nice_rd vr j.recs) (nice_str vp j.pend)).keep h2 hfr fun i hi e => hdj i ((h1.1 i).2 e) hi
/-- A disk and a model upon it. -/
abbrev DM (R : SP) (w0 w : World) (bd : Nat) (d : M) (bm : Nat) (n : ByteArray) (j : J) : Prop := Has w0 w (Star (DiskP bd d) (Star (MdlP bm bd n j) R))
theorem nice_dm (hR : Nice R) : Nice (Star (DiskP bd d) (Star (MdlP bm bd n j) R)) := Nice.star (nice_disk _ _) (Nice.star (nice_mdl _ _ _ _) hR)
theorem dm_see (h : DM R w0 w bd d bm n j) : ∃ vr vp, MSee w bm bd n j vr vp := h.left.quiet fun _ hS => hS.see
theorem MdlV.see {vr vp : Value} (h : MdlV bm bd n j vr vp S w) : MSee w bm bd n j vr vp := by
  obtain ⟨hF, A, B, hu, hdj, h1, C, D, hu2, hdj2, h2, h3⟩ := h
  exact ⟨hF, h1.2, h2.2, h3.reads⟩
abbrev DMV (R : SP) (w0 w : World) (bd : Nat) (d : M) (bm : Nat) (n : ByteArray) (j : J) (vr vp : Value) : Prop := Has w0 w (Star (DiskP bd d) (Star (MdlV bm bd n j vr vp) R))
theorem nice_dmv {vr vp : Value} (hR : Nice R) : Nice (Star (DiskP bd d) (Star (MdlV bm bd n j vr vp) R)) := Nice.star (nice_disk _ _) (Nice.star (nice_mdlv _ _ _ _ _ _) hR)
theorem dmv_see {vr vp : Value} (h : DMV R w0 w bd d bm n j vr vp) : MSee w bm bd n j vr vp := h.left.quiet fun _ hS => hS.see
theorem dmv_dm {vr vp : Value} (h : DMV R w0 w bd d bm n j vr vp) : DM R w0 w bd d bm n j := h.imp fun _ h => h.inner fun _ h => h.first fun _ h => (⟨h.1, vr, vp, h.2⟩ : MdlP bm bd n j _ w)
theorem dm_open (h : DM R w0 w bd d bm n j) : ∃ vr vp, DMV R w0 w bd d bm n j vr vp := by
  obtain ⟨hb0, U, hU, S, T, hu, hd, h1, A, B, hu2, hd2, ⟨hF, vr, vp, h3⟩, h4⟩ := h
  exact ⟨vr, vp, hb0, U, hU, S, T, hu, hd, h1, A, B, hu2, hd2, ⟨hF, h3⟩, h4⟩
theorem mdlv_blk {vr vp : Value} {j' : J} {w' : World} (h : MdlV bm bd n j vr vp S w) (hf : Fit j') (hr : j'.recs = j.recs) (hp : j'.pend = j.pend)
    (hset : w.heap[bm]? = some (.cells (mCells bd n j vr vp) 72 (0, 0)) → w'.heap[bm]? = some (.cells (mCells bd n j' vr vp) 72 (0, 0))) (hfr : Fr (fun i => i = bm) w w') : Does S w (MdlV bm bd n j' vr vp) w' := by
  obtain ⟨hF, A, B, hu, hdj, h1, h2⟩ := h
  refine ⟨S, fun i hi => .inl hi, ⟨hf, A, B, hu, hdj, ⟨h1.1, hset h1.2⟩, ?_⟩, hfr.mono fun i hi => (hu i).2 (.inl ((h1.1 i).2 hi))⟩
  rw [hr, hp]
  exact (Nice.star (nice_rd vr j.recs) (nice_str vp j.pend)).keep h2 hfr fun i hi e => hdj i ((h1.1 i).2 e) hi
theorem done_good (w : World) (bm : Nat) (e : Int) (he : e ≠ 32) (he2 : e ≠ 18) : Calls Tryz.prog 109 #[pm bm, .int .i64 e] w fun r w' => r = .returned (.int .i64 e) ∧ w' = w := by
  have h1 : (e == 32) = false := by simpa using he
  have h2 : (e == 18) = false := by simpa using he2
  go_enter Tryz.func109, Tryz.ntmps109
  go_wp2_with fail
  go_ret
  exact ⟨rfl, rfl⟩
theorem done_bad {vr vp : Value} (h : MdlV bm bd n j vr vp S w) (e : Int) (he : e = 32 ∨ e = 18) : Calls Tryz.prog 109 #[pm bm, .int .i64 e] w fun r w' => r = .returned (.int .i64 e) ∧ w' = w.setCell ⟨bm, 5, none⟩ (.bool true) := by
  have hs := h.see
  have c5 := hs.c5
  have z5 := hs.free 5
  clear h hs
  rcases he with rfl | rfl
  · go_enter Tryz.func109, Tryz.ntmps109
    go_wp2_with fail
    go_ret
    exact ⟨rfl, rfl⟩
  · go_enter Tryz.func109, Tryz.ntmps109
    go_wp2_with fail
    go_ret
    exact ⟨rfl, rfl⟩
theorem did_other (j : J) {e : Int} (he : e ≠ 32) (he2 : e ≠ 18) : j.did e = j := by
  cases j
  simp [Jnl.J.did, Jnl.bad, he, he2]
theorem did_fit (hF : Fit j) (e : Int) : Fit (j.did e) := ⟨hF.first, hF.recs, hF.pend, hF.lenR, hF.lenP⟩
theorem done_mdl {vr vp : Value} (hR : Nice R) (h : Has w0 w (Star (MdlV bm bd n j vr vp) R)) (e : Int) : Calls Tryz.prog 109 #[pm bm, .int .i64 e] w fun r w' => r = .returned (.int .i64 e) ∧ Has w0 w' (Star (MdlV bm bd n (j.did e) vr vp) R) :=
  Has.pair (h.does hR (Q := fun r S w => r = .returned (.int .i64 e) ∧ MdlV bm bd n (j.did e) vr vp S w) (fun S hS => by
    by_cases hb : e = 32 ∨ e = 18
    · refine (done_bad hS e hb).mono ?_
      rintro r w' ⟨hr, rfl⟩
      have hs := hS.see
      have hd : j.did e = { j with broken := true } := by
        rcases hb with rfl | rfl <;> simp [Jnl.J.did, Jnl.bad]
      obtain ⟨S', a, b, c⟩ := mdlv_blk (j' := j.did e) (w' := w.setCell ⟨bm, 5, none⟩ (.bool true)) hS (did_fit hs.fit e) rfl rfl (fun hd2 => by rw [hd]; exact block_set hd2 5 _)
        ((Fr.refl (fun i => i = bm) w).setCell (p := ⟨bm, 5, none⟩) (.inl rfl) (nobox_m hs.hd) _)
      exact ⟨S', a, ⟨hr, b⟩, c⟩
    · refine (done_good w bm e (fun h => hb (.inl h)) (fun h => hb (.inr h))).mono ?_
      rintro r w' ⟨hr, rfl⟩
      rw [did_other j (fun h => hb (.inl h)) (fun h => hb (.inr h))]
      exact ⟨S, fun i hi => .inl hi, ⟨hr, hS⟩, Fr.refl _ _⟩))
theorem llast_any {vr vp : Value} (h : MSee w bm bd n j vr vp) : Calls Tryz.prog 72 #[pm bm] w fun e w' => e = .returned (.int .i64 ((j.first : Int) + j.recs.length - 1)) ∧ ∃ q, w' = w.drewN q := by
  have c2 := h.c2
  have c3 := h.c3
  have f1 := h.fit.first
  have f2 := h.fit.recs
  obtain ⟨ao, c, rfl, -⟩ := h.r
  have e1 : wrap64 ((j.first : Int) + (j.recs.length : Int)) = (j.first : Int) + (j.recs.length : Int) := IntWalk.wrap64_in _ (by omega)
  have e2 : wrap64 ((j.first : Int) + (j.recs.length : Int) - 1) = (j.first : Int) + (j.recs.length : Int) - 1 := IntWalk.wrap64_in _ (by omega)
  clear h
  go_enter Tryz.func72, Tryz.ntmps72
  go_upto_region 1 with fail
  go_quiet (fail)
  go_wp2_with fail
  go_ret
  exact ⟨rfl, nq, rfl⟩
theorem lhas_any (h : DM R w0 w bd d bm n j) (s : ByteArray) (hs : s.size ≤ 1073741824) : Calls Tryz.prog 89 #[pm bm, .string s] w fun e w' => e = .returned (.bool (decide ((d.read s.data.toList).2 = 0))) ∧ w' = w := by
  obtain ⟨vr, vp, hm⟩ := dm_see h
  have c0 := hm.c0
  obtain ⟨⟨b, r⟩, hr⟩ : ∃ p, d.read s.data.toList = p := ⟨_, rfl⟩
  have hsz := dr_size h s hs hr
  rw [hr]
  have hd : (r == 0) = decide (r = 0) := by rw [Bool.eq_iff_iff]; simp
  clear h hm hr
  go_enter Tryz.func89, Tryz.ntmps89
  go_wp2_with fail
  refine hsz.mono ?_
  rintro e w1 ⟨rfl, hw⟩
  obtain rfl := hw
  go_wp2_with fail
  go_ret
  exact ⟨rfl, rfl⟩
end
end Go.Proofs.YtlhnjdoicolkkaaGreatDoor
