/- The document's model of a journal in memory; its small functions. -/
import Derived.Test.YtlhnjdoicolkkaaGreatDoorJReplace
import Derived.Test.YtlhnjdoicolkkaaGreatDoorJName
import Derived.BigQuiet
import Derived.Deep.RegionHeld3
import Derived.Deep.AppendLies
import Derived.BigRegion
import Derived.Laws.Concat
import Derived.Test.YtlhnjdoicolkkaaGreatDoorJShort
set_option maxRecDepth 100000
namespace Go.Proofs.YtlhnjdoicolkkaaGreatDoor
open Go.RowKit Go.Dsk Go.Maps Go.WideMaps
set_option maxHeartbeats 2000000
open Jnl (J)

/-- The block of a list that is not empty. -/
def rdBlk : Value → Option Nat
  | .slice (some a) (_ + 1) _ => some a.block
  | _ => none
/-- A list of strings that can be read. -/
def RdP (v : Value) (l : List Bs) : SP := fun S w => (∀ i, S i ↔ rdBlk v = some i) ∧ StrsIn w v l
theorem rd_blk {w : World} {v : Value} {l : List Bs} (h : StrsIn w v l) {i : Nat} (hi : rdBlk v = some i) : i < w.heap.size := by
  obtain ⟨ao, c, rfl, h1, h2, hc⟩ := h
  cases hl : l.length with
  | zero =>
    rw [hl] at hi
    cases ao <;> simp [rdBlk] at hi
  | succ m =>
    obtain ⟨b, off, rfl, hlt, _⟩ := hc (by omega)
    rw [hl] at hi
    simp only [rdBlk, Option.some.injEq] at hi
    omega
theorem nice_rd (v : Value) (l : List Bs) : Nice (RdP v l) where
  lt h i hi := rd_blk h.2 ((h.1 i).1 hi)
  keep h hf hd := by
    obtain ⟨h0, ao, c, rfl, h1, h2, hc⟩ := h
    refine ⟨h0, ao, c, rfl, h1, h2, fun hl => ?_⟩
    obtain ⟨b, off, rfl, hlt, hcell⟩ := hc hl
    refine ⟨b, off, rfl, Nat.lt_of_lt_of_le hlt hf.size, fun j hj => ?_⟩
    have hb : rdBlk (.slice (some ⟨b, off, none⟩) l.length c) = some b := by
      cases hm : l.length with
      | zero => omega
      | succ m => rfl
    exact (World.cell?_of_block (a := ⟨b, off + j, none⟩) (hf.block b hlt (.inl (hd b ((h0 b).2 hb))))).trans (hcell j hj)
abbrev pm (b : Nat) : Value := .pointer (some ⟨b, 0, none⟩)
def mCells (bd : Nat) (n : ByteArray) (j : J) (vr vp : Value) : Array Value := #[.pointer (some ⟨bd, 0, none⟩), .string n, .int .i64 j.first, vr, vp, .bool j.broken]
def MBlk (bm bd : Nat) (n : ByteArray) (j : J) (vr vp : Value) : SP := fun S w => (∀ i, S i ↔ i = bm) ∧ w.heap[bm]? = some (.cells (mCells bd n j vr vp) 72 (0, 0))
theorem nice_mblk (bm bd : Nat) (n : ByteArray) (j : J) (vr vp : Value) : Nice (MBlk bm bd n j vr vp) where
  lt h i hi := by rw [(h.1 i).1 hi]; exact lt_of_block h.2
  keep h hf hd := ⟨h.1, (hf.block bm (lt_of_block h.2) (.inl (hd bm ((h.1 bm).2 rfl)))).trans h.2⟩
/-- The model at bm, with its disk at bd. -/
def MdlP (bm bd : Nat) (n : ByteArray) (j : J) : SP := fun S w => Fit j ∧ ∃ vr vp, Star (MBlk bm bd n j vr vp) (Star (RdP vr j.recs) (StrP vp j.pend)) S w
theorem nice_mdl (bm bd : Nat) (n : ByteArray) (j : J) : Nice (MdlP bm bd n j) where
  lt h i hi := by
    obtain ⟨_, vr, vp, h⟩ := h
    exact (Nice.star (nice_mblk bm bd n j vr vp) (Nice.star (nice_rd vr j.recs) (nice_str vp j.pend))).lt h i hi
  keep h hf hd := by
    obtain ⟨hF, vr, vp, h⟩ := h
    exact ⟨hF, vr, vp, (Nice.star (nice_mblk bm bd n j vr vp) (Nice.star (nice_rd vr j.recs) (nice_str vp j.pend))).keep h hf hd⟩
/-- A model whose two lists are known. -/
def MdlV (bm bd : Nat) (n : ByteArray) (j : J) (vr vp : Value) : SP := fun S w => Fit j ∧ Star (MBlk bm bd n j vr vp) (Star (RdP vr j.recs) (StrP vp j.pend)) S w
theorem nice_mdlv (bm bd : Nat) (n : ByteArray) (j : J) (vr vp : Value) : Nice (MdlV bm bd n j vr vp) where
  lt h i hi := (Nice.star (nice_mblk bm bd n j vr vp) (Nice.star (nice_rd vr j.recs) (nice_str vp j.pend))).lt h.2 i hi
  keep h hf hd := ⟨h.1, (Nice.star (nice_mblk bm bd n j vr vp) (Nice.star (nice_rd vr j.recs) (nice_str vp j.pend))).keep h.2 hf hd⟩
section
variable {w0 w : World} {bm bd : Nat} {n : ByteArray} {j : J} {d : M} {R : SP} {S : Nat → Prop}
/-- What can be read of a model. -/
structure MSee (w : World) (bm bd : Nat) (n : ByteArray) (j : J) (vr vp : Value) : Prop where
  fit : Fit j
  hd : w.heap[bm]? = some (.cells (mCells bd n j vr vp) 72 (0, 0))
  r : StrsIn w vr j.recs
  p : StrsIn w vp j.pend
theorem MdlP.see (h : MdlP bm bd n j S w) : ∃ vr vp, MSee w bm bd n j vr vp := by
  obtain ⟨hF, vr, vp, A, B, hu, hdj, h1, C, D, hu2, hdj2, h2, h3⟩ := h
  exact ⟨vr, vp, hF, h1.2, h2.2, h3.reads⟩
theorem MSee.c0 {vr vp : Value} (h : MSee w bm bd n j vr vp) : w.cell? ⟨bm, 0, none⟩ = some (.pointer (some ⟨bd, 0, none⟩)) := by have := block_cell h.hd 0; simpa [mCells] using this
theorem MSee.c1 {vr vp : Value} (h : MSee w bm bd n j vr vp) : w.cell? ⟨bm, 1, none⟩ = some (.string n) := by have := block_cell h.hd 1; simpa [mCells] using this
theorem MSee.c2 {vr vp : Value} (h : MSee w bm bd n j vr vp) : w.cell? ⟨bm, 2, none⟩ = some (.int .i64 j.first) := by have := block_cell h.hd 2; simpa [mCells] using this
theorem MSee.c3 {vr vp : Value} (h : MSee w bm bd n j vr vp) : w.cell? ⟨bm, 3, none⟩ = some vr := by have := block_cell h.hd 3; simpa [mCells] using this
theorem MSee.c4 {vr vp : Value} (h : MSee w bm bd n j vr vp) : w.cell? ⟨bm, 4, none⟩ = some vp := by have := block_cell h.hd 4; simpa [mCells] using this
theorem MSee.c5 {vr vp : Value} (h : MSee w bm bd n j vr vp) : w.cell? ⟨bm, 5, none⟩ = some (.bool j.broken) := by have := block_cell h.hd 5; simpa [mCells] using this
theorem MSee.free {vr vp : Value} (h : MSee w bm bd n j vr vp) (i : Nat) : w.frozen? ⟨bm, i, none⟩ = false := block_free h.hd i
theorem nobox_m {vr vp : Value} (h : w.heap[bm]? = some (.cells (mCells bd n j vr vp) 72 (0, 0))) : ¬ IsBox w bm := by
  rintro ⟨s, hs⟩
  rw [h] at hs
  simp at hs
theorem mdl_blk {j' : J} {w' : World} (h : MdlP bm bd n j S w) (hf : Fit j') (hr : j'.recs = j.recs) (hp : j'.pend = j.pend)
    (hset : ∀ vr vp, w.heap[bm]? = some (.cells (mCells bd n j vr vp) 72 (0, 0)) → w'.heap[bm]? = some (.cells (mCells bd n j' vr vp) 72 (0, 0))) (hfr : Fr (fun i => i = bm) w w') : Does S w (MdlP bm bd n j') w' := by
  obtain ⟨hF, vr, vp, A, B, hu, hdj, h1, h2⟩ := h
  refine ⟨S, fun i hi => .inl hi, ⟨hf, vr, vp, A, B, hu, hdj, ⟨h1.1, hset vr vp h1.2⟩, ?_⟩, hfr.mono fun i hi => (hu i).2 (.inl ((h1.1 i).2 hi))⟩
  rw [hr, hp]
  exact (Nice.star (nice_rd vr j.recs) (nice_str vp j.pend)).keep h2 hfr fun i hi e => hdj i ((h1.1 i).2 e) hi
/-- A disk and a model upon it. -/
abbrev DM (R : SP) (w0 w : World) (bd : Nat) (d : M) (bm : Nat) (n : ByteArray) (j : J) : Prop := Has w0 w (Star (DiskP bd d) (Star (MdlP bm bd n j) R))
theorem nice_dm (hR : Nice R) : Nice (Star (DiskP bd d) (Star (MdlP bm bd n j) R)) := Nice.star (nice_disk _ _) (Nice.star (nice_mdl _ _ _ _) hR)
theorem dm_see (h : DM R w0 w bd d bm n j) : ∃ vr vp, MSee w bm bd n j vr vp := h.left.quiet fun _ hS => hS.see
theorem MdlV.see {vr vp : Value} (h : MdlV bm bd n j vr vp S w) : MSee w bm bd n j vr vp := by
  obtain ⟨hF, A, B, hu, hdj, h1, C, D, hu2, hdj2, h2, h3⟩ := h
  exact ⟨hF, h1.2, h2.2, h3.reads⟩
abbrev DMV (R : SP) (w0 w : World) (bd : Nat) (d : M) (bm : Nat) (n : ByteArray) (j : J) (vr vp : Value) : Prop := Has w0 w (Star (DiskP bd d) (Star (MdlV bm bd n j vr vp) R))
theorem nice_dmv {vr vp : Value} (hR : Nice R) : Nice (Star (DiskP bd d) (Star (MdlV bm bd n j vr vp) R)) := Nice.star (nice_disk _ _) (Nice.star (nice_mdlv _ _ _ _ _ _) hR)
theorem dmv_see {vr vp : Value} (h : DMV R w0 w bd d bm n j vr vp) : MSee w bm bd n j vr vp := h.left.quiet fun _ hS => hS.see
theorem dmv_dm {vr vp : Value} (h : DMV R w0 w bd d bm n j vr vp) : DM R w0 w bd d bm n j := h.imp fun _ h => h.inner fun _ h => h.first fun _ h => (⟨h.1, vr, vp, h.2⟩ : MdlP bm bd n j _ w)
theorem dm_open (h : DM R w0 w bd d bm n j) : ∃ vr vp, DMV R w0 w bd d bm n j vr vp := by
  obtain ⟨hb0, U, hU, S, T, hu, hd, h1, A, B, hu2, hd2, ⟨hF, vr, vp, h3⟩, h4⟩ := h
  exact ⟨vr, vp, hb0, U, hU, S, T, hu, hd, h1, A, B, hu2, hd2, ⟨hF, h3⟩, h4⟩
theorem mdlv_blk {vr vp : Value} {j' : J} {w' : World} (h : MdlV bm bd n j vr vp S w) (hf : Fit j') (hr : j'.recs = j.recs) (hp : j'.pend = j.pend)
    (hset : w.heap[bm]? = some (.cells (mCells bd n j vr vp) 72 (0, 0)) → w'.heap[bm]? = some (.cells (mCells bd n j' vr vp) 72 (0, 0))) (hfr : Fr (fun i => i = bm) w w') : Does S w (MdlV bm bd n j' vr vp) w' := by
  obtain ⟨hF, A, B, hu, hdj, h1, h2⟩ := h
  refine ⟨S, fun i hi => .inl hi, ⟨hf, A, B, hu, hdj, ⟨h1.1, hset h1.2⟩, ?_⟩, hfr.mono fun i hi => (hu i).2 (.inl ((h1.1 i).2 hi))⟩
  rw [hr, hp]
  exact (Nice.star (nice_rd vr j.recs) (nice_str vp j.pend)).keep h2 hfr fun i hi e => hdj i ((h1.1 i).2 e) hi
theorem done_good (w : World) (bm : Nat) (e : Int) (he : e ≠ 32) (he2 : e ≠ 18) : Calls Tryz.prog 109 #[pm bm, .int .i64 e] w fun r w' => r = .returned (.int .i64 e) ∧ w' = w := by
  have h1 : (e == 32) = false := by simpa using he
  have h2 : (e == 18) = false := by simpa using he2
  go_enter Tryz.func109, Tryz.ntmps109
  go_wp2_with fail
  go_ret
  exact ⟨rfl, rfl⟩
theorem done_bad {vr vp : Value} (h : MdlV bm bd n j vr vp S w) (e : Int) (he : e = 32 ∨ e = 18) : Calls Tryz.prog 109 #[pm bm, .int .i64 e] w fun r w' => r = .returned (.int .i64 e) ∧ w' = w.setCell ⟨bm, 5, none⟩ (.bool true) := by
  have hs := h.see
  have c5 := hs.c5
  have z5 := hs.free 5
  clear h hs
  rcases he with rfl | rfl
  · go_enter Tryz.func109, Tryz.ntmps109
    go_wp2_with fail
    go_ret
    exact ⟨rfl, rfl⟩
  · go_enter Tryz.func109, Tryz.ntmps109
    go_wp2_with fail
    go_ret
    exact ⟨rfl, rfl⟩
theorem did_other (j : J) {e : Int} (he : e ≠ 32) (he2 : e ≠ 18) : j.did e = j := by
  cases j
  simp [Jnl.J.did, Jnl.bad, he, he2]
theorem did_fit (hF : Fit j) (e : Int) : Fit (j.did e) := ⟨hF.first, hF.recs, hF.pend, hF.lenR, hF.lenP⟩
theorem done_mdl {vr vp : Value} (hR : Nice R) (h : Has w0 w (Star (MdlV bm bd n j vr vp) R)) (e : Int) : Calls Tryz.prog 109 #[pm bm, .int .i64 e] w fun r w' => r = .returned (.int .i64 e) ∧ Has w0 w' (Star (MdlV bm bd n (j.did e) vr vp) R) :=
  Has.pair (h.does hR (Q := fun r S w => r = .returned (.int .i64 e) ∧ MdlV bm bd n (j.did e) vr vp S w) (fun S hS => by
    by_cases hb : e = 32 ∨ e = 18
    · refine (done_bad hS e hb).mono ?_
      rintro r w' ⟨hr, rfl⟩
      have hs := hS.see
      have hd : j.did e = { j with broken := true } := by
        rcases hb with rfl | rfl <;> simp [Jnl.J.did, Jnl.bad]
      obtain ⟨S', a, b, c⟩ := mdlv_blk (j' := j.did e) (w' := w.setCell ⟨bm, 5, none⟩ (.bool true)) hS (did_fit hs.fit e) rfl rfl (fun hd2 => by rw [hd]; exact block_set hd2 5 _)
        ((Fr.refl (fun i => i = bm) w).setCell (p := ⟨bm, 5, none⟩) (.inl rfl) (nobox_m hs.hd) _)
      exact ⟨S', a, ⟨hr, b⟩, c⟩
    · refine (done_good w bm e (fun h => hb (.inl h)) (fun h => hb (.inr h))).mono ?_
      rintro r w' ⟨hr, rfl⟩
      rw [did_other j (fun h => hb (.inl h)) (fun h => hb (.inr h))]
      exact ⟨S, fun i hi => .inl hi, ⟨hr, hS⟩, Fr.refl _ _⟩))
theorem llast_any {vr vp : Value} (h : MSee w bm bd n j vr vp) : Calls Tryz.prog 72 #[pm bm] w fun e w' => e = .returned (.int .i64 ((j.first : Int) + j.recs.length - 1)) ∧ ∃ q, w' = w.drewN q := by
  have c2 := h.c2
  have c3 := h.c3
  have f1 := h.fit.first
  have f2 := h.fit.recs
  obtain ⟨ao, c, rfl, -⟩ := h.r
  have e1 : wrap64 ((j.first : Int) + (j.recs.length : Int)) = (j.first : Int) + (j.recs.length : Int) := IntWalk.wrap64_in _ (by omega)
  have e2 : wrap64 ((j.first : Int) + (j.recs.length : Int) - 1) = (j.first : Int) + (j.recs.length : Int) - 1 := IntWalk.wrap64_in _ (by omega)
  clear h
  go_enter Tryz.func72, Tryz.ntmps72
  go_upto_region 1 with fail
  go_quiet (fail)
  go_wp2_with fail
  go_ret
  exact ⟨rfl, nq, rfl⟩
theorem lhas_any (h : DM R w0 w bd d bm n j) (s : ByteArray) (hs : s.size ≤ 1073741824) : Calls Tryz.prog 89 #[pm bm, .string s] w fun e w' => e = .returned (.bool (decide ((d.read s.data.toList).2 = 0))) ∧ w' = w := by
  obtain ⟨vr, vp, hm⟩ := dm_see h
  have c0 := hm.c0
  obtain ⟨⟨b, r⟩, hr⟩ : ∃ p, d.read s.data.toList = p := ⟨_, rfl⟩
  have hsz := dr_size h s hs hr
  rw [hr]
  have hd : (r == 0) = decide (r = 0) := by rw [Bool.eq_iff_iff]; simp
  clear h hm hr
  go_enter Tryz.func89, Tryz.ntmps89
  go_wp2_with fail
  refine hsz.mono ?_
  rintro e w1 ⟨rfl, hw⟩
  obtain rfl := hw
  go_wp2_with fail
  go_ret
  exact ⟨rfl, rfl⟩
end
end Go.Proofs.YtlhnjdoicolkkaaGreatDoor

/- The model's append: a record to be made durable. -/
set_option maxRecDepth 100000
namespace Go.Proofs.YtlhnjdoicolkkaaGreatDoor
open Go.RowKit Go.Dsk Go.Maps Go.WideMaps
set_option maxHeartbeats 2000000
open Jnl (J)

section
variable {w0 w : World} {bm bd : Nat} {n : ByteArray} {j : J} {d : M} {R : SP} {S : Nat → Prop}
theorem MSee.drawn {vr vp : Value} (h : MSee w bm bd n j vr vp) (q : Nat) : MSee (w.drewN q) bm bd n j vr vp := ⟨h.fit, h.hd, h.r.below (below_drawn w q), h.p.below (below_drawn w q)⟩
theorem lappend_early (h : MdlP bm bd n j S w) (r : ByteArray) {e : Int} (he : (j.broken = true ∧ e = 18) ∨ (j.broken = false ∧ 4096 < r.size ∧ e = 5) ∨ (j.broken = false ∧ ¬ 4096 < r.size ∧ 64 ≤ j.pend.length ∧ e = 6)) :
    Calls Tryz.prog 73 #[pm bm, .string r] w fun x w' => x = .returned (.tuple #[.int .i64 0, .int .i64 e]) ∧ w' = w := by
  obtain ⟨vr, vp, hs⟩ := h.see
  have c5 := hs.c5
  rcases he with ⟨hb, rfl⟩ | ⟨hb, hl, rfl⟩ | ⟨hb, hl, hp, rfl⟩
  · rw [hb] at c5
    clear h hs
    go_enter Tryz.func73, Tryz.ntmps73
    go_wp2_with fail
    go_ret2
    exact ⟨rfl, rfl⟩
  · rw [hb] at c5
    have hl' : ((4096 : Int) < (r.size : Int)) = True := by simp; omega
    clear h hs
    go_enter Tryz.func73, Tryz.ntmps73
    go_wp2_with fail
    go_ret2
    exact ⟨rfl, rfl⟩
  · rw [hb] at c5
    have hl' : ((4096 : Int) < (r.size : Int)) = False := by simp; omega
    have c4 := hs.c4
    obtain ⟨ao, c, rfl, -⟩ := hs.p
    have hp' : ((64 : Int) ≤ (j.pend.length : Int)) = True := by simp; omega
    clear h hs
    go_enter Tryz.func73, Tryz.ntmps73
    go_wp2_with fail
    go_ret2
    exact ⟨rfl, rfl⟩
theorem lappend_well (h : MdlP bm bd n j S w) (r : ByteArray) (hb : j.broken = false) (hl : ¬ 4096 < r.size) (hp : ¬ 64 ≤ j.pend.length) :
    Calls Tryz.prog 73 #[pm bm, .string r] w fun x w' => x = .returned (.tuple #[.int .i64 (j.last + (j.pend.length + 1)), .int .i64 0]) ∧ Does S w (MdlP bm bd n { j with pend := j.pend ++ [r.data.toList] }) w' := by
  have H := Lib.hid h
  obtain ⟨vr0, vp0, hs0⟩ := h.see
  have c5 := hs0.c5
  rw [hb] at c5
  have f1 := hs0.fit.first
  have f2 := hs0.fit.recs
  clear hs0
  obtain ⟨hF, vr, vp, A, B, hu, hdj, h1, C, D, hu2, hdj2, h2, h3⟩ := h
  obtain ⟨ap, cp, hvp, hcp1, hcp2⟩ := h3.shape
  subst hvp
  have c4 : w.cell? ⟨bm, 4, none⟩ = some (.slice ap j.pend.length cp) := by have := block_cell h1.2 4; simpa [mCells] using this
  have hl' : ((4096 : Int) < (r.size : Int)) = False := by simp; omega
  have hp' : ((64 : Int) ≤ (j.pend.length : Int)) = False := by simp; omega
  have hbml := lt_of_block h1.2
  have hown := h3.2.1
  have hcap := h3.2.2
  have hnb : ∀ k, Value.ownBlock (.slice ap j.pend.length cp) = some k → k ≠ bm := fun k hk e => hdj bm ((h1.1 bm).2 rfl) ((hu2 bm).2 (.inr ((h3.1 bm).2 (e ▸ hk))))
  obtain ⟨i0, hi, hz0, hz1, hz2⟩ := info_parts infoStr
  have HINF := Lib.hid (And.intro hi (And.intro hz0 (And.intro hz1 hz2)))
  have HOWN := Lib.hid hown
  have HCAP := Lib.hid hcap
  have HNB := Lib.hid hnb
  have HHD := Lib.hid h1.2
  have HALL := Lib.hid (And.intro hF (And.intro hu (And.intro hdj (And.intro h1 (And.intro hu2 (And.intro hdj2 (And.intro h2 h3)))))))
  clear hi hz0 hz1 hz2 hown hcap hnb hF hu hdj h1 hu2 hdj2 h2 h3
  have c4b : (w.alloc (.cells #[.string r] 9)).cell? ⟨bm, 4, none⟩ = some (.slice ap j.pend.length cp) := (cell?_alloc_lt hbml).trans c4
  go_enter Tryz.func73, Tryz.ntmps73
  go_wp2_with (at_builtin; refine wpList_append_kept _ rfl _ _ 25 rfl 9 i0 _ 1 16 Tryz.underlying25 HINF.out.1 HINF.out.2.1 HINF.out.2.2.1 HINF.out.2.2.2 rfl (by decide) _ _ _ rfl (HOWN.out.alloc _) HCAP.out ⟨w.heap.size, 0, none⟩ 1 1 [.string r] rfl rfl ?c1 ?c2 (by decide) ?c3 ?c4 ?_)
  case c1 => exact World.news_of_block (heap_alloc_new w _)
  case c2 => simp [Value.oneCell']
  case c3 => unfold maxLen; omega
  case c4 => omega
  intro g cap w2 hown2 hfr2 hat2
  have hfr1 : Fr (fun k => Value.ownBlock (.slice ap j.pend.length cp) = some k) w w2 := ((Fr.refl _ w).alloc _).trans hfr2
  have hd2 : w2.heap[bm]? = some (.cells (mCells bd n j vr (.slice ap j.pend.length cp)) 72 (0, 0)) := (hfr1.block bm hbml (.inl (fun e => HNB.out bm e rfl))).trans HHD.out
  have hgb : g ≠ bm := by
    rcases hat2 with e | e
    · exact HNB.out g e
    · have : (w.alloc (.cells #[.string r] 9)).heap.size = w.heap.size + 1 := by simp
      omega
  have d4 : w2.cell? ⟨bm, 4, none⟩ = some (.slice ap j.pend.length cp) := by have := block_cell hd2 4; simpa [mCells] using this
  have z4 : w2.frozen? ⟨bm, 4, none⟩ = false := block_free hd2 4
  -- the world behind the store
  have hdoes : Does S w (MdlP bm bd n { j with pend := j.pend ++ [r.data.toList] }) (w2.setCell ⟨bm, 4, none⟩ (.slice (some ⟨g, 0, none⟩) (j.pend.length + 1) cap)) := by
    obtain ⟨hF, hu, hdj, h1, hu2, hdj2, h2, h3⟩ := HALL.out
    have hfr3 : Fr (fun k => k = bm ∨ Value.ownBlock (.slice ap j.pend.length cp) = some k) w (w2.setCell ⟨bm, 4, none⟩ (.slice (some ⟨g, 0, none⟩) (j.pend.length + 1) cap)) :=
      (hfr1.mono fun k hk => .inr hk).setCell (p := ⟨bm, 4, none⟩) (.inl (.inl rfl)) (nobox_m hd2) _
    have hsz : (w.alloc (.cells #[.string r] 9)).heap.size = w.heap.size + 1 := by simp
    have hgD : D g ∨ w.heap.size ≤ g := by
      rcases hat2 with e | e
      · exact .inl ((h3.1 g).2 e)
      · exact .inr (by omega)
    have hCl := (nice_rd vr j.recs).lt h2
    refine ⟨fun i => A i ∨ (C i ∨ i = g), ?_, ⟨⟨hF.first, hF.recs, by simp; omega, hF.lenR, fun x hx => ?_⟩, vr, .slice (some ⟨g, 0, none⟩) (j.pend.length + 1) cap, A, fun i => C i ∨ i = g, fun i => Iff.rfl, ?_, ⟨h1.1, block_set hd2 4 _⟩, C, fun i => i = g, fun i => Iff.rfl, ?_, ?_, fun i => by simp [Value.ownBlock, eq_comm], ?_, fun a c e => ?_⟩, hfr3.mono ?_⟩
    · rintro i (hi | hi | rfl)
      · exact .inl ((hu i).2 (.inl hi))
      · exact .inl ((hu i).2 (.inr ((hu2 i).2 (.inl hi))))
      · exact hgD.imp (fun h => (hu _).2 (.inr ((hu2 _).2 (.inr h)))) id
    · rcases List.mem_append.1 hx with hx | hx
      · exact hF.lenP x hx
      · simp only [List.mem_singleton] at hx
        subst hx
        have : r.data.toList.length = r.size := rfl
        omega
    · rintro i ha (hc | rfl)
      · exact hdj i ha ((hu2 i).2 (.inl hc))
      · exact hgb ((h1.1 _).1 ha)
    · rintro i hc rfl
      rcases hgD with h | h
      · exact hdj2 _ hc h
      · have := hCl _ hc
        omega
    · refine (nice_rd vr j.recs).keep h2 hfr3 ?_
      rintro i hc (rfl | h)
      · exact hdj _ ((h1.1 _).2 rfl) ((hu2 _).2 (.inl hc))
      · exact hdj2 i hc ((h3.1 i).2 h)
    · have := row_same (w' := w2.setCell ⟨bm, 4, none⟩ (.slice (some ⟨g, 0, none⟩) (j.pend.length + 1) cap)) hown2 (fun k hk => block_other (fun e => hgb (by simp [Value.ownBlock] at hk; rw [hk]; exact e)) _)
      rw [List.length_append, List.map_append]
      have e : strV r.data.toList = .string r := congrArg Value.string (ba_self r)
      simpa [e] using this
    · simp at e
    · rintro i (rfl | h)
      · exact (hu _).2 (.inl ((h1.1 _).2 rfl))
      · exact (hu i).2 (.inr ((hu2 i).2 (.inr ((h3.1 i).2 h))))
  have hsee := hdoes
  obtain ⟨S', _, hS', _⟩ := hsee
  obtain ⟨vr3, vp3, hs3⟩ := hS'.see
  have hd3 := block_set hd2 4 (.slice (some ⟨g, 0, none⟩) (j.pend.length + 1) cap)
  have g4 : (w2.setCell ⟨bm, 4, none⟩ (.slice (some ⟨g, 0, none⟩) (j.pend.length + 1) cap)).cell? ⟨bm, 4, none⟩ = some (.slice (some ⟨g, 0, none⟩) (j.pend.length + 1) cap) := by have := block_cell hd3 4; simpa [mCells] using this
  obtain ⟨L, hL⟩ : ∃ L : Int, L = (j.first : Int) + j.recs.length - 1 := ⟨_, rfl⟩
  have hlv : j.last = L := by unfold Jnl.J.last; rw [hb, hL]; simp
  have hlc : ∀ q, Calls Tryz.prog 72 #[pm bm] ((w2.setCell ⟨bm, 4, none⟩ (.slice (some ⟨g, 0, none⟩) (j.pend.length + 1) cap)).drewN q) fun e w' => e = .returned (.int .i64 L) ∧ ∃ q2, w' = ((w2.setCell ⟨bm, 4, none⟩ (.slice (some ⟨g, 0, none⟩) (j.pend.length + 1) cap)).drewN q).drewN q2 := fun q => by rw [hL]; exact llast_any (j := { j with pend := j.pend ++ [r.data.toList] }) (hs3.drawn q)
  have hlb : 0 ≤ L + 1 ∧ L ≤ 1099511627776 + 1073741824 := by omega
  have hw1 : wrap64 (L + ((j.pend.length + 1 : Nat) : Int)) = L + (j.pend.length + 1) := (IntWalk.wrap64_in _ (by omega)).trans (by omega)
  have hw2 : IntKind.i64.wrap (L + ((j.pend.length : Int) + 1)) = L + (j.pend.length + 1) := (IntWalk.i64_in _ (by omega)).trans (by omega)
  have hw3 : wrap64 (L + ((j.pend.length : Int) + 1)) = L + (j.pend.length + 1) := (IntWalk.wrap64_in _ (by omega)).trans (by omega)
  have HHL := Lib.hid hL
  have HD := Lib.hid hdoes
  have HLC := Lib.hid hlc
  clear hdoes hs3 hS' hlc hd3 hL hown2 hfr2 hat2 hfr1 HALL
  obtain ⟨w3, hw3e⟩ : ∃ w3, w3 = w2.setCell ⟨bm, 4, none⟩ (.slice (some ⟨g, 0, none⟩) (j.pend.length + 1) cap) := ⟨_, rfl⟩
  rw [← hw3e] at HD HLC g4
  have HW3 := Lib.hid hw3e
  go_wp2_with fail
  rw [← hw3e]
  clear hw3e
  go_quiet ((go_at_call 72; exact Calls.quiet_of (HLC.out _)))
  go_wp2_with fail
  go_ret2
  obtain ⟨S', a, b, c⟩ := HD.out
  exact ⟨by rw [hlv]; rfl, S', a, (nice_mdl _ _ _ _).keep b (Fr.below (below_drawn w3 nq)) (fun _ _ h => h), c.drewN nq⟩
theorem lappend_mdl (hR : Nice R) (h : Has w0 w (Star (MdlP bm bd n j) R)) (r : ByteArray) : Calls Tryz.prog 73 #[pm bm, .string r] w fun x w' => x = .returned (.tuple #[.int .i64 (j.append r.data.toList).1, .int .i64 (j.append r.data.toList).2.1]) ∧ Has w0 w' (Star (MdlP bm bd n (j.append r.data.toList).2.2) R) :=
  Has.pair (h.does hR (Q := fun x S w => x = .returned (.tuple #[.int .i64 (j.append r.data.toList).1, .int .i64 (j.append r.data.toList).2.1]) ∧ MdlP bm bd n (j.append r.data.toList).2.2 S w) (fun S hS => by
    have hrl : r.data.toList.length = r.size := rfl
    have early : ∀ e, (j.broken = true ∧ e = 18) ∨ (j.broken = false ∧ 4096 < r.size ∧ e = 5) ∨ (j.broken = false ∧ ¬ 4096 < r.size ∧ 64 ≤ j.pend.length ∧ e = 6) → j.append r.data.toList = (0, e, j) → Calls Tryz.prog 73 #[pm bm, .string r] w fun x w' => Does S w ((fun x S w => x = .returned (.tuple #[.int .i64 (j.append r.data.toList).1, .int .i64 (j.append r.data.toList).2.1]) ∧ MdlP bm bd n (j.append r.data.toList).2.2 S w) x) w' := fun e he hv => by
      rw [hv]
      refine (lappend_early hS r he).mono ?_
      rintro x w' ⟨hx, rfl⟩
      exact ⟨S, fun _ => .inl, ⟨hx, hS⟩, Fr.refl _ _⟩
    cases hb : j.broken with
    | true => exact early 18 (.inl ⟨hb, rfl⟩) (by unfold Jnl.J.append; rw [if_pos hb])
    | false =>
      have hb' : ¬ (j.broken = true) := by rw [hb]; simp
      by_cases hl : 4096 < r.size
      · exact early 5 (.inr (.inl ⟨hb, hl, rfl⟩)) (by unfold Jnl.J.append; rw [if_neg hb', if_pos (by rw [hrl]; exact hl)])
      · by_cases hp : 64 ≤ j.pend.length
        · exact early 6 (.inr (.inr ⟨hb, hl, hp, rfl⟩)) (by unfold Jnl.J.append; rw [if_neg hb', if_neg (by rw [hrl]; exact hl), if_pos hp])
        · have hv : j.append r.data.toList = (j.last + (j.pend.length + 1), 0, { j with pend := j.pend ++ [r.data.toList] }) := by unfold Jnl.J.append; rw [if_neg hb', if_neg (by rw [hrl]; exact hl), if_neg hp]
          rw [hv]
          refine (lappend_well hS r hb hl hp).mono ?_
          rintro x w' ⟨hx, S', a, b, c⟩
          exact ⟨S', a, ⟨hx, b⟩, c⟩))
end
end Go.Proofs.YtlhnjdoicolkkaaGreatDoor

/- The model gets its records: the two stores. -/
set_option maxRecDepth 100000
namespace Go.Proofs.YtlhnjdoicolkkaaGreatDoor
open Go.RowKit Go.Dsk Go.Maps Go.WideMaps
set_option maxHeartbeats 2000000
open Jnl (J)

section
variable {w0 w : World} {bm bd : Nat} {n : ByteArray} {j : J} {d : M} {R : SP} {S : Nat → Prop}
/-- Behind the two stores. -/
abbrev mset (w : World) (bm f : Nat) (v : Value) : World := (w.setCell ⟨bm, 2, none⟩ (.int .i64 f)).setCell ⟨bm, 3, none⟩ v
theorem mset_fr {vr vp : Value} (hd : w.heap[bm]? = some (.cells (mCells bd n j vr vp) 72 (0, 0))) (f : Nat) (v : Value) : Fr (fun i => i = bm) w (mset w bm f v) := by
  have e1 := block_set hd 2 (.int .i64 f)
  have nb : ∀ {W : World} {cs : Array Value}, W.heap[bm]? = some (.cells cs 72 (0, 0)) → ¬ IsBox W bm := by
    rintro W cs h ⟨s, hs⟩
    rw [h] at hs
    simp at hs
  exact ((Fr.refl (fun i => i = bm) w).setCell (p := ⟨bm, 2, none⟩) (.inl rfl) (nb hd) _).setCell (p := ⟨bm, 3, none⟩) (.inl rfl) (nb e1) _
theorem mset_hd {vr vp : Value} (hd : w.heap[bm]? = some (.cells (mCells bd n j vr vp) 72 (0, 0))) (f : Nat) (v : Value) {j' : J} (hf : j'.first = f) (hb : j'.broken = j.broken) : (mset w bm f v).heap[bm]? = some (.cells (mCells bd n j' v vp) 72 (0, 0)) := by
  have e2 := block_set (block_set hd 2 (.int .i64 f)) 3 v
  simpa [mCells, hf, hb] using e2
/-- New records, from beside. -/
theorem mdl_recs {v : Value} {l : List Bs} (h : Star (MdlP bm bd n j) (RdP v l) S w) {f : Nat} {j' : J} (hF' : Fit j') (hf : j'.first = f) (hr : j'.recs = l) (hp : j'.pend = j.pend) (hb : j'.broken = j.broken) : Does S w (MdlP bm bd n j') (mset w bm f v) := by
  obtain ⟨A, B, hu, hd, ⟨hF, vr, vp, C, D, hu2, hd2, h1, E, F, hu3, hd3, h2, h3⟩, h4⟩ := h
  have hfr := mset_fr h1.2 f v
  have hnb : ∀ i, i = bm → ¬ F i := fun i hi hf => hd2 i ((h1.1 i).2 hi) ((hu3 i).2 (.inr hf))
  have hnb2 : ∀ i, i = bm → ¬ B i := fun i hi hb => hd i ((hu2 i).2 (.inl ((h1.1 i).2 hi))) hb
  refine ⟨fun i => C i ∨ (B i ∨ F i), ?_, ⟨hF', v, vp, C, fun i => B i ∨ F i, fun i => Iff.rfl, ?_, ⟨h1.1, mset_hd h1.2 f v hf hb⟩, B, F, fun i => Iff.rfl, ?_, ?_, ?_⟩, hfr.mono ?_⟩
  · rintro i (hi | hi | hi)
    · exact .inl ((hu i).2 (.inl ((hu2 i).2 (.inl hi))))
    · exact .inl ((hu i).2 (.inr hi))
    · exact .inl ((hu i).2 (.inl ((hu2 i).2 (.inr ((hu3 i).2 (.inr hi))))))
  · rintro i hc (hb | hf)
    · exact hd i ((hu2 i).2 (.inl hc)) hb
    · exact hd2 i hc ((hu3 i).2 (.inr hf))
  · intro i hb hf
    exact hd i ((hu2 i).2 (.inr ((hu3 i).2 (.inr hf)))) hb
  · rw [hr]
    exact (nice_rd v l).keep h4 hfr fun i hi e => hnb2 i e hi
  · rw [hp]
    exact (nice_str vp j.pend).keep h3 hfr fun i hi e => hnb i e hi
  · rintro i rfl
    exact (hu _).2 (.inl ((hu2 _).2 (.inl ((h1.1 _).2 rfl))))
theorem rdBlk_sub {ao : Option Addr} {l k c : Nat} (hk : k ≤ l) : ∀ i, rdBlk (.slice (ao.map fun a => if c = k then a else a.add k) (l - k) (c - k)) = some i → rdBlk (.slice ao l c) = some i := by
  intro i hi
  cases ao with
  | none => cases hm : l - k <;> rw [hm] at hi <;> simp [rdBlk] at hi
  | some a =>
    cases hm : l - k with
    | zero => rw [hm] at hi; simp [rdBlk] at hi
    | succ m =>
      rw [hm] at hi
      obtain ⟨q, hq⟩ : ∃ q, l = q + 1 := ⟨l - 1, by omega⟩
      rw [hq]
      have e : (if c = k then a else a.add k).block = a.block := by
        split
        · rfl
        · unfold Addr.add
          split <;> rfl
      simp only [Option.map_some, rdBlk, Option.some.injEq] at hi ⊢
      rw [← hi, e]
theorem strs_sub {ao : Option Addr} {c k : Nat} {l : List Bs} (h : StrsIn w (.slice ao l.length c) l) (hk : k ≤ l.length) : StrsIn w (.slice (ao.map fun a => if c = k then a else a.add k) (l.length - k) (c - k)) (l.drop k) := by
  obtain ⟨ao', c', e, h1, h2, hc⟩ := h
  simp only [Value.slice.injEq, true_and] at e
  obtain ⟨rfl, rfl⟩ := e
  refine ⟨_, c - k, by rw [List.length_drop], by rw [List.length_drop]; omega, by omega, fun h0 => ?_⟩
  rw [List.length_drop] at h0
  obtain ⟨b, off, rfl, hlt, hcell⟩ := hc (by omega)
  refine ⟨b, off + k, ?_, hlt, fun j hj => ?_⟩
  · rw [Option.map_some, if_neg (by omega), add_plain2]
  · rw [List.length_drop] at hj
    rw [Nat.add_assoc, hcell (k + j) (by omega), List.getD_eq_getElem?_getD, List.getD_eq_getElem?_getD, List.getElem?_drop]
/-- The records from a number on. -/
theorem mdl_sub {vr vp : Value} (h : MdlV bm bd n j vr vp S w) {ao : Option Addr} {c k : Nat} (hv : vr = .slice ao j.recs.length c) (hk : k ≤ j.recs.length) {f : Nat} {j' : J} (hF' : Fit j') (hf : j'.first = f) (hr : j'.recs = j.recs.drop k) (hp : j'.pend = j.pend) (hb : j'.broken = j.broken) :
    Does S w (MdlP bm bd n j') (mset w bm f (.slice (ao.map fun a => if c = k then a else a.add k) (j.recs.length - k) (c - k))) := by
  obtain ⟨hF, C, D, hu2, hd2, h1, E, F, hu3, hd3, h2, h3⟩ := h
  subst hv
  have hfr := mset_fr h1.2 f (.slice (ao.map fun a => if c = k then a else a.add k) (j.recs.length - k) (c - k))
  have hE : ∀ i, rdBlk (.slice (ao.map fun a => if c = k then a else a.add k) (j.recs.length - k) (c - k)) = some i → E i := fun i hi => (h2.1 i).2 (rdBlk_sub hk i hi)
  have hnb : ∀ i, i = bm → ¬ D i := fun i hi hf => hd2 i ((h1.1 i).2 hi) hf
  refine ⟨fun i => C i ∨ (rdBlk (.slice (ao.map fun a => if c = k then a else a.add k) (j.recs.length - k) (c - k)) = some i ∨ F i), ?_, ⟨hF', _, vp, C, fun i => rdBlk (.slice (ao.map fun a => if c = k then a else a.add k) (j.recs.length - k) (c - k)) = some i ∨ F i, fun i => Iff.rfl, ?_, ⟨h1.1, mset_hd h1.2 f _ hf hb⟩, _, F, fun i => Iff.rfl, ?_, ?_, ?_⟩, hfr.mono ?_⟩
  · rintro i (hi | hi | hi)
    · exact .inl ((hu2 i).2 (.inl hi))
    · exact .inl ((hu2 i).2 (.inr ((hu3 i).2 (.inl (hE i hi)))))
    · exact .inl ((hu2 i).2 (.inr ((hu3 i).2 (.inr hi))))
  · rintro i hc (hb | hf)
    · exact hd2 i hc ((hu3 i).2 (.inl (hE i hb)))
    · exact hd2 i hc ((hu3 i).2 (.inr hf))
  · intro i hb hf
    exact hd3 i (hE i hb) hf
  · rw [hr]
    exact (nice_rd _ _).keep ⟨fun i => Iff.rfl, strs_sub h2.2 hk⟩ hfr fun i hi e => hnb i e ((hu3 i).2 (.inl (hE i hi)))
  · rw [hp]
    exact (nice_str vp j.pend).keep h3 hfr fun i hi e => hnb i e ((hu3 i).2 (.inr hi))
  · rintro i rfl
    exact (hu2 _).2 (.inl ((h1.1 _).2 rfl))
end
end Go.Proofs.YtlhnjdoicolkkaaGreatDoor

/- The model's replace: four steps of the disk. -/
set_option maxRecDepth 100000
namespace Go.Proofs.YtlhnjdoicolkkaaGreatDoor
open Go.RowKit Go.Dsk Go.Maps Go.WideMaps
set_option maxHeartbeats 2000000
open Jnl (J)

section
variable {w0 w : World} {bm bd : Nat} {n : ByteArray} {j : J} {d : M} {R : SP} {S : Nat → Prop}
theorem new_ba (n : ByteArray) (hn : n.size ≤ 1048576) : ∃ nb : ByteArray, n ++ ⟨#[46, 110, 101, 119]⟩ = nb ∧ nb.data.toList = Jnl.newName n.data.toList ∧ nb.size ≤ 1073741824 := by
  have h := new_size n
  refine ⟨_, ba_new n, rfl, by omega⟩
theorem log_ba (n : ByteArray) (hn : n.size ≤ 1048576) : ∃ lb : ByteArray, n ++ ⟨#[46, 108, 111, 103]⟩ = lb ∧ lb.data.toList = Jnl.logName n.data.toList ∧ lb.size ≤ 1073741824 := by
  have h := log_size n
  refine ⟨_, ba_log n, rfl, by omega⟩
theorem did_zero' (j : J) : j.did 0 = j := did_zero j
theorem lreplace_v {vr vp : Value} (hR : Nice R) (h : DMV R w0 w bd d bm n j vr vp) (x : ByteArray) (hx : x.size ≤ 1073741824) (hn : n.size ≤ 1048576) (hw : d.wt < 1073741800) {Z : Int × J × M} (hZ : Jnl.run (Jnl.replaceSteps n.data.toList x.data.toList) j d = Z) :
    Calls Tryz.prog 90 #[pm bm, .string x] w fun e w' => e = .returned (.int .i64 Z.1) ∧ DMV R w0 w' bd Z.2.2 bm n Z.2.1 vr vp := by
  obtain ⟨nb, hnb, hnl, hns⟩ := new_ba n hn
  obtain ⟨lb, hlb, hll, hls⟩ := log_ba n hn
  unfold Jnl.replaceSteps at hZ
  rw [← hnl, ← hll] at hZ
  have hs := dmv_see h
  have c0 := hs.c0
  have c1 := hs.c1
  have H := Lib.hid h
  have HZ := Lib.hid hZ
  have HNS := Lib.hid (And.intro hns hls)
  have hz1 : (n.size : Int) ≤ 8388608 := by omega
  have hz2 : (((⟨#[46, 110, 101, 119]⟩ : ByteArray).size : Nat) : Int) ≤ 8388608 := by decide
  have hz3 : (((⟨#[46, 108, 111, 103]⟩ : ByteArray).size : Nat) : Int) ≤ 8388608 := by decide
  have hadd1 : ∀ W : World, (Op.stringOp .add n ⟨#[46, 110, 101, 119]⟩).run Tryz.prog W = .ok (.string nb) W := fun W => by rw [run_string_add W n _ hz1 hz2, hnb]
  have hadd2 : ∀ W : World, (Op.stringOp .add n ⟨#[46, 108, 111, 103]⟩).run Tryz.prog W = .ok (.string lb) W := fun W => by rw [run_string_add W n _ hz1 hz3, hlb]
  clear h hZ hs hnl hll hns hls
  go_enter Tryz.func90, Tryz.ntmps90
  obtain ⟨⟨r1, d1⟩, he1⟩ : ∃ p, d.append nb.data.toList x.data.toList = p := ⟨_, rfl⟩
  have hw1 : d1.wt < 1073741801 := by
    have := append_wt d nb.data.toList x.data.toList
    rw [he1] at this
    simp only at this
    omega
  have HE1 := Lib.hid he1
  clear he1
  go_upto_region 1 with fail
  go_region_held3 (fun w' => w'.cell? ⟨bm, 0, none⟩ = some (.pointer (some ⟨bd, 0, none⟩)) ∧ w'.cell? ⟨bm, 1, none⟩ = some (.string n)) (go_keep)
    (first
      | (go_at_call 53
         refine (dr_append (Nice.star (nice_mdlv _ _ _ _ _ _) hR) (H.out.moved (nice_dmv hR) (Below.refl _ _).drew) nb x HNS.out.1 hx HE1.out (by omega)).mono ?_
         rintro e wa1 ⟨rfl, ha⟩
         have hsa := dmv_see ha
         have q0 := hsa.c0
         have q1 := hsa.c1
         have HA1 := Lib.hid ha
         clear ha hsa)
      | (go_at_call 109
         refine (done_mdl (Nice.star (nice_disk _ _) hR) HA1.out.left r1).mono ?_
         rintro e wb1 ⟨rfl, hb⟩
         have hsb := dmv_see hb.left
         have p0 := hsb.c0
         have p1 := hsb.c1
         have HB1 := Lib.hid hb.left
         clear hb hsb))
  all_goals
    by_cases hr1 : r1 = 0
    · subst hr1
      have hb1 := HB1.out
      rw [did_zero] at hb1
      have HC1 := Lib.hid hb1
      clear hb1 HB1 HA1 H
      obtain ⟨⟨r2, d2⟩, he2⟩ : ∃ p, d1.sync nb.data.toList = p := ⟨_, rfl⟩
      have hw2 : d2.wt < 1073741802 := by
        have := sync_wt (dr_ok HC1.out) nb.data.toList
        rw [he2] at this
        simp only at this
        omega
      have HE2 := Lib.hid he2
      clear he2
      go_upto_region 4 with fail
      go_region_held3 (fun w' => w'.cell? ⟨bm, 0, none⟩ = some (.pointer (some ⟨bd, 0, none⟩)) ∧ w'.cell? ⟨bm, 1, none⟩ = some (.string n)) (go_keep)
        (first
          | (go_at_call 57
             refine (dr_sync (Nice.star (nice_mdlv _ _ _ _ _ _) hR) (HC1.out.moved (nice_dmv hR) (Below.refl _ _).drew) nb HNS.out.1 HE2.out (by omega)).mono ?_
             rintro e wa2 ⟨rfl, ha⟩
             have hsa := dmv_see ha
             have q0 := hsa.c0
             have q1 := hsa.c1
             have HA2 := Lib.hid ha
             clear ha hsa)
          | (go_at_call 109
             refine (done_mdl (Nice.star (nice_disk _ _) hR) HA2.out.left r2).mono ?_
             rintro e wb2 ⟨rfl, hb⟩
             have hsb := dmv_see hb.left
             have p0 := hsb.c0
             have p1 := hsb.c1
             have HB2 := Lib.hid hb.left
             clear hb hsb))
      all_goals
        by_cases hr2 : r2 = 0
        · subst hr2
          have hb2 := HB2.out
          rw [did_zero] at hb2
          have HC2 := Lib.hid hb2
          clear hb2 HB2 HA2 HC1
          obtain ⟨⟨r3, d3⟩, he3⟩ : ∃ p, d2.rename nb.data.toList lb.data.toList = p := ⟨_, rfl⟩
          have hw3 : d3.wt < 1073741803 := by
            have := rename_wt (dr_ok HC2.out) nb.data.toList lb.data.toList
            rw [he3] at this
            simp only at this
            omega
          have HE3 := Lib.hid he3
          clear he3
          go_upto_region 7 with fail
          go_region_held3 (fun w' => w'.cell? ⟨bm, 0, none⟩ = some (.pointer (some ⟨bd, 0, none⟩)) ∧ w'.cell? ⟨bm, 1, none⟩ = some (.string n)) (go_keep)
            (first
              | (go_at_call 108
                 refine (dr_rename (Nice.star (nice_mdlv _ _ _ _ _ _) hR) (HC2.out.moved (nice_dmv hR) (Below.refl _ _).drew) nb lb HNS.out.1 HNS.out.2 HE3.out (by omega)).mono ?_
                 rintro e wa3 ⟨rfl, ha⟩
                 have hsa := dmv_see ha
                 have q0 := hsa.c0
                 have q1 := hsa.c1
                 have HA3 := Lib.hid ha
                 clear ha hsa)
              | (go_at_call 109
                 refine (done_mdl (Nice.star (nice_disk _ _) hR) HA3.out.left r3).mono ?_
                 rintro e wb3 ⟨rfl, hb⟩
                 have hsb := dmv_see hb.left
                 have p0 := hsb.c0
                 have p1 := hsb.c1
                 have HB3 := Lib.hid hb.left
                 clear hb hsb))
          all_goals
            by_cases hr3 : r3 = 0
            · subst hr3
              have hb3 := HB3.out
              rw [did_zero] at hb3
              have HC3 := Lib.hid hb3
              clear hb3 HB3 HA3 HC2
              obtain ⟨⟨r4, d4⟩, he4⟩ : ∃ p, d3.publish = p := ⟨_, rfl⟩
              have hw4 : d4.wt < 1073741804 := by
                have := publish_wt (dr_ok HC3.out)
                rw [he4] at this
                simp only at this
                omega
              have HE4 := Lib.hid he4
              clear he4
              go_wp2_with fail
              refine (dr_publish (Nice.star (nice_mdlv _ _ _ _ _ _) hR) HC3.out HE4.out (by omega)).mono ?_
              rintro e wa4 ⟨rfl, ha⟩
              have HA4 := Lib.hid ha.left
              clear ha
              go_wp2_with fail
              refine (done_mdl (Nice.star (nice_disk _ _) hR) HA4.out r4).mono ?_
              rintro e wb4 ⟨rfl, hb⟩
              have HB4 := Lib.hid hb.left
              clear hb HA4
              go_wp2_with fail
              go_ret
              have hz : Z = (r4, j.did r4, d4) := by
                rw [← HZ.out]
                by_cases hr : r4 = 0
                · subst hr
                  rw [did_zero]
                  simp [Jnl.run, Jnl.appends, Jnl.syncs, Jnl.renames, Jnl.publishes, HE1.out, HE2.out, HE3.out, HE4.out]
                · simp [Jnl.run, Jnl.appends, Jnl.syncs, Jnl.renames, Jnl.publishes, HE1.out, HE2.out, HE3.out, HE4.out, hr]
              rw [hz]
              exact ⟨rfl, HB4.out⟩
            · have hr' : (r3 != 0) = true := by simpa using hr3
              go_wp2_with fail
              go_ret
              have hz : Z = (r3, j.did r3, d3) := by
                rw [← HZ.out]
                simp [Jnl.run, Jnl.appends, Jnl.syncs, Jnl.renames, HE1.out, HE2.out, HE3.out, hr3]
              rw [hz]
              exact ⟨rfl, HB3.out⟩
        · have hr' : (r2 != 0) = true := by simpa using hr2
          go_wp2_with fail
          go_ret
          have hz : Z = (r2, j.did r2, d2) := by
            rw [← HZ.out]
            simp [Jnl.run, Jnl.appends, Jnl.syncs, HE1.out, HE2.out, hr2]
          rw [hz]
          exact ⟨rfl, HB2.out⟩
    · have hr' : (r1 != 0) = true := by simpa using hr1
      go_wp2_with fail
      go_ret
      have hz : Z = (r1, j.did r1, d1) := by
        rw [← HZ.out]
        simp [Jnl.run, Jnl.appends, HE1.out, hr1]
      rw [hz]
      exact ⟨rfl, HB1.out⟩
theorem lreplace_any (hR : Nice R) (h : DM R w0 w bd d bm n j) (x : ByteArray) (hx : x.size ≤ 1073741824) (hn : n.size ≤ 1048576) (hw : d.wt < 1073741800) {Z : Int × J × M} (hZ : Jnl.run (Jnl.replaceSteps n.data.toList x.data.toList) j d = Z) :
    Calls Tryz.prog 90 #[pm bm, .string x] w fun e w' => e = .returned (.int .i64 Z.1) ∧ DM R w0 w' bd Z.2.2 bm n Z.2.1 := by
  obtain ⟨vr, vp, h1⟩ := dm_open h
  exact (lreplace_v hR h1 x hx hn hw hZ).mono fun _ _ ⟨a, b⟩ => ⟨a, dmv_dm b⟩
end
end Go.Proofs.YtlhnjdoicolkkaaGreatDoor

/- The model's cut: the records before a number are removed. -/
set_option maxRecDepth 100000
namespace Go.Proofs.YtlhnjdoicolkkaaGreatDoor
open Go.RowKit Go.Dsk Go.Maps Go.WideMaps
set_option maxHeartbeats 16000000
open Jnl (J)

section
variable {w0 w : World} {bm bd : Nat} {n : ByteArray} {j : J} {d : M} {R : SP}
theorem lcut_out (hR : Nice R) (h : DM R w0 w bd d bm n j) {f : Int} (hf : f < 1073741824000000 ∧ -1073741824000000 < f) {e : Int} (he : (j.broken = true ∧ e = 18) ∨ (j.broken = false ∧ j.pend ≠ [] ∧ e = 17) ∨ (j.broken = false ∧ j.pend = [] ∧ f < j.first ∧ e = 10) ∨ (j.broken = false ∧ j.pend = [] ∧ ¬ f < j.first ∧ j.last + 1 < f ∧ e = 10) ∨
      (j.broken = false ∧ j.pend = [] ∧ ¬ f < j.first ∧ ¬ j.last + 1 < f ∧ 1099511627776 < f ∧ e = 2) ∨ (j.broken = false ∧ j.pend = [] ∧ ¬ j.last + 1 < f ∧ ¬ 1099511627776 < f ∧ f = j.first ∧ e = 0)) :
    Calls Tryz.prog 71 #[pm bm, .int .i64 f] w fun x w' => x = .returned (.int .i64 e) ∧ DM R w0 w' bd d bm n j := by
  obtain ⟨vr, vp, hs⟩ := dm_see h
  have c2 := hs.c2
  have c4 := hs.c4
  have c5 := hs.c5
  have f1 := hs.fit.first
  have f2 := hs.fit.recs
  have H := Lib.hid h
  rcases he with ⟨hb, rfl⟩ | ⟨hb, hp, rfl⟩ | ⟨hb, hp, h1, rfl⟩ | ⟨hb, hp, h1, h2, rfl⟩ | ⟨hb, hp, h1, h2, h3, rfl⟩ | ⟨hb, hp, h2, h3, h4, rfl⟩
  · rw [hb] at c5
    clear h hs
    go_enter Tryz.func71, Tryz.ntmps71
    go_wp2_with fail
    go_ret
    exact ⟨rfl, H.out⟩
  · rw [hb] at c5
    obtain ⟨ao, c, rfl, -⟩ := hs.p
    obtain ⟨m, hm⟩ : ∃ m, j.pend.length = m + 1 := ⟨j.pend.length - 1, by have := List.length_pos_iff.2 hp; omega⟩
    rw [hm] at c4
    clear h hs
    go_enter Tryz.func71, Tryz.ntmps71
    go_wp2_with fail
    go_ret
    exact ⟨rfl, H.out⟩
  all_goals
    rw [hb] at c5
    obtain ⟨ao, c, e4, -⟩ := hs.p
    rw [hp] at e4
    subst e4
  · have h1' : (f < (j.first : Int)) = True := by simp; omega
    clear h hs
    go_enter Tryz.func71, Tryz.ntmps71
    go_wp2_with fail
    go_ret
    exact ⟨rfl, H.out⟩
  all_goals
    have hl := llast_any hs
    have hlv : j.last = (j.first : Int) + j.recs.length - 1 := by unfold Jnl.J.last; rw [hb]; simp
    rw [← hlv] at hl
    obtain ⟨L, hL⟩ : ∃ L, j.last = L := ⟨_, rfl⟩
    rw [hL] at hl h2 hlv
    have hw : wrap64 (L + 1) = L + 1 := IntWalk.wrap64_in _ (by omega)
  · have h1' : (f < (j.first : Int)) = False := by simp; omega
    have h2' : (L + 1 < f) = True := by simp; omega
    clear h hs hlv hL
    go_enter Tryz.func71, Tryz.ntmps71
    go_wp2_with fail
    refine hl.mono ?_
    rintro e w2 ⟨rfl, q, rfl⟩
    go_wp2_with fail
    go_ret
    exact ⟨rfl, H.out.moved (nice_dm hR) (below_drawn w q)⟩
  · have h1' : (f < (j.first : Int)) = False := by simp; omega
    have h2' : (L + 1 < f) = False := by simp; omega
    have h3' : (1099511627776 < f) = True := by simp; omega
    clear h hs hlv hL
    go_enter Tryz.func71, Tryz.ntmps71
    go_wp2_with fail
    refine hl.mono ?_
    rintro e w2 ⟨rfl, q, rfl⟩
    go_wp2_with fail
    go_ret
    exact ⟨rfl, H.out.moved (nice_dm hR) (below_drawn w q)⟩
  · have h1' : (f < (j.first : Int)) = False := by simp; omega
    have h2' : (L + 1 < f) = False := by simp; omega
    have h3' : (1099511627776 < f) = False := by simp; omega
    have h4' : (f == (j.first : Int)) = true := by simp [h4]
    clear h hs hlv hL h4
    go_enter Tryz.func71, Tryz.ntmps71
    go_wp2_with fail
    refine hl.mono ?_
    rintro e w2 ⟨rfl, q, rfl⟩
    go_wp2_with fail
    go_ret
    exact ⟨rfl, H.out.moved (nice_dm hR) (below_drawn w q)⟩
theorem lcut_in (hR : Nice R) (hg : Glob w0) (h : DM R w0 w bd d bm n j) (k : Nat) (hb : j.broken = false) (hp : j.pend = []) (hk0 : 0 < k) (hk : k ≤ j.recs.length) (hle : j.first + k ≤ 1099511627776) (hn : n.size ≤ 1048576) (hw : d.wt < 1073741800) (hlr : j.recs.length ≤ 260000)
    {Z : Int × J × M} (hZ : Jnl.run (Jnl.replaceSteps n.data.toList (Jnl.content (j.first + k) (j.recs.drop k))) j d = Z) :
    Calls Tryz.prog 71 #[pm bm, .int .i64 ((j.first : Int) + k)] w fun x w' => (Z.1 ≠ 0 ∧ x = .returned (.int .i64 Z.1) ∧ DM R w0 w' bd Z.2.2 bm n Z.2.1) ∨ (Z.1 = 0 ∧ x = .returned (.int .i64 0) ∧ DM R w0 w' bd Z.2.2 bm n { j with first := j.first + k, recs := j.recs.drop k }) := by
  obtain ⟨vr, vp, hV⟩ := dm_open h
  have hs := dmv_see hV
  have c2 := hs.c2
  have c3 := hs.c3
  have c4 := hs.c4
  have c5 := hs.c5
  rw [hb] at c5
  have hl := llast_any hs
  have HF := Lib.hid hs.fit
  have f1 := hs.fit.first
  have f2 := hs.fit.recs
  obtain ⟨L, hlv⟩ : ∃ L : Int, L = (j.first : Int) + j.recs.length - 1 := ⟨_, rfl⟩
  rw [← hlv] at hl
  have hw1 : wrap64 (L + 1) = L + 1 := IntWalk.wrap64_in _ (by omega)
  have h1' : ((j.first : Int) + (k : Int) < (j.first : Int)) = False := by simp; omega
  have h2' : (L + 1 < (j.first : Int) + (k : Int)) = False := by simp; omega
  have h3' : (1099511627776 < (j.first : Int) + (k : Int)) = False := by simp; omega
  have h4' : ((j.first : Int) + (k : Int) == (j.first : Int)) = false := by simp; omega
  have hw2 : wrap64 ((j.first : Int) + (k : Int) - (j.first : Int)) = (k : Int) := (IntWalk.wrap64_in _ (by omega)).trans (by omega)
  have hw3 : IntKind.i64.wrap ((j.first : Int) + (k : Int) - (j.first : Int)) = (k : Int) := (IntWalk.i64_in _ (by omega)).trans (by omega)
  have hq0 : (0 : Int) ≤ (k : Int) := by omega
  have hq1 : (k : Int) ≤ (j.recs.length : Int) := by omega
  obtain ⟨ao4, c4', e4, -⟩ := hs.p
  rw [hp] at e4
  subst e4
  obtain ⟨ao, c, hvr, hc1, hc2, hcell⟩ := hs.r
  obtain ⟨ab, aoff, hao, halt, -⟩ := hcell (by omega)
  obtain ⟨a, ha⟩ : ∃ a : Addr, a = ⟨ab, aoff, none⟩ := ⟨_, rfl⟩
  rw [hao, ← ha] at hvr
  have hsub := strs_sub (by rw [← hvr]; exact hs.r : StrsIn w (.slice (some a) j.recs.length c) j.recs) hk
  rw [hvr] at c3
  have HVR := Lib.hid hvr
  unfold maxLen at hc2
  have H := Lib.hid hV
  have HG := Lib.hid hg
  have HZ := Lib.hid hZ
  have HSUB := Lib.hid hsub
  have hcs : ((j.first + k : Nat) : Int) = (j.first : Int) + (k : Int) := by omega
  have HCS := Lib.hid hcs
  clear h hV hs hlv hcell hg hZ hp hb hcs hsub hvr hao ha halt
  go_enter Tryz.func71, Tryz.ntmps71
  go_wp2_with fail
  refine hl.mono ?_
  rintro e w2 ⟨rfl, q, rfl⟩
  go_upto_region 11 with fail
  generalize hwq : w.drewN q = wq
  have hbq : Below w.heap.size w wq := by rw [← hwq]; exact below_drawn w q
  have c2 : wq.cell? ⟨bm, 2, none⟩ = some (.int .i64 j.first) := by rw [← hwq]; exact c2
  have c3 : wq.cell? ⟨bm, 3, none⟩ = some (.slice (some a) j.recs.length c) := by rw [← hwq]; exact c3
  have HQ := Lib.hid (H.out.moved (nice_dmv hR) hbq)
  have HS2 := Lib.hid (HSUB.out.below hbq)
  clear hwq hbq HSUB
  by_cases hck : c = k
  · go_quiet (fail)
    have HQ2 := Lib.hid (HQ.out.moved (nice_dmv hR) (below_drawn wq nq))
    have HS3 := Lib.hid (HS2.out.below (below_drawn wq nq))
    generalize wq.drewN nq = wr at *
    have hsr := HS3.out
    simp only [Option.map_some, hck, if_true, Nat.sub_self] at hsr
    have HSR := Lib.hid hsr
    clear hsr HS3
    have hct := jbytes_any (first := j.first + k) (HG.out.below HQ2.out.below) hle HSR.out (fun r hr => HF.out.lenR r (List.mem_of_mem_drop hr)) (by rw [List.length_drop]; omega)
    rw [HCS.out] at hct
    obtain ⟨xb, hxb⟩ : ∃ xb : ByteArray, (⟨(Jnl.content (j.first + k) (j.recs.drop k)).toArray⟩ : ByteArray) = xb := ⟨_, rfl⟩
    have hxd : xb.data.toList = Jnl.content (j.first + k) (j.recs.drop k) := by rw [← hxb]
    have hxs : xb.size ≤ 1073741824 := by
      have h1 : xb.data.toList.length = xb.size := rfl
      have h2 := itoa_small hle
      have h3 := frames_len (l := j.recs.drop k) (fun r hr => HF.out.lenR r (List.mem_of_mem_drop hr))
      rw [hxd] at h1
      unfold Jnl.content at h1
      rw [List.length_append, Jnl.frame_length] at h1
      have h4 : (j.recs.drop k).length * 4104 ≤ 260000 * 4104 := Nat.mul_le_mul_right _ (by rw [List.length_drop]; omega)
      omega
    rw [hxb] at hct
    have hz := HZ.out
    rw [← hxd] at hz
    have HZ2 := Lib.hid hz
    have HCT := Lib.hid hct
    clear hct hz hxb hxd HZ
    go_wp2_with fail
    refine HCT.out.mono ?_
    rintro e w4 ⟨rfl, hb4⟩
    have H4 := Lib.hid (HQ2.out.moved (nice_dmv hR) hb4)
    clear hb4
    go_wp2_with fail
    refine (lreplace_v hR H4.out xb hxs hn hw HZ2.out).mono ?_
    rintro e w5 ⟨rfl, h5⟩
    have H5 := Lib.hid h5
    clear h5 H4 HQ HQ2
    obtain ⟨z, j', d'⟩ := Z
    simp only at H5 ⊢
    by_cases hz : z = 0
    · subst hz
      have hjj : j' = j := by
        have := run_ok (l := Jnl.replaceSteps n.data.toList xb.data.toList) (j := j) (d := d) (by rw [HZ2.out])
        rw [HZ2.out] at this
        exact this
      subst hjj
      have hs5 := dmv_see H5.out
      have z2 := hs5.free 2
      have e1 := block_set hs5.hd 2 (.int .i64 ((j'.first : Int) + k))
      have z3 := block_free e1 3
      have y2 := hs5.c2
      have y3 := block_cell e1 3
      simp [mCells] at y3
      have hfin := (H5.out.left.turn (Nice.star (nice_disk _ _) hR) fun _ hS => mdl_sub hS (k := k) (c := c) HVR.out hk (f := j'.first + k) (j' := { j' with first := j'.first + k, recs := j'.recs.drop k }) ⟨hle, by simp only [List.length_drop]; omega, HF.out.pend, fun r hr => HF.out.lenR r (List.mem_of_mem_drop hr), HF.out.lenP⟩ rfl rfl rfl rfl).left
      rw [mset, HCS.out] at hfin
      simp only [Option.map_some, hck, if_true, Nat.sub_self] at hfin
      have HFIN := Lib.hid hfin
      clear hfin hs5 e1 H5
      go_wp2_with fail
      go_ret
      exact ⟨rfl, HFIN.out⟩
    · have hz' : (z != 0) = true := by simpa using hz
      go_wp2_with fail
      go_ret
      exact ⟨rfl, dmv_dm H5.out⟩
  · go_quiet (fail)
    have HQ2 := Lib.hid (HQ.out.moved (nice_dmv hR) (below_drawn wq nq))
    have HS3 := Lib.hid (HS2.out.below (below_drawn wq nq))
    generalize wq.drewN nq = wr at *
    have hsr := HS3.out
    simp only [Option.map_some, hck, if_false] at hsr
    have HSR := Lib.hid hsr
    clear hsr HS3
    have hct := jbytes_any (first := j.first + k) (HG.out.below HQ2.out.below) hle HSR.out (fun r hr => HF.out.lenR r (List.mem_of_mem_drop hr)) (by rw [List.length_drop]; omega)
    rw [HCS.out] at hct
    obtain ⟨xb, hxb⟩ : ∃ xb : ByteArray, (⟨(Jnl.content (j.first + k) (j.recs.drop k)).toArray⟩ : ByteArray) = xb := ⟨_, rfl⟩
    have hxd : xb.data.toList = Jnl.content (j.first + k) (j.recs.drop k) := by rw [← hxb]
    have hxs : xb.size ≤ 1073741824 := by
      have h1 : xb.data.toList.length = xb.size := rfl
      have h2 := itoa_small hle
      have h3 := frames_len (l := j.recs.drop k) (fun r hr => HF.out.lenR r (List.mem_of_mem_drop hr))
      rw [hxd] at h1
      unfold Jnl.content at h1
      rw [List.length_append, Jnl.frame_length] at h1
      have h4 : (j.recs.drop k).length * 4104 ≤ 260000 * 4104 := Nat.mul_le_mul_right _ (by rw [List.length_drop]; omega)
      omega
    rw [hxb] at hct
    have hz := HZ.out
    rw [← hxd] at hz
    have HZ2 := Lib.hid hz
    have HCT := Lib.hid hct
    clear hct hz hxb hxd HZ
    go_wp2_with fail
    refine HCT.out.mono ?_
    rintro e w4 ⟨rfl, hb4⟩
    have H4 := Lib.hid (HQ2.out.moved (nice_dmv hR) hb4)
    clear hb4
    go_wp2_with fail
    refine (lreplace_v hR H4.out xb hxs hn hw HZ2.out).mono ?_
    rintro e w5 ⟨rfl, h5⟩
    have H5 := Lib.hid h5
    clear h5 H4 HQ HQ2
    obtain ⟨z, j', d'⟩ := Z
    simp only at H5 ⊢
    by_cases hz : z = 0
    · subst hz
      have hjj : j' = j := by
        have := run_ok (l := Jnl.replaceSteps n.data.toList xb.data.toList) (j := j) (d := d) (by rw [HZ2.out])
        rw [HZ2.out] at this
        exact this
      subst hjj
      have hs5 := dmv_see H5.out
      have z2 := hs5.free 2
      have e1 := block_set hs5.hd 2 (.int .i64 ((j'.first : Int) + k))
      have z3 := block_free e1 3
      have y2 := hs5.c2
      have y3 := block_cell e1 3
      simp [mCells] at y3
      have hfin := (H5.out.left.turn (Nice.star (nice_disk _ _) hR) fun _ hS => mdl_sub hS (k := k) (c := c) HVR.out hk (f := j'.first + k) (j' := { j' with first := j'.first + k, recs := j'.recs.drop k }) ⟨hle, by simp only [List.length_drop]; omega, HF.out.pend, fun r hr => HF.out.lenR r (List.mem_of_mem_drop hr), HF.out.lenP⟩ rfl rfl rfl rfl).left
      rw [mset, HCS.out] at hfin
      simp only [Option.map_some, hck, if_false] at hfin
      have HFIN := Lib.hid hfin
      clear hfin hs5 e1 H5
      go_wp2_with fail
      go_ret
      exact ⟨rfl, HFIN.out⟩
    · have hz' : (z != 0) = true := by simpa using hz
      go_wp2_with fail
      go_ret
      exact ⟨rfl, dmv_dm H5.out⟩
/-- The model's cut, as the chapter defines it. -/
theorem lcut_any (hR : Nice R) (hg : Glob w0) (h : DM R w0 w bd d bm n j) {f : Int} (hf : f < 1073741824000000 ∧ -1073741824000000 < f) (hn : n.size ≤ 1048576) (hw : d.wt < 1073741800) (hlr : j.recs.length ≤ 260000) :
    Calls Tryz.prog 71 #[pm bm, .int .i64 f] w fun x w' => x = .returned (.int .i64 (j.cut n.data.toList d f).1) ∧ DM R w0 w' bd (j.cut n.data.toList d f).2.2 bm n (j.cut n.data.toList d f).2.1 := by
  unfold Jnl.J.cut
  cases hb : j.broken with
  | true => exact lcut_out hR h hf (.inl ⟨hb, rfl⟩)
  | false =>
    simp only [Bool.false_eq_true, if_false]
    by_cases hp : j.pend = []
    · rw [if_neg (fun h => h hp)]
      by_cases h1 : f < j.first
      · rw [if_pos (.inl h1)]
        exact lcut_out hR h hf (.inr (.inr (.inl ⟨hb, hp, h1, rfl⟩)))
      · by_cases h2 : j.last + 1 < f
        · rw [if_pos (.inr h2)]
          exact lcut_out hR h hf (.inr (.inr (.inr (.inl ⟨hb, hp, h1, h2, rfl⟩))))
        · rw [if_neg (fun h => h.elim h1 h2)]
          by_cases h3 : 1099511627776 < f
          · rw [if_pos h3]
            exact lcut_out hR h hf (.inr (.inr (.inr (.inr (.inl ⟨hb, hp, h1, h2, h3, rfl⟩)))))
          · rw [if_neg h3]
            by_cases h4 : f = j.first
            · rw [if_pos h4]
              exact lcut_out hR h hf (.inr (.inr (.inr (.inr (.inr ⟨hb, hp, h2, h3, h4, rfl⟩)))))
            · rw [if_neg h4]
              have hlv : j.last = (j.first : Int) + j.recs.length - 1 := by unfold Jnl.J.last; rw [hb]; simp
              obtain ⟨k, hk⟩ : ∃ k : Nat, k = (f - j.first).toNat := ⟨_, rfl⟩
              have hfk : f = (j.first : Int) + k := by omega
              have hft : f.toNat = j.first + k := by omega
              rw [← hk, hft, hfk]
              refine (lcut_in hR hg h k hb hp (by omega) (by omega) (by omega) hn hw hlr rfl).mono ?_
              rintro e w' (⟨h5, h6, h7⟩ | ⟨h5, h6, h7⟩)
              · rw [if_neg h5]
                exact ⟨h6, h7⟩
              · rw [if_pos h5]
                refine ⟨h6, ?_⟩
                simpa only [hb] using h7
    · rw [if_pos hp]
      exact lcut_out hR h hf (.inr (.inl ⟨hb, hp, rfl⟩))
end
end Go.Proofs.YtlhnjdoicolkkaaGreatDoor
