/- What act calls, upon a pair: each call's contract. -/
import Derived.Test.YtlhnjdoicolkkaaGreatDoorJAgree
import Derived.Test.YtlhnjdoicolkkaaGreatDoorJBnd
import Derived.Test.YtlhnjdoicolkkaaGreatDoorMcom
import Derived.Deep.RegionHeld3
set_option maxRecDepth 100000
namespace Go.Proofs.YtlhnjdoicolkkaaGreatDoor
open Go.RowKit Go.Dsk Go.Maps Go.WideMaps
set_option maxHeartbeats 2000000
open Jnl (J)

section
variable {w0 w : World} {bp bj bm bd bo : Nat} {d m : M} {j k : J} {R : SP}
/-- The third and the fourth come ahead of the first two. -/
theorem Has.cross {P Q X Y T : SP} (h : Has w0 w (Star P (Star Q (Star X (Star Y T))))) : Has w0 w (Star X (Star Y (Star P (Star Q T)))) :=
  h.out2.imp fun _ h => h.inner fun _ h => (h.inner fun _ h => h.left).left
theorem Has.fifth {P Q X Y Z T : SP} (h : Has w0 w (Star P (Star Q (Star X (Star Y (Star Z T)))))) : Has w0 w (Star Z (Star P (Star Q (Star X (Star Y T))))) :=
  (h.imp fun _ h => h.inner fun _ h => (h.inner fun _ h => (h.inner fun _ h => h.left).left).left).left
theorem Has.into5 {P Q X Y Z T : SP} (h : Has w0 w (Star Z (Star P (Star Q (Star X (Star Y T)))))) : Has w0 w (Star P (Star Q (Star X (Star Y (Star Z T))))) :=
  h.left.imp fun _ h => h.inner fun _ h => h.left.inner fun _ h => h.left.inner fun _ h => h.left
theorem nice_other (hR : Nice R) : Nice (Star (DiskP bd d) (Star (JrnP bj bd logB j) (Star (PairP bp bj bm bd) R))) := Nice.star (nice_disk _ _) (Nice.star (nice_jrn _ _ _ _) (Nice.star (nice_pair _ _ _ _) hR))
theorem nice_four (hR : Nice R) : Nice (Star (DiskP bd d) (Star (JrnP bj bd logB j) (Star (DiskP bo m) (Star (MdlP bm bo logB k) R)))) := Nice.star (nice_disk _ _) (Nice.star (nice_jrn _ _ _ _) (Nice.star (nice_disk _ _) (Nice.star (nice_mdl _ _ _ _) hR)))
theorem nice_bes (hR : Nice R) : Nice (Star (DiskP bd d) (Star (DiskP bo m) (Star (MdlP bm bo logB k) (Star (PairP bp bj bm bd) R)))) := Nice.star (nice_disk _ _) (Nice.star (nice_disk _ _) (Nice.star (nice_mdl _ _ _ _) (Nice.star (nice_pair _ _ _ _) hR)))
theorem nice_res (hR : Nice R) : Nice (Star (DiskP bo m) (Star (MdlP bm bo logB k) (Star (PairP bp bj bm bd) R))) := Nice.star (nice_disk _ _) (Nice.star (nice_mdl _ _ _ _) (Nice.star (nice_pair _ _ _ _) hR))
theorem duo_append (hR : Nice R) (h : Duo R w0 w bp bj bm bd bo d m j k) (r : ByteArray) : Calls Tryz.prog 22 #[pj bj, .string r] w fun x w' => x = .returned (.tuple #[.int .i64 (j.append r.data.toList).1, .int .i64 (j.append r.data.toList).2.1]) ∧ Duo R w0 w' bp bj bm bd bo d m (j.append r.data.toList).2.2 k :=
  (JAppend_jr (nice_bes hR) h.left r).mono fun _ _ h => ⟨h.1, h.2.left⟩
theorem duo_lappend (hR : Nice R) (h : Duo R w0 w bp bj bm bd bo d m j k) (r : ByteArray) : Calls Tryz.prog 73 #[pm bm, .string r] w fun x w' => x = .returned (.tuple #[.int .i64 (k.append r.data.toList).1, .int .i64 (k.append r.data.toList).2.1]) ∧ Duo R w0 w' bp bj bm bd bo d m j (k.append r.data.toList).2.2 :=
  (lappend_mdl (Nice.star (nice_disk _ _) (nice_other hR)) h.cross.left r).mono fun _ _ h => ⟨h.1, h.2.left.cross⟩
theorem duo_commit (hR : Nice R) (hg : Glob w0) (h : Duo R w0 w bp bj bm bd bo d m j k) (hw : d.wt < 1073741800) (hrl : j.recs.length + 64 ≤ 1073741824) :
    Calls Tryz.prog 24 #[pj bj] w fun e w' => e = .returned (.tuple #[.int .i64 (j.commit logB.data.toList d).1, .int .i64 (j.commit logB.data.toList d).2.1]) ∧ Duo R w0 w' bp bj bm bd bo (j.commit logB.data.toList d).2.2.2 m (j.commit logB.data.toList d).2.2.1 k :=
  Commit_any (nice_res hR) hg h (by decide) hw hrl
theorem duo_lcommit (hR : Nice R) (hg : Glob w0) (h : Duo R w0 w bp bj bm bd bo d m j k) (hh : k.broken = false → m.down = false → k.has = (find m.names (Jnl.logName logB.data.toList)).isSome) (hw : m.wt < 1073741700) (hrl : k.recs.length + 64 ≤ 1073741824) :
    Calls Tryz.prog 70 #[pm bm] w fun e w' => e = .returned (.tuple #[.int .i64 (k.commit logB.data.toList m).1, .int .i64 (k.commit logB.data.toList m).2.1]) ∧ Duo R w0 w' bp bj bm bd bo d (k.commit logB.data.toList m).2.2.2 j (k.commit logB.data.toList m).2.2.1 :=
  (lcommit_any (nice_other hR) hg h.cross hh (by decide) hw hrl).mono fun _ _ h => ⟨h.1, h.2.cross⟩
theorem duo_discard (hR : Nice R) (h : Duo R w0 w bp bj bm bd bo d m j k) : Calls Tryz.prog 30 #[pj bj] w fun r w' => r = .returned (.int .i64 j.discard.1) ∧ Duo R w0 w' bp bj bm bd bo d m j.discard.2 k :=
  (Discard_jr (nice_bes hR) h.left).mono fun _ _ h => ⟨h.1, h.2.left⟩
/-- The model forgets what is pending. -/
theorem mdl_nil {n : ByteArray} {S : Nat → Prop} (hS : MdlP bm bd n j S w) : Does S w (MdlP bm bd n { j with pend := [] }) (w.setCell ⟨bm, 4, none⟩ (.slice none 0 0)) := by
  obtain ⟨hF, vr, vp, A, B, hu, hdj, h1, C, D, hu2, hdj2, h2, h3⟩ := hS
  have hfr : Fr (fun i => i = bm) w (w.setCell ⟨bm, 4, none⟩ (.slice none 0 0)) := (Fr.refl (fun i => i = bm) w).setCell (p := ⟨bm, 4, none⟩) (.inl rfl) (nobox_m h1.2) _
  have hCA : ∀ i, C i → ¬ i = bm := fun i hi e => hdj i ((h1.1 i).2 e) ((hu2 i).2 (.inl hi))
  refine ⟨fun i => A i ∨ C i, ?_, ⟨⟨hF.first, hF.recs, Nat.zero_le _, hF.lenR, fun r hr => by cases hr⟩, vr, .slice none 0 0, A, C, fun i => Iff.rfl, fun i ha hc => hdj i ha ((hu2 i).2 (.inl hc)), ⟨h1.1, by have := block_set h1.2 4 (.slice none 0 0); simpa [mCells] using this⟩, C, fun _ => False, fun i => by simp, fun i _ h => h, (nice_rd vr j.recs).keep h2 hfr hCA, str_nil _⟩, hfr.mono fun i hi => (hu i).2 (.inl ((h1.1 i).2 hi))⟩
  rintro i (hi | hi)
  · exact .inl ((hu i).2 (.inl hi))
  · exact .inl ((hu i).2 (.inr ((hu2 i).2 (.inl hi))))
theorem duo_nil (hR : Nice R) (h : Duo R w0 w bp bj bm bd bo d m j k) : Duo R w0 (w.setCell ⟨bm, 4, none⟩ (.slice none 0 0)) bp bj bm bd bo d m j { k with pend := [] } :=
  (h.cross.left.turn (Nice.star (nice_disk _ _) (nice_other hR)) fun _ hS => mdl_nil hS).left.cross
theorem duo_cut (hR : Nice R) (hg : Glob w0) (h : Duo R w0 w bp bj bm bd bo d m j k) {f : Int} (hf : f < 1073741824000000 ∧ -1073741824000000 < f) (hw : d.wt < 1073741800) (hlr : j.recs.length ≤ 260000) :
    Calls Tryz.prog 31 #[pj bj, .int .i64 f] w fun x w' => x = .returned (.int .i64 (j.cut logB.data.toList d f).1) ∧ Duo R w0 w' bp bj bm bd bo (j.cut logB.data.toList d f).2.2 m (j.cut logB.data.toList d f).2.1 k :=
  Cut_any (nice_res hR) hg h hf (by decide) hw hlr
theorem duo_lcut (hR : Nice R) (hg : Glob w0) (h : Duo R w0 w bp bj bm bd bo d m j k) {f : Int} (hf : f < 1073741824000000 ∧ -1073741824000000 < f) (hw : m.wt < 1073741800) (hlr : k.recs.length ≤ 260000) :
    Calls Tryz.prog 71 #[pm bm, .int .i64 f] w fun x w' => x = .returned (.int .i64 (k.cut logB.data.toList m f).1) ∧ Duo R w0 w' bp bj bm bd bo d (k.cut logB.data.toList m f).2.2 j (k.cut logB.data.toList m f).2.1 :=
  (lcut_any (nice_other hR) hg h.cross hf (by decide) hw hlr).mono fun _ _ h => ⟨h.1, h.2.cross⟩
theorem duo_records (hR : Nice R) (h : Duo R w0 w bp bj bm bd bo d m j j) (f : Int) (hf : f < 1073741824000000 ∧ -1073741824000000 < f) : Calls Tryz.prog 29 #[pj bj, .int .i64 f] w fun e w' => ∃ v, e = .returned (.tuple #[v, .int .i64 (j.records f).2]) ∧ StrsIn w' v (j.records f).1 ∧ Below w.heap.size w w' ∧ Duo R w0 w' bp bj bm bd bo d m j j := by
  obtain ⟨_, _, _, _, hd⟩ := duo_see h
  refine (Records_any hd.js f (by omega)).mono ?_
  rintro e w' ⟨v, rfl, hv, hb⟩
  exact ⟨v, rfl, hv, hb, h.moved (nice_duo hR) hb⟩
/-- Opening a journal beside a pair: the new one lies ahead of the old one. -/
theorem duo_open (hR : Nice R) (hg : Glob w0) (h : Duo R w0 w bp bj bm bd bo d m j k) (hw : d.wt < 1073741000) {Z : Int × Option J × M} (hZ : Jnl.opened logB.data.toList d = Z) :
    Calls Tryz.prog 27 #[.pointer (some ⟨bd, 0, none⟩), .string logB] w fun e w' => JOpened (Star (JrnP bj bd logB j) (Star (DiskP bo m) (Star (MdlP bm bo logB k) (Star (PairP bp bj bm bd) R)))) w0 w' bd logB Z e :=
  JOpen_any (Nice.star (nice_jrn _ _ _ _) (nice_res hR)) hg h (by decide) hw hZ
/-- Opening a model behind that. -/
theorem duo_lopen {bj1 : Nat} {j1 : J} (hR : Nice R) (hg : Glob w0) (h : DJ (Star (JrnP bj bd logB j) (Star (DiskP bo m) (Star (MdlP bm bo logB k) (Star (PairP bp bj bm bd) R)))) w0 w bd d bj1 logB j1) (hw : m.wt < 1073741000) {Z : Int × Option J × M} (hZ : Jnl.opened logB.data.toList m = Z) :
    Calls Tryz.prog 48 #[.pointer (some ⟨bo, 0, none⟩), .string logB] w fun e w' =>
      (∃ bm1 k1, Z.2.1 = some k1 ∧ e = .returned (.tuple #[pm bm1, .int .i64 Z.1]) ∧ Has w0 w' (Star (DiskP bd d) (Star (JrnP bj1 bd logB j1) (Star (DiskP bo Z.2.2) (Star (MdlP bm1 bo logB k1) (Star (PairP bp bj bm bd) R)))))) ∨ (Z.2.1 = none ∧ e = .returned (.tuple #[.pointer none, .int .i64 Z.1])) := by
  have h1 : Has w0 w (Star (DiskP bd d) (Star (JrnP bj1 bd logB j1) (Star (DiskP bo m) (Star (MdlP bm bo logB k) (Star (PairP bp bj bm bd) R))))) :=
    h.sub (Sub.inner (Sub.inner (Sub.drop _ _)))
  have h2 : Has w0 w (Star (DiskP bo m) (Star (DiskP bd d) (Star (JrnP bj1 bd logB j1) (Star (PairP bp bj bm bd) R)))) := h1.cross.sub (Sub.inner (Sub.drop _ _))
  refine (lopen_any (Nice.star (nice_disk _ _) (Nice.star (nice_jrn _ _ _ _) (Nice.star (nice_pair _ _ _ _) hR))) hg h2 (by decide) hw hZ).mono ?_
  rintro e w' (⟨bm1, k1, hk, rfl, h3⟩ | ⟨hk, rfl, -⟩)
  · exact .inl ⟨bm1, k1, hk, rfl, h3.cross⟩
  · exact .inr ⟨hk, rfl⟩
theorem duo_lopen0 (hR : Nice R) (hg : Glob w0) (h : Duo R w0 w bp bj bm bd bo d m j k) (hw : m.wt < 1073741000) {Z : Int × Option J × M} (hZ : Jnl.opened logB.data.toList m = Z) :
    Calls Tryz.prog 48 #[.pointer (some ⟨bo, 0, none⟩), .string logB] w fun e w' =>
      (∃ bm1 k1, Z.2.1 = some k1 ∧ e = .returned (.tuple #[pm bm1, .int .i64 Z.1])) ∨ (Z.2.1 = none ∧ e = .returned (.tuple #[.pointer none, .int .i64 Z.1]) ∧ Duo R w0 w' bp bj bm bd bo d Z.2.2 j k) := by
  refine (lopen_any (Nice.star (nice_mdl _ _ _ _) (nice_other hR)) hg h.cross (by decide) hw hZ).mono ?_
  rintro e w' (⟨bm1, k1, hk, rfl, -⟩ | ⟨hk, rfl, h3⟩)
  · exact .inl ⟨bm1, k1, hk, rfl⟩
  · exact .inr ⟨hk, rfl, h3.cross⟩
/-- The pair takes a new journal and a new model. -/
theorem pair_set {bj1 bm1 : Nat} {S : Nat → Prop} (h : PairP bp bj bm bd S w) : Does S w (PairP bp bj1 bm1 bd) ((w.setCell ⟨bp, 0, none⟩ (pj bj1)).setCell ⟨bp, 1, none⟩ (pm bm1)) := by
  have nb : ∀ {w : World} {x y z : Value}, w.heap[bp]? = some (.cells #[x, y, z] 47 (0, 0)) → ¬ IsBox w bp := by
    rintro w x y z h ⟨s, hs⟩
    rw [h] at hs
    simp at hs
  have e1 := block_set h.2 0 (pj bj1)
  have e2 := block_set e1 1 (pm bm1)
  exact ⟨S, fun _ => .inl, ⟨h.1, by simpa using e2⟩, ((Fr.refl S w).setCell (p := ⟨bp, 0, none⟩) (.inl ((h.1 bp).2 rfl)) (nb h.2) _).setCell (p := ⟨bp, 1, none⟩) (.inl ((h.1 bp).2 rfl)) (nb (by simpa using e1)) _⟩
theorem duo_pair {bj0 bm0 : Nat} (hR : Nice R) (h : Has w0 w (Star (DiskP bd d) (Star (JrnP bj bd logB j) (Star (DiskP bo m) (Star (MdlP bm bo logB k) (Star (PairP bp bj0 bm0 bd) R)))))) : Duo R w0 ((w.setCell ⟨bp, 0, none⟩ (pj bj)).setCell ⟨bp, 1, none⟩ (pm bm)) bp bj bm bd bo d m j k :=
  (h.fifth.turn (nice_four hR) fun _ hS => pair_set hS).into5
/-- Beside a pair lies one more thing. -/
theorem duo_more {F : SP} (h : Has w0 w (Star F (Star (DiskP bd d) (Star (JrnP bj bd logB j) (Star (DiskP bo m) (Star (MdlP bm bo logB k) (Star (PairP bp bj bm bd) R))))))) : Duo (Star F R) w0 w bp bj bm bd bo d m j k :=
  h.left.imp fun _ h => h.inner fun _ h => h.left.inner fun _ h => h.left.inner fun _ h => h.left.inner fun _ h => h.left
theorem duo_rest (h : Duo R w0 w bp bj bm bd bo d m j k) : Has w0 w R := h.snd.snd.snd.snd.snd
theorem sim_wt (h : SimE m d) : d.wt = m.wt := by
  obtain ⟨r, h⟩ := h
  unfold M.wt
  rw [h.durable, h.pend]
  simp [mapDir]
theorem row_rd {base : Nat} {v : Value} {l : List Bs} (h : StrRow base w v l) : RdP v l (fun i => rdBlk v = some i) w ∧ ∀ i, rdBlk v = some i → base ≤ i := by
  refine ⟨⟨fun _ => Iff.rfl, h.reads⟩, fun i hi => (h.1.lt i ?_).1⟩
  unfold rdBlk at hi
  split at hi
  · simpa [Value.ownBlock] using hi
  · cases hi
theorem duo_cells (h : Duo R w0 w bp bj bm bd bo d m j k) : w.cell? ⟨bp, 0, none⟩ = some (pj bj) ∧ w.cell? ⟨bp, 1, none⟩ = some (pm bm) ∧ w.cell? ⟨bp, 2, none⟩ = some (.pointer (some ⟨bd, 0, none⟩)) := by
  have hp := h.snd.snd.snd.snd.quiet fun _ hS => hS.2
  have a0 := block_cell hp 0
  have a1 := block_cell hp 1
  have a2 := block_cell hp 2
  simp at a0 a1 a2
  exact ⟨a0, a1, a2⟩
theorem duo_model (h : Duo R w0 w bp bj bm bd bo d m j k) : ∃ mr mp, MSee w bm bo logB k mr mp := h.snd.snd.snd.quiet fun _ hS => hS.see
theorem duo_fit (h : Duo R w0 w bp bj bm bd bo d m j k) : Fit j := h.snd.quiet fun _ hS => hS.1
theorem pair_free {bj0 bm0 : Nat} (h : Has w0 w (Star (DiskP bd d) (Star (JrnP bj bd logB j) (Star (DiskP bo m) (Star (MdlP bm bo logB k) (Star (PairP bp bj0 bm0 bd) R)))))) (i : Nat) : w.frozen? ⟨bp, i, none⟩ = false := block_free (h.snd.snd.snd.snd.quiet fun _ hS => hS.2) i
theorem pair_cells {bj0 bm0 : Nat} (h : Has w0 w (Star (DiskP bd d) (Star (JrnP bj bd logB j) (Star (DiskP bo m) (Star (MdlP bm bo logB k) (Star (PairP bp bj0 bm0 bd) R)))))) : w.cell? ⟨bp, 0, none⟩ = some (pj bj0) ∧ w.cell? ⟨bp, 1, none⟩ = some (pm bm0) := by
  have hp := h.snd.snd.snd.snd.quiet fun _ hS => hS.2
  have a0 := block_cell hp 0
  have a1 := block_cell hp 1
  simp at a0 a1
  exact ⟨a0, a1⟩
theorem duo_old {bj1 : Nat} {j1 : J} (h : DJ (Star (JrnP bj bd logB j) (Star (DiskP bo m) (Star (MdlP bm bo logB k) (Star (PairP bp bj bm bd) R)))) w0 w bd d bj1 logB j1) : Duo R w0 w bp bj bm bd bo d m j k := h.sub (Sub.inner (Sub.drop _ _))
/-- A list sliced, as the walk writes it. -/
theorem strs_drop {ao : Option Addr} {c k : Nat} {l : List Bs} (h : StrsIn w (.slice ao l.length c) l) (hk : k ≤ l.length) : StrsIn w (.slice (if c = k then ao else ao.map fun x => x.add k) (l.length - k) (c - k)) (l.drop k) := by
  have e : (ao.map fun a => if c = k then a else a.add k) = if c = k then ao else ao.map fun x => x.add k := by split <;> simp
  rw [← e]
  exact strs_sub h hk
/-- The record that an append takes. -/
def RecIs (l : List Bs) (q : Int) (r : ByteArray) : Prop := (l = [] ∧ r = ⟨#[]⟩) ∨ ∃ i, i < l.length ∧ (q % 256) % (l.length : Int) = (i : Int) ∧ strV (l.getD i []) = .string r
theorem rec_is (l : List Bs) (q : Int) : ∃ r, RecIs l q r := by
  by_cases h : l = []
  · exact ⟨_, .inl ⟨h, rfl⟩⟩
  · have h0 : 0 < l.length := List.length_pos_iff.2 h
    have h1 := Int.emod_nonneg (q % 256) (show (l.length : Int) ≠ 0 by omega)
    have h2 := Int.emod_lt_of_pos (q % 256) (show (0 : Int) < (l.length : Int) by omega)
    exact ⟨_, .inr ⟨((q % 256) % (l.length : Int)).toNat, by omega, by omega, rfl⟩⟩
end
end Go.Proofs.YtlhnjdoicolkkaaGreatDoor

/- act: Commit. -/
set_option maxRecDepth 100000
namespace Go.Proofs.YtlhnjdoicolkkaaGreatDoor
open Go.RowKit Go.Dsk Go.Maps Go.WideMaps
set_option maxHeartbeats 8000000
open Jnl (J)

section
variable {w0 w : World} {bp bj bm bd bo : Nat} {d m : M} {j : J} {R : SP}
theorem pact_com {k q : Int} {l : List Bs} {va : Value} {r : ByteArray} (hR : Nice R) (hg : Glob w0) (h : Duo R w0 w bp bj bm bd bo d m j j) (hs : SimE m d) (_hi : Jnl.Inv logB.data.toList j m) (hl : StrsIn w va l)
    (hk0 : 0 ≤ k) (_hk1 : k ≤ 255) (hq0 : -128 ≤ q) (hq1 : q ≤ 127) (hr : RecIs l q r) (hw : m.wt < 1073741000) (_hrl : j.recs.length ≤ 260000) (hk : k % 8 = 3) :
    Calls Tryz.prog 34 #[.pointer (some ⟨bp, 0, none⟩), va, .agg #[.int .u8 k, .int .i8 q]] w fun e w' => e = .returned (.bool true) ∧ ∃ bj' bm', Duo R w0 w' bp bj' bm' bd bo (actJ logB.data.toList r.data.toList k q j d).2 (actJ logB.data.toList r.data.toList k q j m).2 (actJ logB.data.toList r.data.toList k q j m).1 (actJ logB.data.toList r.data.toList k q j m).1 := by
  have hwd : d.wt < 1073741000 := by rw [sim_wt hs]; exact hw
  have hf1 := (duo_fit h).first
  obtain ⟨Z, hZ⟩ : ∃ Z, j.commit logB.data.toList d = Z := ⟨_, rfl⟩
  obtain ⟨Y, hY⟩ : ∃ Y, j.commit logB.data.toList m = Y := ⟨_, rfl⟩
  have hsim := Jnl.commit_sim logB.data.toList j hs _hi.ok
  rw [hZ, hY] at hsim
  obtain ⟨zn, ze, zj, zd⟩ := Z
  obtain ⟨yn, ye, yj, yd⟩ := Y
  simp only at hsim
  obtain ⟨rfl, rfl, rfl, -⟩ := hsim
  have a1 : actJ logB.data.toList r.data.toList k q j d = (zj, zd) := by unfold actJ; rw [if_pos hk, hZ]
  have a2 : actJ logB.data.toList r.data.toList k q j m = (zj, yd) := by unfold actJ; rw [if_pos hk, hY]
  rw [a1, a2]
  have hkn := _hi.knows
  have HZ := Lib.hid (And.intro hZ (And.intro hY hkn))
  clear a1 a2 hZ hY hkn
  have q1 : (zn == zn) = true := by simp
  have q2 : (ze == ze) = true := by simp
  have hk8 : k.tmod 8 = k % 8 := Int.tmod_eq_emod_of_nonneg hk0
  rw [hk] at hk8
  obtain ⟨bx, hbx⟩ : ∃ bx, bx = w.heap.size := ⟨_, rfl⟩
  have x0 : (w.alloc (.cells #[.int .u8 k, .int .i8 q] 64)).cell? ⟨bx, 0, none⟩ = some (.int .u8 k) := by rw [hbx]; simp
  have x1 : (w.alloc (.cells #[.int .u8 k, .int .i8 q] 64)).cell? ⟨bx, 1, none⟩ = some (.int .i8 q) := by rw [hbx]; simp
  have hal : Below w.heap.size w (w.alloc (.cells #[.int .u8 k, .int .i8 q] 64)) := (Below.refl _ w).alloc (Nat.le_refl _) _
  have HW := Lib.hid (h.moved (nice_duo hR) hal)
  have HL := Lib.hid (hl.below hal)
  have HG := Lib.hid hg
  have HBX := Lib.hid hbx
  have HR := Lib.hid hr
  obtain ⟨ao, c, rfl, -, -, -⟩ := hl
  clear h hal hg hbx hr _hi hs
  go_enter Tryz.func34, Tryz.ntmps34
  go_upto_region 1 with fail
  rw [← HBX.out]
  generalize w.alloc (.cells #[.int .u8 k, .int .i8 q] 64) = wa at *
  clear HBX
  rcases HR.out with ⟨rfl, rfl⟩ | ⟨i, hil, hid, hst⟩
  · go_upto_region 4 with fail
    clear HL HR
    obtain ⟨mr, mp, hm⟩ := duo_model HW.out
    have p1 := (duo_cells HW.out).2.1
    have b2 := hm.c2
    clear hm
    go_region
    all_goals
      clear p1 b2
      have h1 := HW.out.moved (nice_duo hR) (Below.refl _ wa).drew
      have p0 := (duo_cells h1).1
      have hc := duo_commit hR HG.out h1 (by omega) (by omega)
      rw [HZ.out.1] at hc
      have HC := Lib.hid hc
      clear h1 hc
      go_wp2_with fail
      refine HC.out.mono ?_
      rintro e w1 ⟨rfl, h1⟩
      have p1 := (duo_cells h1).2.1
      have hc := duo_lcommit hR HG.out h1 HZ.out.2.2 (by omega) (by omega)
      rw [HZ.out.2.1] at hc
      have HC1 := Lib.hid hc
      clear h1 hc HC
      go_wp2_with fail
      refine HC1.out.mono ?_
      rintro e w2 ⟨rfl, h2⟩
      have H2 := Lib.hid h2
      clear h2 HC1
      go_wp2_with fail
      go_ret
      exact ⟨rfl, _, _, H2.out⟩
  · obtain ⟨b, off, rfl, -, hcell⟩ : ∃ b off, ao = some ⟨b, off, none⟩ ∧ b < wa.heap.size ∧ ∀ j, j < l.length → wa.cell? ⟨b, off + j, none⟩ = some (strV (l.getD j [])) := by
      obtain ⟨_, _, e, _, _, hc⟩ := HL.out
      simp only [Value.slice.injEq] at e
      obtain ⟨rfl, -, rfl⟩ := e
      exact hc (by omega)
    have xl := (hcell i hil).trans (congrArg some hst)
    have hl0 : (0 : Int) < (l.length : Int) := by omega
    have hi0 : (0 : Int) ≤ (i : Int) := by omega
    have hi1 : (i : Int) < (l.length : Int) := by omega
    have hq8 : (q % 256).tmod (l.length : Int) = (i : Int) := by rw [Int.tmod_eq_emod_of_nonneg (by omega)]; exact hid
    have hnz : ((l.length : Int) == 0) = false := by
      have : ((l.length : Int)) ≠ 0 := by omega
      simpa using this
    clear hcell hst hid
    go_upto_region 4 with fail
    clear HL HR xl
    obtain ⟨mr, mp, hm⟩ := duo_model HW.out
    have p1 := (duo_cells HW.out).2.1
    have b2 := hm.c2
    clear hm
    go_region
    all_goals
      clear p1 b2
      have h1 := HW.out.moved (nice_duo hR) (Below.refl _ wa).drew
      have p0 := (duo_cells h1).1
      have hc := duo_commit hR HG.out h1 (by omega) (by omega)
      rw [HZ.out.1] at hc
      have HC := Lib.hid hc
      clear h1 hc
      go_wp2_with fail
      refine HC.out.mono ?_
      rintro e w1 ⟨rfl, h1⟩
      have p1 := (duo_cells h1).2.1
      have hc := duo_lcommit hR HG.out h1 HZ.out.2.2 (by omega) (by omega)
      rw [HZ.out.2.1] at hc
      have HC1 := Lib.hid hc
      clear h1 hc HC
      go_wp2_with fail
      refine HC1.out.mono ?_
      rintro e w2 ⟨rfl, h2⟩
      have H2 := Lib.hid h2
      clear h2 HC1
      go_wp2_with fail
      go_ret
      exact ⟨rfl, _, _, H2.out⟩
end
end Go.Proofs.YtlhnjdoicolkkaaGreatDoor

/- act: Discard. -/
set_option maxRecDepth 100000
namespace Go.Proofs.YtlhnjdoicolkkaaGreatDoor
open Go.RowKit Go.Dsk Go.Maps Go.WideMaps
set_option maxHeartbeats 8000000
open Jnl (J)

section
variable {w0 w : World} {bp bj bm bd bo : Nat} {d m : M} {j : J} {R : SP}
theorem pact_dis {k q : Int} {l : List Bs} {va : Value} {r : ByteArray} (hR : Nice R) (hg : Glob w0) (h : Duo R w0 w bp bj bm bd bo d m j j) (hs : SimE m d) (_hi : m.Ok) (hl : StrsIn w va l)
    (hk0 : 0 ≤ k) (_hk1 : k ≤ 255) (hq0 : -128 ≤ q) (hq1 : q ≤ 127) (hr : RecIs l q r) (hw : m.wt < 1073741000) (_hrl : j.recs.length ≤ 260000) (hk : k % 8 = 4) :
    Calls Tryz.prog 34 #[.pointer (some ⟨bp, 0, none⟩), va, .agg #[.int .u8 k, .int .i8 q]] w fun e w' => e = .returned (.bool true) ∧ ∃ bj' bm', Duo R w0 w' bp bj' bm' bd bo (actJ logB.data.toList r.data.toList k q j d).2 (actJ logB.data.toList r.data.toList k q j m).2 (actJ logB.data.toList r.data.toList k q j m).1 (actJ logB.data.toList r.data.toList k q j m).1 := by
  have hwd : d.wt < 1073741000 := by rw [sim_wt hs]; exact hw
  have hf1 := (duo_fit h).first
  have a1 : ∀ x : M, actJ logB.data.toList r.data.toList k q j x = (j.discard.2, x) := fun x => by unfold actJ; rw [if_neg (by omega), if_pos hk]
  rw [a1, a1]
  clear a1
  have hk8 : k.tmod 8 = k % 8 := Int.tmod_eq_emod_of_nonneg hk0
  rw [hk] at hk8
  obtain ⟨bx, hbx⟩ : ∃ bx, bx = w.heap.size := ⟨_, rfl⟩
  have x0 : (w.alloc (.cells #[.int .u8 k, .int .i8 q] 64)).cell? ⟨bx, 0, none⟩ = some (.int .u8 k) := by rw [hbx]; simp
  have x1 : (w.alloc (.cells #[.int .u8 k, .int .i8 q] 64)).cell? ⟨bx, 1, none⟩ = some (.int .i8 q) := by rw [hbx]; simp
  have hal : Below w.heap.size w (w.alloc (.cells #[.int .u8 k, .int .i8 q] 64)) := (Below.refl _ w).alloc (Nat.le_refl _) _
  have HW := Lib.hid (h.moved (nice_duo hR) hal)
  have HL := Lib.hid (hl.below hal)
  have HG := Lib.hid hg
  have HBX := Lib.hid hbx
  have HR := Lib.hid hr
  obtain ⟨ao, c, rfl, -, -, -⟩ := hl
  clear h hal hg hbx hr _hi hs
  go_enter Tryz.func34, Tryz.ntmps34
  go_upto_region 1 with fail
  rw [← HBX.out]
  generalize w.alloc (.cells #[.int .u8 k, .int .i8 q] 64) = wa at *
  clear HBX
  rcases HR.out with ⟨rfl, rfl⟩ | ⟨i, hil, hid, hst⟩
  · go_upto_region 4 with fail
    clear HL HR
    obtain ⟨mr, mp, hm⟩ := duo_model HW.out
    have p1 := (duo_cells HW.out).2.1
    have b2 := hm.c2
    clear hm
    go_region
    all_goals
      clear p1 b2
      have h1 := HW.out.moved (nice_duo hR) (Below.refl _ wa).drew
      have p0 := (duo_cells h1).1
      have HC := Lib.hid (duo_discard hR h1)
      clear h1
      go_wp2_with fail
      refine HC.out.mono ?_
      rintro e w1 ⟨rfl, h1⟩
      have p1 := (duo_cells h1).2.1
      obtain ⟨mr1, mp1, hm1⟩ := duo_model h1
      have b5 := hm1.c5
      have b4 := hm1.c4
      have z4 := hm1.free 4
      have H1 := Lib.hid h1
      clear h1 hm1 HC
      cases hb : j.broken with
      | true =>
        rw [hb] at b5
        have hd : j.discard = (18, j) := by unfold Jnl.J.discard; rw [if_pos hb]
        rw [hd] at H1 ⊢
        have HD0 := Lib.hid hd
        clear hd
        go_wp2_with fail
        go_ret
        rw [HD0.out]
        exact ⟨rfl, _, _, H1.out⟩
      | false =>
        rw [hb] at b5
        have hd : j.discard = (0, { j with pend := [] }) := by unfold Jnl.J.discard; rw [if_neg (by rw [hb]; simp)]
        rw [hd] at H1 ⊢
        have H2 := Lib.hid (duo_nil hR H1.out)
        have HD0 := Lib.hid hd
        clear hd H1
        go_wp2_with fail
        go_ret
        rw [HD0.out]
        exact ⟨rfl, _, _, H2.out⟩
  · obtain ⟨b, off, rfl, -, hcell⟩ : ∃ b off, ao = some ⟨b, off, none⟩ ∧ b < wa.heap.size ∧ ∀ j, j < l.length → wa.cell? ⟨b, off + j, none⟩ = some (strV (l.getD j [])) := by
      obtain ⟨_, _, e, _, _, hc⟩ := HL.out
      simp only [Value.slice.injEq] at e
      obtain ⟨rfl, -, rfl⟩ := e
      exact hc (by omega)
    have xl := (hcell i hil).trans (congrArg some hst)
    have hl0 : (0 : Int) < (l.length : Int) := by omega
    have hi0 : (0 : Int) ≤ (i : Int) := by omega
    have hi1 : (i : Int) < (l.length : Int) := by omega
    have hq8 : (q % 256).tmod (l.length : Int) = (i : Int) := by rw [Int.tmod_eq_emod_of_nonneg (by omega)]; exact hid
    have hnz : ((l.length : Int) == 0) = false := by
      have : ((l.length : Int)) ≠ 0 := by omega
      simpa using this
    clear hcell hst hid
    go_upto_region 4 with fail
    clear HL HR xl
    obtain ⟨mr, mp, hm⟩ := duo_model HW.out
    have p1 := (duo_cells HW.out).2.1
    have b2 := hm.c2
    clear hm
    go_region
    all_goals
      clear p1 b2
      have h1 := HW.out.moved (nice_duo hR) (Below.refl _ wa).drew
      have p0 := (duo_cells h1).1
      have HC := Lib.hid (duo_discard hR h1)
      clear h1
      go_wp2_with fail
      refine HC.out.mono ?_
      rintro e w1 ⟨rfl, h1⟩
      have p1 := (duo_cells h1).2.1
      obtain ⟨mr1, mp1, hm1⟩ := duo_model h1
      have b5 := hm1.c5
      have b4 := hm1.c4
      have z4 := hm1.free 4
      have H1 := Lib.hid h1
      clear h1 hm1 HC
      cases hb : j.broken with
      | true =>
        rw [hb] at b5
        have hd : j.discard = (18, j) := by unfold Jnl.J.discard; rw [if_pos hb]
        rw [hd] at H1 ⊢
        have HD0 := Lib.hid hd
        clear hd
        go_wp2_with fail
        go_ret
        rw [HD0.out]
        exact ⟨rfl, _, _, H1.out⟩
      | false =>
        rw [hb] at b5
        have hd : j.discard = (0, { j with pend := [] }) := by unfold Jnl.J.discard; rw [if_neg (by rw [hb]; simp)]
        rw [hd] at H1 ⊢
        have H2 := Lib.hid (duo_nil hR H1.out)
        have HD0 := Lib.hid hd
        clear hd H1
        go_wp2_with fail
        go_ret
        rw [HD0.out]
        exact ⟨rfl, _, _, H2.out⟩
end
end Go.Proofs.YtlhnjdoicolkkaaGreatDoor

/- act: Cut. -/
set_option maxRecDepth 100000
namespace Go.Proofs.YtlhnjdoicolkkaaGreatDoor
open Go.RowKit Go.Dsk Go.Maps Go.WideMaps
set_option maxHeartbeats 8000000
open Jnl (J)

section
variable {w0 w : World} {bp bj bm bd bo : Nat} {d m : M} {j : J} {R : SP}
theorem pact_cut {k q : Int} {l : List Bs} {va : Value} {r : ByteArray} (hR : Nice R) (hg : Glob w0) (h : Duo R w0 w bp bj bm bd bo d m j j) (hs : SimE m d) (_hi : m.Ok) (hl : StrsIn w va l)
    (hk0 : 0 ≤ k) (_hk1 : k ≤ 255) (hq0 : -128 ≤ q) (hq1 : q ≤ 127) (hr : RecIs l q r) (hw : m.wt < 1073741000) (_hrl : j.recs.length ≤ 260000) (hk : k % 8 = 5) :
    Calls Tryz.prog 34 #[.pointer (some ⟨bp, 0, none⟩), va, .agg #[.int .u8 k, .int .i8 q]] w fun e w' => e = .returned (.bool true) ∧ ∃ bj' bm', Duo R w0 w' bp bj' bm' bd bo (actJ logB.data.toList r.data.toList k q j d).2 (actJ logB.data.toList r.data.toList k q j m).2 (actJ logB.data.toList r.data.toList k q j m).1 (actJ logB.data.toList r.data.toList k q j m).1 := by
  have hwd : d.wt < 1073741000 := by rw [sim_wt hs]; exact hw
  have hf1 := (duo_fit h).first
  obtain ⟨Z, hZ⟩ : ∃ Z, j.cut logB.data.toList d (j.first + q) = Z := ⟨_, rfl⟩
  obtain ⟨Y, hY⟩ : ∃ Y, j.cut logB.data.toList m (j.first + q) = Y := ⟨_, rfl⟩
  have hsim := Jnl.cut_sim logB.data.toList j (j.first + q) hs _hi
  rw [hZ, hY] at hsim
  obtain ⟨ze, zj, zd⟩ := Z
  obtain ⟨ye, yj, yd⟩ := Y
  simp only at hsim
  obtain ⟨rfl, rfl, -⟩ := hsim
  have a1 : actJ logB.data.toList r.data.toList k q j d = (zj, zd) := by unfold actJ; rw [if_neg (by omega), if_neg (by omega), if_pos hk, hZ]
  have a2 : actJ logB.data.toList r.data.toList k q j m = (zj, yd) := by unfold actJ; rw [if_neg (by omega), if_neg (by omega), if_pos hk, hY]
  rw [a1, a2]
  have HZ := Lib.hid (And.intro hZ hY)
  clear a1 a2 hZ hY
  have q2 : (ze == ze) = true := by simp
  have hk8 : k.tmod 8 = k % 8 := Int.tmod_eq_emod_of_nonneg hk0
  rw [hk] at hk8
  obtain ⟨bx, hbx⟩ : ∃ bx, bx = w.heap.size := ⟨_, rfl⟩
  have x0 : (w.alloc (.cells #[.int .u8 k, .int .i8 q] 64)).cell? ⟨bx, 0, none⟩ = some (.int .u8 k) := by rw [hbx]; simp
  have x1 : (w.alloc (.cells #[.int .u8 k, .int .i8 q] 64)).cell? ⟨bx, 1, none⟩ = some (.int .i8 q) := by rw [hbx]; simp
  have hal : Below w.heap.size w (w.alloc (.cells #[.int .u8 k, .int .i8 q] 64)) := (Below.refl _ w).alloc (Nat.le_refl _) _
  have HW := Lib.hid (h.moved (nice_duo hR) hal)
  have HL := Lib.hid (hl.below hal)
  have HG := Lib.hid hg
  have HBX := Lib.hid hbx
  have HR := Lib.hid hr
  obtain ⟨ao, c, rfl, -, -, -⟩ := hl
  clear h hal hg hbx hr _hi hs
  go_enter Tryz.func34, Tryz.ntmps34
  go_upto_region 1 with fail
  rw [← HBX.out]
  generalize w.alloc (.cells #[.int .u8 k, .int .i8 q] 64) = wa at *
  clear HBX
  rcases HR.out with ⟨rfl, rfl⟩ | ⟨i, hil, hid, hst⟩
  · go_upto_region 4 with fail
    clear HL HR
    obtain ⟨mr, mp, hm⟩ := duo_model HW.out
    have p1 := (duo_cells HW.out).2.1
    have b2 := hm.c2
    clear hm
    go_region
    all_goals
      clear p1 b2
      have h1 := HW.out.moved (nice_duo hR) (Below.refl _ wa).drew
      have p0 := (duo_cells h1).1
      have hc := duo_cut hR HG.out h1 (f := (j.first : Int) + q) (by omega) (by omega) (by omega)
      rw [HZ.out.1] at hc
      have HC := Lib.hid hc
      clear h1 hc
      go_wp2_with fail
      refine HC.out.mono ?_
      rintro e w1 ⟨rfl, h1⟩
      have p1 := (duo_cells h1).2.1
      have hc := duo_lcut hR HG.out h1 (f := (j.first : Int) + q) (by omega) (by omega) (by omega)
      rw [HZ.out.2] at hc
      have HC1 := Lib.hid hc
      clear h1 hc HC
      go_wp2_with fail
      refine HC1.out.mono ?_
      rintro e w2 ⟨rfl, h2⟩
      have H2 := Lib.hid h2
      clear h2 HC1
      go_wp2_with fail
      go_ret
      exact ⟨rfl, _, _, H2.out⟩
  · obtain ⟨b, off, rfl, -, hcell⟩ : ∃ b off, ao = some ⟨b, off, none⟩ ∧ b < wa.heap.size ∧ ∀ j, j < l.length → wa.cell? ⟨b, off + j, none⟩ = some (strV (l.getD j [])) := by
      obtain ⟨_, _, e, _, _, hc⟩ := HL.out
      simp only [Value.slice.injEq] at e
      obtain ⟨rfl, -, rfl⟩ := e
      exact hc (by omega)
    have xl := (hcell i hil).trans (congrArg some hst)
    have hl0 : (0 : Int) < (l.length : Int) := by omega
    have hi0 : (0 : Int) ≤ (i : Int) := by omega
    have hi1 : (i : Int) < (l.length : Int) := by omega
    have hq8 : (q % 256).tmod (l.length : Int) = (i : Int) := by rw [Int.tmod_eq_emod_of_nonneg (by omega)]; exact hid
    have hnz : ((l.length : Int) == 0) = false := by
      have : ((l.length : Int)) ≠ 0 := by omega
      simpa using this
    clear hcell hst hid
    go_upto_region 4 with fail
    clear HL HR xl
    obtain ⟨mr, mp, hm⟩ := duo_model HW.out
    have p1 := (duo_cells HW.out).2.1
    have b2 := hm.c2
    clear hm
    go_region
    all_goals
      clear p1 b2
      have h1 := HW.out.moved (nice_duo hR) (Below.refl _ wa).drew
      have p0 := (duo_cells h1).1
      have hc := duo_cut hR HG.out h1 (f := (j.first : Int) + q) (by omega) (by omega) (by omega)
      rw [HZ.out.1] at hc
      have HC := Lib.hid hc
      clear h1 hc
      go_wp2_with fail
      refine HC.out.mono ?_
      rintro e w1 ⟨rfl, h1⟩
      have p1 := (duo_cells h1).2.1
      have hc := duo_lcut hR HG.out h1 (f := (j.first : Int) + q) (by omega) (by omega) (by omega)
      rw [HZ.out.2] at hc
      have HC1 := Lib.hid hc
      clear h1 hc HC
      go_wp2_with fail
      refine HC1.out.mono ?_
      rintro e w2 ⟨rfl, h2⟩
      have H2 := Lib.hid h2
      clear h2 HC1
      go_wp2_with fail
      go_ret
      exact ⟨rfl, _, _, H2.out⟩
end
end Go.Proofs.YtlhnjdoicolkkaaGreatDoor

/- act: Append. -/
set_option maxRecDepth 100000
namespace Go.Proofs.YtlhnjdoicolkkaaGreatDoor
open Go.RowKit Go.Dsk Go.Maps Go.WideMaps
set_option maxHeartbeats 8000000
open Jnl (J)

section
variable {w0 w : World} {bp bj bm bd bo : Nat} {d m : M} {j : J} {R : SP}
theorem pact_app {k q : Int} {l : List Bs} {va : Value} {r : ByteArray} (hR : Nice R) (hg : Glob w0) (h : Duo R w0 w bp bj bm bd bo d m j j) (hs : SimE m d) (_hi : m.Ok) (hl : StrsIn w va l)
    (hk0 : 0 ≤ k) (_hk1 : k ≤ 255) (hq0 : -128 ≤ q) (hq1 : q ≤ 127) (hr : RecIs l q r) (hw : m.wt < 1073741000) (_hrl : j.recs.length ≤ 260000) (hk : k % 8 < 3) :
    Calls Tryz.prog 34 #[.pointer (some ⟨bp, 0, none⟩), va, .agg #[.int .u8 k, .int .i8 q]] w fun e w' => e = .returned (.bool true) ∧ ∃ bj' bm', Duo R w0 w' bp bj' bm' bd bo (actJ logB.data.toList r.data.toList k q j d).2 (actJ logB.data.toList r.data.toList k q j m).2 (actJ logB.data.toList r.data.toList k q j m).1 (actJ logB.data.toList r.data.toList k q j m).1 := by
  have hwd : d.wt < 1073741000 := by rw [sim_wt hs]; exact hw
  have hf1 := (duo_fit h).first
  obtain ⟨Z, hZ⟩ : ∃ Z, j.append r.data.toList = Z := ⟨_, rfl⟩
  have a1 : ∀ x : M, actJ logB.data.toList r.data.toList k q j x = (Z.2.2, x) := fun x => by unfold actJ; rw [if_neg (by omega), if_neg (by omega), if_neg (by omega), if_neg (by omega), if_neg (by omega), hZ]
  rw [a1, a1]
  clear a1
  obtain ⟨zn, ze, zj⟩ := Z
  have HZ := Lib.hid hZ
  clear hZ
  have q1 : (zn == zn) = true := by simp
  have q2 : (ze == ze) = true := by simp
  have hk8 : k.tmod 8 = k % 8 := Int.tmod_eq_emod_of_nonneg hk0
  have hk3 : (k % 8 == 3) = false := by simp; omega
  have hk4 : (k % 8 == 4) = false := by simp; omega
  have hk5 : (k % 8 == 5) = false := by simp; omega
  have hk6 : (k % 8 == 6) = false := by simp; omega
  have hk7 : (k % 8 == 7) = false := by simp; omega
  obtain ⟨bx, hbx⟩ : ∃ bx, bx = w.heap.size := ⟨_, rfl⟩
  have x0 : (w.alloc (.cells #[.int .u8 k, .int .i8 q] 64)).cell? ⟨bx, 0, none⟩ = some (.int .u8 k) := by rw [hbx]; simp
  have x1 : (w.alloc (.cells #[.int .u8 k, .int .i8 q] 64)).cell? ⟨bx, 1, none⟩ = some (.int .i8 q) := by rw [hbx]; simp
  have hal : Below w.heap.size w (w.alloc (.cells #[.int .u8 k, .int .i8 q] 64)) := (Below.refl _ w).alloc (Nat.le_refl _) _
  have HW := Lib.hid (h.moved (nice_duo hR) hal)
  have HL := Lib.hid (hl.below hal)
  have HG := Lib.hid hg
  have HBX := Lib.hid hbx
  have HR := Lib.hid hr
  obtain ⟨ao, c, rfl, -, -, -⟩ := hl
  clear h hal hg hbx hr _hi hs
  go_enter Tryz.func34, Tryz.ntmps34
  go_upto_region 1 with fail
  rw [← HBX.out]
  generalize w.alloc (.cells #[.int .u8 k, .int .i8 q] 64) = wa at *
  clear HBX
  rcases HR.out with ⟨rfl, rfl⟩ | ⟨i, hil, hid, hst⟩
  · go_upto_region 4 with fail
    clear HL HR
    obtain ⟨mr, mp, hm⟩ := duo_model HW.out
    have p1 := (duo_cells HW.out).2.1
    have b2 := hm.c2
    clear hm
    go_region
    all_goals
      clear p1 b2
      have h1 := HW.out.moved (nice_duo hR) (Below.refl _ wa).drew
      have p0 := (duo_cells h1).1
      have hc := duo_append hR h1 ⟨#[]⟩
      rw [HZ.out] at hc
      have HC := Lib.hid hc
      clear h1 hc
      go_wp2_with fail
      refine HC.out.mono ?_
      rintro e w1 ⟨rfl, h1⟩
      have p1 := (duo_cells h1).2.1
      have hc := duo_lappend hR h1 ⟨#[]⟩
      rw [HZ.out] at hc
      have HC1 := Lib.hid hc
      clear h1 hc HC
      go_wp2_with fail
      refine HC1.out.mono ?_
      rintro e w2 ⟨rfl, h2⟩
      have H2 := Lib.hid h2
      clear h2 HC1
      go_wp2_with fail
      go_ret
      exact ⟨rfl, _, _, H2.out⟩
  · obtain ⟨b, off, rfl, -, hcell⟩ : ∃ b off, ao = some ⟨b, off, none⟩ ∧ b < wa.heap.size ∧ ∀ j, j < l.length → wa.cell? ⟨b, off + j, none⟩ = some (strV (l.getD j [])) := by
      obtain ⟨_, _, e, _, _, hc⟩ := HL.out
      simp only [Value.slice.injEq] at e
      obtain ⟨rfl, -, rfl⟩ := e
      exact hc (by omega)
    have xl := (hcell i hil).trans (congrArg some hst)
    have hl0 : (0 : Int) < (l.length : Int) := by omega
    have hi0 : (0 : Int) ≤ (i : Int) := by omega
    have hi1 : (i : Int) < (l.length : Int) := by omega
    have hq8 : (q % 256).tmod (l.length : Int) = (i : Int) := by rw [Int.tmod_eq_emod_of_nonneg (by omega)]; exact hid
    have hnz : ((l.length : Int) == 0) = false := by
      have : ((l.length : Int)) ≠ 0 := by omega
      simpa using this
    clear hcell hst hid
    go_upto_region 4 with fail
    clear HL HR xl
    obtain ⟨mr, mp, hm⟩ := duo_model HW.out
    have p1 := (duo_cells HW.out).2.1
    have b2 := hm.c2
    clear hm
    go_region
    all_goals
      clear p1 b2
      have h1 := HW.out.moved (nice_duo hR) (Below.refl _ wa).drew
      have p0 := (duo_cells h1).1
      have hc := duo_append hR h1 r
      rw [HZ.out] at hc
      have HC := Lib.hid hc
      clear h1 hc
      go_wp2_with fail
      refine HC.out.mono ?_
      rintro e w1 ⟨rfl, h1⟩
      have p1 := (duo_cells h1).2.1
      have hc := duo_lappend hR h1 r
      rw [HZ.out] at hc
      have HC1 := Lib.hid hc
      clear h1 hc HC
      go_wp2_with fail
      refine HC1.out.mono ?_
      rintro e w2 ⟨rfl, h2⟩
      have H2 := Lib.hid h2
      clear h2 HC1
      go_wp2_with fail
      go_ret
      exact ⟨rfl, _, _, H2.out⟩
end
end Go.Proofs.YtlhnjdoicolkkaaGreatDoor

/- act: opening again. -/
set_option maxRecDepth 100000
namespace Go.Proofs.YtlhnjdoicolkkaaGreatDoor
open Go.RowKit Go.Dsk Go.Maps Go.WideMaps
set_option maxHeartbeats 8000000
open Jnl (J)

section
variable {w0 w : World} {bp bj bm bd bo : Nat} {d m : M} {j : J} {R : SP}
theorem pact_ope {k q : Int} {l : List Bs} {va : Value} {r : ByteArray} (hR : Nice R) (hg : Glob w0) (h : Duo R w0 w bp bj bm bd bo d m j j) (hs : SimE m d) (_hi : m.Ok) (hl : StrsIn w va l)
    (hk0 : 0 ≤ k) (_hk1 : k ≤ 255) (hq0 : -128 ≤ q) (hq1 : q ≤ 127) (hr : RecIs l q r) (hw : m.wt < 1073741000) (_hrl : j.recs.length ≤ 260000) (hk : k % 8 = 7) :
    Calls Tryz.prog 34 #[.pointer (some ⟨bp, 0, none⟩), va, .agg #[.int .u8 k, .int .i8 q]] w fun e w' => e = .returned (.bool true) ∧ ∃ bj' bm', Duo R w0 w' bp bj' bm' bd bo (actJ logB.data.toList r.data.toList k q j d).2 (actJ logB.data.toList r.data.toList k q j m).2 (actJ logB.data.toList r.data.toList k q j m).1 (actJ logB.data.toList r.data.toList k q j m).1 := by
  have hwd : d.wt < 1073741000 := by rw [sim_wt hs]; exact hw
  have hf1 := (duo_fit h).first
  obtain ⟨Z, hZ⟩ : ∃ Z, Jnl.opened logB.data.toList d = Z := ⟨_, rfl⟩
  obtain ⟨Y, hY⟩ : ∃ Y, Jnl.opened logB.data.toList m = Y := ⟨_, rfl⟩
  have hsim := Jnl.opened_sim logB.data.toList hs _hi
  rw [hZ, hY] at hsim
  obtain ⟨ze, zj, zd⟩ := Z
  obtain ⟨ye, yj, yd⟩ := Y
  simp only at hsim
  obtain ⟨rfl, rfl, -⟩ := hsim
  have a1 : actJ logB.data.toList r.data.toList k q j d = (zj.getD j, zd) := by unfold actJ; rw [if_neg (by omega), if_neg (by omega), if_neg (by omega), if_neg (by omega), if_pos hk, hZ]
  have a2 : actJ logB.data.toList r.data.toList k q j m = (zj.getD j, yd) := by unfold actJ; rw [if_neg (by omega), if_neg (by omega), if_neg (by omega), if_neg (by omega), if_pos hk, hY]
  rw [a1, a2]
  have HZ := Lib.hid (And.intro hZ hY)
  clear a1 a2 hZ hY
  have q2 : (ze != ze) = false := by simp
  have hk8 : k.tmod 8 = k % 8 := Int.tmod_eq_emod_of_nonneg hk0
  rw [hk] at hk8
  obtain ⟨bx, hbx⟩ : ∃ bx, bx = w.heap.size := ⟨_, rfl⟩
  have x0 : (w.alloc (.cells #[.int .u8 k, .int .i8 q] 64)).cell? ⟨bx, 0, none⟩ = some (.int .u8 k) := by rw [hbx]; simp
  have x1 : (w.alloc (.cells #[.int .u8 k, .int .i8 q] 64)).cell? ⟨bx, 1, none⟩ = some (.int .i8 q) := by rw [hbx]; simp
  have hal : Below w.heap.size w (w.alloc (.cells #[.int .u8 k, .int .i8 q] 64)) := (Below.refl _ w).alloc (Nat.le_refl _) _
  have HW := Lib.hid (h.moved (nice_duo hR) hal)
  have HL := Lib.hid (hl.below hal)
  have HG := Lib.hid hg
  have HBX := Lib.hid hbx
  have HR := Lib.hid hr
  obtain ⟨ao, c, rfl, -, -, -⟩ := hl
  clear h hal hg hbx hr _hi hs
  go_enter Tryz.func34, Tryz.ntmps34
  go_upto_region 1 with fail
  rw [← HBX.out]
  generalize w.alloc (.cells #[.int .u8 k, .int .i8 q] 64) = wa at *
  clear HBX
  rcases HR.out with ⟨rfl, rfl⟩ | ⟨i, hil, hid, hst⟩
  · go_upto_region 4 with fail
    clear HL HR
    obtain ⟨mr, mp, hm⟩ := duo_model HW.out
    have p1 := (duo_cells HW.out).2.1
    have b2 := hm.c2
    clear hm
    go_region
    all_goals
      clear p1 b2
      have h1 := HW.out.moved (nice_duo hR) (Below.refl _ wa).drew
      have p0 := (duo_cells h1).1
      have p2 := (duo_cells h1).2.2
      have HC := Lib.hid (duo_open hR HG.out h1 (by omega) HZ.out.1)
      have H1 := Lib.hid h1
      clear h1
      go_wp2_with fail
      refine HC.out.mono ?_
      rintro e w1 (⟨bj1, j1, hj, rfl, h1⟩ | ⟨hj, rfl, h1⟩)
      · have p1 := (duo_cells (duo_old h1)).2.1
        obtain ⟨mr1, mp1, hm1⟩ := duo_model (duo_old h1)
        have b0 := hm1.c0
        have HC1 := Lib.hid (duo_lopen hR HG.out h1 (by omega) HZ.out.2)
        clear h1 hm1 HC
        go_wp2_with fail
        refine HC1.out.mono ?_
        rintro e w2 (⟨bm1, k1, hk1, rfl, h2⟩ | ⟨hk1, rfl⟩)
        · rw [hj] at hk1
          simp only [Option.some.injEq] at hk1
          subst hk1
          subst hj
          obtain ⟨y0, y1⟩ := pair_cells h2
          have z0 := pair_free h2 0
          have z1 := pair_free h2 1
          have H2 := Lib.hid (duo_pair hR h2)
          clear h2
          go_wp2_with fail
          go_ret
          exact ⟨rfl, _, _, H2.out⟩
        · rw [hj] at hk1
          cases hk1
      · have p1 := (duo_cells h1).2.1
        obtain ⟨mr1, mp1, hm1⟩ := duo_model h1
        have b0 := hm1.c0
        have HC1 := Lib.hid (duo_lopen0 hR HG.out h1 (by omega) HZ.out.2)
        clear h1 hm1 HC
        go_wp2_with fail
        refine HC1.out.mono ?_
        rintro e w2 (⟨bm1, k1, hk1, rfl⟩ | ⟨hk1, rfl, h2⟩)
        · rw [hj] at hk1
          cases hk1
        · subst hj
          have H2 := Lib.hid h2
          clear h2
          go_wp2_with fail
          go_ret
          exact ⟨rfl, _, _, H2.out⟩
  · obtain ⟨b, off, rfl, -, hcell⟩ : ∃ b off, ao = some ⟨b, off, none⟩ ∧ b < wa.heap.size ∧ ∀ j, j < l.length → wa.cell? ⟨b, off + j, none⟩ = some (strV (l.getD j [])) := by
      obtain ⟨_, _, e, _, _, hc⟩ := HL.out
      simp only [Value.slice.injEq] at e
      obtain ⟨rfl, -, rfl⟩ := e
      exact hc (by omega)
    have xl := (hcell i hil).trans (congrArg some hst)
    have hl0 : (0 : Int) < (l.length : Int) := by omega
    have hi0 : (0 : Int) ≤ (i : Int) := by omega
    have hi1 : (i : Int) < (l.length : Int) := by omega
    have hq8 : (q % 256).tmod (l.length : Int) = (i : Int) := by rw [Int.tmod_eq_emod_of_nonneg (by omega)]; exact hid
    have hnz : ((l.length : Int) == 0) = false := by
      have : ((l.length : Int)) ≠ 0 := by omega
      simpa using this
    clear hcell hst hid
    go_upto_region 4 with fail
    clear HL HR xl
    obtain ⟨mr, mp, hm⟩ := duo_model HW.out
    have p1 := (duo_cells HW.out).2.1
    have b2 := hm.c2
    clear hm
    go_region
    all_goals
      clear p1 b2
      have h1 := HW.out.moved (nice_duo hR) (Below.refl _ wa).drew
      have p0 := (duo_cells h1).1
      have p2 := (duo_cells h1).2.2
      have HC := Lib.hid (duo_open hR HG.out h1 (by omega) HZ.out.1)
      have H1 := Lib.hid h1
      clear h1
      go_wp2_with fail
      refine HC.out.mono ?_
      rintro e w1 (⟨bj1, j1, hj, rfl, h1⟩ | ⟨hj, rfl, h1⟩)
      · have p1 := (duo_cells (duo_old h1)).2.1
        obtain ⟨mr1, mp1, hm1⟩ := duo_model (duo_old h1)
        have b0 := hm1.c0
        have HC1 := Lib.hid (duo_lopen hR HG.out h1 (by omega) HZ.out.2)
        clear h1 hm1 HC
        go_wp2_with fail
        refine HC1.out.mono ?_
        rintro e w2 (⟨bm1, k1, hk1, rfl, h2⟩ | ⟨hk1, rfl⟩)
        · rw [hj] at hk1
          simp only [Option.some.injEq] at hk1
          subst hk1
          subst hj
          obtain ⟨y0, y1⟩ := pair_cells h2
          have z0 := pair_free h2 0
          have z1 := pair_free h2 1
          have H2 := Lib.hid (duo_pair hR h2)
          clear h2
          go_wp2_with fail
          go_ret
          exact ⟨rfl, _, _, H2.out⟩
        · rw [hj] at hk1
          cases hk1
      · have p1 := (duo_cells h1).2.1
        obtain ⟨mr1, mp1, hm1⟩ := duo_model h1
        have b0 := hm1.c0
        have HC1 := Lib.hid (duo_lopen0 hR HG.out h1 (by omega) HZ.out.2)
        clear h1 hm1 HC
        go_wp2_with fail
        refine HC1.out.mono ?_
        rintro e w2 (⟨bm1, k1, hk1, rfl⟩ | ⟨hk1, rfl, h2⟩)
        · rw [hj] at hk1
          cases hk1
        · subst hj
          have H2 := Lib.hid h2
          clear h2
          go_wp2_with fail
          go_ret
          exact ⟨rfl, _, _, H2.out⟩
end
end Go.Proofs.YtlhnjdoicolkkaaGreatDoor
