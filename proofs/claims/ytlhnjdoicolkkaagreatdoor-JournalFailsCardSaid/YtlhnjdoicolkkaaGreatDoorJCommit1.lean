/- Commit: what holds in memory while the bytes are built, and behind the last step. -/
import Derived.Test.YtlhnjdoicolkkaaGreatDoorJRun
import Derived.Test.YtlhnjdoicolkkaaGreatDoorJBuild
set_option maxRecDepth 100000
namespace Go.Proofs.YtlhnjdoicolkkaaGreatDoor
open Go.RowKit Go.Dsk Go.Maps Go.WideMaps
set_option maxHeartbeats 2000000
open Jnl (J)

/-- Some of it can be let go. -/
def Sub (P Q : SP) : Prop := ∀ U w, P U w → ∃ V : Nat → Prop, (∀ i, V i → U i) ∧ Q V w
theorem Sub.refl (P : SP) : Sub P P := fun U _ h => ⟨U, fun _ => id, h⟩
theorem Sub.drop (P R : SP) : Sub (Star P R) R := fun _ _ ⟨_, T, hu, _, _, h2⟩ => ⟨T, fun i hi => (hu i).2 (.inr hi), h2⟩
theorem Sub.trans {P Q R : SP} (h : Sub P Q) (k : Sub Q R) : Sub P R := fun U w hp => by
  obtain ⟨V, hv, hq⟩ := h U w hp
  obtain ⟨W, hw, hr⟩ := k V w hq
  exact ⟨W, fun i hi => hv i (hw i hi), hr⟩
theorem Sub.inner {P Q R : SP} (h : Sub Q R) : Sub (Star P Q) (Star P R) := fun U w ⟨S, T, hu, hd, h1, h2⟩ => by
  obtain ⟨V, hv, hr⟩ := h T w h2
  exact ⟨fun i => S i ∨ V i, fun i hi => (hu i).2 (hi.imp id (hv i)), S, V, fun i => Iff.rfl, fun i hi hvi => hd i hi (hv i hvi), h1, hr⟩
theorem Has.sub {w0 w : World} {P Q : SP} (h : Has w0 w P) (hs : Sub P Q) : Has w0 w Q := by
  obtain ⟨hb, S, hS, hp⟩ := h
  obtain ⟨V, hv, hq⟩ := hs S w hp
  exact ⟨hb, V, fun i hi => hS i (hv i hi), hq⟩
theorem Star.first {P P' R : SP} {U : Nat → Prop} {w : World} (h : Star P R U w) (hi : ∀ T, P T w → P' T w) : Star P' R U w := by
  obtain ⟨S, T, hu, hd, h1, h2⟩ := h
  exact ⟨S, T, hu, hd, hi S h1, h2⟩
/-- A journal whose two rows are known. -/
def JrnV (bj bd : Nat) (n : ByteArray) (j : J) (vr vp : Value) : SP := fun S w => Fit j ∧ Star (JBlk bj bd n j vr vp) (Star (StrP vr j.recs) (StrP vp j.pend)) S w
theorem nice_jrnv (bj bd : Nat) (n : ByteArray) (j : J) (vr vp : Value) : Nice (JrnV bj bd n j vr vp) where
  lt h i hi := (Nice.star (nice_jblk bj bd n j vr vp) (Nice.star (nice_str vr j.recs) (nice_str vp j.pend))).lt h.2 i hi
  keep h hf hd := ⟨h.1, (Nice.star (nice_jblk bj bd n j vr vp) (Nice.star (nice_str vr j.recs) (nice_str vp j.pend))).keep h.2 hf hd⟩
section
variable {w0 w : World} {bj bd b1 bb : Nat} {n : ByteArray} {j : J} {d : M} {R : SP} {vr vp : Value}
/-- A disk and its journal, and R beside them. -/
abbrev DJ (R : SP) (w0 w : World) (bd : Nat) (d : M) (bj : Nat) (n : ByteArray) (j : J) : Prop := Has w0 w (Star (DiskP bd d) (Star (JrnP bj bd n j) R))
theorem nice_dj (hR : Nice R) : Nice (Star (DiskP bd d) (Star (JrnP bj bd n j) R)) := Nice.star (nice_disk _ _) (Nice.star (nice_jrn _ _ _ _) hR)
abbrev Qv (R : SP) (bd : Nat) (d : M) (bj : Nat) (n : ByteArray) (j : J) (vr vp : Value) (b1 : Nat) : SP := Star (DiskP bd d) (Star (JrnV bj bd n j vr vp) (Star (BoxP b1 (pj bj) 43) R))
theorem nice_qv (hR : Nice R) : Nice (Qv R bd d bj n j vr vp b1) := Nice.star (nice_disk _ _) (Nice.star (nice_jrnv _ _ _ _ _ _) (Nice.star (nice_box _ _ _) hR))
theorem qv_see (h : Has w0 w (Qv R bd d bj n j vr vp b1)) : w.cell? ⟨b1, 0, none⟩ = some (pj bj) ∧ JSee w bj bd n j vr vp := by
  obtain ⟨_, U, _, S, T, _, _, _, S2, T2, _, _, ⟨hF, A, B, _, _, a1, C, D, _, _, a2, a3⟩, S3, T3, _, _, hb, _⟩ := h
  have := block_cell hb.2 0
  exact ⟨by simpa using this, hF, a1.2, a2.reads, a3.reads⟩
/-- The journal's box, made at the beginning. -/
theorem qv_new (hR : Nice R) (h : DJ R w0 w bd d bj n j) : ∃ vr vp, Has w0 (w.alloc (.cells #[pj bj] 43)) (Qv R bd d bj n j vr vp w.heap.size) := by
  obtain ⟨hb0, U, hU, S, T, hu, hd, h1, A, B, hu2, hd2, ⟨hF, vr, vp, h3⟩, h4⟩ := h
  have hv : Has w0 w (Star (DiskP bd d) (Star (JrnV bj bd n j vr vp) R)) := ⟨hb0, U, hU, S, T, hu, hd, h1, A, B, hu2, hd2, ⟨hF, h3⟩, h4⟩
  have hN : Nice (Star (DiskP bd d) (Star (JrnV bj bd n j vr vp) R)) := Nice.star (nice_disk _ _) (Nice.star (nice_jrnv _ _ _ _ _ _) hR)
  have h5 := hv.new hN ((Below.refl _ w).alloc (Nat.le_refl _) (.cells #[pj bj] 43)) (P := BoxP w.heap.size (pj bj) 43) (S := fun i => i = w.heap.size) (fun i hi => by rw [hi]; exact Nat.le_refl _) ⟨fun i => Iff.rfl, heap_alloc_new w _⟩
  exact ⟨vr, vp, h5.left.imp fun _ h => h.inner fun _ h => h.left⟩
theorem qv_dj (h : Has w0 w (Qv R bd d bj n j vr vp b1)) : DJ R w0 w bd d bj n j :=
  (h.imp fun _ h => h.inner fun _ h => h.first fun _ h => (⟨h.1, vr, vp, h.2⟩ : JrnP bj bd n j _ w)).sub (Sub.inner (Sub.inner (Sub.drop _ _)))
theorem qv_jd (h : Has w0 w (Qv R bd d bj n j vr vp b1)) : Jd R w0 w bd d bj n j b1 :=
  h.imp fun _ h => h.inner fun _ h => h.first fun _ h => (⟨h.1, vr, vp, h.2⟩ : JrnP bj bd n j _ w)
/-- The builder, made in the same way. -/
theorem bld_begin (hR : Nice R) (h : Has w0 w (Qv R bd d bj n j vr vp b1)) : Has w0 (w.alloc (.cells #[.pointer none, .slice none 0 0] 89)) (Star (BldP w.heap.size []) (Qv R bd d bj n j vr vp b1)) :=
  h.new (nice_qv hR) ((Below.refl _ w).alloc (Nat.le_refl _) _) (fun i hi => by rw [hi]; exact Nat.le_refl _) (bld_new w)
theorem Has.snd {P Q : SP} (h : Has w0 w (Star P Q)) : Has w0 w Q := h.sub (Sub.drop P Q)
theorem infoStep : (Tryz.prog.info? 58).map (fun i => (i.zero, i.size, i.bytes)) = some (some .nilFunc, 1, 8) := by kernel_rfl
theorem steps_new {P : SP} (hP : Nice P) (h : Has w0 w P) {ks : List Sk} {b2 : Nat} (vs : Array Value) (hv : vs.toList = ks.map (Sk.val bd b1 b2)) (hl : ks.length ≤ 16) :
    Has w0 (w.alloc (.cells vs 58)) (Star (StepsP bd b1 b2 (.slice (some ⟨w.heap.size, 0, none⟩) ks.length ks.length) ks) P) := by
  have hs : vs.size = ks.length := by
    rw [← Array.length_toList, hv, List.length_map]
  refine h.new hP ((Below.refl _ w).alloc (Nat.le_refl _) _) (S := fun i => i = w.heap.size) (fun i hi => by rw [hi]; exact Nat.le_refl _) ⟨fun i => by simp [Value.ownBlock, eq_comm], by simp, .inr ⟨w.heap.size, ks.length, vs, rfl, Nat.zero_le _, heap_alloc_new w _, Nat.le_refl _, by unfold maxLen; omega, by omega, ?_⟩⟩
  rw [hv, List.take_of_length_le (by simp)]
/-- All that run needs, in its order. -/
theorem run_ready {ks : List Sk} {X : SP} {v : Value} (h : Has w0 w (Star (StepsP bd b1 bb v ks) (Star X (Qv R bd d bj n j vr vp b1)))) : Jd (Star X (Star (StepsP bd b1 bb v ks) R)) w0 w bd d bj n j b1 := by
  have h1 : Has w0 w (Star (StepsP bd b1 bb v ks) (Star X (Star (DiskP bd d) (Star (JrnP bj bd n j) (Star (BoxP b1 (pj bj) 43) R))))) :=
    h.imp fun _ h => h.inner fun _ h => h.inner fun _ h => h.inner fun _ h => h.first fun _ h => (⟨h.1, vr, vp, h.2⟩ : JrnP bj bd n j _ w)
  have h2 : Has w0 w (Star X (Star (StepsP bd b1 bb v ks) (Star (DiskP bd d) (Star (JrnP bj bd n j) (Star (BoxP b1 (pj bj) 43) R))))) := h1.left
  have h3 := h2.imp (P' := Star X (Star (DiskP bd d) (Star (JrnP bj bd n j) (Star (BoxP b1 (pj bj) 43) (Star (StepsP bd b1 bb v ks) R))))) fun _ h => h.inner fun _ h => h.left.inner fun _ h => h.left.inner fun _ h => h.left
  exact h3.in4
theorem jd_dj {X Y : SP} (h : Jd (Star X (Star Y R)) w0 w bd d bj n j b1) : DJ R w0 w bd d bj n j := h.sub (Sub.inner (Sub.inner ((Sub.drop _ _).trans ((Sub.drop _ _).trans (Sub.drop _ _)))))
theorem run_ok {l : List Jnl.Step} {j : J} {d : M} (h : (Jnl.run l j d).1 = 0) : (Jnl.run l j d).2.1 = j := by
  induction l generalizing d with
  | nil => rfl
  | cons f r ih =>
    unfold Jnl.run at h ⊢
    by_cases e : (f d).1 = 0
    · rw [if_pos e] at h ⊢
      exact ih h
    · rw [if_neg e] at h
      exact absurd h e
theorem dj_open (h : DJ R w0 w bd d bj n j) : ∃ vr vp, Has w0 w (Star (DiskP bd d) (Star (JrnV bj bd n j vr vp) R)) := by
  obtain ⟨hb0, U, hU, S, T, hu, hd, h1, A, B, hu2, hd2, ⟨hF, vr, vp, h3⟩, h4⟩ := h
  exact ⟨vr, vp, hb0, U, hU, S, T, hu, hd, h1, A, B, hu2, hd2, ⟨hF, h3⟩, h4⟩
structure RowsOf (w : World) (j : J) (vr : Value) : Prop where
  rowR : w.ownsRow 0 9 1 vr j.recs.length (j.recs.map strV)
  capR : ∀ a cap, vr = .slice a 0 cap → cap = 0
theorem jv_rows {P : SP} (h : Has w0 w (Star (JrnV bj bd n j vr vp) P)) : RowsOf w j vr := h.quiet fun _ ⟨_, _, _, _, _, _, _, _, _, _, h2, _⟩ => ⟨h2.2.1, h2.2.2⟩
theorem jv_see {P : SP} (h : Has w0 w (Star (JrnV bj bd n j vr vp) P)) : JSee w bj bd n j vr vp := h.quiet fun _ ⟨hF, _, _, _, _, a1, _, _, _, _, a2, a3⟩ => ⟨hF, a1.2, a2.reads, a3.reads⟩
theorem set3_cell {W : World} {bj b1 : Nat} (h : b1 ≠ bj) (a b c : Value) {v : Value} (hx : W.cell? ⟨b1, 0, none⟩ = some v) : (((W.setCell ⟨bj, 3, none⟩ a).setCell ⟨bj, 4, none⟩ b).setCell ⟨bj, 5, none⟩ c).cell? ⟨b1, 0, none⟩ = some v :=
  (World.cell?_of_block (a := ⟨b1, 0, none⟩) (block_other h c)).trans ((World.cell?_of_block (a := ⟨b1, 0, none⟩) (block_other h b)).trans ((World.cell?_of_block (a := ⟨b1, 0, none⟩) (block_other h a)).trans hx))
theorem add_plain2 (b off j : Nat) : (⟨b, off, none⟩ : Addr).add j = ⟨b, off + j, none⟩ := by
  unfold Addr.add
  split
  · next h => subst h; rfl
  · rfl
/-- The journal behind a commit. -/
def jdone (j : J) : J := { j with recs := j.recs ++ j.pend, pend := [], has := true }
theorem commit_store {S : Nat → Prop} (h : JrnV bj bd n j vr vp S w) {g cap : Nat} {w3 : World} (hrl : j.recs.length + 64 ≤ 1073741824) (hne : j.pend ≠ [])
    (hown : w3.ownsRow 0 9 1 (.slice (some ⟨g, 0, none⟩) (j.recs.length + j.pend.length) cap) (j.recs.length + j.pend.length) (j.recs.map strV ++ j.pend.map strV)) (hfr : Fr (fun k => vr.ownBlock = some k) w w3) (hat : vr.ownBlock = some g ∨ g = w.heap.size) :
    Does S w (JrnP bj bd n (jdone j)) (((w3.setCell ⟨bj, 3, none⟩ (.slice (some ⟨g, 0, none⟩) (j.recs.length + j.pend.length) cap)).setCell ⟨bj, 4, none⟩ (.slice none 0 0)).setCell ⟨bj, 5, none⟩ (.bool true)) ∧
      w3.heap[bj]? = some (.cells (jCells bd n j vr vp) 86 (0, 0)) ∧ g ≠ bj := by
  obtain ⟨hF, A, B, hu, hdj, h1, C, D, hu2, hdj2, h2, h3⟩ := h
  have hbjl := lt_of_block h1.2
  have hnb : ∀ k, vr.ownBlock = some k → k ≠ bj := fun k hk e => hdj bj ((h1.1 bj).2 rfl) ((hu2 bj).2 (.inl ((h2.1 bj).2 (e ▸ hk))))
  have hd3 : w3.heap[bj]? = some (.cells (jCells bd n j vr vp) 86 (0, 0)) := (hfr.block bj hbjl (.inl (fun e => hnb bj e rfl))).trans h1.2
  have hgb : g ≠ bj := by
    rcases hat with e | e
    · exact hnb g e
    · omega
  refine ⟨?_, hd3, hgb⟩
  have e1 := block_set hd3 3 (.slice (some ⟨g, 0, none⟩) (j.recs.length + j.pend.length) cap)
  have e2 := block_set e1 4 (.slice none 0 0)
  have e3 := block_set e2 5 (.bool true)
  have nb : ∀ {W : World} {cs : Array Value}, W.heap[bj]? = some (.cells cs 86 (0, 0)) → ¬ IsBox W bj := by
    rintro W cs h ⟨s, hs⟩
    rw [h] at hs
    simp at hs
  have hfr3 : Fr (fun k => k = bj ∨ vr.ownBlock = some k) w (((w3.setCell ⟨bj, 3, none⟩ (.slice (some ⟨g, 0, none⟩) (j.recs.length + j.pend.length) cap)).setCell ⟨bj, 4, none⟩ (.slice none 0 0)).setCell ⟨bj, 5, none⟩ (.bool true)) :=
    ((((hfr.mono fun k hk => .inr hk).setCell (p := ⟨bj, 3, none⟩) (.inl (.inl rfl)) (nb hd3) _).setCell (p := ⟨bj, 4, none⟩) (.inl (.inl rfl)) (nb e1) _).setCell (p := ⟨bj, 5, none⟩) (.inl (.inl rfl)) (nb e2) _)
  have hgD : C g ∨ w.heap.size ≤ g := by
    rcases hat with e | e
    · exact .inl ((h2.1 g).2 e)
    · exact .inr (by omega)
  have ho : ∀ i, i ≠ bj → (((w3.setCell ⟨bj, 3, none⟩ (.slice (some ⟨g, 0, none⟩) (j.recs.length + j.pend.length) cap)).setCell ⟨bj, 4, none⟩ (.slice none 0 0)).setCell ⟨bj, 5, none⟩ (.bool true)).heap[i]? = w3.heap[i]? := fun i hi =>
    (block_other (by exact hi) _).trans ((block_other (by exact hi) _).trans (block_other (by exact hi) _))
  have hpl := hF.pend
  have hlen : 0 < j.pend.length := List.length_pos_iff.2 hne
  refine ⟨fun i => A i ∨ i = g, ?_, ⟨⟨hF.first, by simp only [jdone, List.length_append]; omega, by simp [jdone], fun x hx => ?_, by simp [jdone]⟩, .slice (some ⟨g, 0, none⟩) (j.recs.length + j.pend.length) cap, .slice none 0 0, A, fun i => i = g, fun i => Iff.rfl, ?_, ⟨h1.1, ?_⟩, fun i => i = g, fun _ => False, fun i => by simp, fun i _ h => h, ⟨fun i => by simp [Value.ownBlock, eq_comm], ?_, fun a c e => ?_⟩, str_nil _⟩, hfr3.mono ?_⟩
  · rintro i (hi | rfl)
    · exact .inl ((hu i).2 (.inl hi))
    · exact hgD.imp (fun h => (hu _).2 (.inr ((hu2 _).2 (.inl h)))) id
  · rcases List.mem_append.1 hx with hx | hx
    · exact hF.lenR x hx
    · exact hF.lenP x hx
  · rintro i ha rfl
    exact hgb ((h1.1 _).1 ha)
  · simpa [jCells, jdone] using e3
  · have := row_same (w' := ((w3.setCell ⟨bj, 3, none⟩ (.slice (some ⟨g, 0, none⟩) (j.recs.length + j.pend.length) cap)).setCell ⟨bj, 4, none⟩ (.slice none 0 0)).setCell ⟨bj, 5, none⟩ (.bool true)) hown (fun k hk => ho k (fun e => hgb (by simp [Value.ownBlock] at hk; rw [hk]; exact e)))
    simpa [jdone] using this
  · simp only [Value.slice.injEq] at e
    omega
  · rintro i (rfl | h)
    · exact (hu _).2 (.inl ((h1.1 _).2 rfl))
    · exact (hu i).2 (.inr ((hu2 i).2 (.inl ((h2.1 i).2 h))))
end
end Go.Proofs.YtlhnjdoicolkkaaGreatDoor
