/- The model gets its records: the two stores. -/
import Derived.Test.YtlhnjdoicolkkaaGreatDoorMj
set_option maxRecDepth 100000
namespace Go.Proofs.YtlhnjdoicolkkaaGreatDoor
open Go.RowKit Go.Dsk Go.Maps Go.WideMaps
set_option maxHeartbeats 2000000
open Jnl (J)

section
variable {w0 w : World} {bm bd : Nat} {n : ByteArray} {j : J} {d : M} {R : SP} {S : Nat → Prop}
/-- Behind the two stores. -/
abbrev mset (w : World) (bm f : Nat) (v : Value) : World := (w.setCell ⟨bm, 2, none⟩ (.int .i64 f)).setCell ⟨bm, 3, none⟩ v
theorem mset_fr {vr vp : Value} (hd : w.heap[bm]? = some (.cells (mCells bd n j vr vp) 72 (0, 0))) (f : Nat) (v : Value) : Fr (fun i => i = bm) w (mset w bm f v) := by
  have e1 := block_set hd 2 (.int .i64 f)
  have nb : ∀ {W : World} {cs : Array Value}, W.heap[bm]? = some (.cells cs 72 (0, 0)) → ¬ IsBox W bm := by
    rintro W cs h ⟨s, hs⟩
    rw [h] at hs
    simp at hs
  exact ((Fr.refl (fun i => i = bm) w).setCell (p := ⟨bm, 2, none⟩) (.inl rfl) (nb hd) _).setCell (p := ⟨bm, 3, none⟩) (.inl rfl) (nb e1) _
theorem mset_hd {vr vp : Value} (hd : w.heap[bm]? = some (.cells (mCells bd n j vr vp) 72 (0, 0))) (f : Nat) (v : Value) {j' : J} (hf : j'.first = f) (hb : j'.broken = j.broken) : (mset w bm f v).heap[bm]? = some (.cells (mCells bd n j' v vp) 72 (0, 0)) := by
  have e2 := block_set (block_set hd 2 (.int .i64 f)) 3 v
  simpa [mCells, hf, hb] using e2
/-- New records, from beside. -/
theorem mdl_recs {v : Value} {l : List Bs} (h : Star (MdlP bm bd n j) (RdP v l) S w) {f : Nat} {j' : J} (hF' : Fit j') (hf : j'.first = f) (hr : j'.recs = l) (hp : j'.pend = j.pend) (hb : j'.broken = j.broken) : Does S w (MdlP bm bd n j') (mset w bm f v) := by
  obtain ⟨A, B, hu, hd, ⟨hF, vr, vp, C, D, hu2, hd2, h1, E, F, hu3, hd3, h2, h3⟩, h4⟩ := h
  have hfr := mset_fr h1.2 f v
  have hnb : ∀ i, i = bm → ¬ F i := fun i hi hf => hd2 i ((h1.1 i).2 hi) ((hu3 i).2 (.inr hf))
  have hnb2 : ∀ i, i = bm → ¬ B i := fun i hi hb => hd i ((hu2 i).2 (.inl ((h1.1 i).2 hi))) hb
  refine ⟨fun i => C i ∨ (B i ∨ F i), ?_, ⟨hF', v, vp, C, fun i => B i ∨ F i, fun i => Iff.rfl, ?_, ⟨h1.1, mset_hd h1.2 f v hf hb⟩, B, F, fun i => Iff.rfl, ?_, ?_, ?_⟩, hfr.mono ?_⟩
  · rintro i (hi | hi | hi)
    · exact .inl ((hu i).2 (.inl ((hu2 i).2 (.inl hi))))
    · exact .inl ((hu i).2 (.inr hi))
    · exact .inl ((hu i).2 (.inl ((hu2 i).2 (.inr ((hu3 i).2 (.inr hi))))))
  · rintro i hc (hb | hf)
    · exact hd i ((hu2 i).2 (.inl hc)) hb
    · exact hd2 i hc ((hu3 i).2 (.inr hf))
  · intro i hb hf
    exact hd i ((hu2 i).2 (.inr ((hu3 i).2 (.inr hf)))) hb
  · rw [hr]
    exact (nice_rd v l).keep h4 hfr fun i hi e => hnb2 i e hi
  · rw [hp]
    exact (nice_str vp j.pend).keep h3 hfr fun i hi e => hnb i e hi
  · rintro i rfl
    exact (hu _).2 (.inl ((hu2 _).2 (.inl ((h1.1 _).2 rfl))))
theorem rdBlk_sub {ao : Option Addr} {l k c : Nat} (hk : k ≤ l) : ∀ i, rdBlk (.slice (ao.map fun a => if c = k then a else a.add k) (l - k) (c - k)) = some i → rdBlk (.slice ao l c) = some i := by
  intro i hi
  cases ao with
  | none => cases hm : l - k <;> rw [hm] at hi <;> simp [rdBlk] at hi
  | some a =>
    cases hm : l - k with
    | zero => rw [hm] at hi; simp [rdBlk] at hi
    | succ m =>
      rw [hm] at hi
      obtain ⟨q, hq⟩ : ∃ q, l = q + 1 := ⟨l - 1, by omega⟩
      rw [hq]
      have e : (if c = k then a else a.add k).block = a.block := by
        split
        · rfl
        · unfold Addr.add
          split <;> rfl
      simp only [Option.map_some, rdBlk, Option.some.injEq] at hi ⊢
      rw [← hi, e]
theorem strs_sub {ao : Option Addr} {c k : Nat} {l : List Bs} (h : StrsIn w (.slice ao l.length c) l) (hk : k ≤ l.length) : StrsIn w (.slice (ao.map fun a => if c = k then a else a.add k) (l.length - k) (c - k)) (l.drop k) := by
  obtain ⟨ao', c', e, h1, h2, hc⟩ := h
  simp only [Value.slice.injEq, true_and] at e
  obtain ⟨rfl, rfl⟩ := e
  refine ⟨_, c - k, by rw [List.length_drop], by rw [List.length_drop]; omega, by omega, fun h0 => ?_⟩
  rw [List.length_drop] at h0
  obtain ⟨b, off, rfl, hlt, hcell⟩ := hc (by omega)
  refine ⟨b, off + k, ?_, hlt, fun j hj => ?_⟩
  · rw [Option.map_some, if_neg (by omega), add_plain2]
  · rw [List.length_drop] at hj
    rw [Nat.add_assoc, hcell (k + j) (by omega), List.getD_eq_getElem?_getD, List.getD_eq_getElem?_getD, List.getElem?_drop]
/-- The records from a number on. -/
theorem mdl_sub {vr vp : Value} (h : MdlV bm bd n j vr vp S w) {ao : Option Addr} {c k : Nat} (hv : vr = .slice ao j.recs.length c) (hk : k ≤ j.recs.length) {f : Nat} {j' : J} (hF' : Fit j') (hf : j'.first = f) (hr : j'.recs = j.recs.drop k) (hp : j'.pend = j.pend) (hb : j'.broken = j.broken) :
    Does S w (MdlP bm bd n j') (mset w bm f (.slice (ao.map fun a => if c = k then a else a.add k) (j.recs.length - k) (c - k))) := by
  obtain ⟨hF, C, D, hu2, hd2, h1, E, F, hu3, hd3, h2, h3⟩ := h
  subst hv
  have hfr := mset_fr h1.2 f (.slice (ao.map fun a => if c = k then a else a.add k) (j.recs.length - k) (c - k))
  have hE : ∀ i, rdBlk (.slice (ao.map fun a => if c = k then a else a.add k) (j.recs.length - k) (c - k)) = some i → E i := fun i hi => (h2.1 i).2 (rdBlk_sub hk i hi)
  have hnb : ∀ i, i = bm → ¬ D i := fun i hi hf => hd2 i ((h1.1 i).2 hi) hf
  refine ⟨fun i => C i ∨ (rdBlk (.slice (ao.map fun a => if c = k then a else a.add k) (j.recs.length - k) (c - k)) = some i ∨ F i), ?_, ⟨hF', _, vp, C, fun i => rdBlk (.slice (ao.map fun a => if c = k then a else a.add k) (j.recs.length - k) (c - k)) = some i ∨ F i, fun i => Iff.rfl, ?_, ⟨h1.1, mset_hd h1.2 f _ hf hb⟩, _, F, fun i => Iff.rfl, ?_, ?_, ?_⟩, hfr.mono ?_⟩
  · rintro i (hi | hi | hi)
    · exact .inl ((hu2 i).2 (.inl hi))
    · exact .inl ((hu2 i).2 (.inr ((hu3 i).2 (.inl (hE i hi)))))
    · exact .inl ((hu2 i).2 (.inr ((hu3 i).2 (.inr hi))))
  · rintro i hc (hb | hf)
    · exact hd2 i hc ((hu3 i).2 (.inl (hE i hb)))
    · exact hd2 i hc ((hu3 i).2 (.inr hf))
  · intro i hb hf
    exact hd3 i (hE i hb) hf
  · rw [hr]
    exact (nice_rd _ _).keep ⟨fun i => Iff.rfl, strs_sub h2.2 hk⟩ hfr fun i hi e => hnb i e ((hu3 i).2 (.inl (hE i hi)))
  · rw [hp]
    exact (nice_str vp j.pend).keep h3 hfr fun i hi e => hnb i e ((hu3 i).2 (.inr hi))
  · rintro i rfl
    exact (hu2 _).2 (.inl ((h1.1 _).2 rfl))
end
end Go.Proofs.YtlhnjdoicolkkaaGreatDoor
