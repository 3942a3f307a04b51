/- What came in: numbers, small numbers, three small numbers, four numbers, opened to what the walks are told of them. -/
import Derived.Test.YtgofihilkobenaaGreatDoorKR
set_option maxRecDepth 100000
namespace Go.Proofs.YtgofihilkobenaaGreatDoor
open Go.ChangeShapes Go.WideShapes Go.ChangeAt Go.RowKit Go.Joins Go.Deep Go.Dtm

/-- A slice of small numbers, to be read. -/
def PartsIn (w : World) (v : Value) (l : List Int) : Prop := ∃ ao c, v = .slice ao l.length c ∧ l.length ≤ c ∧ c ≤ maxLen ∧ (0 < l.length → ∃ b off, ao = some ⟨b, off, none⟩ ∧ b < w.heap.size ∧ ∀ j, j < l.length → w.cell? ⟨b, off + j, none⟩ = some (.int .u8 (l.getD j 0)) ∧ 0 ≤ l.getD j 0 ∧ l.getD j 0 ≤ 255)
theorem PartsIn.below {w w' : World} {v : Value} {l : List Int} (h : PartsIn w v l) (hb : Below w.heap.size w w') : PartsIn w' v l := by
 obtain ⟨ao, c, e, h1, h2, h3⟩ := h
 refine ⟨ao, c, e, h1, h2, fun h0 => ?_⟩
 obtain ⟨b, off, ea, hl, hc⟩ := h3 h0
 exact ⟨b, off, ea, Nat.lt_of_lt_of_le hl hb.size, fun j hj => ⟨ZJ hb (hc j hj).1, (hc j hj).2⟩⟩
theorem in_u8 {n : Int} (h : (Lit.int .u8 n).wf = true) : 0 ≤ n ∧ n ≤ 255 := by
 simp [Lit.wf, IntKind.min, IntKind.max, IntKind.bits, IntKind.signed] at h
 omega
theorem in_i8 {n : Int} (h : (Lit.int .i8 n).wf = true) : -128 ≤ n ∧ n ≤ 127 := by
 simp [Lit.wf, IntKind.min, IntKind.max, IntKind.bits, IntKind.signed] at h
 omega
theorem in_i64 {n : Int} (h : (Lit.int .i64 n).wf = true) : -9223372036854775808 ≤ n ∧ n ≤ 9223372036854775807 := by
 simp [Lit.wf, IntKind.min, IntKind.max, IntKind.bits, IntKind.signed] at h
 omega
section
variable {H : Type} {enc : TypeId × Value → H} {w : World} {base : Nat} {spare : Nat → Bool} {held : Bool}
theorem in_numbers {fuel : Nat} {v : Value} {y : DataW H × List MemPlace} (h : DataW.trod enc Tryz.prog w base spare held fuel 37 [v] = some y) :
  ∃ (ao : Option Addr) (c : Nat) (l : List ByteArray), v = .slice ao l.length c ∧ TxtIn w (.slice ao l.length c) l := by
 rcases open_strings Tryz.underlying37 Tryz.underlying40 (by kernel_rfl) h with ⟨hcs, _⟩ | ⟨a, len, cap, zs, hcs, _, hl, hm, hz, _, hcell, hs⟩
 ·simp only [List.cons.injEq, and_true] at hcs
  exact ⟨none, 0, [], hcs, none, 0, rfl, Nat.le_refl _, by unfold maxLen; omega, fun h => absurd h (by simp)⟩
 ·simp only [List.cons.injEq, and_true] at hcs
  have hle : len ≤ zs.length := by rw [hz]; split <;> omega
  have hlen : (zs.take len).length = len := by simp [hle]
  rcases Nat.eq_zero_or_pos len with h0 | h0
  ·exact ⟨some a, cap, [], by rw [hcs, h0]; rfl, some a, cap, rfl, by simp, hm, fun h => absurd h (by simp)⟩
  ·have hc0 := hcell 0 (by omega)
   rw [show a.add 0 = a from rfl] at hc0
   obtain ⟨b, off, sp⟩ := a
   obtain ⟨hb, hs⟩ := cell_lt hc0
   simp only at hb hs
   subst hs
   refine ⟨_, cap, zs.take len, by rw [hlen]; exact hcs, _, _, rfl, by omega, hm, fun _ => ⟨b, off, rfl, hb, fun j hj => ?_⟩⟩
   have := hcell j (by omega)
   rw [add_plain] at this
   rw [this]
   simp only [List.getD_eq_getElem?_getD, List.getElem?_take, if_pos (show j < len by omega)]
   rw [List.getElem?_eq_getElem (by omega)]
   rfl
theorem in_u8s {fuel : Nat} {v : Value} {y : DataW H × List MemPlace} (h : DataW.trod enc Tryz.prog w base spare held fuel 54 [v] = some y) : ∃ l : List Int, PartsIn w v l := by
 rcases open_ints Tryz.underlying54 Tryz.underlying5 (by kernel_rfl) h with ⟨hcs, _⟩ | ⟨a, len, cap, zs, hcs, _, hl, hm, hz, _, hcell, hwf⟩
 ·simp only [List.cons.injEq, and_true] at hcs
  exact ⟨[], none, 0, hcs, Nat.le_refl _, by unfold maxLen; omega, fun h => absurd h (by simp)⟩
 ·simp only [List.cons.injEq, and_true] at hcs
  have hle : len ≤ zs.length := by rw [hz]; split <;> omega
  have hlen : (zs.take len).length = len := by simp [hle]
  rcases Nat.eq_zero_or_pos len with h0 | h0
  ·exact ⟨[], some a, cap, by rw [hcs, h0]; rfl, by simp, hm, fun h => absurd h (by simp)⟩
  ·have hc0 := hcell 0 (by omega)
   rw [show a.add 0 = a from rfl] at hc0
   obtain ⟨b, off, sp⟩ := a
   obtain ⟨hb, hs⟩ := cell_lt hc0
   simp only at hb hs
   subst hs
   refine ⟨zs.take len, _, cap, by rw [hlen]; exact hcs, by omega, hm, fun _ => ⟨b, off, rfl, hb, fun j hj => ?_⟩⟩
   have := hcell j (by omega)
   rw [add_plain] at this
   rw [this]
   have e : (zs.take len).getD j 0 = zs[j]'(by omega) := by
    simp only [List.getD_eq_getElem?_getD, List.getElem?_take, if_pos (show j < len by omega)]
    rw [List.getElem?_eq_getElem (by omega)]
    rfl
   have e2 : zs.getD j 0 = zs[j]'(by omega) := by
    rw [List.getD_eq_getElem?_getD, List.getElem?_eq_getElem (by omega)]
    rfl
   have hw := in_u8 (hwf _ (List.getElem_mem (show j < zs.length by omega)))
   rw [e]
   first
    | exact ⟨rfl, hw⟩
    | exact ⟨by rw [← e2], hw⟩
theorem in_u8x3 {r : Reach} {b0 : Nat} {v : Value} {d : DataW H} {p : List MemPlace} (hv : Value.okWide Tryz.prog w r b0 111 v) (h : DataW.Trod enc Tryz.prog w base spare held 111 v d p) :
  ∃ x y z : Int, v = .agg #[.int .u8 x, .int .u8 y, .int .u8 z] ∧ (0 ≤ x ∧ x ≤ 255) ∧ (0 ≤ y ∧ y ≤ 255) ∧ (0 ≤ z ∧ z ≤ 255) := by
 unfold Value.okWide at hv
 rw [Tryz.underlying111] at hv
 simp only at hv
 obtain ⟨cs, rfl, hsz, -⟩ := hv
 have hsz2 : cs.size = 3 := hsz.trans (show Tryz.prog.cellsOf 111 = 3 by kernel_rfl)
 obtain ⟨fuel, hf⟩ := h
 obtain ⟨xs, n, -, -, -, hlen, hg⟩ := DataW.trod_array Tryz.underlying111 hf
 have hce : Tryz.prog.cellsOf 5 = 1 := by kernel_rfl
 rw [hce] at hg
 obtain ⟨l⟩ := cs
 match l, hsz2 with
 | [c0, c1, c2], _ =>
  match xs, hlen with
  | [y0, y1, y2], _ =>
   obtain ⟨k0, e0, -, w0⟩ := DataW.trod_int Tryz.underlying5 (x := y0) (by simpa [Value.cells] using hg 0 (by decide))
   obtain ⟨k1, e1, -, w1⟩ := DataW.trod_int Tryz.underlying5 (x := y1) (by simpa [Value.cells] using hg 1 (by decide))
   obtain ⟨k2, e2, -, w2⟩ := DataW.trod_int Tryz.underlying5 (x := y2) (by simpa [Value.cells] using hg 2 (by decide))
   simp only [List.cons.injEq, and_true] at e0 e1 e2
   subst e0 e1 e2
   exact ⟨k0, k1, k2, rfl, in_u8 w0, in_u8 w1, in_u8 w2⟩
theorem struct_field {P : Program} {t : TypeId} {fs : Array Field} (he : P.underlying t = some (.struct fs)) (hone : oneCellFields P fs = true) {fuel : Nat} {cs : List Value} {x : DataW H × List MemPlace} (h : DataW.trod enc P w base spare held fuel t cs = some x) (hl : cs.length = fs.size) :
  ∃ n, ∀ (j : Nat) (f : Field), fs[j]? = some f → ∃ (v : Value) (y : DataW H × List MemPlace), cs[j]? = some v ∧ DataW.trod enc P w base spare held n f.type [v] = some y := by
 obtain ⟨ys, n', hn', hy, hlen, hyl, hf⟩ := DataW.trod_struct he h
 refine ⟨n', fun j f hj => ?_⟩
 obtain ⟨ho, hk⟩ := hone_of hone j f hj
 have hjl : j < fs.size := (Array.getElem?_eq_some_iff.1 hj).1
 have h1 := hf j f hj
 rw [ho, hk] at h1
 have hone' : (cs.drop j).take 1 = [cs[j]'(by omega)] := by
  rw [List.drop_eq_getElem_cons (by omega)]
  rfl
 rw [hone'] at h1
 have hys : ys[j]? = some (ys[j]'(by omega)) := List.getElem?_eq_getElem (by omega)
 exact ⟨_, _, List.getElem?_eq_getElem (by omega), h1.trans hys⟩
theorem in_ends {r : Reach} {b0 : Nat} {v : Value} {d : DataW H} {p : List MemPlace} (hv : Value.okWide Tryz.prog w r b0 96 v) (h : DataW.Trod enc Tryz.prog w base spare held 96 v d p) :
  ∃ x y z u : Int, v = .agg #[.int .i64 x, .int .i64 y, .int .i64 z, .int .i64 u] := by
 obtain ⟨cs, rfl, hsz⟩ : ∃ cs, v = .agg cs ∧ cs.size = 4 := by
  unfold Value.okWide at hv
  rw [Tryz.underlying96] at hv
  simp only at hv
  obtain ⟨cs, rfl, hsz, -⟩ := hv
  exact ⟨cs, rfl, hsz.trans (show Tryz.prog.cellsOf 96 = 4 by kernel_rfl)⟩
 obtain ⟨fuel, hf⟩ := h
 obtain ⟨n, hg⟩ := struct_field Tryz.underlying96 (by kernel_rfl) hf (by simpa [Value.cells] using hsz)
 obtain ⟨v0, y0, c0, h0⟩ := hg 0 _ rfl
 obtain ⟨v1, y1, c1, h1⟩ := hg 1 _ rfl
 obtain ⟨v2, y2, c2, h2⟩ := hg 2 _ rfl
 obtain ⟨v3, y3, c3, h3⟩ := hg 3 _ rfl
 obtain ⟨k0, e0, _, _⟩ := DataW.trod_int Tryz.underlying3 h0
 obtain ⟨k1, e1, _, _⟩ := DataW.trod_int Tryz.underlying3 h1
 obtain ⟨k2, e2, _, _⟩ := DataW.trod_int Tryz.underlying3 h2
 obtain ⟨k3, e3, _, _⟩ := DataW.trod_int Tryz.underlying3 h3
 simp only [List.cons.injEq, and_true] at e0 e1 e2 e3
 subst e0 e1 e2 e3
 obtain ⟨l⟩ := cs
 match l, hsz with
 | [d0, d1, d2, d3], _ =>
  simp [Value.cells] at c0 c1 c2 c3
  subst c0 c1 c2 c3
  exact ⟨k0, k1, k2, k3, rfl⟩
end
end Go.Proofs.YtgofihilkobenaaGreatDoor
