/- What came in: a list of strings, two small numbers, opened to what the walks are told of it. -/
import Derived.Test.YtlhnjdoicolkkaaGreatDoorJLaid
import Derived.ShutString
import Derived.ChangeOld
import Derived.Below
import Derived.Carry
import Derived.ChangeSlices
import Derived.SliceStrings
import Derived.Lib.SmallJoins
import Derived.Deep.Slices
import Derived.Deep.Fields
import Derived.ChangeSame
set_option maxRecDepth 100000
namespace Go.Proofs.YtlhnjdoicolkkaaGreatDoor
open Go.ChangeShapes Go.WideShapes Go.ChangeAt Go.RowKit Go.Joins Go.Deep

/-- A slice of strings that came in. -/
def StrsBody (w : World) (ao : Option Addr) (c : Nat) (ss : List ByteArray) : Prop :=
  (ao = none ∧ c = 0 ∧ ss = []) ∨ (∃ a, ao = some a ∧ ss = []) ∨ (∃ b off, ao = some ⟨b, off, none⟩ ∧ b < w.heap.size ∧ ∀ j, j < ss.length → w.cell? ⟨b, off + j, none⟩ = some (.string (ss.getD j ByteArray.empty)))
theorem cell_lt {w : World} {a : Addr} {v : Value} (h : w.cell? a = some v) : a.block < w.heap.size ∧ a.spot = none := by
  unfold World.cell? at h
  constructor
  · rcases Nat.lt_or_ge a.block w.heap.size with h1 | h1
    · exact h1
    · rw [Array.getElem?_eq_none h1] at h
      cases h
  · split at h
    · cases hs : a.spot with
      | none => rfl
      | some k => rw [hs] at h; simp at h
    · cases h
section
variable {H : Type} {enc : TypeId × Value → H} {w : World} {base : Nat} {spare : Nat → Bool} {held : Bool}
theorem in_strings {fuel : Nat} {v : Value} {y : DataW H × List MemPlace} (h : DataW.trod enc Tryz.prog w base spare held fuel 25 [v] = some y) :
    ∃ (ao : Option Addr) (c : Nat) (ss : List ByteArray), v = .slice ao ss.length c ∧ StrsBody w ao c ss ∧ ss.length ≤ maxLen ∧ (∀ s ∈ ss, s.size ≤ maxLen) ∧ ss.length ≤ c ∧ c ≤ maxLen := by
  rcases open_strings Tryz.underlying25 Tryz.underlying9 (by kernel_rfl) h with ⟨hcs, _⟩ | ⟨a, len, cap, zs, hcs, _, hl, hm, hz, _, hcell, hs⟩
  · simp only [List.cons.injEq, and_true] at hcs
    exact ⟨none, 0, [], hcs, .inl ⟨rfl, rfl, rfl⟩, by simp, fun s hs => absurd hs (by simp), by simp, by unfold maxLen; omega⟩
  · simp only [List.cons.injEq, and_true] at hcs
    have hle : len ≤ zs.length := by rw [hz]; split <;> omega
    have hlen : (zs.take len).length = len := by simp [hle]
    refine ⟨some a, cap, zs.take len, by rw [hlen]; exact hcs, ?_, by omega, fun s h => hs s (List.mem_of_mem_take h), by omega, hm⟩
    rcases Nat.eq_zero_or_pos len with h0 | h0
    · exact .inr (.inl ⟨a, rfl, by rw [h0]; rfl⟩)
    · have hc0 := hcell 0 (by omega)
      rw [show a.add 0 = a from rfl] at hc0
      obtain ⟨b, off, sp⟩ := a
      obtain ⟨hb, hs⟩ := cell_lt hc0
      simp only at hb hs
      subst hs
      refine .inr (.inr ⟨b, off, rfl, hb, fun j hj => ?_⟩)
      have := hcell j (by omega)
      rw [add_plain2] at this
      rw [this]
      simp only [List.getD_eq_getElem?_getD, List.getElem?_take, if_pos (show j < len by omega)]
/-- What came in can be read. -/
theorem strs_in {ao : Option Addr} {c : Nat} {ss : List ByteArray} (hb : StrsBody w ao c ss) (hl : ss.length ≤ c) (hc : c ≤ maxLen) : StrsIn w (.slice ao ss.length c) (ss.map fun s => s.data.toList) := by
  refine ⟨ao, c, by rw [List.length_map], by rw [List.length_map]; exact hl, hc, fun h0 => ?_⟩
  rw [List.length_map] at h0 ⊢
  rcases hb with ⟨_, _, rfl⟩ | ⟨a, _, rfl⟩ | ⟨b, off, e, hlt, hcell⟩
  · simp at h0
  · simp at h0
  · refine ⟨b, off, e, hlt, fun j hj => ?_⟩
    rw [hcell j hj]
    have e1 : (ss.map fun s => s.data.toList).getD j [] = (ss.getD j ByteArray.empty).data.toList := by
      rw [List.getD_eq_getElem?_getD, List.getD_eq_getElem?_getD, List.getElem?_map, List.getElem?_eq_getElem hj]
      rfl
    rw [e1]
    exact congrArg some (congrArg Value.string (ba_self _)).symm
theorem bounds_u16 {n : Int} (h : (Lit.int .u16 n).wf = true) : 0 ≤ n ∧ n ≤ 65535 := by
  simp [Lit.wf, IntKind.min, IntKind.max, IntKind.signed, IntKind.bits] at h
  omega
/-- Two numbers in an array. -/
theorem in_u16s {r : Reach} {b0 : Nat} {v : Value} {d : DataW H} {p : List MemPlace} (hv : Value.okWide Tryz.prog w r b0 27 v) (h : DataW.Trod enc Tryz.prog w base spare held 27 v d p) :
    ∃ x y : Nat, v = .agg #[.int .u16 x, .int .u16 y] ∧ x ≤ 65535 ∧ y ≤ 65535 := by
  unfold Value.okWide at hv
  rw [Tryz.underlying27] at hv
  simp only at hv
  obtain ⟨cs, rfl, hsz, -⟩ := hv
  have hsz2 : cs.size = 2 := hsz.trans (show Tryz.prog.cellsOf 27 = 2 by kernel_rfl)
  obtain ⟨fuel, hf⟩ := h
  obtain ⟨xs, n, -, -, -, hlen, hg⟩ := DataW.trod_array Tryz.underlying27 hf
  have hce : Tryz.prog.cellsOf 26 = 1 := by kernel_rfl
  rw [hce] at hg
  obtain ⟨l⟩ := cs
  match l, hsz2 with
  | [c0, c1], _ =>
    match xs, hlen with
    | [y0, y1], _ =>
      obtain ⟨k0, e0, -, w0⟩ := DataW.trod_int Tryz.underlying26 (x := y0) (by simpa [Value.cells] using hg 0 (by decide))
      obtain ⟨k1, e1, -, w1⟩ := DataW.trod_int Tryz.underlying26 (x := y1) (by simpa [Value.cells] using hg 1 (by decide))
      simp only [List.cons.injEq, and_true] at e0 e1
      subst e0 e1
      have b0 := bounds_u16 w0
      have b1 := bounds_u16 w1
      exact ⟨k0.toNat, k1.toNat, by rw [Int.toNat_of_nonneg b0.1, Int.toNat_of_nonneg b1.1], by omega, by omega⟩
end
end Go.Proofs.YtlhnjdoicolkkaaGreatDoor
