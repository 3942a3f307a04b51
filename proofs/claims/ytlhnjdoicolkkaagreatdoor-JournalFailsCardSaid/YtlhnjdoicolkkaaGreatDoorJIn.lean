/- What came in: a list of strings, two small numbers, opened to what the walks are told of it. -/
import Derived.Test.YtlhnjdoicolkkaaGreatDoorJLaid
import Derived.ShutString
import Derived.ChangeOld
import Derived.Below
import Derived.Carry
import Derived.ChangeSlices
import Derived.SliceStrings
import Derived.Lib.SmallJoins
import Derived.Deep.Slices
import Derived.Deep.Fields
import Derived.ChangeSame
set_option maxRecDepth 100000
namespace Go.Proofs.YtlhnjdoicolkkaaGreatDoor
open Go.ChangeShapes Go.WideShapes Go.ChangeAt Go.RowKit Go.Joins Go.Deep

/-- A slice of strings that came in. -/
def StrsBody (w : World) (ao : Option Addr) (c : Nat) (ss : List ByteArray) : Prop :=
  (ao = none ∧ c = 0 ∧ ss = []) ∨ (∃ a, ao = some a ∧ ss = []) ∨ (∃ b off, ao = some ⟨b, off, none⟩ ∧ b < w.heap.size ∧ ∀ j, j < ss.length → w.cell? ⟨b, off + j, none⟩ = some (.string (ss.getD j ByteArray.empty)))
theorem cell_lt {w : World} {a : Addr} {v : Value} (h : w.cell? a = some v) : a.block < w.heap.size ∧ a.spot = none := by
  unfold World.cell? at h
  constructor
  · rcases Nat.lt_or_ge a.block w.heap.size with h1 | h1
    · exact h1
    · rw [Array.getElem?_eq_none h1] at h
      cases h
  · split at h
    · cases hs : a.spot with
      | none => rfl
      | some k => rw [hs] at h; simp at h
    · cases h
section
variable {H : Type} {enc : TypeId × Value → H} {w : World} {base : Nat} {spare : Nat → Bool} {held : Bool}
theorem in_strings {fuel : Nat} {v : Value} {y : DataW H × List MemPlace} (h : DataW.trod enc Tryz.prog w base spare held fuel 25 [v] = some y) :
    ∃ (ao : Option Addr) (c : Nat) (ss : List ByteArray), v = .slice ao ss.length c ∧ StrsBody w ao c ss ∧ ss.length ≤ maxLen ∧ (∀ s ∈ ss, s.size ≤ maxLen) ∧ ss.length ≤ c ∧ c ≤ maxLen := by
  rcases open_strings Tryz.underlying25 Tryz.underlying9 (by kernel_rfl) h with ⟨hcs, _⟩ | ⟨a, len, cap, zs, hcs, _, hl, hm, hz, _, hcell, hs⟩
  · simp only [List.cons.injEq, and_true] at hcs
    exact ⟨none, 0, [], hcs, .inl ⟨rfl, rfl, rfl⟩, by simp, fun s hs => absurd hs (by simp), by simp, by unfold maxLen; omega⟩
  · simp only [List.cons.injEq, and_true] at hcs
    have hle : len ≤ zs.length := by rw [hz]; split <;> omega
    have hlen : (zs.take len).length = len := by simp [hle]
    refine ⟨some a, cap, zs.take len, by rw [hlen]; exact hcs, ?_, by omega, fun s h => hs s (List.mem_of_mem_take h), by omega, hm⟩
    rcases Nat.eq_zero_or_pos len with h0 | h0
    · exact .inr (.inl ⟨a, rfl, by rw [h0]; rfl⟩)
    · have hc0 := hcell 0 (by omega)
      rw [show a.add 0 = a from rfl] at hc0
      obtain ⟨b, off, sp⟩ := a
      obtain ⟨hb, hs⟩ := cell_lt hc0
      simp only at hb hs
      subst hs
      refine .inr (.inr ⟨b, off, rfl, hb, fun j hj => ?_⟩)
      have := hcell j (by omega)
      rw [add_plain2] at this
      rw [this]
      simp only [List.getD_eq_getElem?_getD, List.getElem?_take, if_pos (show j < len by omega)]
/-- What came in can be read. -/
theorem strs_in {ao : Option Addr} {c : Nat} {ss : List ByteArray} (hb : StrsBody w ao c ss) (hl : ss.length ≤ c) (hc : c ≤ maxLen) : StrsIn w (.slice ao ss.length c) (ss.map fun s => s.data.toList) := by
  refine ⟨ao, c, by rw [List.length_map], by rw [List.length_map]; exact hl, hc, fun h0 => ?_⟩
  rw [List.length_map] at h0 ⊢
  rcases hb with ⟨_, _, rfl⟩ | ⟨a, _, rfl⟩ | ⟨b, off, e, hlt, hcell⟩
  · simp at h0
  · simp at h0
  · refine ⟨b, off, e, hlt, fun j hj => ?_⟩
    rw [hcell j hj]
    have e1 : (ss.map fun s => s.data.toList).getD j [] = (ss.getD j ByteArray.empty).data.toList := by
      rw [List.getD_eq_getElem?_getD, List.getD_eq_getElem?_getD, List.getElem?_map, List.getElem?_eq_getElem hj]
      rfl
    rw [e1]
    exact congrArg some (congrArg Value.string (ba_self _)).symm
theorem bounds_u16 {n : Int} (h : (Lit.int .u16 n).wf = true) : 0 ≤ n ∧ n ≤ 65535 := by
  simp [Lit.wf, IntKind.min, IntKind.max, IntKind.signed, IntKind.bits] at h
  omega
/-- Two numbers in an array. -/
theorem in_u16s {r : Reach} {b0 : Nat} {v : Value} {d : DataW H} {p : List MemPlace} (hv : Value.okWide Tryz.prog w r b0 27 v) (h : DataW.Trod enc Tryz.prog w base spare held 27 v d p) :
    ∃ x y : Nat, v = .agg #[.int .u16 x, .int .u16 y] ∧ x ≤ 65535 ∧ y ≤ 65535 := by
  unfold Value.okWide at hv
  rw [Tryz.underlying27] at hv
  simp only at hv
  obtain ⟨cs, rfl, hsz, -⟩ := hv
  have hsz2 : cs.size = 2 := hsz.trans (show Tryz.prog.cellsOf 27 = 2 by kernel_rfl)
  obtain ⟨fuel, hf⟩ := h
  obtain ⟨xs, n, -, -, -, hlen, hg⟩ := DataW.trod_array Tryz.underlying27 hf
  have hce : Tryz.prog.cellsOf 26 = 1 := by kernel_rfl
  rw [hce] at hg
  obtain ⟨l⟩ := cs
  match l, hsz2 with
  | [c0, c1], _ =>
    match xs, hlen with
    | [y0, y1], _ =>
      obtain ⟨k0, e0, -, w0⟩ := DataW.trod_int Tryz.underlying26 (x := y0) (by simpa [Value.cells] using hg 0 (by decide))
      obtain ⟨k1, e1, -, w1⟩ := DataW.trod_int Tryz.underlying26 (x := y1) (by simpa [Value.cells] using hg 1 (by decide))
      simp only [List.cons.injEq, and_true] at e0 e1
      subst e0 e1
      have b0 := bounds_u16 w0
      have b1 := bounds_u16 w1
      exact ⟨k0.toNat, k1.toNat, by rw [Int.toNat_of_nonneg b0.1, Int.toNat_of_nonneg b1.1], by omega, by omega⟩
end
end Go.Proofs.YtlhnjdoicolkkaaGreatDoor

/- What came in: a list of acts, a failure, opened to what the walks are told of it. -/
set_option maxRecDepth 100000
namespace Go.Proofs.YtlhnjdoicolkkaaGreatDoor
open Go.ChangeShapes Go.WideShapes Go.ChangeAt Go.RowKit Go.Joins Go.Deep

/-- A list of acts (kind and number) that can be read. -/
def ActsIn (w : World) (v : Value) (l : List (Int × Int)) : Prop :=
  ∃ (ao : Option Addr) (c : Nat), v = .slice ao l.length c ∧ l.length ≤ c ∧ c ≤ maxLen ∧ (0 < l.length → ∃ b off, ao = some ⟨b, off, none⟩ ∧ b < w.heap.size ∧ ∀ j, j < l.length →
    w.cell? ⟨b, off + j * 2, none⟩ = some (.int .u8 (l.getD j (0, 0)).1) ∧ w.cell? ⟨b, off + j * 2 + 1, none⟩ = some (.int .i8 (l.getD j (0, 0)).2) ∧
    0 ≤ (l.getD j (0, 0)).1 ∧ (l.getD j (0, 0)).1 ≤ 255 ∧ -128 ≤ (l.getD j (0, 0)).2 ∧ (l.getD j (0, 0)).2 ≤ 127)
/-- A slice of ints that came in: whatever its address, it holds sc. -/
def IntsBody (w : World) (ao : Option Addr) (c : Nat) (sc : List Int) : Prop :=
  (ao = none ∧ c = 0 ∧ sc = []) ∨ (∃ a, ao = some a ∧ sc = []) ∨ (∃ b off, ao = some ⟨b, off, none⟩ ∧ b < w.heap.size ∧ ∀ j, j < sc.length → w.cell? ⟨b, off + j, none⟩ = some (.int .i64 (sc.getD j 0)))
theorem ActsIn.below {w w' : World} {v : Value} {l : List (Int × Int)} (h : ActsIn w v l) (hb : Below w.heap.size w w') : ActsIn w' v l := by
  obtain ⟨ao, c, e, h1, h2, h3⟩ := h
  refine ⟨ao, c, e, h1, h2, fun h0 => ?_⟩
  obtain ⟨b, off, e, hlt, hc⟩ := h3 h0
  refine ⟨b, off, e, Nat.lt_of_lt_of_le hlt hb.size, fun j hj => ?_⟩
  obtain ⟨a1, a2, a3⟩ := hc j hj
  exact ⟨(hb.cell (p := ⟨b, off + j * 2, none⟩) hlt).trans a1, (hb.cell (p := ⟨b, off + j * 2 + 1, none⟩) hlt).trans a2, a3⟩
theorem add_plain {b off j : Nat} : (⟨b, off, none⟩ : Addr).add j = ⟨b, off + j, none⟩ := add_plain2 _ _ _
section
variable {H : Type} {enc : TypeId × Value → H} {w : World} {base : Nat} {spare : Nat → Bool} {held : Bool}
theorem open_slice_fields {P : Program} {t e : TypeId} {fs : Array Field} {fuel : Nat} {cs : List Value} {x : DataW H × List MemPlace} (ht : P.underlying t = some (.slice e)) (he : P.underlying e = some (.struct fs))
    (hone : oneCellFields P fs = true) (hC : P.cellsOf e = fs.size) (h : DataW.trod enc P w base spare held fuel t cs = some x) :
    (cs = [.slice none 0 0]) ∨
    ∃ (a : Addr) (len cap m : Nat), cs = [.slice (some a) len cap] ∧ len ≤ cap ∧ cap ≤ maxLen ∧ m = (if spare a.block then cap else len) ∧
      ∀ i, i < m → ∃ (n : Nat), ∀ (j : Nat) (f : Field), fs[j]? = some f → ∃ (v : Value) (y : DataW H × List MemPlace), w.cell? (a.add (i * fs.size + j)) = some v ∧ DataW.trod enc P w base spare held n f.type [v] = some y := by
  rcases open_slice ht h with h0 | ⟨a, len, cap, m, n, D, Pl, hcs, hb, hl, hm, hmm, hx, hi⟩
  · exact .inl h0.1
  · refine .inr ⟨a, len, cap, m, hcs, hl, hm, hmm, fun i him => ?_⟩
    obtain ⟨cs', hc, ht'⟩ := hi i him
    rw [hC] at hc
    obtain ⟨ys, n', hn', hy, hlen, hyl, hf⟩ := DataW.trod_struct he ht'
    obtain ⟨_, hcl, hat⟩ := World.cells?_some hc
    refine ⟨n', fun j f hj => ?_⟩
    obtain ⟨ho, hk⟩ := hone_of hone j f hj
    have hjl : j < fs.size := (Array.getElem?_eq_some_iff.1 hj).1
    have hcell := hat j hjl
    have hv : cs'[j]? = some (cs'[j]'(by omega)) := List.getElem?_eq_getElem (by omega)
    have h1 := hf j f hj
    rw [ho, hk] at h1
    have hone' : (cs'.drop j).take 1 = [cs'[j]'(by omega)] := by
      rw [List.drop_eq_getElem_cons (by omega)]
      rfl
    rw [hone'] at h1
    have hys : ys[j]? = some (ys[j]'(by omega)) := List.getElem?_eq_getElem (by omega)
    refine ⟨_, _, ?_, h1.trans hys⟩
    rw [← Go.Deep.add_add, hcell, hv]
theorem jbounds_u8 {n : Int} (h : (Lit.int .u8 n).wf = true) : 0 ≤ n ∧ n ≤ 255 := by
  simp [Lit.wf, IntKind.min, IntKind.max, IntKind.bits, IntKind.signed] at h
  omega
theorem jbounds_i8 {n : Int} (h : (Lit.int .i8 n).wf = true) : -128 ≤ n ∧ n ≤ 127 := by
  simp [Lit.wf, IntKind.min, IntKind.max, IntKind.bits, IntKind.signed] at h
  omega
theorem in_acts {fuel : Nat} {v : Value} {y : DataW H × List MemPlace} (h : DataW.trod enc Tryz.prog w base spare held fuel 60 [v] = some y) :
    ∃ l : List (Int × Int), ActsIn w v l := by
  rcases open_slice_fields Tryz.underlying60 Tryz.underlying64 (by kernel_rfl) (by kernel_rfl) h with hcs | ⟨a, len, cap, m, hcs, hl, hm, hmm, hi⟩
  · simp only [List.cons.injEq, and_true] at hcs
    exact ⟨[], none, 0, hcs, by simp, by unfold maxLen; omega, fun h => absurd h (by simp)⟩
  · simp only [List.cons.injEq, and_true] at hcs
    have hle : len ≤ m := by rw [hmm]; split <;> omega
    have hx : ∀ i, i < len → ∃ x : Int × Int, (0 ≤ x.1 ∧ x.1 ≤ 255 ∧ -128 ≤ x.2 ∧ x.2 ≤ 127) ∧ w.cell? (a.add (i * 2 + 0)) = some (.int .u8 x.1) ∧ w.cell? (a.add (i * 2 + 1)) = some (.int .i8 x.2) := by
      intro i hil
      obtain ⟨n, hf⟩ := hi i (by omega)
      obtain ⟨v0, y0, c0, h0⟩ := hf 0 _ rfl
      obtain ⟨v1, y1, c1, h1⟩ := hf 1 _ rfl
      obtain ⟨k, hk, _, hkw⟩ := DataW.trod_int Tryz.underlying5 h0
      obtain ⟨q, hq, _, hqw⟩ := DataW.trod_int Tryz.underlying62 h1
      simp only [List.cons.injEq, and_true] at hk hq
      subst hk hq
      exact ⟨(k, q), ⟨(jbounds_u8 hkw).1, (jbounds_u8 hkw).2, (jbounds_i8 hqw).1, (jbounds_i8 hqw).2⟩, c0, c1⟩
    rcases Nat.eq_zero_or_pos len with h0 | h0
    · exact ⟨[], some a, cap, by rw [hcs, h0]; rfl, by simp, by omega, fun h => absurd h (by simp)⟩
    · obtain ⟨_, _, hc0, _⟩ := hx 0 h0
      rw [show a.add (0 * 2 + 0) = a from rfl] at hc0
      obtain ⟨b, off, sp⟩ := a
      obtain ⟨hb, hs⟩ := cell_lt hc0
      simp only at hb hs
      subst hs
      classical
      let g : Nat → Int × Int := fun i => if h : i < len then Classical.choose (hx i h) else (0, 0)
      have hg : ∀ i, i < len → (0 ≤ (g i).1 ∧ (g i).1 ≤ 255 ∧ -128 ≤ (g i).2 ∧ (g i).2 ≤ 127) ∧ w.cell? ⟨b, off + i * 2, none⟩ = some (.int .u8 (g i).1) ∧ w.cell? ⟨b, off + i * 2 + 1, none⟩ = some (.int .i8 (g i).2) := by
        intro i hil
        have := Classical.choose_spec (hx i hil)
        have e : g i = Classical.choose (hx i hil) := by simp only [g, dif_pos hil]
        rw [← e] at this
        simp only [add_plain] at this
        exact this
      refine ⟨(List.range len).map g, some ⟨b, off, none⟩, cap, by simp [hcs], by simp; omega, by omega, fun _ => ⟨b, off, rfl, hb, fun j hj => ?_⟩⟩
      simp only [List.length_map, List.length_range] at hj
      have e : ((List.range len).map g).getD j (0, 0) = g j := by simp [List.getD_eq_getElem?_getD, hj]
      rw [e]
      exact ⟨(hg j hj).2.1, (hg j hj).2.2, (hg j hj).1⟩
theorem in_ints_cap {fuel : Nat} {v : Value} {y : DataW H × List MemPlace} (h : DataW.trod enc Tryz.prog w base spare held fuel 66 [v] = some y) :
    ∃ (ao : Option Addr) (c : Nat) (sc : List Int), v = .slice ao sc.length c ∧ IntsBody w ao c sc ∧ sc.length ≤ maxLen ∧ sc.length ≤ c ∧ c ≤ maxLen := by
  rcases open_ints Tryz.underlying66 Tryz.underlying3 (by kernel_rfl) h with ⟨hcs, _⟩ | ⟨a, len, cap, zs, hcs, _, hl, hm, hz, _, hcell, _⟩
  · simp only [List.cons.injEq, and_true] at hcs
    exact ⟨none, 0, [], hcs, .inl ⟨rfl, rfl, rfl⟩, by simp, by simp, by simp⟩
  · simp only [List.cons.injEq, and_true] at hcs
    have hle : len ≤ zs.length := by rw [hz]; split <;> omega
    have hlen : (zs.take len).length = len := by simp [hle]
    refine ⟨some a, cap, zs.take len, by rw [hlen]; exact hcs, ?_, by omega, by omega, by omega⟩
    rcases Nat.eq_zero_or_pos len with h0 | h0
    · exact .inr (.inl ⟨a, rfl, by rw [h0]; rfl⟩)
    · have hc0 := hcell 0 (by omega)
      rw [show a.add 0 = a from rfl] at hc0
      obtain ⟨b, off, sp⟩ := a
      obtain ⟨hb, hs⟩ := cell_lt hc0
      simp only at hb hs
      subst hs
      refine .inr (.inr ⟨b, off, rfl, hb, fun j hj => ?_⟩)
      have := hcell j (by omega)
      rw [add_plain] at this
      rw [this]
      simp only [List.getD_eq_getElem?_getD, List.getElem?_take, if_pos (show j < len by omega)]
theorem in_failure {r : Reach} {b0 : Nat} {v : Value} {d : DataW H} {p : List MemPlace} (hv : Value.okWide Tryz.prog w r b0 68 v) (h : DataW.Trod enc Tryz.prog w base spare held 68 v d p) :
    ∃ (lim : Int) (ao : Option Addr) (c : Nat) (sc : List Int), v = .agg #[.int .u8 lim, .slice ao sc.length c] ∧ 0 ≤ lim ∧ lim ≤ 255 ∧ IntsBody w ao c sc ∧ sc.length ≤ c ∧ c ≤ maxLen := by
  obtain ⟨v0, v1, y0, y1, n, rfl, _, _, h0, h1⟩ := open_agg2 Tryz.underlying68 (by kernel_rfl) (by kernel_rfl) hv h
  obtain ⟨k, hk, _, hw⟩ := DataW.trod_int Tryz.underlying5 h0
  obtain ⟨ao, c, sc, rfl, hb, _, hl, hc⟩ := in_ints_cap h1
  simp only [List.cons.injEq, and_true] at hk
  subst hk
  exact ⟨k, ao, c, sc, rfl, (jbounds_u8 hw).1, (jbounds_u8 hw).2, hb, hl, hc⟩
end
end Go.Proofs.YtlhnjdoicolkkaaGreatDoor
