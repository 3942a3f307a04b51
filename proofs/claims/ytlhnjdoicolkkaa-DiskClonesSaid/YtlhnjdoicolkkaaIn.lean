/- What came in: an argument of each kind, opened to what the walks are told of it. -/
import Derived.Test.YtlhnjdoicolkkaaRows
import Derived.ProofKit
import Derived.OpenShut
import Derived.ShutString
import Derived.ChangeOld
import Derived.Below
import Derived.Carry
import Derived.ChangeSlices
import Derived.SliceStrings
import Derived.Lib.SmallJoins
import Derived.Deep.Slices
import Derived.Deep.Fields
import Derived.ChangeSame
set_option maxRecDepth 100000
namespace Go.Proofs.Ytlhnjdoicolkkaa
open Go.ChangeShapes Go.WideShapes Go.ChangeAt Go.RowKit Go.Joins Go.Deep

theorem own : ownKnob Try.prog.godebug = none := by kernel_rfl
theorem laidOut : laidOutB Try.prog = true := by kernel_rfl

/-- A slice of ints that came in: whatever its address, it holds sc. -/
def IntsBody (w : World) (ao : Option Addr) (c : Nat) (sc : List Int) : Prop :=
  (ao = none ∧ c = 0 ∧ sc = []) ∨ (∃ a, ao = some a ∧ sc = []) ∨ (∃ b off, ao = some ⟨b, off, none⟩ ∧ b < w.heap.size ∧ ∀ j, j < sc.length → w.cell? ⟨b, off + j, none⟩ = some (.int .i64 (sc.getD j 0)))

/-- A slice of strings that came in. -/
def StrsBody (w : World) (ao : Option Addr) (c : Nat) (ss : List ByteArray) : Prop :=
  (ao = none ∧ c = 0 ∧ ss = []) ∨ (∃ a, ao = some a ∧ ss = []) ∨ (∃ b off, ao = some ⟨b, off, none⟩ ∧ b < w.heap.size ∧ ∀ j, j < ss.length → w.cell? ⟨b, off + j, none⟩ = some (.string (ss.getD j ByteArray.empty)))

/-- One act that came in. -/
structure ActV where
  kind : Int
  name : ByteArray
  to : ByteArray
  number : Int
  ao : Option Addr
  cap : Nat
  sc : List Int
def ActV.Fits (w : World) (x : ActV) : Prop :=
  0 ≤ x.kind ∧ x.kind ≤ 255 ∧ x.name.size ≤ maxLen ∧ x.to.size ≤ maxLen ∧ -128 ≤ x.number ∧ x.number ≤ 127 ∧ IntsBody w x.ao x.cap x.sc ∧ x.sc.length ≤ maxLen ∧ x.sc.length ≤ x.cap ∧ x.cap ≤ maxLen
def ActV.none : ActV := ⟨0, ByteArray.empty, ByteArray.empty, 0, Option.none, 0, []⟩
def ActV.value (x : ActV) : Value := .agg #[.int .u8 x.kind, .string x.name, .string x.to, .int .i8 x.number, .slice x.ao x.sc.length x.cap]
/-- The cells at ⟨b, off⟩ hold x. -/
def ActV.At (w : World) (b off : Nat) (x : ActV) : Prop :=
  w.cell? ⟨b, off, Option.none⟩ = some (.int .u8 x.kind) ∧ w.cell? ⟨b, off + 1, Option.none⟩ = some (.string x.name) ∧ w.cell? ⟨b, off + 2, Option.none⟩ = some (.string x.to) ∧ w.cell? ⟨b, off + 3, Option.none⟩ = some (.int .i8 x.number) ∧
    w.cell? ⟨b, off + 4, Option.none⟩ = some (.slice x.ao x.sc.length x.cap)
/-- A slice of acts that came in. -/
def ActsBody (w : World) (ao : Option Addr) (c : Nat) (l : List ActV) : Prop :=
  (ao = none ∧ c = 0 ∧ l = []) ∨ (∃ a, ao = some a ∧ l = []) ∨ (∃ b off, ao = some ⟨b, off, none⟩ ∧ b < w.heap.size ∧ ∀ j, j < l.length → (l.getD j ActV.none).At w b (off + j * 5) ∧ (l.getD j ActV.none).Fits w)

theorem cell_lt {w : World} {a : Addr} {v : Value} (h : w.cell? a = some v) : a.block < w.heap.size ∧ a.spot = none := by
  unfold World.cell? at h
  constructor
  · rcases Nat.lt_or_ge a.block w.heap.size with h1 | h1
    · exact h1
    · rw [Array.getElem?_eq_none h1] at h
      cases h
  · split at h
    · cases hs : a.spot with
      | none => rfl
      | some k => rw [hs] at h; simp at h
    · cases h
theorem add_plain (b off j : Nat) : (⟨b, off, none⟩ : Addr).add j = ⟨b, off + j, none⟩ := by
  unfold Addr.add
  split
  · next h => subst h; rfl
  · rfl

section
variable {H : Type} {enc : TypeId × Value → H} {w : World} {base : Nat} {spare : Nat → Bool} {held : Bool}
theorem in_ints_cap {fuel : Nat} {v : Value} {y : DataW H × List MemPlace} (h : DataW.trod enc Try.prog w base spare held fuel 23 [v] = some y) :
    ∃ (ao : Option Addr) (c : Nat) (sc : List Int), v = .slice ao sc.length c ∧ IntsBody w ao c sc ∧ sc.length ≤ maxLen ∧ sc.length ≤ c ∧ c ≤ maxLen := by
  rcases open_ints Try.underlying23 Try.underlying3 (by kernel_rfl) h with ⟨hcs, _⟩ | ⟨a, len, cap, zs, hcs, _, hl, hm, hz, _, hcell, _⟩
  · simp only [List.cons.injEq, and_true] at hcs
    exact ⟨none, 0, [], hcs, .inl ⟨rfl, rfl, rfl⟩, by simp, by simp, by simp⟩
  · simp only [List.cons.injEq, and_true] at hcs
    have hle : len ≤ zs.length := by rw [hz]; split <;> omega
    have hlen : (zs.take len).length = len := by simp [hle]
    refine ⟨some a, cap, zs.take len, by rw [hlen]; exact hcs, ?_, by omega, by omega, by omega⟩
    rcases Nat.eq_zero_or_pos len with h0 | h0
    · exact .inr (.inl ⟨a, rfl, by rw [h0]; rfl⟩)
    · have hc0 := hcell 0 (by omega)
      rw [show a.add 0 = a from rfl] at hc0
      obtain ⟨b, off, sp⟩ := a
      obtain ⟨hb, hs⟩ := cell_lt hc0
      simp only at hb hs
      subst hs
      refine .inr (.inr ⟨b, off, rfl, hb, fun j hj => ?_⟩)
      have := hcell j (by omega)
      rw [add_plain] at this
      rw [this]
      simp only [List.getD_eq_getElem?_getD, List.getElem?_take, if_pos (show j < len by omega)]
theorem in_ints {fuel : Nat} {v : Value} {y : DataW H × List MemPlace} (h : DataW.trod enc Try.prog w base spare held fuel 23 [v] = some y) :
    ∃ (ao : Option Addr) (c : Nat) (sc : List Int), v = .slice ao sc.length c ∧ IntsBody w ao c sc ∧ sc.length ≤ maxLen := by
  obtain ⟨ao, c, sc, h1, h2, h3, _⟩ := in_ints_cap h
  exact ⟨ao, c, sc, h1, h2, h3⟩
theorem in_strings {fuel : Nat} {v : Value} {y : DataW H × List MemPlace} (h : DataW.trod enc Try.prog w base spare held fuel 22 [v] = some y) :
    ∃ (ao : Option Addr) (c : Nat) (ss : List ByteArray), v = .slice ao ss.length c ∧ StrsBody w ao c ss ∧ ss.length ≤ maxLen ∧ ∀ s ∈ ss, s.size ≤ maxLen := by
  rcases open_strings Try.underlying22 Try.underlying9 (by kernel_rfl) h with ⟨hcs, _⟩ | ⟨a, len, cap, zs, hcs, _, hl, hm, hz, _, hcell, hs⟩
  · simp only [List.cons.injEq, and_true] at hcs
    exact ⟨none, 0, [], hcs, .inl ⟨rfl, rfl, rfl⟩, by simp, fun s hs => absurd hs (by simp)⟩
  · simp only [List.cons.injEq, and_true] at hcs
    have hle : len ≤ zs.length := by rw [hz]; split <;> omega
    have hlen : (zs.take len).length = len := by simp [hle]
    refine ⟨some a, cap, zs.take len, by rw [hlen]; exact hcs, ?_, by omega, fun s h => hs s (List.mem_of_mem_take h)⟩
    rcases Nat.eq_zero_or_pos len with h0 | h0
    · exact .inr (.inl ⟨a, rfl, by rw [h0]; rfl⟩)
    · have hc0 := hcell 0 (by omega)
      rw [show a.add 0 = a from rfl] at hc0
      obtain ⟨b, off, sp⟩ := a
      obtain ⟨hb, hs⟩ := cell_lt hc0
      simp only at hb hs
      subst hs
      refine .inr (.inr ⟨b, off, rfl, hb, fun j hj => ?_⟩)
      have := hcell j (by omega)
      rw [add_plain] at this
      rw [this]
      simp only [List.getD_eq_getElem?_getD, List.getElem?_take, if_pos (show j < len by omega)]
theorem in_u8 {n : Int} (h : (Lit.int .u8 n).wf = true) : 0 ≤ n ∧ n ≤ 255 := by
  simp [Lit.wf, IntKind.min, IntKind.max, IntKind.bits, IntKind.signed] at h
  omega
theorem in_i8 {n : Int} (h : (Lit.int .i8 n).wf = true) : -128 ≤ n ∧ n ≤ 127 := by
  simp [Lit.wf, IntKind.min, IntKind.max, IntKind.bits, IntKind.signed] at h
  omega
theorem in_failure {r : Reach} {b0 : Nat} {v : Value} {d : DataW H} {p : List MemPlace} (hv : Value.okWide Try.prog w r b0 41 v) (h : DataW.Trod enc Try.prog w base spare held 41 v d p) :
    ∃ (lim : Int) (ao : Option Addr) (c : Nat) (sc : List Int), v = .agg #[.int .u8 lim, .slice ao sc.length c] ∧ 0 ≤ lim ∧ lim ≤ 255 ∧ IntsBody w ao c sc ∧ sc.length ≤ maxLen := by
  obtain ⟨v0, v1, y0, y1, n, rfl, _, _, h0, h1⟩ := open_agg2 Try.underlying41 (by kernel_rfl) (by kernel_rfl) hv h
  obtain ⟨k, hk, _, hw⟩ := DataW.trod_int Try.underlying5 h0
  obtain ⟨ao, c, sc, rfl, hb, hl⟩ := in_ints h1
  simp only [List.cons.injEq, and_true] at hk
  subst hk
  exact ⟨k, ao, c, sc, rfl, (in_u8 hw).1, (in_u8 hw).2, hb, hl⟩
theorem in_fields {n : Nat} {v0 v1 v2 v3 v4 : Value} {y0 y1 y2 y3 y4 : DataW H × List MemPlace} {n1 n2 n3 n4 : Nat}
    (h0 : DataW.trod enc Try.prog w base spare held n 5 [v0] = some y0) (h1 : DataW.trod enc Try.prog w base spare held n1 9 [v1] = some y1) (h2 : DataW.trod enc Try.prog w base spare held n2 9 [v2] = some y2)
    (h3 : DataW.trod enc Try.prog w base spare held n3 46 [v3] = some y3) (h4 : DataW.trod enc Try.prog w base spare held n4 23 [v4] = some y4) :
    ∃ x : ActV, x.Fits w ∧ v0 = .int .u8 x.kind ∧ v1 = .string x.name ∧ v2 = .string x.to ∧ v3 = .int .i8 x.number ∧ v4 = .slice x.ao x.sc.length x.cap := by
  obtain ⟨k, hk, _, hkw⟩ := DataW.trod_int Try.underlying5 h0
  obtain ⟨a, ha, _, haw⟩ := DataW.trod_string Try.underlying9 h1
  obtain ⟨b, hb, _, hbw⟩ := DataW.trod_string Try.underlying9 h2
  obtain ⟨i, hi, _, hiw⟩ := DataW.trod_int Try.underlying46 h3
  obtain ⟨ao, c, sc, rfl, hbd, hl⟩ := in_ints_cap h4
  simp only [List.cons.injEq, and_true] at hk ha hb hi
  exact ⟨⟨k, a, b, i, ao, c, sc⟩, ⟨(in_u8 hkw).1, (in_u8 hkw).2, haw, hbw, (in_i8 hiw).1, (in_i8 hiw).2, hbd, hl⟩, hk, ha, hb, hi, rfl⟩
theorem open_agg5 {P : Program} {r : Reach} {b0 : Nat} {t : TypeId} {f0 f1 f2 f3 f4 : Field} {v : Value} {d : DataW H} {p : List MemPlace} (hs : P.underlying t = some (.struct #[f0, f1, f2, f3, f4])) (hone : oneCellFields P #[f0, f1, f2, f3, f4] = true) (hC : P.cellsOf t = 5)
    (hv : Value.okWide P w r b0 t v) (h : DataW.Trod enc P w base spare held t v d p) :
    ∃ (v0 v1 v2 v3 v4 : Value) (y0 y1 y2 y3 y4 : DataW H × List MemPlace) (n : Nat), v = .agg #[v0, v1, v2, v3, v4] ∧
      DataW.trod enc P w base spare held n f0.type [v0] = some y0 ∧ DataW.trod enc P w base spare held n f1.type [v1] = some y1 ∧ DataW.trod enc P w base spare held n f2.type [v2] = some y2 ∧ DataW.trod enc P w base spare held n f3.type [v3] = some y3 ∧ DataW.trod enc P w base spare held n f4.type [v4] = some y4 := by
  obtain ⟨cs, rfl, hsz⟩ := okWide_struct hs hv
  obtain ⟨l⟩ := cs
  match l, hsz.trans hC with
  | [c0, c1, c2, c3, c4], _ =>
    obtain ⟨fuel, hf⟩ := h
    obtain ⟨xs, n, _, hx, _, hlen, hg⟩ := DataW.trod_struct hs hf
    obtain ⟨o0, k0⟩ := hone_of hone 0 f0 rfl
    obtain ⟨o1, k1⟩ := hone_of hone 1 f1 rfl
    obtain ⟨o2, k2⟩ := hone_of hone 2 f2 rfl
    obtain ⟨o3, k3⟩ := hone_of hone 3 f3 rfl
    obtain ⟨o4, k4⟩ := hone_of hone 4 f4 rfl
    match xs, hlen with
    | [y0, y1, y2, y3, y4], _ =>
      exact ⟨c0, c1, c2, c3, c4, y0, y1, y2, y3, y4, n, rfl, by simpa [Value.cells, o0, k0] using hg 0 f0 rfl, by simpa [Value.cells, o1, k1] using hg 1 f1 rfl, by simpa [Value.cells, o2, k2] using hg 2 f2 rfl, by simpa [Value.cells, o3, k3] using hg 3 f3 rfl, by simpa [Value.cells, o4, k4] using hg 4 f4 rfl⟩
theorem in_act {r : Reach} {b0 : Nat} {v : Value} {d : DataW H} {p : List MemPlace} (hv : Value.okWide Try.prog w r b0 48 v) (h : DataW.Trod enc Try.prog w base spare held 48 v d p) :
    ∃ x : ActV, v = x.value ∧ x.Fits w := by
  obtain ⟨v0, v1, v2, v3, v4, y0, y1, y2, y3, y4, n, rfl, h0, h1, h2, h3, h4⟩ := open_agg5 Try.underlying48 (by kernel_rfl) (by kernel_rfl) hv h
  obtain ⟨x, hx, rfl, rfl, rfl, rfl, rfl⟩ := in_fields h0 h1 h2 h3 h4
  exact ⟨x, rfl, hx⟩
theorem open_slice_fields {P : Program} {t e : TypeId} {fs : Array Field} {fuel : Nat} {cs : List Value} {x : DataW H × List MemPlace} (ht : P.underlying t = some (.slice e)) (he : P.underlying e = some (.struct fs))
    (hone : oneCellFields P fs = true) (hC : P.cellsOf e = fs.size) (h : DataW.trod enc P w base spare held fuel t cs = some x) :
    (cs = [.slice none 0 0]) ∨
    ∃ (a : Addr) (len cap m : Nat), cs = [.slice (some a) len cap] ∧ len ≤ cap ∧ cap ≤ maxLen ∧ m = (if spare a.block then cap else len) ∧
      ∀ i, i < m → ∃ (n : Nat), ∀ (j : Nat) (f : Field), fs[j]? = some f → ∃ (v : Value) (y : DataW H × List MemPlace), w.cell? (a.add (i * fs.size + j)) = some v ∧ DataW.trod enc P w base spare held n f.type [v] = some y := by
  rcases open_slice ht h with h0 | ⟨a, len, cap, m, n, D, Pl, hcs, hb, hl, hm, hmm, hx, hi⟩
  · exact .inl h0.1
  · refine .inr ⟨a, len, cap, m, hcs, hl, hm, hmm, fun i him => ?_⟩
    obtain ⟨cs', hc, ht'⟩ := hi i him
    rw [hC] at hc
    obtain ⟨ys, n', hn', hy, hlen, hyl, hf⟩ := DataW.trod_struct he ht'
    obtain ⟨_, hcl, hat⟩ := World.cells?_some hc
    refine ⟨n', fun j f hj => ?_⟩
    obtain ⟨ho, hk⟩ := hone_of hone j f hj
    have hjl : j < fs.size := (Array.getElem?_eq_some_iff.1 hj).1
    have hcell := hat j hjl
    have hv : cs'[j]? = some (cs'[j]'(by omega)) := List.getElem?_eq_getElem (by omega)
    have h1 := hf j f hj
    rw [ho, hk] at h1
    have hone' : (cs'.drop j).take 1 = [cs'[j]'(by omega)] := by
      rw [List.drop_eq_getElem_cons (by omega)]
      rfl
    rw [hone'] at h1
    have hys : ys[j]? = some (ys[j]'(by omega)) := List.getElem?_eq_getElem (by omega)
    refine ⟨_, _, ?_, h1.trans hys⟩
    rw [← Go.Deep.add_add, hcell, hv]
theorem in_acts {fuel : Nat} {v : Value} {y : DataW H × List MemPlace} (h : DataW.trod enc Try.prog w base spare held fuel 44 [v] = some y) :
    ∃ (ao : Option Addr) (c : Nat) (l : List ActV), v = .slice ao l.length c ∧ ActsBody w ao c l ∧ l.length ≤ maxLen := by
  rcases open_slice_fields Try.underlying44 Try.underlying48 (by kernel_rfl) (by kernel_rfl) h with hcs | ⟨a, len, cap, m, hcs, hl, hm, hmm, hi⟩
  · simp only [List.cons.injEq, and_true] at hcs
    exact ⟨none, 0, [], hcs, .inl ⟨rfl, rfl, rfl⟩, by simp⟩
  · simp only [List.cons.injEq, and_true] at hcs
    have hle : len ≤ m := by rw [hmm]; split <;> omega
    have hx : ∀ i, i < len → ∃ x : ActV, x.Fits w ∧ w.cell? (a.add (i * 5 + 0)) = some (.int .u8 x.kind) ∧ w.cell? (a.add (i * 5 + 1)) = some (.string x.name) ∧ w.cell? (a.add (i * 5 + 2)) = some (.string x.to) ∧ w.cell? (a.add (i * 5 + 3)) = some (.int .i8 x.number) ∧ w.cell? (a.add (i * 5 + 4)) = some (.slice x.ao x.sc.length x.cap) := by
      intro i hil
      obtain ⟨n, hf⟩ := hi i (by omega)
      obtain ⟨v0, y0, c0, h0⟩ := hf 0 _ rfl
      obtain ⟨v1, y1, c1, h1⟩ := hf 1 _ rfl
      obtain ⟨v2, y2, c2, h2⟩ := hf 2 _ rfl
      obtain ⟨v3, y3, c3, h3⟩ := hf 3 _ rfl
      obtain ⟨v4, y4, c4, h4⟩ := hf 4 _ rfl
      obtain ⟨x, hx, rfl, rfl, rfl, rfl, rfl⟩ := in_fields h0 h1 h2 h3 h4
      exact ⟨x, hx, c0, c1, c2, c3, c4⟩
    rcases Nat.eq_zero_or_pos len with h0 | h0
    · exact ⟨some a, cap, [], by rw [hcs, h0]; rfl, .inr (.inl ⟨a, rfl, rfl⟩), by simp⟩
    · obtain ⟨_, _, hc0, _⟩ := hx 0 h0
      rw [show a.add (0 * 5 + 0) = a from rfl] at hc0
      obtain ⟨b, off, sp⟩ := a
      obtain ⟨hb, hs⟩ := cell_lt hc0
      simp only at hb hs
      subst hs
      classical
      let g : Nat → ActV := fun i => if h : i < len then Classical.choose (hx i h) else ActV.none
      have hg : ∀ i, i < len → (g i).Fits w ∧ (g i).At w b (off + i * 5) := by
        intro i hil
        have := Classical.choose_spec (hx i hil)
        have e : g i = Classical.choose (hx i hil) := by simp only [g, dif_pos hil]
        rw [← e] at this
        simp only [add_plain] at this
        obtain ⟨h1, h2⟩ := this
        exact ⟨h1, by unfold ActV.At; simpa [Nat.add_assoc] using h2⟩
      refine ⟨some ⟨b, off, none⟩, cap, (List.range len).map g, by simp [hcs], .inr (.inr ⟨b, off, rfl, hb, fun j hj => ?_⟩), by simp; omega⟩
      simp only [List.length_map, List.length_range] at hj
      have e : ((List.range len).map g).getD j ActV.none = g j := by simp [List.getD_eq_getElem?_getD, hj]
      rw [e]
      exact ⟨(hg j hj).2, (hg j hj).1⟩
end
end Go.Proofs.Ytlhnjdoicolkkaa
