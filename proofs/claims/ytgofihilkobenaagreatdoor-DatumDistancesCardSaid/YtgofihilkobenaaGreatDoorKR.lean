/- What the rows' lists give: the package's variables; a world for the witness. -/
import Derived.Test.YtgofihilkobenaaGreatDoorKQ
import Derived.Test.YtgofihilkobenaaGreatDoorCards
import Derived.Test.YtgofihilkobenaaGreatDoorTie
import Derived.WalkKit
import Derived.ProofKit
import Derived.OpenShut
import Derived.Deep.DeepHandedRow
import Derived.Lib.LaidTab
import Derived.Stop.LaidErr
import Derived.ShutString
import Derived.ChangeOld
import Derived.Below
import Derived.Carry
import Derived.ChangeSlices
import Derived.SliceStrings
import Derived.Deep.Slices
import Derived.Deep.Fields
import Derived.ChangeSame
import Derived.Lib.SmallJoins
set_option maxRecDepth 100000
namespace Go.Proofs.YtgofihilkobenaaGreatDoor
open Go.ChangeShapes Go.WideShapes Go.ChangeAt Go.RowKit

theorem own : ownKnob Tryz.prog.godebug = none := by kernel_rfl
theorem laidOut : laidOutB Tryz.prog = true := by kernel_rfl
theorem gPow : Tryz.prog.globalNamed "internal/strconv.uint64pow10" = some 1 := by kernel_rfl
theorem tPow : (Tryz.prog.globals[1]?).map (·.type) = some 270 := by kernel_rfl
theorem cellsPow : Tryz.prog.cellsOf 270 = 20 := by kernel_rfl
theorem cellsU64 : Tryz.prog.cellsOf 166 = 1 := by kernel_rfl
/-- What a row lists. -/
abbrev dlaid : List (String × DataW Unit) := [("math/bits.deBruijn32tab", Rows.laid_math_bits_deBruijn32tab), ("math/bits.deBruijn64tab", Rows.laid_math_bits_deBruijn64tab), ("internal/strconv.uint64pow10", Rows.laid_internal_strconv_uint64pow10), ("unicode/utf8.acceptRanges", Rows.laid_unicode_utf8_acceptRanges), ("strconv.ErrRange", Rows.laid_strconv_ErrRange), ("strconv.ErrSyntax", Rows.laid_strconv_ErrSyntax), ("unicode/utf8.first", Rows.laid_unicode_utf8_first)]
theorem glob_of {W : World} (hL : laidMet Tryz.prog dlaid W) (hs : W.ShapedOpen Tryz.prog) : Glob W := by
 have ht : Lib.TabIs Tryz.prog W "internal/strconv.uint64pow10" .u64 Lib.pow10Tab := Lib.tabIs_of_head gPow tPow Tryz.underlying270 Tryz.underlying166 cellsU64 cellsPow (show laidMet Tryz.prog (("internal/strconv.uint64pow10", Lib.tabData .u64 Lib.pow10Tab) :: [("unicode/utf8.acceptRanges", Rows.laid_unicode_utf8_acceptRanges), ("strconv.ErrRange", Rows.laid_strconv_ErrRange), ("strconv.ErrSyntax", Rows.laid_strconv_ErrSyntax), ("unicode/utf8.first", Rows.laid_unicode_utf8_first)]) W from hL.tail.tail)
 exact ⟨ht, Go.Proofs.cell_of_shapedOpen_int (zero := #[.int .i64 0]) (t := 3) hs (of_decide_eq_true (by kernel_rfl)) (by kernel_rfl) rfl (by kernel_rfl) (by kernel_rfl) Tryz.underlying3⟩

abbrev synS : ByteArray := { data := #[105, 110, 118, 97, 108, 105, 100, 32, 115, 121, 110, 116, 97, 120] }
abbrev rngS : ByteArray := { data := #[118, 97, 108, 117, 101, 32, 111, 117, 116, 32, 111, 102, 32, 114, 97, 110, 103, 101] }
/-- So many blocks has the settled world. -/
noncomputable def low : Nat := (World.holding Tryz.prog default ⟨#[], #[], []⟩).heap.size
/-- A package's variable holds these cells. -/
def withCells (cs : Array Value) : Obj → Obj
 | .cells _ t frozen => .cells cs t frozen
 | o => o
/-- The settled world with two blocks more, each an errors.errorString; the package's variables hold what their initialisers lay. -/
noncomputable def laidWorld (os : Os) : World :=
 let w0 := World.holding Tryz.prog os ⟨#[.cells #[.string synS] 290, .cells #[.string rngS] 290], #[], []⟩
 { w0 with heap := (((((((w0.heap.modify 4 (withCells #[.iface 288 (.pointer (some ⟨low, 0, none⟩))])).modify 5 (withCells #[.iface 288 (.pointer (some ⟨low + 1, 0, none⟩))])).modify 1 (withCells #[.int .u64 1, .int .u64 10, .int .u64 100, .int .u64 1000, .int .u64 10000, .int .u64 100000, .int .u64 1000000, .int .u64 10000000, .int .u64 100000000, .int .u64 1000000000, .int .u64 10000000000, .int .u64 100000000000, .int .u64 1000000000000, .int .u64 10000000000000, .int .u64 100000000000000, .int .u64 1000000000000000, .int .u64 10000000000000000, .int .u64 100000000000000000, .int .u64 1000000000000000000, .int .u64 10000000000000000000])).modify 6 (withCells #[.int .u8 0, .int .u8 1, .int .u8 28, .int .u8 2, .int .u8 29, .int .u8 14, .int .u8 24, .int .u8 3, .int .u8 30, .int .u8 22, .int .u8 20, .int .u8 15, .int .u8 25, .int .u8 17, .int .u8 4, .int .u8 8, .int .u8 31, .int .u8 27, .int .u8 13, .int .u8 23, .int .u8 21, .int .u8 19, .int .u8 16, .int .u8 7, .int .u8 26, .int .u8 12, .int .u8 18, .int .u8 6, .int .u8 11, .int .u8 5, .int .u8 10, .int .u8 9])).modify 7 (withCells #[.int .u8 0, .int .u8 1, .int .u8 56, .int .u8 2, .int .u8 57, .int .u8 49, .int .u8 28, .int .u8 3, .int .u8 61, .int .u8 58, .int .u8 42, .int .u8 50, .int .u8 38, .int .u8 29, .int .u8 17, .int .u8 4, .int .u8 62, .int .u8 47, .int .u8 59, .int .u8 36, .int .u8 45, .int .u8 43, .int .u8 51, .int .u8 22, .int .u8 53, .int .u8 39, .int .u8 33, .int .u8 30, .int .u8 24, .int .u8 18, .int .u8 12, .int .u8 5, .int .u8 63, .int .u8 55, .int .u8 48, .int .u8 27, .int .u8 60, .int .u8 41, .int .u8 37, .int .u8 16, .int .u8 46, .int .u8 35, .int .u8 44, .int .u8 21, .int .u8 52, .int .u8 32, .int .u8 23, .int .u8 11, .int .u8 54, .int .u8 26, .int .u8 40, .int .u8 15, .int .u8 34, .int .u8 20, .int .u8 31, .int .u8 10, .int .u8 25, .int .u8 14, .int .u8 19, .int .u8 9, .int .u8 13, .int .u8 8, .int .u8 7, .int .u8 6])).modify 2 (withCells #[.int .u8 240, .int .u8 240, .int .u8 240, .int .u8 240, .int .u8 240, .int .u8 240, .int .u8 240, .int .u8 240, .int .u8 240, .int .u8 240, .int .u8 240, .int .u8 240, .int .u8 240, .int .u8 240, .int .u8 240, .int .u8 240, .int .u8 240, .int .u8 240, .int .u8 240, .int .u8 240, .int .u8 240, .int .u8 240, .int .u8 240, .int .u8 240, .int .u8 240, .int .u8 240, .int .u8 240, .int .u8 240, .int .u8 240, .int .u8 240, .int .u8 240, .int .u8 240, .int .u8 240, .int .u8 240, .int .u8 240, .int .u8 240, .int .u8 240, .int .u8 240, .int .u8 240, .int .u8 240, .int .u8 240, .int .u8 240, .int .u8 240, .int .u8 240, .int .u8 240, .int .u8 240, .int .u8 240, .int .u8 240, .int .u8 240, .int .u8 240, .int .u8 240, .int .u8 240, .int .u8 240, .int .u8 240, .int .u8 240, .int .u8 240, .int .u8 240, .int .u8 240, .int .u8 240, .int .u8 240, .int .u8 240, .int .u8 240, .int .u8 240, .int .u8 240, .int .u8 240, .int .u8 240, .int .u8 240, .int .u8 240, .int .u8 240, .int .u8 240, .int .u8 240, .int .u8 240, .int .u8 240, .int .u8 240, .int .u8 240, .int .u8 240, .int .u8 240, .int .u8 240, .int .u8 240, .int .u8 240, .int .u8 240, .int .u8 240, .int .u8 240, .int .u8 240, .int .u8 240, .int .u8 240, .int .u8 240, .int .u8 240, .int .u8 240, .int .u8 240, .int .u8 240, .int .u8 240, .int .u8 240, .int .u8 240, .int .u8 240, .int .u8 240, .int .u8 240, .int .u8 240, .int .u8 240, .int .u8 240, .int .u8 240, .int .u8 240, .int .u8 240, .int .u8 240, .int .u8 240, .int .u8 240, .int .u8 240, .int .u8 240, .int .u8 240, .int .u8 240, .int .u8 240, .int .u8 240, .int .u8 240, .int .u8 240, .int .u8 240, .int .u8 240, .int .u8 240, .int .u8 240, .int .u8 240, .int .u8 240, .int .u8 240, .int .u8 240, .int .u8 240, .int .u8 240, .int .u8 240, .int .u8 240, .int .u8 240, .int .u8 240, .int .u8 241, .int .u8 241, .int .u8 241, .int .u8 241, .int .u8 241, .int .u8 241, .int .u8 241, .int .u8 241, .int .u8 241, .int .u8 241, .int .u8 241, .int .u8 241, .int .u8 241, .int .u8 241, .int .u8 241, .int .u8 241, .int .u8 241, .int .u8 241, .int .u8 241, .int .u8 241, .int .u8 241, .int .u8 241, .int .u8 241, .int .u8 241, .int .u8 241, .int .u8 241, .int .u8 241, .int .u8 241, .int .u8 241, .int .u8 241, .int .u8 241, .int .u8 241, .int .u8 241, .int .u8 241, .int .u8 241, .int .u8 241, .int .u8 241, .int .u8 241, .int .u8 241, .int .u8 241, .int .u8 241, .int .u8 241, .int .u8 241, .int .u8 241, .int .u8 241, .int .u8 241, .int .u8 241, .int .u8 241, .int .u8 241, .int .u8 241, .int .u8 241, .int .u8 241, .int .u8 241, .int .u8 241, .int .u8 241, .int .u8 241, .int .u8 241, .int .u8 241, .int .u8 241, .int .u8 241, .int .u8 241, .int .u8 241, .int .u8 241, .int .u8 241, .int .u8 241, .int .u8 241, .int .u8 2, .int .u8 2, .int .u8 2, .int .u8 2, .int .u8 2, .int .u8 2, .int .u8 2, .int .u8 2, .int .u8 2, .int .u8 2, .int .u8 2, .int .u8 2, .int .u8 2, .int .u8 2, .int .u8 2, .int .u8 2, .int .u8 2, .int .u8 2, .int .u8 2, .int .u8 2, .int .u8 2, .int .u8 2, .int .u8 2, .int .u8 2, .int .u8 2, .int .u8 2, .int .u8 2, .int .u8 2, .int .u8 2, .int .u8 2, .int .u8 19, .int .u8 3, .int .u8 3, .int .u8 3, .int .u8 3, .int .u8 3, .int .u8 3, .int .u8 3, .int .u8 3, .int .u8 3, .int .u8 3, .int .u8 3, .int .u8 3, .int .u8 35, .int .u8 3, .int .u8 3, .int .u8 52, .int .u8 4, .int .u8 4, .int .u8 4, .int .u8 68, .int .u8 241, .int .u8 241, .int .u8 241, .int .u8 241, .int .u8 241, .int .u8 241, .int .u8 241, .int .u8 241, .int .u8 241, .int .u8 241, .int .u8 241])).modify 3 (withCells #[.int .u8 128, .int .u8 191, .int .u8 160, .int .u8 191, .int .u8 128, .int .u8 159, .int .u8 144, .int .u8 191, .int .u8 128, .int .u8 143, .int .u8 0, .int .u8 0, .int .u8 0, .int .u8 0, .int .u8 0, .int .u8 0, .int .u8 0, .int .u8 0, .int .u8 0, .int .u8 0, .int .u8 0, .int .u8 0, .int .u8 0, .int .u8 0, .int .u8 0, .int .u8 0, .int .u8 0, .int .u8 0, .int .u8 0, .int .u8 0, .int .u8 0, .int .u8 0])) }
theorem laidWorld_met (os : Os) (args : Array Value) : laidMet Tryz.prog dlaid ((laidWorld os).forCall (fun _ _ => 0) ⟨#[], args, []⟩).memory :=
 laidMet_of_run' 8 (by kernel_rfl) (by kernel_rfl)
end Go.Proofs.YtgofihilkobenaaGreatDoor
/- What came in: a scheme, opened to what the walks are told of it. -/
set_option maxRecDepth 100000
namespace Go.Proofs.YtgofihilkobenaaGreatDoor
open Go.ChangeShapes Go.WideShapes Go.ChangeAt Go.RowKit Go.Joins Go.Deep Go.Dtm

theorem add_plain2 (b off j : Nat) : (⟨b, off, none⟩ : Addr).add j = ⟨b, off + j, none⟩ := by
 unfold Addr.add
 split
 ·next h => subst h; rfl
 ·rfl
theorem add_plain {b off j : Nat} : (⟨b, off, none⟩ : Addr).add j = ⟨b, off + j, none⟩ := add_plain2 _ _ _
theorem cell_lt {w : World} {a : Addr} {v : Value} (h : w.cell? a = some v) : a.block < w.heap.size ∧ a.spot = none := by
 unfold World.cell? at h
 constructor
 ·rcases Nat.lt_or_ge a.block w.heap.size with h1 | h1
  ·exact h1
  ·rw [Array.getElem?_eq_none h1] at h
   cases h
 ·split at h
  ·cases hs : a.spot with
   | none => rfl
   | some k => rw [hs] at h; simp at h
  ·cases h
section
variable {H : Type} {enc : TypeId × Value → H} {w : World} {base : Nat} {spare : Nat → Bool} {held : Bool}
theorem open_slice_fields {P : Program} {t e : TypeId} {fs : Array Field} {fuel : Nat} {cs : List Value} {x : DataW H × List MemPlace} (ht : P.underlying t = some (.slice e)) (he : P.underlying e = some (.struct fs))
  (hone : oneCellFields P fs = true) (hC : P.cellsOf e = fs.size) (h : DataW.trod enc P w base spare held fuel t cs = some x) :
  (cs = [.slice none 0 0]) ∨
  ∃ (a : Addr) (len cap m : Nat), cs = [.slice (some a) len cap] ∧ len ≤ cap ∧ cap ≤ maxLen ∧ m = (if spare a.block then cap else len) ∧
   ∀ i, i < m → ∃ (n : Nat), ∀ (j : Nat) (f : Field), fs[j]? = some f → ∃ (v : Value) (y : DataW H × List MemPlace), w.cell? (a.add (i * fs.size + j)) = some v ∧ DataW.trod enc P w base spare held n f.type [v] = some y := by
 rcases open_slice ht h with h0 | ⟨a, len, cap, m, n, D, Pl, hcs, hb, hl, hm, hmm, hx, hi⟩
 ·exact .inl h0.1
 ·refine .inr ⟨a, len, cap, m, hcs, hl, hm, hmm, fun i him => ?_⟩
  obtain ⟨cs', hc, ht'⟩ := hi i him
  rw [hC] at hc
  obtain ⟨ys, n', hn', hy, hlen, hyl, hf⟩ := DataW.trod_struct he ht'
  obtain ⟨_, hcl, hat⟩ := World.cells?_some hc
  refine ⟨n', fun j f hj => ?_⟩
  obtain ⟨ho, hk⟩ := hone_of hone j f hj
  have hjl : j < fs.size := (Array.getElem?_eq_some_iff.1 hj).1
  have hcell := hat j hjl
  have hv : cs'[j]? = some (cs'[j]'(by omega)) := List.getElem?_eq_getElem (by omega)
  have h1 := hf j f hj
  rw [ho, hk] at h1
  have hone' : (cs'.drop j).take 1 = [cs'[j]'(by omega)] := by
   rw [List.drop_eq_getElem_cons (by omega)]
   rfl
  rw [hone'] at h1
  have hys : ys[j]? = some (ys[j]'(by omega)) := List.getElem?_eq_getElem (by omega)
  refine ⟨_, _, ?_, h1.trans hys⟩
  rw [← Go.Deep.add_add, hcell, hv]
theorem in_feats {fuel : Nat} {v : Value} {y : DataW H × List MemPlace} (h : DataW.trod enc Tryz.prog w base spare held fuel 23 [v] = some y) :
  ∃ (ao : Option Addr) (c : Nat) (l : List Feat), v = .slice ao l.length c ∧ FeatsIn w ao c l := by
 rcases open_slice_fields Tryz.underlying23 Tryz.underlying28 (by kernel_rfl) (by kernel_rfl) h with hcs | ⟨a, len, cap, m, hcs, hl, hm, hmm, hi⟩
 ·simp only [List.cons.injEq, and_true] at hcs
  exact ⟨none, 0, [], hcs, by simp, by unfold maxLen; omega, fun h => absurd h (by simp)⟩
 ·simp only [List.cons.injEq, and_true] at hcs
  have hle : len ≤ m := by rw [hmm]; split <;> omega
  have hx : ∀ i, i < len → ∃ x : Feat, w.cell? (a.add (i * 6 + 0)) = some (.string x.name) ∧ w.cell? (a.add (i * 6 + 1)) = some (.int .i64 x.kind) ∧ w.cell? (a.add (i * 6 + 2)) = some (.int .i64 x.axis) ∧ w.cell? (a.add (i * 6 + 3)) = some (.int .i64 x.datum) ∧ w.cell? (a.add (i * 6 + 4)) = some (.int .i64 x.place) ∧ w.cell? (a.add (i * 6 + 5)) = some (.int .i64 x.wide) := by
   intro i hil
   obtain ⟨n, hf⟩ := hi i (by omega)
   obtain ⟨v0, y0, c0, h0⟩ := hf 0 _ rfl
   obtain ⟨v1, y1, c1, h1⟩ := hf 1 _ rfl
   obtain ⟨v2, y2, c2, h2⟩ := hf 2 _ rfl
   obtain ⟨v3, y3, c3, h3⟩ := hf 3 _ rfl
   obtain ⟨v4, y4, c4, h4⟩ := hf 4 _ rfl
   obtain ⟨v5, y5, c5, h5⟩ := hf 5 _ rfl
   obtain ⟨k0, e0, _, _⟩ := DataW.trod_string Tryz.underlying9 h0
   obtain ⟨k1, e1, _, _⟩ := DataW.trod_int Tryz.underlying3 h1
   obtain ⟨k2, e2, _, _⟩ := DataW.trod_int Tryz.underlying3 h2
   obtain ⟨k3, e3, _, _⟩ := DataW.trod_int Tryz.underlying3 h3
   obtain ⟨k4, e4, _, _⟩ := DataW.trod_int Tryz.underlying3 h4
   obtain ⟨k5, e5, _, _⟩ := DataW.trod_int Tryz.underlying3 h5
   simp only [List.cons.injEq, and_true] at e0 e1 e2 e3 e4 e5
   subst e0 e1 e2 e3 e4 e5
   exact ⟨⟨k0, k1, k2, k3, k4, k5⟩, c0, c1, c2, c3, c4, c5⟩
  rcases Nat.eq_zero_or_pos len with h0 | h0
  ·exact ⟨some a, cap, [], by rw [hcs, h0]; rfl, by simp, by omega, fun h => absurd h (by simp)⟩
  ·obtain ⟨_, hc0, _⟩ := hx 0 h0
   rw [show a.add (0 * 6 + 0) = a from rfl] at hc0
   obtain ⟨b, off, sp⟩ := a
   obtain ⟨hb, hs⟩ := cell_lt hc0
   simp only at hb hs
   subst hs
   classical
   let g : Nat → Feat := fun i => if h : i < len then Classical.choose (hx i h) else Feat.none
   have hg : ∀ i, i < len → FeatAt w b (off + i * 6) (g i) := by
    intro i hil
    have := Classical.choose_spec (hx i hil)
    have e : g i = Classical.choose (hx i hil) := by simp only [g, dif_pos hil]
    rw [← e] at this
    simp only [add_plain] at this
    exact this
   refine ⟨some ⟨b, off, none⟩, cap, (List.range len).map g, by simp [hcs], by simp; omega, by omega, fun _ => ⟨b, off, rfl, hb, fun j hj => ?_⟩⟩
   simp only [List.length_map, List.length_range] at hj
   have e : ((List.range len).map g).getD j Feat.none = g j := by simp [List.getD_eq_getElem?_getD, hj]
   rw [e]
   exact hg j hj
theorem in_zones {fuel : Nat} {v : Value} {y : DataW H × List MemPlace} (h : DataW.trod enc Tryz.prog w base spare held fuel 24 [v] = some y) :
  ∃ (ao : Option Addr) (c : Nat) (l : List Zn), v = .slice ao l.length c ∧ ZonesIn w ao c l := by
 rcases open_slice_fields Tryz.underlying24 Tryz.underlying30 (by kernel_rfl) (by kernel_rfl) h with hcs | ⟨a, len, cap, m, hcs, hl, hm, hmm, hi⟩
 ·simp only [List.cons.injEq, and_true] at hcs
  exact ⟨none, 0, [], hcs, by simp, by unfold maxLen; omega, fun h => absurd h (by simp)⟩
 ·simp only [List.cons.injEq, and_true] at hcs
  have hle : len ≤ m := by rw [hmm]; split <;> omega
  have hx : ∀ i, i < len → ∃ x : Zn, w.cell? (a.add (i * 5 + 0)) = some (.int .i64 x.kind) ∧ w.cell? (a.add (i * 5 + 1)) = some (.int .i64 x.feature) ∧ w.cell? (a.add (i * 5 + 2)) = some (.int .i64 x.lower) ∧ w.cell? (a.add (i * 5 + 3)) = some (.int .i64 x.upper) ∧ w.cell? (a.add (i * 5 + 4)) = some (.bool x.bonus) := by
   intro i hil
   obtain ⟨n, hf⟩ := hi i (by omega)
   obtain ⟨v0, y0, c0, h0⟩ := hf 0 _ rfl
   obtain ⟨v1, y1, c1, h1⟩ := hf 1 _ rfl
   obtain ⟨v2, y2, c2, h2⟩ := hf 2 _ rfl
   obtain ⟨v3, y3, c3, h3⟩ := hf 3 _ rfl
   obtain ⟨v4, y4, c4, h4⟩ := hf 4 _ rfl
   obtain ⟨k0, e0, _, _⟩ := DataW.trod_int Tryz.underlying3 h0
   obtain ⟨k1, e1, _, _⟩ := DataW.trod_int Tryz.underlying3 h1
   obtain ⟨k2, e2, _, _⟩ := DataW.trod_int Tryz.underlying3 h2
   obtain ⟨k3, e3, _, _⟩ := DataW.trod_int Tryz.underlying3 h3
   obtain ⟨k4, e4, _⟩ := DataW.trod_bool Tryz.underlying4 h4
   simp only [List.cons.injEq, and_true] at e0 e1 e2 e3 e4
   subst e0 e1 e2 e3 e4
   exact ⟨⟨k0, k1, k2, k3, k4⟩, c0, c1, c2, c3, c4⟩
  rcases Nat.eq_zero_or_pos len with h0 | h0
  ·exact ⟨some a, cap, [], by rw [hcs, h0]; rfl, by simp, by omega, fun h => absurd h (by simp)⟩
  ·obtain ⟨_, hc0, _⟩ := hx 0 h0
   rw [show a.add (0 * 5 + 0) = a from rfl] at hc0
   obtain ⟨b, off, sp⟩ := a
   obtain ⟨hb, hs⟩ := cell_lt hc0
   simp only at hb hs
   subst hs
   classical
   let g : Nat → Zn := fun i => if h : i < len then Classical.choose (hx i h) else Zn.none
   have hg : ∀ i, i < len → ZoneAt w b (off + i * 5) (g i) := by
    intro i hil
    have := Classical.choose_spec (hx i hil)
    have e : g i = Classical.choose (hx i hil) := by simp only [g, dif_pos hil]
    rw [← e] at this
    simp only [add_plain] at this
    exact this
   refine ⟨some ⟨b, off, none⟩, cap, (List.range len).map g, by simp [hcs], by simp; omega, by omega, fun _ => ⟨b, off, rfl, hb, fun j hj => ?_⟩⟩
   simp only [List.length_map, List.length_range] at hj
   have e : ((List.range len).map g).getD j Zn.none = g j := by simp [List.getD_eq_getElem?_getD, hj]
   rw [e]
   exact hg j hj
theorem in_scheme {r : Reach} {b0 : Nat} {v : Value} {d : DataW H} {p : List MemPlace} (hv : Value.okWide Tryz.prog w r b0 26 v) (h : DataW.Trod enc Tryz.prog w base spare held 26 v d p) :
  ∃ (af : Option Addr) (cf : Nat) (az : Option Addr) (cz : Nat) (fs : List Feat) (zs : List Zn), v = .agg #[.slice af fs.length cf, .slice az zs.length cz] ∧ SchemeIn w af cf az cz fs zs := by
 obtain ⟨v0, v1, y0, y1, n, rfl, _, _, h0, h1⟩ := open_agg2 Tryz.underlying26 (by kernel_rfl) (by kernel_rfl) hv h
 obtain ⟨af, cf, fs, rfl, hf⟩ := in_feats h0
 obtain ⟨az, cz, zs, rfl, hz⟩ := in_zones h1
 exact ⟨af, cf, az, cz, fs, zs, rfl, hf, hz⟩
end
end Go.Proofs.YtgofihilkobenaaGreatDoor
