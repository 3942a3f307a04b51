/- few, and act: what they say of acts that came in. -/
import Derived.Test.YtlhnjdoicolkkaaInAt
set_option maxRecDepth 100000
namespace Go.Proofs.Ytlhnjdoicolkkaa
open Go.RowKit Go.Dsk Go.Maps Go.WideMaps
set_option maxHeartbeats 1000000

theorem ActV.At.below {w w' : World} {b off : Nat} {x : ActV} (h : x.At w b off) (hb : b < w.heap.size) (hw : Below w.heap.size w w') : x.At w' b off :=
  ⟨(hw.cell (p := ⟨b, off, Option.none⟩) hb).trans h.1, (hw.cell (p := ⟨b, off + 1, Option.none⟩) hb).trans h.2.1, (hw.cell (p := ⟨b, off + 2, Option.none⟩) hb).trans h.2.2.1, (hw.cell (p := ⟨b, off + 3, Option.none⟩) hb).trans h.2.2.2.1, (hw.cell (p := ⟨b, off + 4, Option.none⟩) hb).trans h.2.2.2.2⟩
theorem ActV.Fits.below {w w' : World} {x : ActV} (h : x.Fits w) (hw : Below w.heap.size w w') : x.Fits w' := by
  obtain ⟨a, b, c, d, e, f, g, i⟩ := h
  exact ⟨a, b, c, d, e, f, g.below hw, i⟩
theorem ActsBody.below {w w' : World} {ao : Option Addr} {c : Nat} {l : List ActV} (h : ActsBody w ao c l) (hw : Below w.heap.size w w') : ActsBody w' ao c l := by
  rcases h with h | h | ⟨b, off, rfl, hlt, hc⟩
  · exact .inl h
  · exact .inr (.inl h)
  · exact .inr (.inr ⟨b, off, rfl, Nat.lt_of_lt_of_le hlt hw.size, fun j hj => ⟨(hc j hj).1.below hlt hw, (hc j hj).2.below hw⟩⟩)

def ActV.small (x : ActV) : Bool := decide (x.name.size ≤ 50) && (decide (x.to.size ≤ 50) && decide (x.sc.length ≤ 12))
def fewB (l : List ActV) : Bool := l.all ActV.small && decide (l.length ≤ 40)
theorem fewB_not {l : List ActV} {k : Nat} (hk : k < l.length) (h : (l.getD k ActV.none).small = false) : fewB l = false := by
  have hm : l.getD k ActV.none ∈ l := by rw [List.getD_eq_getElem?_getD, List.getElem?_eq_getElem hk]; exact List.getElem_mem hk
  unfold fewB
  rw [Bool.and_eq_false_iff]
  left
  rw [Bool.eq_false_iff]
  intro ha
  have := List.all_eq_true.1 ha _ hm
  rw [h] at this
  cases this
theorem fewB_all {l : List ActV} (h : ∀ j, j < l.length → (l.getD j ActV.none).small = true) : fewB l = decide (l.length ≤ 40) := by
  unfold fewB
  have : l.all ActV.small = true := by
    rw [List.all_eq_true]
    intro x hx
    obtain ⟨j, hj, rfl⟩ := List.getElem_of_mem hx
    have := h j hj
    rwa [List.getD_eq_getElem?_getD, List.getElem?_eq_getElem hj] at this
  rw [this, Bool.true_and]
theorem fewB_at {l : List ActV} (h : fewB l = true) {k : Nat} (hk : k < l.length) : (l.getD k ActV.none).name.size ≤ 50 ∧ (l.getD k ActV.none).to.size ≤ 50 ∧ (l.getD k ActV.none).sc.length ≤ 12 ∧ l.length ≤ 40 := by
  have hm : l.getD k ActV.none ∈ l := by rw [List.getD_eq_getElem?_getD, List.getElem?_eq_getElem hk]; exact List.getElem_mem hk
  unfold fewB at h
  simp only [Bool.and_eq_true, decide_eq_true_eq] at h
  have := List.all_eq_true.1 h.1 _ hm
  unfold ActV.small at this
  simp only [Bool.and_eq_true, decide_eq_true_eq] at this
  exact ⟨this.1, this.2.1, this.2.2, h.2⟩

theorem few_any {w : World} {ao : Option Addr} {c : Nat} {l : List ActV} (hb : ActsBody w ao c l) (hl : l.length ≤ maxLen) :
    Calls Try.prog 24 #[.slice ao l.length c] w fun e w' => e = .returned (.bool (fewB l)) ∧ w = w' := by
  have HB := Lib.hid hb
  clear hb
  unfold maxLen at hl
  go_enter Try.func24, Try.ntmps24
  go_wp2_with fail
  go_loopw [3] (fun i wr => ∃ k : Nat, k ≤ l.length ∧ i = .int .i64 k ∧ (∀ j, j < k → (l.getD j ActV.none).small = true) ∧ w = wr) (fun i _ => l.length - (intOf i).toNat)
  case atStart => exact ⟨0, Nat.zero_le _, rfl, fun j hj => absurd hj (Nat.not_lt_zero _), rfl⟩
  case round =>
    obtain ⟨k, hk, rfl, hs, rfl⟩ := hrel
    have HS := Lib.hid hs
    clear hs
    by_cases hlt : k < l.length
    · obtain ⟨b, off, rfl, hbl, hcs⟩ : ∃ b off, ao = some ⟨b, off, none⟩ ∧ b < w.heap.size ∧ ∀ j, j < l.length → (l.getD j ActV.none).At w b (off + j * 5) ∧ (l.getD j ActV.none).Fits w := by
        rcases HB.out with ⟨_, _, rfl⟩ | ⟨_, _, rfl⟩ | h
        · simp at hlt
        · simp at hlt
        · exact h
      obtain ⟨hat, hft⟩ := hcs k hlt
      clear hcs
      obtain ⟨x, hx⟩ : ∃ x, x = l.getD k ActV.none := ⟨_, rfl⟩
      rw [← hx] at hat hft
      have HX := Lib.hid hx
      clear hx
      obtain ⟨a0, a1, a2, a3, a4⟩ := hat
      have z1 : x.name.size ≤ 9223372036854775807 := hft.2.2.1
      have z2 : x.to.size ≤ 9223372036854775807 := hft.2.2.2.1
      have z4 : x.sc.length ≤ 9223372036854775807 := hft.2.2.2.2.2.2.2.1
      clear a0 a3 hft
      by_cases h1 : x.name.size ≤ 50
      · by_cases h2 : x.to.size ≤ 50
        · by_cases h4 : x.sc.length ≤ 12
          · go_wp2_with fail
            refine ⟨⟨k + 1, by omega, by simp, ?_, trivial⟩, by simp [intOf]; omega⟩
            intro j hj
            rcases Nat.lt_or_ge j k with h | h
            · exact HS.out j h
            · obtain rfl : j = k := by omega
              rw [← HX.out]
              simp [ActV.small, h1, h2, h4]
          · go_wp2_with fail
            go_ret
            rw [fewB_not hlt (by rw [← HX.out]; simp [ActV.small, h4])]
            exact ⟨rfl, rfl⟩
        · go_wp2_with fail
          go_ret
          rw [fewB_not hlt (by rw [← HX.out]; simp [ActV.small, h2])]
          exact ⟨rfl, rfl⟩
      · go_wp2_with fail
        go_ret
        rw [fewB_not hlt (by rw [← HX.out]; simp [ActV.small, h1])]
        exact ⟨rfl, rfl⟩
    · go_wp2_with fail
      go_ret
      rw [fewB_all (fun j hj => HS.out j (by omega))]
      have e : decide ((l.length : Int) ≤ 40) = decide (l.length ≤ 40) := by rw [decide_eq_decide]; omega
      exact ⟨congrArg (fun b => Ending.returned (Value.bool b)) e, rfl⟩

end Go.Proofs.Ytlhnjdoicolkkaa
