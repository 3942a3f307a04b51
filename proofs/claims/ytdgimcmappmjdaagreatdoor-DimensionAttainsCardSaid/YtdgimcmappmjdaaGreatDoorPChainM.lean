/- Chains: what laws are told of their dimensions; append under a guard. -/
import Derived.Test.YtdgimcmappmjdaaGreatDoorK8
import Derived.Test.YtdgimcmappmjdaaGreatDoorKZ
set_option linter.unusedSimpArgs false
set_option linter.unusedVariables false
set_option maxRecDepth 100000
namespace Go.Proofs.YtdgimcmappmjdaaGreatDoor
open Go.RowKit Go.Num Go.Flow Go.Dtm
set_option maxHeartbeats 8000000
set_option linter.unusedVariables false

theorem chain_getD (l : List Trip) {n j : Nat} (hj : j < n) : (chainDims l n).getD j Dm.none = chainDim l j := by
 unfold chainDims
 simp [List.getD_eq_getElem?_getD, hj]
theorem chain_bound (l : List Trip) (hl : ∀ j, j < l.length → tripOk (l.getD j (0, 0, 0))) (i : Nat) : (0 ≤ (chainDim l i).nominal ∧ (chainDim l i).nominal ≤ 255) ∧ (-63 ≤ (chainDim l i).lower ∧ (chainDim l i).lower ≤ 0) ∧ (0 ≤ (chainDim l i).upper ∧ (chainDim l i).upper ≤ 63) := by
 unfold chainDim
 split
 ·rename_i h
  have h2 := hl i h
  obtain ⟨⟨a1, a2⟩, ⟨b1, b2⟩, ⟨c1, c2⟩⟩ := h2
  unfold tripAt
  simp only
  omega
 ·simp
theorem chain_ok {w : World} {v : Value} {l : List Trip} (h : ChainIn w v l) : ∀ j, j < l.length → tripOk (l.getD j (0, 0, 0)) := by
 obtain ⟨ao, c, -, h1, h2, h3⟩ := h
 intro j hj
 obtain ⟨b, off, -, -, hc⟩ := h3 (by omega)
 exact (hc j hj).2.2.2
end Go.Proofs.YtdgimcmappmjdaaGreatDoor
