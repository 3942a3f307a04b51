/- What came in, in a later world. -/
import Derived.Test.YtlhnjdoicolkkaaIn
import Derived.Test.YtlhnjdoicolkkaaApi
set_option maxRecDepth 100000
namespace Go.Proofs.Ytlhnjdoicolkkaa
open Go.RowKit Go.Dsk Go.Maps Go.WideMaps
theorem IntsBody.at {w : World} {ao : Option Addr} {c : Nat} {sc : List Int} (hb : IntsBody w ao c sc) (hl : sc.length * 8 ≤ 140737488355328) {w' : World} (hw : Below w.heap.size w w') : IntsAt w' (.slice ao sc.length c) sc := by
  rcases hb with ⟨rfl, rfl, rfl⟩ | ⟨a, rfl, rfl⟩ | ⟨b, off, rfl, hlt, hc⟩
  · exact ⟨hl, .inl ⟨rfl, rfl⟩⟩
  · exact ⟨hl, .inr (.inl ⟨a, c, rfl, rfl⟩)⟩
  · exact ⟨hl, .inr (.inr ⟨b, off, c, rfl, fun j hj => (hw.cell (p := ⟨b, off + j, none⟩) hlt).trans (hc j hj)⟩)⟩
theorem IntsBody.below {w : World} {ao : Option Addr} {c : Nat} {sc : List Int} (hb : IntsBody w ao c sc) {w' : World} (hw : Below w.heap.size w w') : IntsBody w' ao c sc := by
  rcases hb with h | h | ⟨b, off, rfl, hlt, hc⟩
  · exact .inl h
  · exact .inr (.inl h)
  · exact .inr (.inr ⟨b, off, rfl, Nat.lt_of_lt_of_le hlt hw.size, fun j hj => (hw.cell (p := ⟨b, off + j, none⟩) hlt).trans (hc j hj)⟩)
theorem below_box {w v : World} {o : Obj} (hb : Below (w.alloc o).heap.size (w.alloc o) v) : Below w.heap.size w v := ((Below.refl _ _).alloc (Nat.le_refl _) _).trans (hb.mono (by simp))
theorem len_toList (s : ByteArray) : s.data.toList.length = s.size := by simp
end Go.Proofs.Ytlhnjdoicolkkaa
