/- Readable slices and own rows. -/
import Derived.Test.YtlhnjdoicolkkaaGreatDoorApi
set_option maxRecDepth 100000
namespace Go.Proofs.YtlhnjdoicolkkaaGreatDoor
open Go.RowKit Go.Dsk Go.Maps Go.WideMaps
set_option maxHeartbeats 1000000

/-- The slice v can be read: n elements of 'size' cells, which are xs; its row is one of T. -/
def RowAt (T : Nat → Prop) (w : World) (v : Value) (size n : Nat) (xs : List Value) : Prop :=
  xs.length = n * size ∧ ∃ ao cp, v = .slice ao n cp ∧ n ≤ cp ∧ cp ≤ maxLen ∧ (ao = none → cp = 0) ∧ (0 < n → ∃ g, ao = some ⟨g, 0, none⟩ ∧ T g ∧ g < w.heap.size ∧ ∀ j, j < n * size → w.cell? ⟨g, j, none⟩ = some (xs.getD j undef))
theorem RowAt.mono {T T' : Nat → Prop} {w : World} {v : Value} {size n : Nat} {xs : List Value} (h : RowAt T w v size n xs) (ht : ∀ g, T g → T' g) : RowAt T' w v size n xs := by
  obtain ⟨h1, ao, cp, h2, h3, h4, h6, h5⟩ := h
  exact ⟨h1, ao, cp, h2, h3, h4, h6, fun h0 => by obtain ⟨g, e, ht', hr⟩ := h5 h0; exact ⟨g, e, ht g ht', hr⟩⟩
theorem RowAt.same {T : Nat → Prop} {w w' : World} {v : Value} {size n : Nat} {xs : List Value} (h : RowAt T w v size n xs) (hb : ∀ g, T g → g < w.heap.size → w'.heap[g]? = w.heap[g]?) (hs : w.heap.size ≤ w'.heap.size) : RowAt T w' v size n xs := by
  obtain ⟨h1, ao, cp, h2, h3, h4, h6, h5⟩ := h
  refine ⟨h1, ao, cp, h2, h3, h4, h6, fun h0 => ?_⟩
  obtain ⟨g, e, ht, hlt, hc⟩ := h5 h0
  exact ⟨g, e, ht, Nat.lt_of_lt_of_le hlt hs, fun j hj => (World.cell?_of_block (a := ⟨g, j, none⟩) (hb g ht hlt)).trans (hc j hj)⟩
theorem RowAt.below {T : Nat → Prop} {w w' : World} {v : Value} {size n : Nat} {xs : List Value} (h : RowAt T w v size n xs) (hw : Below w.heap.size w w') : RowAt T w' v size n xs :=
  h.same (fun g _ hg => hw.block g hg) hw.size
theorem row_nil (T : Nat → Prop) (w : World) (size : Nat) : RowAt T w (.slice none 0 0) size 0 [] := ⟨by simp, none, 0, rfl, Nat.le_refl _, by unfold maxLen; omega, fun _ => rfl, fun h => absurd h (by omega)⟩
/-- An own row can be read. -/
theorem row_own {w : World} {base : Nat} {e : TypeId} {size n : Nat} {v : Value} {xs : List Value} (h : w.ownsRow base e size v n xs) : RowAt (fun g => base ≤ g) w v size n xs := by
  obtain ⟨h1, h2⟩ := h
  rcases h2 with ⟨rfl, rfl⟩ | ⟨g, cap, cur, rfl, hg, hh, h3, h4, h5, h6⟩
  · exact ⟨h1, none, 0, rfl, by omega, by unfold maxLen; omega, fun _ => rfl, fun h => absurd h (by omega)⟩
  · refine ⟨h1, _, cap, rfl, h3, h4, fun e => by simp at e, fun h0 => ⟨g, rfl, hg, lt_of_block hh, fun j hj => ?_⟩⟩
    have e : cur[j]? = some (xs.getD j undef) := by
      have e1 : (cur.toList.take (n * size))[j]? = xs[j]? := by rw [h6]
      rw [List.getElem?_take_of_lt hj] at e1
      rw [← Array.getElem?_toList, e1, List.getD_eq_getElem?_getD, List.getElem?_eq_getElem (by omega)]
      rfl
    rw [block_cell hh]
    exact e

theorem flat_len {α : Type} (f : α → List Value) (s : Nat) (hf : ∀ x, (f x).length = s) : ∀ l : List α, (l.flatMap f).length = l.length * s
  | [] => by simp
  | x :: r => by
    rw [List.flatMap_cons, List.length_append, hf, flat_len f s hf r, List.length_cons, Nat.succ_mul]
    omega
theorem flat_at {α : Type} (f : α → List Value) (s : Nat) (hf : ∀ x, (f x).length = s) (d : α) : ∀ (l : List α) (k : Nat), k < l.length → ∀ j, j < s → (l.flatMap f).getD (k * s + j) undef = (f (l.getD k d)).getD j undef
  | [], k, hk, _, _ => absurd hk (by simp)
  | x :: r, 0, _, j, hj => by
    simp only [List.flatMap_cons, List.getD_eq_getElem?_getD, Nat.zero_mul, Nat.zero_add]
    rw [List.getElem?_append_left (by rw [hf]; exact hj)]
    rfl
  | x :: r, k + 1, hk, j, hj => by
    have ih := flat_at f s hf d r k (by simpa using hk) j hj
    simp only [List.flatMap_cons, List.getD_eq_getElem?_getD] at ih ⊢
    rw [List.getElem?_append_right (by rw [hf, Nat.succ_mul]; omega), hf]
    rw [show (k + 1) * s + j - s = k * s + j by rw [Nat.succ_mul]; omega, ih]
    rfl

theorem RowAt.fr {T S : Nat → Prop} {w w' : World} {v : Value} {size n : Nat} {xs : List Value} (h : RowAt T w v size n xs) (hf : Fr S w w') (hT : ∀ g, T g → ¬ S g) : RowAt T w' v size n xs :=
  h.same (fun g ht hg => hf.block g hg (.inl (hT g ht))) hf.size
/-- The cells of element k of a readable slice. -/
theorem RowAt.elem {T : Nat → Prop} {w : World} {v : Value} {size n : Nat} {α : Type} {f : α → List Value} {l : List α} (h : RowAt T w v size n (l.flatMap f)) (hf : ∀ x, (f x).length = size) (d : α) {k : Nat} (hk : k < l.length) (hn : n = l.length) :
    ∃ g cp, v = .slice (some ⟨g, 0, none⟩) n cp ∧ T g ∧ g < w.heap.size ∧ n ≤ cp ∧ cp ≤ maxLen ∧ ∀ j, j < size → w.cell? ⟨g, k * size + j, none⟩ = some ((f (l.getD k d)).getD j undef) := by
  obtain ⟨h1, ao, cp, rfl, h3, h4, _, h5⟩ := h
  obtain ⟨g, rfl, ht, hg, hc⟩ := h5 (by omega)
  refine ⟨g, cp, rfl, ht, hg, h3, h4, fun j hj => ?_⟩
  rw [hc _ (by subst hn; calc k * size + j < k * size + size := by omega
    _ = (k + 1) * size := by rw [Nat.succ_mul]
    _ ≤ l.length * size := Nat.mul_le_mul_right _ hk), flat_at f size hf d l k hk j hj]
theorem RowAt.shape {T : Nat → Prop} {w : World} {v : Value} {size n : Nat} {xs : List Value} (h : RowAt T w v size n xs) : ∃ ao cp, v = .slice ao n cp ∧ n ≤ cp ∧ cp ≤ maxLen := by
  obtain ⟨_, ao, cp, rfl, h3, h4, _, _⟩ := h
  exact ⟨ao, cp, rfl, h3, h4⟩

theorem own_weaken {w : World} {base base' : Nat} {e : TypeId} {size n : Nat} {v : Value} {xs : List Value} (h : w.ownsRow base' e size v n xs) (hb : base ≤ base') : w.ownsRow base e size v n xs := by
  obtain ⟨h1, h2⟩ := h
  rcases h2 with h2 | ⟨g, cap, cur, rfl, hg, hr⟩
  · exact ⟨h1, .inl h2⟩
  · exact ⟨h1, .inr ⟨g, cap, cur, rfl, Nat.le_trans hb hg, hr⟩⟩
theorem below_drawn (w : World) (n : Nat) : Below w.heap.size w (w.drewN n) := ⟨rfl, rfl, rfl, Nat.le_refl _, fun _ _ => rfl⟩
end Go.Proofs.YtlhnjdoicolkkaaGreatDoor
