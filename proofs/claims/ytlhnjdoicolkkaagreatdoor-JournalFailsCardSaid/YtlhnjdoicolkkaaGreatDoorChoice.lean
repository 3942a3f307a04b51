/- A choice: the next number of a script. -/
import Derived.Test.YtlhnjdoicolkkaaGreatDoorOps4
set_option maxRecDepth 100000
namespace Go.Proofs.YtlhnjdoicolkkaaGreatDoor
open Go.RowKit Go.Dsk Go.Maps Go.WideMaps
set_option maxHeartbeats 400000

/-- The numbers of a script that are left: a slice in the box q, its cells in the block g. -/
def ScriptAt (w : World) (q g : Nat) (sc : List Int) : Prop :=
  ∃ ao cap, w.heap[q]? = some (.cells #[.slice ao sc.length cap] 66 (0, 0)) ∧ sc.length ≤ cap ∧ cap ≤ maxLen ∧ (0 < sc.length → ∃ off, ao = some ⟨g, off, none⟩ ∧ ∀ j, j < sc.length → w.cell? ⟨g, off + j, none⟩ = some (.int .i64 (sc.getD j 0)))

theorem ScriptAt.same {w w' : World} {q g : Nat} {sc : List Int} (h : ScriptAt w q g sc) (hq : w'.heap[q]? = w.heap[q]?) (hg : w'.heap[g]? = w.heap[g]?) : ScriptAt w' q g sc := by
  obtain ⟨ao, cap, h1, h2, h3, h4⟩ := h
  refine ⟨ao, cap, hq.trans h1, h2, h3, fun h0 => ?_⟩
  obtain ⟨off, e, hc⟩ := h4 h0
  exact ⟨off, e, fun j hj => (World.cell?_of_block (w := w) (a := ⟨g, off + j, none⟩) hg).trans (hc j hj)⟩
theorem ScriptAt.noBox {w : World} {q g : Nat} {sc : List Int} (h : ScriptAt w q g sc) : ¬ IsBox w q := by
  obtain ⟨ao, cap, h1, _⟩ := h
  rintro ⟨s, hs⟩; rw [h1] at hs; simp at hs

theorem choice_none (q g : Nat) (most : Nat) (hm : most ≤ 4611686018427387904) (w : World) (h : ScriptAt w q g []) :
    Calls Tryz.prog 77 #[.int .i64 most, .pointer (some ⟨q, 0, none⟩)] w fun e w' => e = .returned (.int .i64 0) ∧ w = w' := by
  obtain ⟨ao, cap, h1, _⟩ := h
  have hc := cell_of_one h1
  simp at hc
  clear h1
  go_enter Tryz.func77, Tryz.ntmps77
  go_wp2
  go_ret
  exact ⟨rfl, rfl⟩

theorem choice_end {w : World} {q g : Nat} {v : Value} {r : List Int} {a : Addr} {cap : Nat} (h1 : w.heap[q]? = some (.cells #[v] 66 (0, 0))) (hb : ¬ IsBox w q) (hqg : q ≠ g) (h2 : r.length ≤ cap) (h3 : cap ≤ maxLen)
    (hc : 0 < r.length → ∃ off, a = ⟨g, off, none⟩ ∧ ∀ j, j < r.length → w.cell? ⟨g, off + j, none⟩ = some (.int .i64 (r.getD j 0))) :
    ScriptAt (w.setCell ⟨q, 0, none⟩ (.slice (some a) r.length cap)).drew q g r ∧ Fr (fun i => i = q) w (w.setCell ⟨q, 0, none⟩ (.slice (some a) r.length cap)).drew := by
  refine ⟨⟨some a, cap, one_setCell h1, h2, h3, fun h0 => ?_⟩, ((Fr.refl (fun i => i = q) w).setCell (p := ⟨q, 0, none⟩) (.inl rfl) hb _).drew⟩
  obtain ⟨off, rfl, hcs⟩ := hc h0
  exact ⟨off, rfl, fun j hj => (World.cell?_of_block (w := w) (a := ⟨g, off + j, none⟩) (block_other (fun e => hqg e.symm) _)).trans (hcs j hj)⟩

theorem choice_one (q g : Nat) (hqg : q ≠ g) (most : Nat) (hm : most ≤ 4611686018427387904) (n : Int) (r : List Int) (w : World) (h : ScriptAt w q g (n :: r)) :
    Calls Tryz.prog 77 #[.int .i64 most, .pointer (some ⟨q, 0, none⟩)] w fun e w' => e = .returned (.int .i64 (pick (n :: r) most).1) ∧ ScriptAt w' q g (pick (n :: r) most).2 ∧ Fr (fun i => i = q) w w' := by
  obtain ⟨ao, cap, h1, h2, h3, h4⟩ := h
  obtain ⟨off, rfl, hcs⟩ := h4 (by simp)
  have hc := cell_of_one h1
  have hf := free_of_one h1
  have h0 := hcs 0 (by simp)
  have HCS := Lib.hid hcs
  have H1 := Lib.hid h1
  have hb : ¬ IsBox w q := by rintro ⟨s, hs⟩; rw [h1] at hs; simp at hs
  have HB := Lib.hid hb
  simp at hc h0 h2
  unfold maxLen at h3
  have H3 := Lib.hid h3
  have HQ := Lib.hid hqg
  clear h1 h4 hcs hb hqg
  have hlen : r.length + 1 ≤ cap := h2
  by_cases hcap : cap = 1
  · subst hcap
    have hr : r = [] := by cases r with | nil => rfl | cons _ _ => simp at h2
    subst hr
    clear h2 hlen
    simp at hc
    go_enter Tryz.func77, Tryz.ntmps77
    go_wp2
    go_region
    all_goals go_wp2
    all_goals
      go_ret
      have R := choice_end (r := []) (a := ⟨g, off, none⟩) (cap := 0) H1.out HB.out HQ.out (Nat.le_refl _) (by unfold maxLen; omega) (fun h => absurd h (by simp))
      exact ⟨retI (by simp only [pick]; omega), R.1, R.2⟩
  · go_enter Tryz.func77, Tryz.ntmps77
    go_wp2
    go_region
    all_goals go_wp2
    all_goals
      go_ret
      have R := choice_end (r := r) (a := ⟨g, off + 1, none⟩) (cap := cap - 1) H1.out HB.out HQ.out (by omega) (by unfold maxLen; omega) (fun _ => ⟨off + 1, rfl, fun j hj => by
        have := HCS.out (j + 1) (by simpa using hj)
        rw [show off + 1 + j = off + (j + 1) by omega, this]; simp⟩)
      exact ⟨retI (by simp only [pick]; omega), R.1, R.2⟩

theorem choice_any (q g : Nat) (hqg : q ≠ g) (most : Nat) (hm : most ≤ 4611686018427387904) (sc : List Int) (w : World) (h : ScriptAt w q g sc) :
    Calls Tryz.prog 77 #[.int .i64 most, .pointer (some ⟨q, 0, none⟩)] w fun e w' => e = .returned (.int .i64 (pick sc most).1) ∧ ScriptAt w' q g (pick sc most).2 ∧ Fr (fun i => i = q) w w' := by
  cases sc with
  | nil => exact (choice_none q g most hm w h).mono fun e w' ⟨he, hw⟩ => ⟨he, hw ▸ h, hw ▸ Fr.refl _ _⟩
  | cons n r => exact choice_one q g hqg most hm n r w h

theorem pick_le (sc : List Int) (most : Nat) : (pick sc most).1 ≤ most := by
  unfold pick
  split
  · simp
  · rename_i n r
    simp only
    have h0 : (0 : Int) < (most : Int) + 1 := by omega
    have h1 := Int.tmod_lt_of_pos n h0
    omega
end Go.Proofs.YtlhnjdoicolkkaaGreatDoor
