/- The document's model: append whole, a choice. -/
import Derived.Test.YtlhnjdoicolkkaaMdl5
set_option maxRecDepth 100000
namespace Go.Proofs.Ytlhnjdoicolkkaa
open Go.RowKit Go.Dsk Go.Maps Go.WideMaps
set_option maxHeartbeats 1000000

section
variable {T : Nat → Prop} {w : World} {p : Nat} {vf vn vd vp : Value} {m : M}
theorem mappend_any (h : MRep T w p vf vn vd vp m) (hok : m.Ok) (hwt : m.wt < 1073741821) (hfl : m.files.length < 1073741823) (n d : ByteArray) (hs : n.size ≤ maxLen) (hds : d.size ≤ 4611686018427387904) :
    Calls Try.prog 28 #[.pointer (some ⟨p, 0, none⟩), .string n, .string d] w fun e w' => e = .returned (.int .i64 (m.append n.data.toList d.data.toList).1) ∧ MAfter T w p (m.append n.data.toList d.data.toList).2 w' := by
  have hdl : d.data.toList.length = d.size := len_toList d
  cases hd : m.down with
  | true => rw [append_down _ _ hd]; exact mappend_down h hd n d
  | false =>
    cases hn : isName n.data.toList with
    | false => rw [append_bad _ _ hd hn]; exact mappend_bad h hd n d hs hn
    | true =>
      cases hf : find m.names n.data.toList with
      | some k =>
        by_cases hc : m.cap < (m.used : Int) + d.size
        · rw [append_full _ _ hd hn (fun e => by rw [hf] at e; cases e) (by rw [hdl]; exact hc)]
          exact mappend_full_some h hok hwt hd n d hs hds hn hf hc
        · rw [append_some _ _ hd hn hf (by rw [hdl]; exact hc)]
          exact mappend_some h hok hwt hfl hd n d hs hds hn hf hc
      | none =>
        by_cases hl : 64 ≤ m.names.length
        · rw [append_limit _ _ hd hn hf hl]
          exact mappend_limit h hd n d hs hn hf hl
        · by_cases hc : m.cap < (m.used : Int) + d.size
          · rw [append_full _ _ hd hn (fun _ => by omega) (by rw [hdl]; exact hc)]
            exact mappend_full_none h hok hwt hd n d hs hds hn hf (by omega) hc
          · rw [append_none _ _ hd hn hf (by omega) (by rw [hdl]; exact hc)]
            exact mappend_none h hok hwt hfl hd n d hs hds hn hf (by omega) hc
end

/-! ### a choice -/
/-- The numbers of the model's script that are left: a slice in the block q, its cells in the block g. -/
def ScrAt (w : World) (q g : Nat) (sc : List Int) : Prop :=
  ∃ ao cap, w.heap[q]? = some (.cells #[.slice ao sc.length cap] 106 (0, 0)) ∧ sc.length ≤ cap ∧ cap ≤ maxLen ∧ (0 < sc.length → ∃ off, ao = some ⟨g, off, none⟩ ∧ ∀ j, j < sc.length → w.cell? ⟨g, off + j, none⟩ = some (.int .i64 (sc.getD j 0)))
theorem ScrAt.same {w w' : World} {q g : Nat} {sc : List Int} (h : ScrAt w q g sc) (hq : w'.heap[q]? = w.heap[q]?) (hg : w'.heap[g]? = w.heap[g]?) : ScrAt w' q g sc := by
  obtain ⟨ao, cap, h1, h2, h3, h4⟩ := h
  refine ⟨ao, cap, hq.trans h1, h2, h3, fun h0 => ?_⟩
  obtain ⟨off, e, hc⟩ := h4 h0
  exact ⟨off, e, fun j hj => (World.cell?_of_block (w := w) (a := ⟨g, off + j, none⟩) hg).trans (hc j hj)⟩
theorem mchoice_none (q g : Nat) (most : Nat) (hm : most ≤ 4611686018427387904) (w : World) (h : ScrAt w q g []) :
    Calls Try.prog 66 #[.pointer (some ⟨q, 0, none⟩), .int .i64 most] w fun e w' => e = .returned (.int .i64 0) ∧ w = w' := by
  obtain ⟨ao, cap, h1, _⟩ := h
  have hc := cell_of_one h1
  simp at hc
  clear h1
  go_enter Try.func66, Try.ntmps66
  go_wp2
  go_ret
  exact ⟨rfl, rfl⟩
theorem mchoice_end {w : World} {q g : Nat} {v : Value} {r : List Int} {ao : Option Addr} {cap : Nat} (h1 : w.heap[q]? = some (.cells #[v] 106 (0, 0))) (hqg : q ≠ g) (h2 : r.length ≤ cap) (h3 : cap ≤ maxLen)
    (hc : 0 < r.length → ∃ off, ao = some ⟨g, off, none⟩ ∧ ∀ j, j < r.length → w.cell? ⟨g, off + j, none⟩ = some (.int .i64 (r.getD j 0))) :
    ScrAt (w.setCell ⟨q, 0, none⟩ (.slice ao r.length cap)) q g r ∧ Fr (fun i => i = q) w (w.setCell ⟨q, 0, none⟩ (.slice ao r.length cap)) := by
  refine ⟨⟨ao, cap, one_setCell h1, h2, h3, fun h0 => ?_⟩, (Fr.refl (fun i => i = q) w).setCell (p := ⟨q, 0, none⟩) (.inl rfl) (by rintro ⟨s, hs⟩; rw [h1] at hs; simp at hs) _⟩
  obtain ⟨off, rfl, hcs⟩ := hc h0
  exact ⟨off, rfl, fun j hj => (World.cell?_of_block (w := w) (a := ⟨g, off + j, none⟩) (block_other (fun e => hqg e.symm) _)).trans (hcs j hj)⟩
theorem pick_neg {n : Int} (r : List Int) (most : Nat) (h : n < 0) : (((pick (n :: r) most).1 : Nat) : Int) = 0 := by
  have h1 := Int.tmod_nonneg (a := -n) ((most : Int) + 1) (by omega)
  rw [Int.neg_tmod] at h1
  simp only [pick]
  omega
theorem pick_pos {n : Int} (r : List Int) (most : Nat) (h : 0 ≤ n) : (((pick (n :: r) most).1 : Nat) : Int) = n % ((most : Int) + 1) := by
  have h1 := Int.tmod_eq_emod_of_nonneg (b := (most : Int) + 1) h
  have h2 := Int.emod_nonneg n (by omega : (most : Int) + 1 ≠ 0)
  simp only [pick]
  omega
theorem mchoice_one (q g : Nat) (hqg : q ≠ g) (most : Nat) (hm : most ≤ 4611686018427387904) (n : Int) (r : List Int) (w : World) (h : ScrAt w q g (n :: r)) :
    Calls Try.prog 66 #[.pointer (some ⟨q, 0, none⟩), .int .i64 most] w fun e w' => e = .returned (.int .i64 (pick (n :: r) most).1) ∧ ScrAt w' q g (pick (n :: r) most).2 ∧ Fr (fun i => i = q) w w' := by
  obtain ⟨ao, cap, h1, h2, h3, h4⟩ := h
  obtain ⟨off, rfl, hcs⟩ := h4 (by simp)
  have hc := cell_of_one h1
  have hf := free_of_one h1
  have h0 := hcs 0 (by simp)
  have HCS := Lib.hid hcs
  have H1 := Lib.hid h1
  simp at hc h0 h2
  unfold maxLen at h3
  have H3 := Lib.hid h3
  have HQ := Lib.hid hqg
  clear h1 h4 hcs hqg
  have hlen : r.length + 1 ≤ cap := h2
  have hne : ((most : Int) + 1 == 0) = false := by simp; omega
  by_cases hcap : cap = 1
  · subst hcap
    have hr : r = [] := by cases r with | nil => rfl | cons _ _ => simp at h2
    subst hr
    clear h2 hlen
    simp at hc
    by_cases hn0 : n < 0
    · go_enter Try.func66, Try.ntmps66
      go_wp2
      go_ret
      have R := mchoice_end (r := []) (ao := some ⟨g, off, none⟩) (cap := 0) H1.out HQ.out (Nat.le_refl _) (by unfold maxLen; omega) (fun h => absurd h (by simp))
      exact ⟨retI (pick_neg _ most hn0).symm, R.1, R.2⟩
    · go_enter Try.func66, Try.ntmps66
      go_wp2
      go_ret
      have R := mchoice_end (r := []) (ao := some ⟨g, off, none⟩) (cap := 0) H1.out HQ.out (Nat.le_refl _) (by unfold maxLen; omega) (fun h => absurd h (by simp))
      exact ⟨retI (pick_pos _ most (by omega)).symm, R.1, R.2⟩
  · by_cases hn0 : n < 0
    · go_enter Try.func66, Try.ntmps66
      go_wp2
      go_ret
      have R := mchoice_end (r := r) (ao := some ⟨g, off + 1, none⟩) (cap := cap - 1) H1.out HQ.out (by omega) (by unfold maxLen; omega) (fun _ => ⟨off + 1, rfl, fun j hj => by
        have := HCS.out (j + 1) (by simpa using hj)
        rw [show off + 1 + j = off + (j + 1) by omega, this]; simp⟩)
      exact ⟨retI (pick_neg _ most hn0).symm, R.1, R.2⟩
    · go_enter Try.func66, Try.ntmps66
      go_wp2
      go_ret
      have R := mchoice_end (r := r) (ao := some ⟨g, off + 1, none⟩) (cap := cap - 1) H1.out HQ.out (by omega) (by unfold maxLen; omega) (fun _ => ⟨off + 1, rfl, fun j hj => by
        have := HCS.out (j + 1) (by simpa using hj)
        rw [show off + 1 + j = off + (j + 1) by omega, this]; simp⟩)
      exact ⟨retI (pick_pos _ most (by omega)).symm, R.1, R.2⟩
theorem mchoice_any (q g : Nat) (hqg : q ≠ g) (most : Nat) (hm : most ≤ 4611686018427387904) (sc : List Int) (w : World) (h : ScrAt w q g sc) :
    Calls Try.prog 66 #[.pointer (some ⟨q, 0, none⟩), .int .i64 most] w fun e w' => e = .returned (.int .i64 (pick sc most).1) ∧ ScrAt w' q g (pick sc most).2 ∧ Fr (fun i => i = q) w w' := by
  cases sc with
  | nil => exact (mchoice_none q g most hm w h).mono fun e w' ⟨he, hw⟩ => ⟨he, hw ▸ h, hw ▸ Fr.refl _ _⟩
  | cons n r => exact mchoice_one q g hqg most hm n r w h
end Go.Proofs.Ytlhnjdoicolkkaa
