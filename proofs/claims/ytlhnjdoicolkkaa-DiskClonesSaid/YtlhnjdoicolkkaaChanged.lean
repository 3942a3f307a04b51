/- The document's model: changed. -/
import Derived.Test.YtlhnjdoicolkkaaWith
set_option maxRecDepth 100000
namespace Go.Proofs.Ytlhnjdoicolkkaa
open Go.RowKit Go.Dsk Go.Maps Go.WideMaps
set_option maxHeartbeats 1000000

theorem own_ents {w : World} {base : Nat} {v : Value} {l : Dir} (h : w.ownsRow base 94 2 v l.length (l.flatMap entV)) : EntsAt (fun g => base ≤ g) w v l := row_own h
theorem length_withOne (l : Dir) (x : Bs × Nat) : (withOne l x).length ≤ l.length + 1 := by
  unfold withOne
  rw [length_ins]
  have := length_without l x.1
  omega
theorem empty_iff {s : ByteArray} : s.data.toList = [] ↔ s = ⟨#[]⟩ := by
  constructor
  · intro h
    rw [← mk_toList s, h]
  · rintro rfl
    rfl
/-- changed: the entries behind a change; the old list's row, or a new one. -/
theorem mchanged_any {T : Nat → Prop} {w : World} {v : Value} {l : Dir} (h : EntsAt T w v l) (hl : l.length ≤ 1073741823) (a b : ByteArray) (f : Nat) :
    Calls Try.prog 67 #[v, .agg #[.string a, .string b, .int .i64 f]] w fun e w' => ∃ v', e = .returned v' ∧ EntsAt (fun g => T g ∨ w.heap.size ≤ g) w' v' (changed l ⟨a.data.toList, b.data.toList, f⟩) ∧ Below w.heap.size w w' := by
  have H := Lib.hid h
  clear h
  have hbx := (Below.refl w.heap.size w).alloc (Nat.le_refl _) (.cells #[.string a, .string b, .int .i64 f] 98)
  have HBX := Lib.hid hbx
  clear hbx
  have hne : ∀ s : ByteArray, s ≠ ⟨#[]⟩ → (!s.toList.isEmpty) = true := fun s hs => by
    rw [ByteArray.toList_eq]
    cases he : s.data.toList with
    | nil => exact absurd (empty_iff.1 he) hs
    | cons x r => rfl
  have hnn : ∀ s : ByteArray, s ≠ ⟨#[]⟩ → s.data.toList ≠ [] := fun s hs he => hs (empty_iff.1 he)
  by_cases ha : a = ⟨#[]⟩
  · subst ha
    by_cases hb : b = ⟨#[]⟩
    · subst hb
      clear hne hnn
      go_enter Try.func67, Try.ntmps67
      go_wp2_with fail
      go_ret
      refine ⟨_, rfl, ?_, HBX.out⟩
      rw [show changed l ⟨[], [], f⟩ = l by simp [changed]]
      exact (H.out.below HBX.out).mono (fun g => Or.inl)
    · have e2 := hne b hb
      have HN := Lib.hid (hnn b hb)
      clear hne hnn hb
      go_enter Try.func67, Try.ntmps67
      go_wp2_with fail
      refine (mwith_any (H.out.below HBX.out) hl b f).mono ?_
      rintro e w' ⟨v', rfl, hown, hb2⟩
      have HO := Lib.hid hown
      have HB2 := Lib.hid hb2
      clear hown hb2
      go_wp2_with fail
      go_ret
      refine ⟨_, rfl, ?_, below_box HB2.out⟩
      have e : changed l ⟨[], b.data.toList, f⟩ = withOne l (b.data.toList, f) := by simp [changed, HN.out]
      rw [e]
      exact (own_ents HO.out).mono (fun g hg => Or.inr (by simp at hg; omega))
  · have e1 := hne a ha
    have HA := Lib.hid (hnn a ha)
    by_cases hb : b = ⟨#[]⟩
    · subst hb
      clear hne hnn ha
      go_enter Try.func67, Try.ntmps67
      go_wp2_with fail
      refine (mwithout_any (H.out.below HBX.out) (by omega) a).mono ?_
      rintro e w' ⟨v', rfl, hown, hb2⟩
      have HO := Lib.hid hown
      have x1 : w'.cell? ⟨w.heap.size, 1, none⟩ = some (.string ⟨#[]⟩) := (hb2.cell (p := ⟨w.heap.size, 1, none⟩) (by simp)).trans (by simp only [World.cell?, heap_alloc_new]; rfl)
      have HB2 := Lib.hid hb2
      clear hown hb2
      go_wp2_with fail
      go_ret
      refine ⟨_, rfl, ?_, below_box HB2.out⟩
      have e : changed l ⟨a.data.toList, [], f⟩ = without l a.data.toList := by simp [changed, HA.out]
      rw [e]
      exact (own_ents HO.out).mono (fun g hg => Or.inr (by simp at hg; omega))
    · have e2 := hne b hb
      have HN := Lib.hid (hnn b hb)
      clear hne hnn hb ha
      go_enter Try.func67, Try.ntmps67
      go_wp2_with fail
      refine (mwithout_any (H.out.below HBX.out) (by omega) a).mono ?_
      rintro e w1 ⟨v1, rfl, hown, hb2⟩
      have HO := Lib.hid hown
      have x1 : w1.cell? ⟨w.heap.size, 1, none⟩ = some (.string b) := (hb2.cell (p := ⟨w.heap.size, 1, none⟩) (by simp)).trans (by simp only [World.cell?, heap_alloc_new]; rfl)
      have x2 : w1.cell? ⟨w.heap.size, 2, none⟩ = some (.int .i64 f) := (hb2.cell (p := ⟨w.heap.size, 2, none⟩) (by simp)).trans (by simp only [World.cell?, heap_alloc_new]; rfl)
      have HB2 := Lib.hid hb2
      have HE := Lib.hid (own_ents hown)
      have hwl := length_without l a.data.toList
      have HWL := Lib.hid hwl
      clear hown hb2 hwl
      go_wp2_with fail
      refine (mwith_any HE.out (by have := HWL.out; omega) b f).mono ?_
      rintro e w2 ⟨v2, rfl, hown, hb3⟩
      have HO3 := Lib.hid hown
      have HB3 := Lib.hid hb3
      clear hown hb3 x1 x2
      go_wp2_with fail
      go_ret
      refine ⟨_, rfl, ?_, below_box (HB2.out.trans (HB3.out.mono HB2.out.size))⟩
      have e : changed l ⟨a.data.toList, b.data.toList, f⟩ = withOne (without l a.data.toList) (b.data.toList, f) := by simp [changed, HN.out, HA.out]
      rw [e]
      exact (own_ents HO3.out).mono (fun g hg => Or.inr (by have := HB2.out.size; simp at this; omega))
end Go.Proofs.Ytlhnjdoicolkkaa
