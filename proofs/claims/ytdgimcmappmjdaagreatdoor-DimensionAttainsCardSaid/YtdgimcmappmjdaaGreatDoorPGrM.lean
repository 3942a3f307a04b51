/- The law's grower: its state, next, small. -/
import Derived.Test.YtdgimcmappmjdaaGreatDoorGrPureM
import Derived.Test.YtdgimcmappmjdaaGreatDoorXKeepM
import Derived.Test.YtdgimcmappmjdaaGreatDoorKI
import Derived.Test.YtdgimcmappmjdaaGreatDoorKW
set_option linter.unusedSimpArgs false
set_option linter.unusedVariables false
set_option maxRecDepth 100000
namespace Go.Proofs.YtdgimcmappmjdaaGreatDoor
open Go.RowKit Go.Num Go.Flow
set_option maxHeartbeats 8000000
set_option linter.unusedVariables false

/-- The grower at b: its bytes, in other blocks, its dimensions, and how many expressions it has made. -/
def GrIn (w : World) (b : Nat) (l : List Int) (d c : Nat) : Prop := ∃ ao cv, w.heap[b]? = some (.cells #[.slice ao l.length cv, .int .i64 (d : Int), .int .i64 (c : Int)] 53 (0, 0)) ∧ l.length ≤ cv ∧ cv ≤ maxLen ∧ (0 < l.length → ∃ g o, ao = some ⟨g, o, none⟩ ∧ g < b ∧ ∀ j, j < l.length → w.cell? ⟨g, o + j, none⟩ = some (.int .u8 (l.getD j 0)) ∧ 0 ≤ l.getD j 0 ∧ l.getD j 0 ≤ 255)
theorem GrIn.keep {w w' : World} {b : Nat} {l : List Int} {d c : Nat} (h : GrIn w b l d c) (hk : Keep (fun _ => True) w w') : GrIn w' b l d c := by
 obtain ⟨ao, cv, h0, h1, h2, h3⟩ := h
 refine ⟨ao, cv, (hk.2 b trivial (ZL h0)).trans h0, h1, h2, fun hl => ?_⟩
 obtain ⟨g, o, e, hn, hc⟩ := h3 hl
 exact ⟨g, o, e, hn, fun j hj => ⟨cell_keep (hk.2 g trivial (Nat.lt_trans hn (ZL h0))) (hc j hj).1, (hc j hj).2⟩⟩
theorem GrIn.kept {w w' : World} {b : Nat} {l : List Int} {d c : Nat} (h : GrIn w b l d c) (hk : ∀ g, g ≤ b → w'.heap[g]? = w.heap[g]?) : GrIn w' b l d c := by
 obtain ⟨ao, cv, h0, h1, h2, h3⟩ := h
 refine ⟨ao, cv, (hk b (Nat.le_refl _)).trans h0, h1, h2, fun hl => ?_⟩
 obtain ⟨g, o, e, hn, hc⟩ := h3 hl
 exact ⟨g, o, e, hn, fun j hj => ⟨cell_keep (hk g (Nat.le_of_lt hn)) (hc j hj).1, (hc j hj).2⟩⟩
theorem GrIn.far {w w' : World} {b b2 : Nat} {l : List Int} {d c : Nat} (h : GrIn w b l d c) (hlt : b < b2) (hu : But b2 w w') : GrIn w' b l d c := by
 have hb : b < w.heap.size := by
  obtain ⟨ao, cv, h0, -⟩ := h
  exact ZL h0
 exact h.kept fun g hg => hu.block g (by omega) (by omega)
theorem GrIn.below {w w' : World} {b : Nat} {l : List Int} {d c : Nat} (h : GrIn w b l d c) (hb : Below w.heap.size w w') : GrIn w' b l d c := h.keep (Keep.of_below hb)
theorem GrIn.lt {w : World} {b : Nat} {l : List Int} {d c : Nat} (h : GrIn w b l d c) : b < w.heap.size := by
 obtain ⟨ao, cv, h0, -⟩ := h
 exact ZL h0
/-- Nothing old turns but one block. -/
abbrev Gb (b : Nat) (w w' : World) : Prop := w.grownBy w' (some b)
theorem Gb.refl (b : Nat) (w : World) : Gb b w w := ⟨rfl, rfl, rfl, Nat.le_refl _, fun _ _ _ => rfl⟩
theorem Gb.of {b : Nat} {w w' : World} (h : Below w.heap.size w w') : Gb b w w' := ⟨h.os, h.tape, h.output, h.size, fun k hk _ => h.block k hk⟩
theorem Gb.trans {b : Nat} {w w' w2 : World} (h : Gb b w w') (k : Gb b w' w2) : Gb b w w2 := ⟨k.os.trans h.os, k.tape.trans h.tape, k.output.trans h.output, Nat.le_trans h.size k.size, fun q hq hn => (k.block q (Nat.lt_of_lt_of_le hq h.size) hn).trans (h.block q hq hn)⟩
theorem Gb.more {b : Nat} {w w' w2 : World} (h : Gb b w w') (k : Below w'.heap.size w' w2) : Gb b w w2 := h.trans (Gb.of k)
theorem Gb.set {b : Nat} {w w' : World} (h : Gb b w w') (i : Nat) (u : Value) : Gb b w (w'.setCell ⟨b, i, none⟩ u) := ⟨h.os, h.tape, h.output, by simpa [World.setCell] using h.size, fun k hk hn => (Below.heap_setCell _ _ _ _ (fun e => hn (by rw [e]))).trans (h.block k hk hn)⟩
theorem Gb.but {b : Nat} {w w' : World} (h : Gb b w w') : But b w w' := ⟨h.size, fun k hk hl => h.block k hl (by simpa using hk)⟩
theorem Gb.keep {b : Nat} {w w' : World} (h : Gb b w w') : Keep (fun g => g ≠ b) w w' := Keep.of_but h.but
/-- From a new block on, all is new. -/
theorem Gb.below {b : Nat} {w w' w2 : World} (h : Below w.heap.size w w') (k : Gb b w' w2) (hb : w.heap.size ≤ b) : Below w.heap.size w w2 := ⟨k.os.trans h.os, k.tape.trans h.tape, k.output.trans h.output, Nat.le_trans h.size k.size, fun q hq => (k.block q (Nat.lt_of_lt_of_le hq h.size) (by simp; omega)).trans (h.block q hq)⟩
theorem gr_nodig {w : World} {b : Nat} {l : List Int} {d c : Nat} (h : GrIn w b l d c) : NoDigAt w b := by
 obtain ⟨ao, cv, h0, -⟩ := h
 intro i x e
 rw [ZI h0] at e
 match i, e with
 | 0, e => simp at e
 | 1, e => simp at e
 | 2, e => simp at e
 | _ + 3, e => simp at e
/-- A block without bytes. -/
def NoByteAt (w : World) (b : Nat) : Prop := ∀ i x, w.cell? ⟨b, i, none⟩ ≠ some (.int .u8 x)
theorem nobyte4 {w : World} {b : Nat} {s1 : Bool} {a1 : Option Addr} {c1 l1 : Nat} {s2 : Bool} {a2 : Option Addr} {c2 l2 : Nat} {t : TypeId} (h : w.heap[b]? = some (.cells #[.bool s1, .slice a1 c1 l1, .bool s2, .slice a2 c2 l2] t (0, 0))) : NoByteAt w b := by
 intro i x e
 rw [ZI h] at e
 match i, e with
 | 0, e => simp at e
 | 1, e => simp at e
 | 2, e => simp at e
 | 3, e => simp at e
 | _ + 4, e => simp at e
theorem GrIn.but {w w' : World} {b b2 : Nat} {l : List Int} {d c : Nat} (h : GrIn w b l d c) (hn : NoByteAt w b2) (hne : b ≠ b2) (hu : But b2 w w') : GrIn w' b l d c := by
 obtain ⟨ao, cv, h0, h1, h2, h3⟩ := h
 refine ⟨ao, cv, (hu.block b hne (ZL h0)).trans h0, h1, h2, fun hl => ?_⟩
 obtain ⟨g, o, e, hn1, hc⟩ := h3 hl
 have hg := Nat.lt_trans hn1 (ZL h0)
 have hg2 : g ≠ b2 := by
  rintro rfl
  exact hn _ _ (hc 0 hl).1
 exact ⟨g, o, e, hn1, fun j hj => ⟨cell_keep (hu.block g hg2 hg) (hc j hj).1, (hc j hj).2⟩⟩
theorem gr_set0 {w : World} {b : Nat} {x y z : Value} {t : TypeId} (h : w.heap[b]? = some (.cells #[x, y, z] t (0, 0))) (u : Value) : (w.setCell ⟨b, 0, none⟩ u).heap[b]? = some (.cells #[u, y, z] t (0, 0)) := by simp [World.setCell, Array.getElem?_modify, h]
theorem gr_set2 {w : World} {b : Nat} {x y z : Value} {t : TypeId} (h : w.heap[b]? = some (.cells #[x, y, z] t (0, 0))) (u : Value) : (w.setCell ⟨b, 2, none⟩ u).heap[b]? = some (.cells #[x, y, u] t (0, 0)) := by simp [World.setCell, Array.getElem?_modify, h]
theorem gr_tail {w : World} {b : Nat} {x : Int} {t : List Int} {g o cv d c : Nat} (h : w.heap[b]? = some (.cells #[.slice (some ⟨g, o, none⟩) (x :: t).length cv, .int .i64 (d : Int), .int .i64 (c : Int)] 53 (0, 0)) ∧ (x :: t).length ≤ cv ∧ cv ≤ maxLen ∧ g < b ∧ ∀ j, j < (x :: t).length → w.cell? ⟨g, o + j, none⟩ = some (.int .u8 ((x :: t).getD j 0)) ∧ 0 ≤ (x :: t).getD j 0 ∧ (x :: t).getD j 0 ≤ 255) {o2 : Nat} (ho : 0 < t.length → o2 = o + 1) :
  GrIn (w.setCell ⟨b, 0, none⟩ (.slice (some ⟨g, o2, none⟩) t.length (cv - 1))) b t d c := by
 obtain ⟨h0, h1, h2, h3, h5⟩ := h
 simp only [List.length_cons] at h1
 refine ⟨_, _, gr_set0 h0 _, by omega, by omega, fun hl => ⟨g, o2, rfl, h3, fun j hj => ?_⟩⟩
 have k := h5 (j + 1) (by simp; omega)
 rw [ho hl]
 rw [show o + 1 + j = o + (j + 1) by omega]
 exact ⟨cell_keep (Below.heap_setCell _ _ _ _ (Nat.ne_of_lt h3)) k.1, k.2⟩
theorem pnext_any {w : World} {b : Nat} {l : List Int} {d c : Nat} (h : GrIn w b l d c) : Calls Tryz.prog 69 #[.pointer (some ⟨b, 0, none⟩)] w fun e w' => e = .returned (.int .i64 (headB l : Int)) ∧ GrIn w' b l.tail d c ∧ Gb b w w' := by
 cases l with
 | nil =>
  have HH := ZH h
  obtain ⟨ao, cv, h0, h1, h2, -⟩ := h
  have y0 := ZI h0 0
  simp only [List.length_nil] at y0
  simp at y0
  clear h0
  go_enter Tryz.func69, Tryz.ntmps69
  go_wp2_with fail
  go_ret
  exact ⟨rfl, HH.out, Gb.refl _ _⟩
 | cons x t =>
  obtain ⟨ao, cv, h0, h1, h2, h3⟩ := h
  obtain ⟨g, o, rfl, hgb, hc⟩ := h3 (by simp)
  have hx := hc 0 (by simp)
  simp only [List.getD_cons_zero, Nat.add_zero] at hx
  obtain ⟨x0, hx1, hx2⟩ := hx
  have y0 := ZI h0 0
  have f0 := ZF h0 0
  simp at y0
  have hu : IntKind.i64.wrap x = x := IntWalk.i64_in _ (by omega)
  have hn0 : ((↑t.length + 1 : Int) == 0) = false := ZQ.2 (by omega)
  have hn1 : (1 : Int) ≤ (↑t.length + 1 : Int) := by omega
  have HC := ZH (ZN h0 (ZN h1 (ZN h2 (ZN hgb hc))))
  simp only [List.length_cons] at h1
  have hcv : t.length + 1 ≤ cv ∧ cv ≤ 9223372036854775807 := ⟨h1, h2⟩
  clear h0 h1 h2 h3 hc hgb
  by_cases hc1 : cv = 1
  ·have e1 : (cv = 1) = True := eq_true hc1
   have HCV := ZH (show t.length = 0 by omega)
   clear hc1
   go_enter Tryz.func69, Tryz.ntmps69
   go_wp2_with fail
   go_ret
   exact ⟨by rw [show ((headB (x :: t) : Nat) : Int) = x from by show ((x.toNat : Nat) : Int) = x; omega]; rfl, gr_tail HC.out (fun h => by first | rfl | (exact absurd HCV.out (by omega))), (Gb.refl b w).set 0 _⟩
  ·have e1 : (cv = 1) = False := eq_false hc1
   clear hc1
   go_enter Tryz.func69, Tryz.ntmps69
   go_wp2_with fail
   go_ret
   exact ⟨by rw [show ((headB (x :: t) : Nat) : Int) = x from by show ((x.toNat : Nat) : Int) = x; omega]; rfl, gr_tail HC.out (fun h => by first | rfl | (have := e1; omega)), (Gb.refl b w).set 0 _⟩
theorem psmall_any {w : World} {b : Nat} {l : List Int} {d c : Nat} (h : GrIn w b l d c) : Calls Tryz.prog 68 #[.pointer (some ⟨b, 0, none⟩)] w fun e w' => ∃ v, e = .returned v ∧ RtIn w' v (smallQ l) 4 ∧ GrIn w' b l.tail d c ∧ Gb b w w' := by
 obtain ⟨wa, b2, hwa, hb2, hla, ka⟩ := new_box w #[.bool false, .slice none 0 0, .bool false, .slice none 0 0] 43
 have HH := ZH (h.below hla)
 have HLT := ZH h.lt
 have HLA := ZH hla
 have HKA := ZH ka
 have HW := ZH (ZN hwa hb2)
 clear h hla ka hwa hb2
 go_enter Tryz.func68, Tryz.ntmps68
 go_upto_region 1 with fail
 rw [← HW.out.1, ← HW.out.2]
 go_wp2_with fail
 refine (pnext_any HH.out).mono ?_
 rintro e w2 ⟨rfl, hg2, hgb2⟩
 obtain ⟨z, hz⟩ : ∃ z : Int, z = (headB l : Int) := ⟨_, rfl⟩
 rw [← hz]
 have HG2 := ZH (ZN hg2 hgb2)
 obtain ⟨y, hy⟩ : ∃ y : Int, y = ((headB l % 13 : Nat) : Int) - 6 := ⟨_, rfl⟩
 have HY := ZH (ZN hy (show -6 ≤ y ∧ y ≤ 6 by omega))
 have hz0 : (0 : Int) ≤ z := by omega
 have hz1 : z.tmod 13 = y + 6 := by rw [Int.tmod_eq_emod_of_nonneg hz0]; omega
 have hz2 : wrap64 y = y := IntWalk.wrap64_in _ (by omega)
 clear hg2 hgb2 hz hy hz0
 go_wp2_with fail
 refine (rFrom_any (w := w2) (n := y) (by have := HY.out; omega) (by have := HY.out; omega)).mono ?_
 rintro e w3 ⟨va, rfl, hva, hb3⟩
 have HVA := ZH (rt_int hva)
 have HB3 := ZH hb3
 clear hva hb3 hz1 hz2
 go_wp2_with fail
 refine (rFrom_any (w := w3) (n := 2) (by omega) (by omega)).mono ?_
 rintro e w4 ⟨vb, rfl, hvb, hb4⟩
 have HVB := ZH (rt_int hvb)
 have HVA4 := ZH (HVA.out.below hb4)
 have HB4 := ZH (HB3.out.trans (hb4.mono HB3.out.size))
 clear hvb hb4 HVA HB3
 go_wp2_with fail
 refine (ratDiv_any HVA4.out HVB.out (by omega) (by omega) (by omega)).mono ?_
 rintro e w5 ⟨vq, rfl, hvq, hb5⟩
 obtain ⟨s1, a1, c1, l1, s2, a2, c2, l2, rfl⟩ := rt_shape hvq
 rw [show divErr ((2 : Int) : Rat) = 0 from by decide]
 obtain ⟨w6, b6, hw6, hb6, hl6, k6⟩ := new_box w5 #[.bool s1, .slice a1 c1 l1, .bool s2, .slice a2 c2 l2] 43
 have hl26 := (HB4.out.trans (hb5.mono HB4.out.size)).trans (hl6.mono (Nat.le_trans HB4.out.size hb5.size))
 have HQ := ZH (show RtIn w6 _ (smallQ l) 4 from by
  have h := hvq.below hl6
  rw [HY.out.1] at h
  exact h)
 have HL26 := ZH hl26
 have HW6 := ZH (ZN hw6 hb6)
 have k2 := (HG2.out.2.block b2 (by rw [HW.out.1]; simp [HW.out.2]) (by have := HLT.out; have := HW.out.2; simp; omega)).trans HKA.out
 have k2 := (hl26.block b2 (ZL k2)).trans k2
 have HK26 := ZH (ZN k2 k6)
 clear hvq hb5 hw6 hb6 hl6 k6 hl26 k2 HVA4 HVB HB4
 go_upto_region 2 with fail
 rw [← HW6.out.1, ← HW6.out.2]
 clear HW6
 obtain ⟨z0, z1, z2, z3⟩ := cells4 (ZR _ w6) HK26.out.2
 obtain ⟨y0, y1, y2, y3⟩ := cells4 (ZR _ w6) HK26.out.1
 have f0 := ZF HK26.out.1 0
 have f1 := ZF HK26.out.1 1
 have f2 := ZF HK26.out.1 2
 have f3 := ZF HK26.out.1 3
 have hu := But.set4 (b := b2) w6 (.bool s1) (.slice a1 c1 l1) (.bool s2) (.slice a2 c2 l2)
 have HR := ZH (HQ.out.but (nodig4 HK26.out.1) hu)
 have HGR := ZH ((HG2.out.1.below HL26.out).but (nobyte4 HK26.out.1) (by have := HLT.out; have := HW.out.2; omega) hu)
 have hgb6 : Gb b w w6 := ((Gb.of HLA.out).trans HG2.out.2).more HL26.out
 have HGB := ZH (show Gb b w ((((w6.setCell ⟨b2, 0, none⟩ (.bool s1)).setCell ⟨b2, 1, none⟩ (.slice a1 c1 l1)).setCell ⟨b2, 2, none⟩ (.bool s2)).setCell ⟨b2, 3, none⟩ (.slice a2 c2 l2)) from ⟨hgb6.os, hgb6.tape, hgb6.output, Nat.le_trans hgb6.size hu.size, fun k hk hn => (hu.block k (by have := HW.out.2; omega) (Nat.lt_of_lt_of_le hk hgb6.size)).trans (hgb6.block k hk hn)⟩)
 clear hu hgb6 HG2 HLA HL26 HQ HK26
 go_wp2_with fail
 exact bodyPost_ret (v := .agg #[.bool s1, .slice a1 c1 l1, .bool s2, .slice a2 c2 l2]) (by simp [results, Tryz.results68, go_sem, y0, y1, y2, y3]) rfl ⟨_, rfl, HR.out, HGR.out, HGB.out⟩
end Go.Proofs.YtdgimcmappmjdaaGreatDoor
