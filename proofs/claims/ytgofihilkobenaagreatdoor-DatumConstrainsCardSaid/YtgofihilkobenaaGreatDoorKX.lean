/- rational.Parse, dimension.number and dimension.read. -/
import Derived.Test.YtgofihilkobenaaGreatDoorKH
import Derived.Test.YtgofihilkobenaaGreatDoorQSameM
import Derived.Test.YtgofihilkobenaaGreatDoorKO
import Derived.Test.YtgofihilkobenaaGreatDoorKE
import Derived.Test.YtgofihilkobenaaGreatDoorHSmallM
import Derived.Test.YtgofihilkobenaaGreatDoorKQ
import Derived.Test.YtgofihilkobenaaGreatDoorKK
set_option maxRecDepth 100000
namespace Go.Proofs.YtgofihilkobenaaGreatDoor
open Go.RowKit Go.Num Go.Flow
set_option maxHeartbeats 8000000
set_option linter.unusedVariables false

theorem Parse_any' (s : ByteArray) (hs : s.size ≤ 4294967280) {w : World} (hg : Glob w) : Calls Tryz.prog 124 #[.string s] w (ReadPost w s.data.toList 400) := by
 obtain ⟨wa, hwa⟩ : ∃ wa, wa = w.alloc (.cells #[.bool false, .slice none 0 0, .bool false, .slice none 0 0] 65) := ⟨_, rfl⟩
 obtain ⟨bc, hbc⟩ : ∃ b, b = w.heap.size := ⟨_, rfl⟩
 have hal : Below w.heap.size w wa := by rw [hwa]; exact (Below.refl _ w).alloc (Nat.le_refl _) _
 have hblk : wa.heap[bc]? = some (.cells #[.bool false, .slice none 0 0, .bool false, .slice none 0 0] 65 (0, 0)) := by rw [hwa, hbc]; exact heap_alloc_new w _
 have HGbc := Lib.hid (show w.heap.size ≤ bc by omega)
 have HR := Lib.hid (read_any s hs 400 (by omega) (hg.below hal))
 have HW := Lib.hid (And.intro hwa hbc)
 have HAL := Lib.hid (And.intro hal hblk)
 clear hal hblk hwa hbc hg
 go_enter Tryz.func124, Tryz.ntmps124
 go_upto_region 1 with fail
 rw [← HW.out.1, ← HW.out.2]
 clear HW
 go_wp2_with fail
 refine HR.out.mono ?_
 rintro e w1 ⟨v, rfl, hok, hno, hb1⟩
 have hB1 := HAL.out.1.trans (hb1.mono HAL.out.1.size)
 have hk1 := (hb1.block bc (lt_of_block HAL.out.2)).trans HAL.out.2
 obtain ⟨E, hE⟩ : ∃ E, E = readErr s.data.toList 400 := ⟨_, rfl⟩
 rw [← hE] at hok hno ⊢
 have hv : ∃ s1 a1 c1 l1 s2 a2 c2 l2, v = .agg #[.bool s1, .slice a1 c1 l1, .bool s2, .slice a2 c2 l2] := by
  by_cases h : E = 0
  ·exact rt_shape (hok h)
  ·exact ⟨_, _, _, _, _, _, _, _, hno h⟩
 obtain ⟨s1, a1, c1, l1, s2, a2, c2, l2, rfl⟩ := hv
 have z0 := block_cell hk1 0
 have z1 := block_cell hk1 1
 have z2 := block_cell hk1 2
 have z3 := block_cell hk1 3
 have f0 := block_free hk1 0
 have f1 := block_free hk1 1
 have f2 := block_free hk1 2
 have f3 := block_free hk1 3
 simp at z0 z1 z2 z3
 have hbf := (((hB1.setCell (p := ⟨bc, 0, none⟩) HGbc.out (.bool s1)).setCell (p := ⟨bc, 1, none⟩) HGbc.out (.slice a1 c1 l1)).setCell (p := ⟨bc, 2, none⟩) HGbc.out (.bool s2)).setCell (p := ⟨bc, 3, none⟩) HGbc.out (.slice a2 c2 l2)
 have HF := Lib.hid (And.intro hE (And.intro hno hbf))
 have HI := Lib.hid (show E = 0 → _ from fun h => (hok h).store4 hk1 (.bool s1) (.slice a1 c1 l1) (.bool s2) (.slice a2 c2 l2))
 clear hok hno hbf hE hk1 hB1 hb1
 go_wp2_with fail
 exact bodyPost_ret (v := .tuple #[.agg #[.bool s1, .slice a1 c1 l1, .bool s2, .slice a2 c2 l2], .int .i64 E]) (by simp [results, Tryz.results124, go_sem, z0, z1, z2, z3]) rfl ⟨_, by rw [HF.out.1], fun h => HI.out (HF.out.1.trans h), fun h => HF.out.2.1 (by rw [HF.out.1]; exact h), HF.out.2.2⟩
theorem number_any (s : ByteArray) (hs : s.size ≤ 4294967280) {w : World} (hg : Glob w) : Calls Tryz.prog 91 #[.string s] w (ReadPost w s.data.toList 400) := by
 have hlen : s.data.toList.length = s.size := by rw [Array.length_toList]; rfl
 obtain ⟨wa, hwa⟩ : ∃ wa, wa = w.alloc (.cells #[.bool false, .slice none 0 0, .bool false, .slice none 0 0] 65) := ⟨_, rfl⟩
 obtain ⟨bc, hbc⟩ : ∃ b, b = w.heap.size := ⟨_, rfl⟩
 have hal : Below w.heap.size w wa := by rw [hwa]; exact (Below.refl _ w).alloc (Nat.le_refl _) _
 have hblk : wa.heap[bc]? = some (.cells #[.bool false, .slice none 0 0, .bool false, .slice none 0 0] 65 (0, 0)) := by rw [hwa, hbc]; exact heap_alloc_new w _
 have HGbc := Lib.hid (show w.heap.size ≤ bc by omega)
 have HR := Lib.hid (Parse_any' s hs (hg.below hal))
 have HW := Lib.hid (And.intro hwa hbc)
 have HAL := Lib.hid (And.intro hal hblk)
 clear hal hblk hwa hbc hg
 by_cases h4 : 400 < s.size
 ·have e1 : ((400 : Int) < (s.size : Int)) = True := eq_true (by omega)
  have HE := Lib.hid (show readErr s.data.toList 400 = 5 by unfold readErr; rw [if_pos (by omega)])
  clear h4 hlen
  go_enter Tryz.func91, Tryz.ntmps91
  go_upto_region 1 with fail
  rw [← HW.out.1, ← HW.out.2]
  clear HW HR
  have hk1 := HAL.out.2
  have z0 := block_cell hk1 0
  have z1 := block_cell hk1 1
  have z2 := block_cell hk1 2
  have z3 := block_cell hk1 3
  have f0 := block_free hk1 0
  have f1 := block_free hk1 1
  have f2 := block_free hk1 2
  have f3 := block_free hk1 3
  simp at z0 z1 z2 z3
  have HF := Lib.hid ((((HAL.out.1.setCell (p := ⟨bc, 0, none⟩) HGbc.out (.bool false)).setCell (p := ⟨bc, 1, none⟩) HGbc.out (.slice none 0 0)).setCell (p := ⟨bc, 2, none⟩) HGbc.out (.bool false)).setCell (p := ⟨bc, 3, none⟩) HGbc.out (.slice none 0 0))
  clear hk1
  go_wp2_with fail
  exact bodyPost_ret (v := .tuple #[.agg #[.bool false, .slice none 0 0, .bool false, .slice none 0 0], .int .i64 5]) (by simp [results, Tryz.results91, go_sem, z0, z1, z2, z3]) rfl ⟨_, by rw [HE.out], fun h => absurd (HE.out.symm.trans h) (by decide), fun _ => rfl, HF.out⟩
 ·have e1 : ((400 : Int) < (s.size : Int)) = False := eq_false (by omega)
  clear h4 hlen
  go_enter Tryz.func91, Tryz.ntmps91
  go_upto_region 1 with fail
  rw [← HW.out.1, ← HW.out.2]
  clear HW
  go_wp2_with fail
  refine HR.out.mono ?_
  rintro e w1 ⟨v, rfl, hok, hno, hb1⟩
  have hB1 := HAL.out.1.trans (hb1.mono HAL.out.1.size)
  have hk1 := (hb1.block bc (lt_of_block HAL.out.2)).trans HAL.out.2
  obtain ⟨E, hE⟩ : ∃ E, E = readErr s.data.toList 400 := ⟨_, rfl⟩
  rw [← hE] at hok hno ⊢
  have hv : ∃ s1 a1 c1 l1 s2 a2 c2 l2, v = .agg #[.bool s1, .slice a1 c1 l1, .bool s2, .slice a2 c2 l2] := by
   by_cases h : E = 0
   ·exact rt_shape (hok h)
   ·exact ⟨_, _, _, _, _, _, _, _, hno h⟩
  obtain ⟨s1, a1, c1, l1, s2, a2, c2, l2, rfl⟩ := hv
  have z0 := block_cell hk1 0
  have z1 := block_cell hk1 1
  have z2 := block_cell hk1 2
  have z3 := block_cell hk1 3
  have f0 := block_free hk1 0
  have f1 := block_free hk1 1
  have f2 := block_free hk1 2
  have f3 := block_free hk1 3
  simp at z0 z1 z2 z3
  have hbf := (((hB1.setCell (p := ⟨bc, 0, none⟩) HGbc.out (.bool s1)).setCell (p := ⟨bc, 1, none⟩) HGbc.out (.slice a1 c1 l1)).setCell (p := ⟨bc, 2, none⟩) HGbc.out (.bool s2)).setCell (p := ⟨bc, 3, none⟩) HGbc.out (.slice a2 c2 l2)
  have HF := Lib.hid (And.intro hE (And.intro hno hbf))
  have HI := Lib.hid (show E = 0 → _ from fun h => (hok h).store4 hk1 (.bool s1) (.slice a1 c1 l1) (.bool s2) (.slice a2 c2 l2))
  clear hok hno hbf hE hk1 hB1 hb1
  go_wp2_with fail
  exact bodyPost_ret (v := .tuple #[.agg #[.bool s1, .slice a1 c1 l1, .bool s2, .slice a2 c2 l2], .int .i64 E]) (by simp [results, Tryz.results91, go_sem, z0, z1, z2, z3]) rfl ⟨_, by rw [HF.out.1], fun h => HI.out (HF.out.1.trans h), fun h => HF.out.2.1 (by rw [HF.out.1]; exact h), HF.out.2.2⟩
theorem mread_any (s : ByteArray) (hs : s.size ≤ 4294967280) {w : World} (hg : Glob w) (h0 : readErr s.data.toList 65536 = 0) : Calls Tryz.prog 92 #[.string s] w fun e w' => ∃ v, e = .returned v ∧ RtIn w' v (readVal s.data.toList) (s.data.toList.length + 2) ∧ Below w.heap.size w w' := by
 obtain ⟨wa, hwa⟩ : ∃ wa, wa = w.alloc (.cells #[.bool false, .slice none 0 0, .bool false, .slice none 0 0] 65) := ⟨_, rfl⟩
 obtain ⟨bc, hbc⟩ : ∃ b, b = w.heap.size := ⟨_, rfl⟩
 have hal : Below w.heap.size w wa := by rw [hwa]; exact (Below.refl _ w).alloc (Nat.le_refl _) _
 have hblk : wa.heap[bc]? = some (.cells #[.bool false, .slice none 0 0, .bool false, .slice none 0 0] 65 (0, 0)) := by rw [hwa, hbc]; exact heap_alloc_new w _
 have HGbc := Lib.hid (show w.heap.size ≤ bc by omega)
 have HR := Lib.hid (Read_any s hs (hg.below hal))
 have HW := Lib.hid (And.intro hwa hbc)
 have HAL := Lib.hid (And.intro hal hblk)
 clear hal hblk hwa hbc hg
 have H0 := Lib.hid h0
 clear h0
 go_enter Tryz.func92, Tryz.ntmps92
 go_upto_region 1 with fail
 rw [← HW.out.1, ← HW.out.2]
 clear HW
 go_wp2_with fail
 refine HR.out.mono ?_
 rintro e w1 ⟨v, rfl, hok, hno, hb1⟩
 have hrt := hok H0.out
 rw [H0.out]
 obtain ⟨s1, a1, c1, l1, s2, a2, c2, l2, rfl⟩ := rt_shape hrt
 have hB1 := HAL.out.1.trans (hb1.mono HAL.out.1.size)
 have hk1 := (hb1.block bc (lt_of_block HAL.out.2)).trans HAL.out.2
 have HX := Lib.hid (And.intro hrt (And.intro hB1 hk1))
 clear hok hno hb1 hrt hB1 hk1 HR
 go_upto_region 2 with fail
 obtain ⟨w2, hw2⟩ : ∃ x, x = w1.alloc (.cells #[.bool s1, .slice a1 c1 l1, .bool s2, .slice a2 c2 l2] 65) := ⟨_, rfl⟩
 obtain ⟨bd, hbd⟩ : ∃ b, b = w1.heap.size := ⟨_, rfl⟩
 rw [← hw2, ← hbd]
 have hl2 : Below w1.heap.size w1 w2 := by rw [hw2]; exact (Below.refl _ w1).alloc (Nat.le_refl _) _
 have kd : w2.heap[bd]? = some (.cells #[.bool s1, .slice a1 c1 l1, .bool s2, .slice a2 c2 l2] 65 (0, 0)) := by rw [hw2, hbd]; exact heap_alloc_new w1 _
 have hk2 := (hl2.block bc (lt_of_block HX.out.2.2)).trans HX.out.2.2
 have y0 := block_cell kd 0
 have y1 := block_cell kd 1
 have y2 := block_cell kd 2
 have y3 := block_cell kd 3
 have z0 := block_cell hk2 0
 have z1 := block_cell hk2 1
 have z2 := block_cell hk2 2
 have z3 := block_cell hk2 3
 have f0 := block_free hk2 0
 have f1 := block_free hk2 1
 have f2 := block_free hk2 2
 have f3 := block_free hk2 3
 simp at y0 y1 y2 y3 z0 z1 z2 z3
 have hB2 := HX.out.2.1.trans (hl2.mono HX.out.2.1.size)
 have HF := Lib.hid ((((hB2.setCell (p := ⟨bc, 0, none⟩) HGbc.out (.bool s1)).setCell (p := ⟨bc, 1, none⟩) HGbc.out (.slice a1 c1 l1)).setCell (p := ⟨bc, 2, none⟩) HGbc.out (.bool s2)).setCell (p := ⟨bc, 3, none⟩) HGbc.out (.slice a2 c2 l2))
 have HI := Lib.hid ((HX.out.1.below hl2).store4 hk2 (.bool s1) (.slice a1 c1 l1) (.bool s2) (.slice a2 c2 l2))
 clear hw2 hbd hl2 kd hk2 hB2
 go_wp2_with fail
 exact bodyPost_ret (v := .agg #[.bool s1, .slice a1 c1 l1, .bool s2, .slice a2 c2 l2]) (by simp [results, Tryz.results92, go_sem, z0, z1, z2, z3]) rfl ⟨_, rfl, HI.out, HF.out⟩
end Go.Proofs.YtgofihilkobenaaGreatDoor
/- dimension.Value: the value of a form. -/
set_option maxRecDepth 100000
namespace Go.Proofs.YtgofihilkobenaaGreatDoor
open List renaming setIfInBounds_toArray → zLa, set_cons_zero → zLb, set_cons_succ → zLc
open FlowR renaming putSel → zFp
open Act renaming put → zAp
open Nat renaming zero_add → zNz
open Flow.Steps renaming cons → zSc, nil → zSn
open FlowR.Step renaming of → zSo
open Go.RowKit Go.Num Go.Flow Go.Dtm
set_option maxHeartbeats 8000000
set_option linter.unusedVariables false

def valueTo (c : List UInt8) (L : List (Nat × List UInt8)) (rs : List Rat) (k : Nat) : Rat := (L.take k).foldl (fun a p => a + readVal p.2 * rs.getD p.1 0) (readVal c)
theorem valueTo_succ {c : List UInt8} {L : List (Nat × List UInt8)} {rs : List Rat} {k : Nat} (h : k < L.length) : valueTo c L rs (k + 1) = valueTo c L rs k + readVal (L.getD k (0, [])).2 * rs.getD (L.getD k (0, [])).1 0 := by
 unfold valueTo
 rw [List.take_add_one, List.getElem?_eq_getElem h, List.foldl_append, List.getD_eq_getElem?_getD, List.getElem?_eq_getElem h]
 rfl
theorem mValue_any {w : World} (hg : Glob w) {v : Value} {c : List UInt8} {L : List (Nat × List UInt8)} (hf : FormAt w v c L) (hL : L.length ≤ 1000) {ar : Option Addr} {cr : Nat} {rs : List Rat} {K : Nat} (hr : RatsAt w ar cr rs K) (hK : 2 ≤ K) {S : Nat} (hc : c.length ≤ S) (hc0 : readErr c 65536 = 0) (hS : S ≤ 60000)
  (ht : ∀ j, j < L.length → (L.getD j (0, [])).1 < rs.length ∧ (L.getD j (0, [])).2.length ≤ S ∧ readErr (L.getD j (0, [])).2 65536 = 0) (hb : (S + 2) + (L.length + 1) * (S + K + 3) ≤ 900000) :
  Calls Tryz.prog 48 #[v, .slice ar rs.length cr] w fun e w' => ∃ v', e = .returned (.tuple #[v', .int .i64 0]) ∧ RtIn w' v' (valueTo c L rs L.length) ((S + 2) + L.length * (S + K + 3)) ∧ Below w.heap.size w w' := by
 obtain ⟨tv, rfl, ao, ca, rfl, hta, htb, htc⟩ := hf
 obtain ⟨n, hn⟩ : ∃ n, n = L.length := ⟨_, rfl⟩
 obtain ⟨nr, hnr⟩ : ∃ n, n = rs.length := ⟨_, rfl⟩
 obtain ⟨s, hs⟩ : ∃ s : ByteArray, s = ⟨c.toArray⟩ := ⟨_, rfl⟩
 have hsl : s.data.toList = c := by rw [hs]
 obtain ⟨wa, hwa⟩ : ∃ wa, wa = (w.alloc (.cells #[.string s, .slice ao n ca] 78)).alloc (.cells #[.bool false, .slice none 0 0, .bool false, .slice none 0 0] 65) := ⟨_, rfl⟩
 obtain ⟨bf, hbf⟩ : ∃ b, b = w.heap.size := ⟨_, rfl⟩
 obtain ⟨b4, hb4⟩ : ∃ b, b = w.heap.size + 1 := ⟨_, rfl⟩
 have hal : Below w.heap.size w wa := by rw [hwa]; exact ((Below.refl _ w).alloc (Nat.le_refl _) _).alloc (by simp) _
 obtain ⟨k0, k1⟩ := two_made w #[.string s, .slice ao n ca] #[.bool false, .slice none 0 0, .bool false, .slice none 0 0] 78 65
 rw [← hwa, ← hbf] at k0
 rw [← hwa, ← hb4] at k1
 have hcap : n ≤ ca ∧ ca ≤ 9223372036854775807 := by rw [hn]; exact ⟨hta, htb⟩
 have hcap2 : nr ≤ cr ∧ cr ≤ 9223372036854775807 := by rw [hnr]; exact ⟨hr.1, hr.2.1⟩
 have hsz : s.size ≤ 4294967280 := by
  have h1 : s.size = c.length := by rw [hs]; simp [ByteArray.size]
  omega
 have HRD := Lib.hid (mread_any s hsz (hg.below hal) (by rw [hsl]; exact hc0))
 have hsl2 : s.data.toList.length = c.length := by rw [hsl]
 have HSL := Lib.hid hsl
 have HG := Lib.hid (hg.below hal)
 have HR := Lib.hid hr.2.2
 have HTC := Lib.hid htc
 have HT := Lib.hid ht
 have HAL := Lib.hid hal
 have HK0 := Lib.hid k0
 have HK1 := Lib.hid k1
 have HNE := Lib.hid (show bf ≠ b4 ∧ w.heap.size ≤ bf ∧ w.heap.size ≤ b4 by omega)
 have HN := Lib.hid (And.intro hn (And.intro hnr (And.intro hL (And.intro hK (And.intro hS (And.intro hb hc))))))
 have HW := Lib.hid (And.intro hwa (And.intro hbf hb4))
 rw [← hn, ← hnr, ← hs]
 clear hwa hbf hb4 hal k0 hg hr hta htb htc ht hL hK hS hb hc hc0 hs hsl hsz hsl2
 have s0 := block_cell HK0.out 0
 have s1 := block_cell HK0.out 1
 simp at s0 s1
 have hn1 : n ≤ 1000 := by have := HN.out; omega
 clear hn hnr k1
 go_enter Tryz.func48, Tryz.ntmps48
 go_upto_region 1 with fail
 rw [← HW.out.1, ← HW.out.2.2, ← HW.out.2.1]
 clear HW
 go_wp2_with fail
 refine HRD.out.mono ?_
 rintro e w1 ⟨v1, rfl, hr1, hb1⟩
 rw [HSL.out] at hr1
 obtain ⟨p1, g1, f1, n1, p2, g2, f2, n2, rfl⟩ := rt_shape hr1
 have HR1 := Lib.hid hr1
 have HB1 := Lib.hid hb1
 clear hr1 hb1 s0 s1
 go_upto_region 2 with fail
 obtain ⟨w2, hw2⟩ : ∃ x, x = w1.alloc (.cells #[.bool p1, .slice g1 f1 n1, .bool p2, .slice g2 f2 n2] 65) := ⟨_, rfl⟩
 obtain ⟨bo, hbo⟩ : ∃ b, b = w1.heap.size := ⟨_, rfl⟩
 rw [← hw2, ← hbo]
 have hl2 : Below w1.heap.size w1 w2 := by rw [hw2]; exact (Below.refl _ w1).alloc (Nat.le_refl _) _
 have kb : w2.heap[bo]? = some (.cells #[.bool p1, .slice g1 f1 n1, .bool p2, .slice g2 f2 n2] 65 (0, 0)) := by rw [hw2, hbo]; exact heap_alloc_new w1 _
 have HKB2 := Lib.hid kb
 have HACC2 := Lib.hid (show RtIn w2 (.agg #[.bool p1, .slice g1 f1 n1, .bool p2, .slice g2 f2 n2]) (valueTo c L rs 0) (S + 2 + 0 * (S + K + 3)) from by
  rw [Nat.zero_mul]
  exact (HR1.out.below hl2).more (by have := HN.out; omega))
 have HB2 := Lib.hid (HB1.out.trans (hl2.mono HB1.out.size))
 have HBO := Lib.hid (show wa.heap.size ≤ bo by rw [hbo]; exact HB1.out.size)
 have hkf := (HB2.out.block bf (lt_of_block HK0.out)).trans HK0.out
 have s0 := block_cell hkf 0
 have s1 := block_cell hkf 1
 simp at s0 s1
 clear hw2 hbo hl2 kb hkf HR1 HB1
 go_wp2_with fail
 clear s0 s1
 go_loopg [15] n (fun gk x wr => ∃ k : Nat, k + gk = n ∧ x = .int .i64 k ∧ Hid (∃ s1 a1 c1 l1 s2 a2 c2 l2, wr.heap[bo]? = some (.cells #[.bool s1, .slice a1 c1 l1, .bool s2, .slice a2 c2 l2] 65 (0, 0)) ∧ RtIn wr (.agg #[.bool s1, .slice a1 c1 l1, .bool s2, .slice a2 c2 l2]) (valueTo c L rs k) (S + 2 + k * (S + K + 3))) ∧ Hid (Below wa.heap.size wa wr))
 case atStart => exact ⟨0, by omega, rfl, Lib.hid ⟨_, _, _, _, _, _, _, _, HKB2.out, HACC2.out⟩, HB2⟩
 case round =>
  obtain ⟨k, hk, rfl, hacc, hbw⟩ := hrel
  obtain ⟨s1, a1, c1, l1, s2, a2, c2, l2, hkb, hrt⟩ := hacc.out
  by_cases hlt : k < n
  ·have e1 : ((k : Int) < (n : Int)) = True := eq_true (by omega)
   obtain ⟨g, o, rfl, -, hcc⟩ := HTC.out (by have := HN.out.1; omega)
   have hx := hcc k (by have := HN.out.1; omega)
   have htk := HT.out k (by have := HN.out.1; omega)
   have hvs := valueTo_succ (c := c) (rs := rs) (show k < L.length by have := HN.out.1; omega)
   obtain ⟨⟨ti, tl⟩, htt⟩ : ∃ x, x = L.getD k (0, []) := ⟨_, rfl⟩
   rw [← htt] at hx htk hvs
   simp only [] at hx htk hvs
   obtain ⟨tt, htx⟩ : ∃ s : ByteArray, s = ⟨tl.toArray⟩ := ⟨_, rfl⟩
   rw [← htx] at hx
   obtain ⟨rb, ro, rfl, -, hrc⟩ := HR.out (by omega)
   obtain ⟨q, hq⟩ : ∃ x, x = rs.getD ti 0 := ⟨_, rfl⟩
   obtain ⟨tq, htq⟩ : ∃ x, x = readVal tl := ⟨_, rfl⟩
   have hy := hrc ti htk.1
   rw [← hq] at hy hvs
   rw [← htq] at hvs
   have hbw0 := HAL.out.trans (hbw.out.mono HAL.out.size)
   have x0 := cell_below hbw0 hx.1
   have x1 := cell_below hbw0 hx.2
   have hrd := fun (W : World) (hgW : Glob W) => mread_any tt (by
    have h1 : tt.size = tl.length := by rw [htx]; simp [ByteArray.size]
    have h2 := HN.out
    omega) hgW (by rw [htx]; exact htk.2.2)
   rw [show tt.data.toList = tl by rw [htx], ← htq] at hrd
   obtain ⟨t1, b1, d1, m1, t2, b2, d2, m2, r0, r1, r2, r3, hrq⟩ := hy
   have HY := Lib.hid (And.intro (cell_below hbw0 r0) (And.intro (cell_below hbw0 r1) (And.intro (cell_below hbw0 r2) (And.intro (cell_below hbw0 r3) (hrq.below hbw0)))))
   have HRDT := Lib.hid hrd
   have HVS := Lib.hid hvs
   have HLT := Lib.hid (And.intro hlt (And.intro htk.1 htk.2.1))
   have HKB := Lib.hid hkb
   have HACC := Lib.hid hrt
   have hk0 : (0 : Int) ≤ (k : Int) := by omega
   have hk1 : (k : Int) < (n : Int) := by omega
   have e2 : ((nr : Int) ≤ (ti : Int)) = False := eq_false (by have := HN.out.2.1; have := htk.1; omega)
   obtain ⟨va, hva⟩ : ∃ x, x = valueTo c L rs k := ⟨_, rfl⟩
   rw [← hva] at HACC HVS
   clear hcc hx htk hvs htt htx hrc hq htq hbw0 hrd r0 r1 r2 r3 hrq hlt hkb hrt hacc hva
   go_upto_region 5 with fail
   obtain ⟨w3, hw3⟩ : ∃ x, x = wr.alloc (.cells #[.int .i64 (ti : Int), .string tt] 146) := ⟨_, rfl⟩
   obtain ⟨bt, hbt⟩ : ∃ b, b = wr.heap.size := ⟨_, rfl⟩
   rw [← hw3, ← hbt]
   have hl3 : Below wr.heap.size wr w3 := by rw [hw3]; exact (Below.refl _ wr).alloc (Nat.le_refl _) _
   have kt : w3.heap[bt]? = some (.cells #[.int .i64 (ti : Int), .string tt] 146 (0, 0)) := by rw [hw3, hbt]; exact heap_alloc_new wr _
   have HKT := Lib.hid kt
   have HL3 := Lib.hid hl3
   have HB3 := Lib.hid (hbw.out.trans (hl3.mono hbw.out.size))
   have HKB3 := Lib.hid ((hl3.block bo (lt_of_block HKB.out)).trans HKB.out)
   have HACC3 := Lib.hid (HACC.out.below hl3)
   have HY3 := Lib.hid (And.intro (cell_below hl3 HY.out.1) (And.intro (cell_below hl3 HY.out.2.1) (And.intro (cell_below hl3 HY.out.2.2.1) (And.intro (cell_below hl3 HY.out.2.2.2.1) (HY.out.2.2.2.2.below hl3)))))
   have HW3 := Lib.hid (Below.refl w3.heap.size w3)
   have y0 := block_cell kt 0
   have y1 := block_cell kt 1
   simp at y0 y1
   have HBD := Lib.hid (show S + 2 + k * (S + K + 3) + (S + 2 + K) + 1 ≤ 900000 by
    have h1 := HN.out.2.2.2.2.2.1
    have h2 : (k + 1) * (S + K + 3) ≤ (L.length + 1) * (S + K + 3) := Nat.mul_le_mul_right _ (by have h3 := HLT.out.1; have h4 := HN.out.1; omega)
    rw [Nat.add_mul, Nat.one_mul] at h2
    omega)
   have ht0 : (0 : Int) ≤ (ti : Int) := by omega
   have ht1 : (ti : Int) < (nr : Int) := by have := HN.out.2.1; have := HLT.out.2.1; omega
   clear hw3 hbt hl3 kt x0 x1 hk0 hk1 HKB HACC HY HL3 hbw
   go_upto_region 7 with fail
   clear y0 y1
   refine FlowR.wp_region_sel (fun a b => Below a.heap.size a b) (fun a => Below.refl _ a) (fun _ _ _ h k => h.trans (k.mono h.size)) [0, 1, 2, 3, 4, 5, 6, 7, 8, 9, 10] [false, false, false, false, false, false, false, false, false, false, false, false] [true, true, true, true, true, true, true, true, true, true, true, false] (fun i9 v w' => match i9 with
    | 0 => v = .agg #[.bool s1, .slice a1 c1 l1, .bool s2, .slice a2 c2 l2]
    | 1 => v = .pointer (some ⟨bt, 1, none⟩)
    | 2 => v = .string tt
    | 3 => RtIn w' v tq (S + 2)
    | 4 => v = .slice (some ⟨rb, ro, none⟩) nr cr
    | 5 => v = .pointer (some ⟨bt, 0, none⟩)
    | 6 => v = .int .i64 (ti : Int)
    | 7 => v = .pointer (some ⟨rb, ro + ti * 4, none⟩)
    | 8 => v = .agg #[.bool t1, .slice b1 d1 m1, .bool t2, .slice b2 d2 m2]
    | 9 => RtIn w' v (tq * q) (S + 2 + K)
    | _ => RtIn w' v (va + tq * q) (S + 2 + k * (S + K + 3) + (S + 2 + K) + 1)) rfl rfl (by kernel_rfl) (by kernel_rfl) (by kernel_rfl) (by kernel_rfl) ?st ?steps ?fin
   case st =>
    intro i9 v u1 u2 h hb
    match i9 with
    | 0 | 1 | 2 | 4 | 5 | 6 | 7 | 8 => exact h
    | 3 => exact (show RtIn u1 v tq (S + 2) from h).below hb
    | 9 => exact (show RtIn u1 v (tq * q) (S + 2 + K) from h).below hb
    | 10 | _ + 11 => exact (show RtIn u1 v (va + tq * q) (S + 2 + k * (S + K + 3) + (S + 2 + K) + 1) from h).below hb
   case steps =>
    refine zSc (zSo rfl ?s0) (zSc (zSo rfl ?s1) (zSc (zSo rfl ?s2) (zSc (zSo rfl ?s3) (zSc (zSo rfl ?s4) (zSc (zSo rfl ?s5) (zSc (zSo rfl ?s6) (zSc (zSo rfl ?s7) (zSc (zSo rfl ?s8) (zSc (zSo rfl ?s9) (zSc (zSo rfl ?s10) zSn))))))))))
    case s0 =>
     intro xs w' hb hT K9 hK9
     clear hT
     simp only [zFp, zAp, zLa, zLb, zLc, Nat.reduceAdd, zNz] at hK9 ⊢
     have hw := Flow.hwD HW3.out hb
     have kb := (hw.block bo (lt_of_block HKB3.out)).trans HKB3.out
     have y0 := block_cell kb 0
     have y1 := block_cell kb 1
     have y2 := block_cell kb 2
     have y3 := block_cell kb 3
     clear kb
     simp at y0 y1 y2 y3
     go_simp
     exact hK9 _ _ (Below.refl _ _) rfl
    case s1 | s4 | s5 =>
     intro xs w' hb hT K9 hK9
     clear hT
     simp only [zFp, zAp, zLa, zLb, zLc, Nat.reduceAdd, zNz] at hK9 ⊢
     have hw := Flow.hwD HW3.out hb
     go_simp
     exact hK9 _ _ (Below.refl _ _) rfl
    case s2 =>
     intro xs w' hb hT K9 hK9
     have h1 : (xs 1) = .pointer (some ⟨bt, 1, none⟩) := hT 1 (by kernel_rfl)
     clear hT
     simp only [zFp, zAp, zLa, zLb, zLc, Nat.reduceAdd, zNz] at hK9 ⊢
     have hw := Flow.hwD HW3.out hb
     have kb := (hw.block bt (lt_of_block HKT.out)).trans HKT.out
     have y0 := block_cell kb 1
     clear kb
     simp at y0
     (try simp only [h1] at hK9)
     go_simp
     exact hK9 _ _ (Below.refl _ _) rfl
    case s3 =>
     intro xs w' hb hT K9 hK9
     have h2 : (xs 2) = .string tt := hT 2 (by kernel_rfl)
     clear hT
     simp only [zFp, zAp, zLa, zLb, zLc, Nat.reduceAdd, zNz] at hK9 ⊢
     have hw := Flow.hwD HW3.out hb
     (try simp only [h2] at hK9)
     go_simp
     go_at_call 92
     refine (HRDT.out w' (HG.out.below (HB3.out.trans (hw.mono HB3.out.size)))).mono ?_
     rintro e w3 ⟨v3, rfl, hi3, hb3⟩
     exact hK9 _ _ hb3 (hi3.more (by have := HLT.out.2.2; omega))
    case s6 =>
     intro xs w' hb hT K9 hK9
     have h5 : (xs 5) = .pointer (some ⟨bt, 0, none⟩) := hT 5 (by kernel_rfl)
     clear hT
     simp only [zFp, zAp, zLa, zLb, zLc, Nat.reduceAdd, zNz] at hK9 ⊢
     have hw := Flow.hwD HW3.out hb
     have kb := (hw.block bt (lt_of_block HKT.out)).trans HKT.out
     have y0 := block_cell kb 0
     clear kb
     simp at y0
     (try simp only [h5] at hK9)
     go_simp
     exact hK9 _ _ (Below.refl _ _) rfl
    case s7 =>
     intro xs w' hb hT K9 hK9
     have h4 : (xs 4) = .slice (some ⟨rb, ro, none⟩) nr cr := hT 4 (by kernel_rfl)
     have h6 : (xs 6) = .int .i64 (ti : Int) := hT 6 (by kernel_rfl)
     clear hT
     simp only [zFp, zAp, zLa, zLb, zLc, Nat.reduceAdd, zNz] at hK9 ⊢
     have hw := Flow.hwD HW3.out hb
     (try simp only [h4] at hK9)
     (try simp only [h6] at hK9)
     go_simp
     exact hK9 _ _ (Below.refl _ _) rfl
    case s8 =>
     intro xs w' hb hT K9 hK9
     have h7 : (xs 7) = .pointer (some ⟨rb, ro + ti * 4, none⟩) := hT 7 (by kernel_rfl)
     clear hT
     simp only [zFp, zAp, zLa, zLb, zLc, Nat.reduceAdd, zNz] at hK9 ⊢
     have hw := Flow.hwD HW3.out hb
     (try simp only [h7] at hK9)
     have y0 := cell_below hw HY3.out.1
     have y1 := cell_below hw HY3.out.2.1
     have y2 := cell_below hw HY3.out.2.2.1
     have y3 := cell_below hw HY3.out.2.2.2.1
     go_simp
     exact hK9 _ _ (Below.refl _ _) rfl
    case s9 =>
     intro xs w' hb hT K9 hK9
     have h3 : RtIn w' (xs 3) tq (S + 2) := hT 3 (by kernel_rfl)
     have h8 : (xs 8) = .agg #[.bool t1, .slice b1 d1 m1, .bool t2, .slice b2 d2 m2] := hT 8 (by kernel_rfl)
     clear hT
     simp only [zFp, zAp, zLa, zLb, zLc, Nat.reduceAdd, zNz] at hK9 ⊢
     have hw := Flow.hwD HW3.out hb
     (try simp only [h8] at hK9)
     go_simp
     go_at_call 93
     refine (ratMul_any h3 (HY3.out.2.2.2.2.below hw) (by omega) HN.out.2.2.2.1 (by have := HBD.out; omega)).mono ?_
     rintro e w3 ⟨v3, rfl, hi3, hb3⟩
     exact hK9 _ _ hb3 hi3
    case s10 =>
     intro xs w' hb hT K9 hK9
     have h0 : (xs 0) = .agg #[.bool s1, .slice a1 c1 l1, .bool s2, .slice a2 c2 l2] := hT 0 (by kernel_rfl)
     have h9 : RtIn w' (xs 9) (tq * q) (S + 2 + K) := hT 9 (by kernel_rfl)
     clear hT
     simp only [zFp, zAp, zLa, zLb, zLc, Nat.reduceAdd, zNz] at hK9 ⊢
     have hw := Flow.hwD HW3.out hb
     (try simp only [h0] at hK9)
     go_simp
     go_at_call 72
     refine (ratAdd_any (HACC3.out.below hw) h9 (by omega) (by omega) HBD.out).mono ?_
     rintro e w3 ⟨v3, rfl, hi3, hb3⟩
     exact hK9 _ _ hb3 hi3
   case fin =>
    intro xs w' hb hT
    have hw := Flow.hwD HW3.out hb
    have h10 : RtIn w' (xs 10) (va + tq * q) (S + 2 + k * (S + K + 3) + (S + 2 + K) + 1) := hT 10 (by rfl)
    clear hT
    simp only [zFp, zAp, zLa, zLb, zLc, Nat.reduceAdd, zNz, FlowR.restL, FlowR.orM, Bool.false_or]
    obtain ⟨p1', g3, i3, j3, p2', g4, i4, j4, e9⟩ := rt_shape h10
    rw [e9] at h10
    simp only [e9]
    clear e9
    have k9 := (hw.block bo (lt_of_block HKB3.out)).trans HKB3.out
    have x0 := block_cell k9 0
    have x1 := block_cell k9 1
    have x2 := block_cell k9 2
    have x3 := block_cell k9 3
    have f0 := block_free k9 0
    have f1' := block_free k9 1
    have f2' := block_free k9 2
    have f3 := block_free k9 3
    simp at x0 x1 x2 x3
    have hd := h10.but (nodig4 k9) (But.set4 (b := bo) w' (.bool p1') (.slice g3 i3 j3) (.bool p2') (.slice g4 i4 j4))
    have hkd := four_set k9 (.bool p1') (.slice g3 i3 j3) (.bool p2') (.slice g4 i4 j4)
    have hbd := (((((HB3.out.trans (hw.mono HB3.out.size)).setCell (p := ⟨bo, 0, none⟩) HBO.out (.bool p1')).setCell (p := ⟨bo, 1, none⟩) HBO.out (.slice g3 i3 j3)).setCell (p := ⟨bo, 2, none⟩) HBO.out (.bool p2')).setCell (p := ⟨bo, 3, none⟩) HBO.out (.slice g4 i4 j4))
    have HF := Lib.hid (And.intro hkd (And.intro hd hbd))
    clear h10 k9 hd hkd hbd hw hb
    go_wp2_with fail
    go_roundg (n - (k + 1))
    case measure => have := HLT.out.1; omega
    case rel => exact ⟨k + 1, by have := HLT.out.1; omega, by congr 1, Lib.hid ⟨_, _, _, _, _, _, _, _, HF.out.1, by rw [HVS.out, show S + 2 + (k + 1) * (S + K + 3) = S + 2 + k * (S + K + 3) + (S + 2 + K) + 1 by rw [Nat.add_mul, Nat.one_mul]; omega]; exact HF.out.2.1⟩, Lib.hid HF.out.2.2⟩
  ·have e1 : ((k : Int) < (n : Int)) = False := eq_false (by omega)
   obtain rfl : k = n := by omega
   have z0 := block_cell hkb 0
   have z1 := block_cell hkb 1
   have z2 := block_cell hkb 2
   have z3 := block_cell hkb 3
   have hk4 := (hbw.out.block b4 (lt_of_block HK1.out)).trans HK1.out
   have o0 := block_cell hk4 0
   have o1 := block_cell hk4 1
   have o2 := block_cell hk4 2
   have o3 := block_cell hk4 3
   have f0 := block_free hk4 0
   have f1' := block_free hk4 1
   have f2' := block_free hk4 2
   have f3 := block_free hk4 3
   simp at z0 z1 z2 z3 o0 o1 o2 o3
   have hB := HAL.out.trans (hbw.out.mono HAL.out.size)
   have HF := Lib.hid ((((hB.setCell (p := ⟨b4, 0, none⟩) HNE.out.2.2 (.bool s1)).setCell (p := ⟨b4, 1, none⟩) HNE.out.2.2 (.slice a1 c1 l1)).setCell (p := ⟨b4, 2, none⟩) HNE.out.2.2 (.bool s2)).setCell (p := ⟨b4, 3, none⟩) HNE.out.2.2 (.slice a2 c2 l2))
   have HI := Lib.hid (hrt.but (nodig4 hk4) (But.set4 (b := b4) wr (.bool s1) (.slice a1 c1 l1) (.bool s2) (.slice a2 c2 l2)))
   clear hB hk4 hkb hrt hacc hbw
   go_wp2_with fail
   exact bodyPost_ret (v := .tuple #[.agg #[.bool s1, .slice a1 c1 l1, .bool s2, .slice a2 c2 l2], .int .i64 0]) (by simp [results, Tryz.results48, go_sem, o0, o1, o2, o3]) rfl ⟨_, rfl, HI.out, HF.out⟩
end Go.Proofs.YtgofihilkobenaaGreatDoor
/- dimension.Find: IndexFunc at dimensions. -/
set_option maxRecDepth 100000
namespace Go.Proofs.YtgofihilkobenaaGreatDoor
open Go.RowKit Go.Num Go.Flow Go.Dtm
set_option maxHeartbeats 8000000
set_option linter.unusedVariables false

theorem sIndexD_any {w : World} {ao : Option Addr} {c : Nat} {zs : List Dm} (h : DimsIn w ao c zs) (hsm : zs.length ≤ 1000000) {k : Nat} {caps : Array Value} (he : ∀ (args : Array Value) (W : World), (callFunc k args).run Tryz.prog W = .ok (.enter k args) W) (p : Nat → Bool)
  (hp : ∀ (W : World) (j : Nat), j < zs.length → Below w.heap.size w W → Calls Tryz.prog k (#[dmV (zs.getD j Dm.none)] ++ caps) W fun e w' => e = .returned (.bool (p j)) ∧ Below W.heap.size W w') :
  Calls Tryz.prog 122 #[.slice ao zs.length c, .func (.func k) #[] caps] w fun e w' => e = .returned (.int .i64 (pos p zs.length 0)) ∧ Below w.heap.size w w' := by
 obtain ⟨n, hn⟩ : ∃ n, n = zs.length := ⟨_, rfl⟩
 obtain ⟨h1, h2, h3⟩ := h
 rw [← hn] at h1 h3 hsm hp ⊢
 unfold maxLen at h2
 have H3 := Lib.hid h3
 have HP := Lib.hid hp
 clear h3 hp hn
 go_enter Tryz.func122, Tryz.ntmps122
 go_wp2_with fail
 go_loopw [8] (fun i wr => ∃ m : Nat, m ≤ n ∧ i = .int .i64 m ∧ Hid (∀ j, j < m → p j = false) ∧ Hid (Below w.heap.size w wr)) (fun i _ => n - (intOf i).toNat)
 case atStart => exact ⟨0, Nat.zero_le _, rfl, Lib.hid (fun j hj => absurd hj (by omega)), Lib.hid (Below.refl _ _)⟩
 case round =>
  obtain ⟨m, hmn, rfl, hno, hbw⟩ := hrel
  by_cases hlt : m < n
  ·have e1 : ((m : Int) < (n : Int)) = True := eq_true (by omega)
   obtain ⟨b, o, rfl, hl, hc⟩ := H3.out (by omega)
   have HX := hc m hlt
   have x0 := cell_below hbw.out (HX.1)
   have x1 := cell_below hbw.out (HX.2.1)
   have x2 := cell_below hbw.out (HX.2.2.1)
   have x3 := cell_below hbw.out (HX.2.2.2)
   have hi0 : (0 : Int) ≤ (m : Int) := by omega
   have hi1 : (m : Int) < (n : Int) := by omega
   have HC := Lib.hid (HP.out wr m hlt hbw.out)
   unfold dmV at HC
   clear HX hc
   generalize zs.getD m Dm.none = x at *
   go_upto_region 4 with fail
   go_wp2_with fail
   refine HC.out.mono ?_
   rintro e w1 ⟨rfl, hb1⟩
   have hB1 := hbw.out.trans (hb1.mono hbw.out.size)
   have HB1 := Lib.hid hB1
   clear hB1 hb1
   cases hpm : p m with
   | true =>
    have HN := Lib.hid (pos_some (p := p) (n := n) (k := 0) (i := m) (Nat.zero_le _) (by omega) (fun j _ h => hno.out j h) hpm)
    go_wp2_with fail
    go_ret
    exact ⟨by rw [HN.out]; rfl, HB1.out⟩
   | false =>
    go_wp2_with fail
    refine ⟨⟨m + 1, hlt, by congr 1, Lib.hid fun j hj => ?_, Lib.hid HB1.out⟩, by simp [intOf]; omega⟩
    by_cases h : j < m
    ·exact hno.out j h
    ·obtain rfl : j = m := by omega
     exact hpm
  ·have e1 : ((m : Int) < (n : Int)) = False := eq_false (by omega)
   obtain rfl : m = n := by omega
   have HN := Lib.hid (pos_none (p := p) (n := m) (k := 0) (fun j _ h => hno.out j (by omega)))
   go_wp2_with fail
   go_ret
   exact ⟨by rw [HN.out]; rfl, hbw.out⟩
theorem enters_f1 (args : Array Value) (w : World) : (callFunc 123 args).run Tryz.prog w = .ok (.enter 123 args) w := by
 exact enters_of Tryz.func123 (by kernel_rfl) rfl args w
theorem mFind1_any {W : World} {b : Nat} {s : ByteArray} (d : Dm) (h : W.cell? ⟨b, 0, none⟩ = some (.string s)) : Calls Tryz.prog 123 (#[dmV d] ++ #[.pointer (some ⟨b, 0, none⟩)]) W fun e w' => e = .returned (.bool (d.name.toList == s.toList)) ∧ Below W.heap.size W w' := by
 unfold dmV
 have hal : Below W.heap.size W (W.alloc (.cells #[.string d.name, .int .i64 d.nominal, .int .i64 d.lower, .int .i64 d.upper] 60)) := (Below.refl _ W).alloc (Nat.le_refl _) _
 have y0 := cell_below hal h
 have HAL := Lib.hid hal
 clear hal h
 show Calls Tryz.prog 123 #[_, .pointer (some ⟨b, 0, none⟩)] W _
 go_enter Tryz.func123, Tryz.ntmps123
 go_wp2_with fail
 go_ret
 exact ⟨rfl, HAL.out⟩
/-- The index of a dimension of a name, or -1. -/
def dimAt (D : List Dm) (s : ByteArray) : Int := pos (fun j => (D.getD j Dm.none).name.toList == s.toList) D.length 0
theorem mFind_any {w : World} {ao : Option Addr} {c : Nat} {D : List Dm} (h : DimsIn w ao c D) (hsm : D.length ≤ 1000000) (s : ByteArray) :
  Calls Tryz.prog 90 #[.slice ao D.length c, .string s] w fun e w' => e = .returned (.tuple #[.int .i64 (max (dimAt D s) 0), .bool (decide (0 ≤ dimAt D s))]) ∧ Below w.heap.size w w' := by
 obtain ⟨wa, hwa⟩ : ∃ wa, wa = w.alloc (.cells #[.string s] 9) := ⟨_, rfl⟩
 obtain ⟨ba, hba⟩ : ∃ b, b = w.heap.size := ⟨_, rfl⟩
 have hal : Below w.heap.size w wa := by rw [hwa]; exact (Below.refl _ w).alloc (Nat.le_refl _) _
 have k0 : wa.heap[ba]? = some (.cells #[.string s] 9 (0, 0)) := by rw [hwa, hba]; exact heap_alloc_new w _
 have HI := Lib.hid (sIndexD_any (h.below hal) hsm (k := 123) (caps := #[.pointer (some ⟨ba, 0, none⟩)]) enters_f1 (fun j => (D.getD j Dm.none).name.toList == s.toList) (fun W j hj hb => mFind1_any _ (by
  have := block_cell ((hb.block ba (lt_of_block k0)).trans k0) 0
  simpa using this)))
 have HAL := Lib.hid hal
 have HW := Lib.hid (And.intro hwa hba)
 obtain ⟨r, hr⟩ : ∃ x, x = dimAt D s := ⟨_, rfl⟩
 rw [show pos (fun j => (D.getD j Dm.none).name.toList == s.toList) D.length 0 = r from hr.symm] at HI
 rw [← hr]
 obtain ⟨n, hn⟩ : ∃ n, n = D.length := ⟨_, rfl⟩
 rw [← hn] at HI ⊢
 clear hal k0 h hsm hwa hba hr hn
 go_enter Tryz.func90, Tryz.ntmps90
 go_upto_region 1 with fail
 rw [← HW.out.1, ← HW.out.2]
 clear HW
 go_wp2_with fail
 refine HI.out.mono ?_
 rintro e w1 ⟨rfl, hb1⟩
 have HB := Lib.hid (HAL.out.trans (hb1.mono HAL.out.size))
 clear hb1
 go_wp2_with fail
 exact bodyPost_ret (v := .tuple #[.int .i64 (max r 0), .bool (decide (0 ≤ r))]) (by simp [results, Tryz.results90, go_sem]) rfl ⟨rfl, HB.out⟩
end Go.Proofs.YtgofihilkobenaaGreatDoor
/- dimension.Check: the first error of dimensions. -/
set_option maxRecDepth 100000
namespace Go.Proofs.YtgofihilkobenaaGreatDoor
open List renaming setIfInBounds_toArray → zLa, set_cons_zero → zLb, set_cons_succ → zLc
open FlowR renaming putSel → zFp
open Act renaming put → zAp
open Nat renaming zero_add → zNz
open Flow.Steps renaming cons → zSc, nil → zSn
open FlowR.Step renaming of → zSo
open Go.RowKit Go.Num Go.Flow Go.Dtm
set_option maxHeartbeats 8000000
set_option linter.unusedVariables false

def farM (n : Int) : Bool := decide (1073741824 < n) || decide (n < -1073741824)
theorem mfar_any (n : Int) {W : World} : Calls Tryz.prog 89 #[.int .i64 n] W fun e w' => e = .returned (.bool (farM n)) ∧ Below W.heap.size W w' := by
 rcases (show (1073741824 < n ∧ farM n = true) ∨ (¬ 1073741824 < n ∧ n < -1073741824 ∧ farM n = true) ∨ (¬ 1073741824 < n ∧ ¬ n < -1073741824 ∧ farM n = false) by
  unfold farM
  by_cases h1 : 1073741824 < n <;> by_cases h2 : n < -1073741824 <;> simp [h1, h2]) with ⟨h1, h3⟩ | ⟨h1, h2, h3⟩ | ⟨h1, h2, h3⟩
 all_goals
  have HE2 := Lib.hid h3
  clear h3
  go_enter Tryz.func89, Tryz.ntmps89
  go_wp2_with fail
  go_ret
  exact ⟨by rw [HE2.out]; rfl, Below.refl _ _⟩
def dimErr (D : List Dm) (i : Nat) : Int :=
 if isName (D.getD i Dm.none).name = false then 11
 else if (farM (D.getD i Dm.none).nominal || farM (D.getD i Dm.none).lower || farM (D.getD i Dm.none).upper) = true then 2
 else if (D.getD i Dm.none).upper < (D.getD i Dm.none).lower then 8
 else if 0 ≤ dimAt (D.take i) (D.getD i Dm.none).name then 9 else 0
def dimsErr (D : List Dm) : Int := if 64 < D.length then 6 else firstErr (dimErr D) D.length 0
theorem dims_take {w : World} {ao : Option Addr} {c : Nat} {D : List Dm} (h : DimsIn w ao c D) {k : Nat} (hk : k ≤ D.length) : DimsIn w ao c (D.take k) := by
 have hl : (D.take k).length = k := by rw [List.length_take]; omega
 refine ⟨by rw [hl]; exact Nat.le_trans hk h.1, h.2.1, fun h0 => ?_⟩
 rw [hl] at h0
 obtain ⟨g, o, e, hg, hc⟩ := h.2.2 (by omega)
 refine ⟨g, o, e, hg, fun j hj => ?_⟩
 rw [hl] at hj
 rw [show (D.take k).getD j Dm.none = D.getD j Dm.none by rw [List.getD_eq_getElem?_getD, List.getElem?_take, if_pos hj, ← List.getD_eq_getElem?_getD]]
 exact hc j (by omega)
theorem mCheck_any {w : World} {ad : Option Addr} {cd : Nat} {D : List Dm} (hd : DimsIn w ad cd D) (hl : D.length ≤ 1000000) :
  Calls Tryz.prog 45 #[.slice ad D.length cd] w fun e w' => e = .returned (.int .i64 (dimsErr D)) ∧ Below w.heap.size w w' := by
 obtain ⟨n, hn⟩ : ∃ n, n = D.length := ⟨_, rfl⟩
 have hcap : n ≤ cd ∧ cd ≤ 9223372036854775807 := by rw [hn]; exact ⟨hd.1, hd.2.1⟩
 obtain ⟨AN, hAN⟩ : ∃ x, x = dimsErr D := ⟨_, rfl⟩
 have hfi := fun (W : World) (hW : DimsIn W ad cd D) (k : Nat) (hk : k ≤ D.length) (s : ByteArray) => mFind_any (dims_take hW hk) (by rw [List.length_take]; omega) s
 have HFI := Lib.hid hfi
 have HDI := Lib.hid hd
 rw [← hAN, ← hn]
 by_cases h64 : 64 < n
 ·have e1 : ((64 : Int) < (n : Int)) = True := eq_true (by omega)
  have HE := Lib.hid (show AN = 6 by rw [hAN, dimsErr, if_pos (by omega)])
  clear hfi hd hl hAN hn h64
  go_enter Tryz.func45, Tryz.ntmps45
  go_wp2_with fail
  go_ret
  exact ⟨by rw [HE.out]; rfl, Below.refl _ _⟩
 ·have e1 : ((64 : Int) < (n : Int)) = False := eq_false (by omega)
  have HN := Lib.hid (And.intro hn (And.intro (show n ≤ 64 by omega) (show AN = firstErr (dimErr D) D.length 0 by rw [hAN, dimsErr, if_neg (by omega)])))
  have HD := Lib.hid hd.2.2
  clear hfi hd hl hAN hn h64
  go_enter Tryz.func45, Tryz.ntmps45
  go_wp2_with fail
  go_loopg [12] n (fun gk x wr => ∃ k : Nat, k + gk = n ∧ x = .int .i64 k ∧ Hid (∀ j, j < k → dimErr D j = 0) ∧ Hid (Below w.heap.size w wr))
  case atStart => exact ⟨0, by omega, rfl, Lib.hid (fun j hj => by omega), Lib.hid (Below.refl _ _)⟩
  case round =>
   obtain ⟨k, hk, rfl, hno, hbw⟩ := hrel
   by_cases hlt : k < n
   ·have e3 : ((k : Int) < (n : Int)) = True := eq_true (by omega)
    obtain ⟨db, dof, rfl, -, hdc⟩ := HD.out (by have := HN.out.1; omega)
    obtain ⟨d, hdd⟩ : ∃ x, x = D.getD k Dm.none := ⟨_, rfl⟩
    have hx := hdc k (by have := HN.out.1; omega)
    rw [← hdd] at hx
    have x0 := cell_below hbw.out hx.1
    have x1 := cell_below hbw.out hx.2.1
    have x2 := cell_below hbw.out hx.2.2.1
    have x3 := cell_below hbw.out hx.2.2.2
    have hk0 : (0 : Int) ≤ (k : Int) := by omega
    have hk1 : (k : Int) < (n : Int) := by omega
    have HNO := Lib.hid hno.out
    have HERR := Lib.hid (show dimErr D k = if isName d.name = false then 11 else if (farM d.nominal || farM d.lower || farM d.upper) = true then 2 else if d.upper < d.lower then 8 else if 0 ≤ dimAt (D.take k) d.name then 9 else 0 by rw [hdd]; rfl)
    have HLT := Lib.hid hlt
    have HAT := Lib.hid (show dimErr D k ≠ 0 → AN = dimErr D k from fun h => by rw [HN.out.2.2]; exact firstErr_at (Nat.zero_le _) (by have := HN.out.1; omega) (fun j _ hj => hno.out j hj) h)
    clear hdc hdd hx hlt hno
    go_upto_region 6 with fail
    obtain ⟨w1, hw1⟩ : ∃ x, x = wr.alloc (.cells #[.string d.name, .int .i64 d.nominal, .int .i64 d.lower, .int .i64 d.upper] 60) := ⟨_, rfl⟩
    obtain ⟨bd, hbd⟩ : ∃ b, b = wr.heap.size := ⟨_, rfl⟩
    rw [← hw1, ← hbd]
    have hl1 : Below wr.heap.size wr w1 := by rw [hw1]; exact (Below.refl _ wr).alloc (Nat.le_refl _) _
    have kd : w1.heap[bd]? = some (.cells #[.string d.name, .int .i64 d.nominal, .int .i64 d.lower, .int .i64 d.upper] 60 (0, 0)) := by rw [hw1, hbd]; exact heap_alloc_new wr _
    have HKD := Lib.hid kd
    have HB1 := Lib.hid (hbw.out.trans (hl1.mono hbw.out.size))
    have HW1 := Lib.hid (Below.refl w1.heap.size w1)
    clear hw1 hbd hl1 kd x0 x1 x2 x3 hk0 hk1 hbw
    have kk := (HW1.out.block bd (lt_of_block HKD.out)).trans HKD.out
    have y0 := block_cell kk 0
    have y1 := block_cell kk 1
    have y2 := block_cell kk 2
    have y3 := block_cell kk 3
    simp at y0 y1 y2 y3
    clear kk
    go_wp2_with fail
    refine (isName_any d.name w1).mono ?_
    rintro e w2 ⟨rfl, hb2⟩
    have HW2 := Lib.hid hb2
    clear hb2 y0 y1 y2 y3
    have kk := (HW2.out.block bd (lt_of_block HKD.out)).trans HKD.out
    have y0 := block_cell kk 0
    have y1 := block_cell kk 1
    have y2 := block_cell kk 2
    have y3 := block_cell kk 3
    simp at y0 y1 y2 y3
    clear kk
    cases hI : isName d.name with
    | false =>
     have HE := Lib.hid (show AN = 11 by rw [HAT.out (by rw [HERR.out, hI, if_pos rfl]; decide), HERR.out, hI, if_pos rfl])
     go_wp2_with fail
     go_ret
     exact ⟨by rw [HE.out]; rfl, HB1.out.trans (HW2.out.mono HB1.out.size)⟩
    | true =>
     have HE2 := Lib.hid (show dimErr D k = if (farM d.nominal || farM d.lower || farM d.upper) = true then 2 else if d.upper < d.lower then 8 else if 0 ≤ dimAt (D.take k) d.name then 9 else 0 by rw [HERR.out, hI, if_neg (by decide)])
     clear hI
     go_wp2_with fail
     refine (mfar_any d.nominal).mono ?_
     rintro e w3 ⟨rfl, hb3⟩
     have HW3 := Lib.hid (HW2.out.trans (hb3.mono HW2.out.size))
     clear hb3 y0 y1 y2 y3
     have kk := (HW3.out.block bd (lt_of_block HKD.out)).trans HKD.out
     have y0 := block_cell kk 0
     have y1 := block_cell kk 1
     have y2 := block_cell kk 2
     have y3 := block_cell kk 3
     simp at y0 y1 y2 y3
     clear kk
     cases hF1 : farM d.nominal with
     | true =>
      have HE := Lib.hid (show AN = 2 by have h2 := HE2.out; rw [hF1, Bool.true_or, Bool.true_or, if_pos rfl] at h2; rw [HAT.out (by rw [h2]; decide), h2])
      go_wp2_with fail
      go_ret
      exact ⟨by rw [HE.out]; rfl, HB1.out.trans (HW3.out.mono HB1.out.size)⟩
     | false =>
      go_wp2_with fail
      refine (mfar_any d.lower).mono ?_
      rintro e w4 ⟨rfl, hb4⟩
      have HW4 := Lib.hid (HW3.out.trans (hb4.mono HW3.out.size))
      clear hb4 y0 y1 y2 y3
      have kk := (HW4.out.block bd (lt_of_block HKD.out)).trans HKD.out
      have y0 := block_cell kk 0
      have y1 := block_cell kk 1
      have y2 := block_cell kk 2
      have y3 := block_cell kk 3
      simp at y0 y1 y2 y3
      clear kk
      cases hF2 : farM d.lower with
      | true =>
       have HE := Lib.hid (show AN = 2 by have h2 := HE2.out; rw [hF1, hF2, Bool.false_or, Bool.true_or, if_pos rfl] at h2; rw [HAT.out (by rw [h2]; decide), h2])
       go_wp2_with fail
       go_ret
       exact ⟨by rw [HE.out]; rfl, HB1.out.trans (HW4.out.mono HB1.out.size)⟩
      | false =>
       go_wp2_with fail
       refine (mfar_any d.upper).mono ?_
       rintro e w5 ⟨rfl, hb5⟩
       have HW5 := Lib.hid (HW4.out.trans (hb5.mono HW4.out.size))
       clear hb5 y0 y1 y2 y3
       have kk := (HW5.out.block bd (lt_of_block HKD.out)).trans HKD.out
       have y0 := block_cell kk 0
       have y1 := block_cell kk 1
       have y2 := block_cell kk 2
       have y3 := block_cell kk 3
       simp at y0 y1 y2 y3
       clear kk
       cases hF3 : farM d.upper with
       | true =>
        have HE := Lib.hid (show AN = 2 by have h2 := HE2.out; rw [hF1, hF2, hF3, Bool.false_or, Bool.false_or, if_pos rfl] at h2; rw [HAT.out (by rw [h2]; decide), h2])
        go_wp2_with fail
        go_ret
        exact ⟨by rw [HE.out]; rfl, HB1.out.trans (HW5.out.mono HB1.out.size)⟩
       | false =>
        have HE3 := Lib.hid (show dimErr D k = if d.upper < d.lower then 8 else if 0 ≤ dimAt (D.take k) d.name then 9 else 0 by rw [HE2.out, hF1, hF2, hF3, Bool.false_or, Bool.false_or, if_neg (by decide)])
        clear hF1 hF2 hF3
        by_cases hlu : d.upper < d.lower
        ·have e4 : (d.upper < d.lower) = True := eq_true hlu
         have HE := Lib.hid (show AN = 8 by rw [HAT.out (by rw [HE3.out, if_pos hlu]; decide), HE3.out, if_pos hlu])
         go_wp2_with fail
         go_ret
         exact ⟨by rw [HE.out]; rfl, HB1.out.trans (HW5.out.mono HB1.out.size)⟩
        ·have e4 : (d.upper < d.lower) = False := eq_false hlu
         have HE4 := Lib.hid (show dimErr D k = if 0 ≤ dimAt (D.take k) d.name then 9 else 0 by rw [HE3.out, if_neg hlu])
         obtain ⟨r, hr⟩ : ∃ x, x = dimAt (D.take k) d.name := ⟨_, rfl⟩
         rw [← hr] at HE4
         have hff := HFI.out
         have HRR := Lib.hid hr
         have HTL := Lib.hid (show (D.take k).length = k by rw [List.length_take]; have h1 := HLT.out; have h2 := HN.out.1; omega)
         clear hlu hr hff
         have hk0 : (0 : Int) ≤ (k : Int) := by omega
         have hk1 : (k : Int) ≤ (n : Int) := by have := HLT.out; omega
         have hkc : k ≤ cd := by have h1 := HLT.out; have h2 := hcap.1; omega
         have HKD5 := Lib.hid ((HW5.out.block bd (lt_of_block HKD.out)).trans HKD.out)
         have HW6 := Lib.hid (Below.refl w5.heap.size w5)
         have HB5 := Lib.hid (HB1.out.trans (HW5.out.mono HB1.out.size))
         go_upto_region 12 with fail
         clear y0 y1 y2 y3
         refine FlowR.wp_region_sel (fun a b => Below a.heap.size a b) (fun a => Below.refl _ a) (fun _ _ _ h k => h.trans (k.mono h.size)) [0, 1, 2, 3, 4, 5, 6, 7, 8, 9, 10] [false, false, false, false, false, false, false, false, false, false, false] [true, true, true, true, true, true, true, true, true, true, true] (fun i9 v w' => match i9 with
          | 0 => v = .slice (some ⟨db, dof, none⟩) n cd
          | 1 => v = .int .i64 (k : Int)
          | 2 => v = .slice (some ⟨db, dof, none⟩) k cd
          | 3 => v = .pointer (some ⟨bd, 0, none⟩)
          | 4 => v = .string d.name
          | 5 => v = .tuple #[.int .i64 (max r 0), .bool (decide (0 ≤ r))]
          | 6 => v = .tuple #[.int .i64 (max r 0), .bool (decide (0 ≤ r))]
          | 7 => v = .int .i64 (max r 0)
          | 8 => v = .bool (decide (0 ≤ r))
          | 9 => v = .int .i64 (max r 0)
          | _ => v = .bool (decide (0 ≤ r))) rfl rfl (by kernel_rfl) (by kernel_rfl) (by kernel_rfl) (by kernel_rfl) ?st ?steps ?fin
         case st =>
          intro i9 v u1 u2 h hb
          match i9 with
          | 0 | 1 | 2 | 3 | 4 | 6 | 7 | 8 | 9 | 10 | _ + 11 => exact h
          | 5 => exact (show v = .tuple #[.int .i64 (max r 0), .bool (decide (0 ≤ r))] from h)
         case steps =>
          refine zSc (zSo rfl ?s0) (zSc (zSo rfl ?s1) (zSc (zSo rfl ?s2) (zSc (zSo rfl ?s3) (zSc (zSo rfl ?s4) (zSc (zSo rfl ?s5) (zSc (zSo rfl ?s6) (zSc (zSo rfl ?s7) (zSc (zSo rfl ?s8) (zSc (zSo rfl ?s9) (zSc (zSo rfl ?s10) zSn))))))))))
          case s0 | s1 | s3 =>
           intro xs w' hb hT K9 hK9
           clear hT
           simp only [zFp, zAp, zLa, zLb, zLc, Nat.reduceAdd, zNz] at hK9 ⊢
           have hw := Flow.hwD HW6.out hb
           go_simp
           exact hK9 _ _ (Below.refl _ _) rfl
          case s2 =>
           intro xs w' hb hT K9 hK9
           have h0 : (xs 0) = .slice (some ⟨db, dof, none⟩) n cd := hT 0 (by kernel_rfl)
           have h1 : (xs 1) = .int .i64 (k : Int) := hT 1 (by kernel_rfl)
           clear hT
           simp only [zFp, zAp, zLa, zLb, zLc, Nat.reduceAdd, zNz] at hK9 ⊢
           have hw := Flow.hwD HW6.out hb
           (try simp only [h0] at hK9)
           (try simp only [h1] at hK9)
           go_simp
           (try rw [if_pos hkc])
           exact hK9 _ _ (Below.refl _ _) rfl
          case s4 =>
           intro xs w' hb hT K9 hK9
           have h3 : (xs 3) = .pointer (some ⟨bd, 0, none⟩) := hT 3 (by kernel_rfl)
           clear hT
           simp only [zFp, zAp, zLa, zLb, zLc, Nat.reduceAdd, zNz] at hK9 ⊢
           have hw := Flow.hwD HW6.out hb
           have kb := (hw.block bd (lt_of_block HKD5.out)).trans HKD5.out
           have y0 := block_cell kb 0
           clear kb
           simp at y0
           (try simp only [h3] at hK9)
           go_simp
           exact hK9 _ _ (Below.refl _ _) rfl
          case s5 =>
           intro xs w' hb hT K9 hK9
           have h2 : (xs 2) = .slice (some ⟨db, dof, none⟩) k cd := hT 2 (by kernel_rfl)
           have h4 : (xs 4) = .string d.name := hT 4 (by kernel_rfl)
           clear hT
           simp only [zFp, zAp, zLa, zLb, zLc, Nat.reduceAdd, zNz] at hK9 ⊢
           have hw := Flow.hwD HW6.out hb
           (try simp only [h2] at hK9)
           (try simp only [h4] at hK9)
           (try simp only [h2] at hK9)
           go_simp
           go_at_call 90
           have hc := HFI.out w' (HDI.out.below (HB5.out.trans (hw.mono HB5.out.size))) k (by have h1 := HLT.out; have h2 := HN.out.1; omega) d.name
           rw [HTL.out, ← HRR.out] at hc
           refine hc.mono ?_
           rintro e w3 ⟨rfl, hb3⟩
           exact hK9 _ _ hb3 rfl
          case s6 =>
           intro xs w' hb hT K9 hK9
           have h5 : (xs 5) = .tuple #[.int .i64 (max r 0), .bool (decide (0 ≤ r))] := hT 5 (by kernel_rfl)
           clear hT
           simp only [zFp, zAp, zLa, zLb, zLc, Nat.reduceAdd, zNz] at hK9 ⊢
           have hw := Flow.hwD HW6.out hb
           (try simp only [h5] at hK9)
           go_simp
           exact hK9 _ _ (Below.refl _ _) rfl
          case s7 | s8 =>
           intro xs w' hb hT K9 hK9
           have h6 : (xs 6) = .tuple #[.int .i64 (max r 0), .bool (decide (0 ≤ r))] := hT 6 (by kernel_rfl)
           clear hT
           simp only [zFp, zAp, zLa, zLb, zLc, Nat.reduceAdd, zNz] at hK9 ⊢
           have hw := Flow.hwD HW6.out hb
           (try simp only [h6] at hK9)
           go_simp
           exact hK9 _ _ (Below.refl _ _) rfl
          case s9 =>
           intro xs w' hb hT K9 hK9
           have h7 : (xs 7) = .int .i64 (max r 0) := hT 7 (by kernel_rfl)
           clear hT
           simp only [zFp, zAp, zLa, zLb, zLc, Nat.reduceAdd, zNz] at hK9 ⊢
           have hw := Flow.hwD HW6.out hb
           (try simp only [h7] at hK9)
           go_simp
           exact hK9 _ _ (Below.refl _ _) rfl
          case s10 =>
           intro xs w' hb hT K9 hK9
           have h8 : (xs 8) = .bool (decide (0 ≤ r)) := hT 8 (by kernel_rfl)
           clear hT
           simp only [zFp, zAp, zLa, zLb, zLc, Nat.reduceAdd, zNz] at hK9 ⊢
           have hw := Flow.hwD HW6.out hb
           (try simp only [h8] at hK9)
           go_simp
           exact hK9 _ _ (Below.refl _ _) rfl
         case fin =>
          intro xs w' hb hT
          have hw := Flow.hwD HW6.out hb
          have h9 : (xs 9) = .int .i64 (max r 0) := hT 9 (by rfl)
          have h10 : (xs 10) = .bool (decide (0 ≤ r)) := hT 10 (by rfl)
          clear hT
          simp only [zFp, zAp, zLa, zLb, zLc, Nat.reduceAdd, zNz, FlowR.restL, FlowR.orM, Bool.false_or]
          simp only [h9, h10]
          clear h9 h10 hb
          refine wpList_nil ?_
          obtain ⟨w7, hw7⟩ : ∃ x, x = w' := ⟨_, rfl⟩
          rw [← hw7] at hw ⊢
          have HB7 := Lib.hid (HB5.out.trans (hw.mono HB5.out.size))
          clear hw hw7
          by_cases hr0 : 0 ≤ r
          ·have e5 : decide (0 ≤ r) = true := decide_eq_true hr0
           have e6 : (0 ≤ r) = True := eq_true hr0
           have HE := Lib.hid (show AN = 9 by rw [HAT.out (by rw [HE4.out, if_pos hr0]; decide), HE4.out, if_pos hr0])
           go_wp2_with fail
           go_ret
           exact ⟨by rw [HE.out]; rfl, HB7.out⟩
          ·have e5 : decide (0 ≤ r) = false := decide_eq_false hr0
           have e6 : (0 ≤ r) = False := eq_false hr0
           have HZ := Lib.hid (show dimErr D k = 0 by rw [HE4.out, if_neg hr0])
           go_wp2_with fail
           go_roundg (n - (k + 1))
           case measure => have := HLT.out; omega
           case rel => exact ⟨k + 1, by have := HLT.out; omega, by congr 1; first | rfl | exact IntWalk.wrap64_in _ (by have := HLT.out; have := HN.out; omega), Lib.hid (fun j hj => by
            rcases Nat.lt_or_ge j k with h | h
            ·exact HNO.out j h
            ·obtain rfl : j = k := by omega
             exact HZ.out), HB7⟩
   ·have e3 : ((k : Int) < (n : Int)) = False := eq_false (by omega)
    obtain rfl : k = n := by omega
    have HE := Lib.hid (show AN = 0 by rw [HN.out.2.2]; exact firstErr_none (fun i _ hi => hno.out i (by have := HN.out.1; omega)))
    go_wp2_with fail
    go_ret
    exact ⟨by rw [HE.out]; rfl, hbw.out⟩
end Go.Proofs.YtgofihilkobenaaGreatDoor
