/- Equality of lists of constraints. -/
import Derived.Test.YtgofihilkobenaaGreatDoorQSameM
set_option maxRecDepth 100000
namespace Go.Proofs.YtgofihilkobenaaGreatDoor
open Go.RowKit Go.Num Go.Flow Go.Dtm
set_option maxHeartbeats 8000000
set_option linter.unusedVariables false

def eqCon (x y : Cn) : Bool := (x.name.toList == y.name.toList) && decide (x.const = y.const ∧ x.terms = y.terms)
def eqCons (l m : List Cn) : Bool := (l.length == m.length) && (List.range l.length).all fun j => eqCon (l.getD j Cn.none) (m.getD j Cn.none)
theorem eqCon_refl (d : Cn) : eqCon d d = true := by unfold eqCon; simp
theorem eqCons_refl (l : List Cn) : eqCons l l = true := by
 unfold eqCons
 rw [Bool.and_eq_true, beq_iff_eq, List.all_eq_true]
 exact ⟨rfl, fun j _ => eqCon_refl _⟩
theorem enters_vars1 (args : Array Value) (w : World) : (callFunc 34 args).run Tryz.prog w = .ok (.enter 34 args) w := by
 exact enters_of Tryz.func34 (by kernel_rfl) rfl args w
theorem con1_any {W : World} (x y : Cn) {a1 a2 : Option Addr} {n1 n2 c1 c2 : Nat} (h1 : TermsIn W (.slice a1 n1 c1) x.terms) (h2 : TermsIn W (.slice a2 n2 c2) y.terms) (hsm : x.terms.length ≤ 1000000) :
  Calls Tryz.prog 34 #[.agg #[.string x.name, .string ⟨x.const.toArray⟩, .slice a1 n1 c1], .agg #[.string y.name, .string ⟨y.const.toArray⟩, .slice a2 n2 c2]] W fun e w' => e = .returned (.bool (eqCon x y)) ∧ Below W.heap.size W w' := by
 obtain ⟨wa, hwa⟩ : ∃ wa, wa = (W.alloc (.cells #[.string x.name, .string ⟨x.const.toArray⟩, .slice a1 n1 c1] 80)).alloc (.cells #[.string y.name, .string ⟨y.const.toArray⟩, .slice a2 n2 c2] 80) := ⟨_, rfl⟩
 obtain ⟨b1, hb1⟩ : ∃ b, b = W.heap.size := ⟨_, rfl⟩
 obtain ⟨b2, hb2⟩ : ∃ b, b = W.heap.size + 1 := ⟨_, rfl⟩
 have hal : Below W.heap.size W wa := by rw [hwa]; exact ((Below.refl _ W).alloc (Nat.le_refl _) _).alloc (by simp) _
 obtain ⟨k1, k2⟩ := two_made W #[.string x.name, .string ⟨x.const.toArray⟩, .slice a1 n1 c1] #[.string y.name, .string ⟨y.const.toArray⟩, .slice a2 n2 c2] 80 80
 rw [← hwa, ← hb1] at k1
 rw [← hwa, ← hb2] at k2
 have s0 := block_cell k1 0
 have s1 := block_cell k1 1
 have s2 := block_cell k1 2
 have u0 := block_cell k2 0
 have u1 := block_cell k2 1
 have u2 := block_cell k2 2
 simp at s0 s1 s2 u0 u1 u2
 have HE := Lib.hid (sameForm_any (c := x.const) (d := y.const) (show FormAt wa (.agg #[.string ⟨x.const.toArray⟩, .slice a1 n1 c1]) x.const x.terms from ⟨_, rfl, h1.below hal⟩) (show FormAt wa (.agg #[.string ⟨y.const.toArray⟩, .slice a2 n2 c2]) y.const y.terms from ⟨_, rfl, h2.below hal⟩) hsm)
 obtain ⟨R, hR⟩ : ∃ z, z = decide (x.const = y.const ∧ x.terms = y.terms) := ⟨_, rfl⟩
 rw [← hR] at HE
 have HC := Lib.hid (show eqCon x y = ((x.name.toList == y.name.toList) && R) by rw [hR]; rfl)
 have HAL := Lib.hid hal
 have HW := Lib.hid (And.intro hwa (And.intro hb1 hb2))
 obtain ⟨sx, hsx⟩ : ∃ z : ByteArray, z = ⟨x.const.toArray⟩ := ⟨_, rfl⟩
 obtain ⟨sy, hsy⟩ : ∃ z : ByteArray, z = ⟨y.const.toArray⟩ := ⟨_, rfl⟩
 rw [← hsx] at s1 HE HW ⊢
 rw [← hsy] at u1 HE HW ⊢
 clear hal hwa hb1 hb2 k1 k2 h1 h2 hR hsm hsx hsy
 go_enter Tryz.func34, Tryz.ntmps34
 go_upto_region 1 with fail
 rw [← HW.out.1, ← HW.out.2.2, ← HW.out.2.1]
 clear HW
 cases hq : x.name.toList == y.name.toList with
 | true =>
  rw [hq] at HC
  go_wp2_with fail
  refine HE.out.mono ?_
  rintro e w3 ⟨rfl, hb3⟩
  go_wp2_with fail
  go_ret
  exact ⟨by rw [HC.out]; rfl, HAL.out.trans (hb3.mono HAL.out.size)⟩
 | false =>
  rw [hq] at HC
  go_wp2_with fail
  go_ret
  exact ⟨by rw [HC.out]; rfl, HAL.out⟩
theorem sEqFC_any {w : World} {B1 B2 : Nat} {a1 a2 : Option Addr} {c1 c2 : Nat} {l m : List Cn} (h1 : ConsIn w B1 a1 c1 l) (h2 : ConsIn w B2 a2 c2 m) (hsm : l.length ≤ 1000000) (hts : ∀ j, j < l.length → (l.getD j Cn.none).terms.length ≤ 1000000) :
  Calls Tryz.prog 32 #[.slice a1 l.length c1, .slice a2 m.length c2, .func (.func 34) #[] #[]] w fun e w' => e = .returned (.bool (eqCons l m)) ∧ Below w.heap.size w w' := by
 obtain ⟨p1, p2, p3⟩ := h1
 obtain ⟨q1, q2, q3⟩ := h2
 obtain ⟨n, hn⟩ : ∃ n, n = l.length := ⟨_, rfl⟩
 obtain ⟨k, hk⟩ : ∃ n, n = m.length := ⟨_, rfl⟩
 obtain ⟨R, hR⟩ : ∃ x, x = eqCons l m := ⟨_, rfl⟩
 unfold maxLen at p2 q2
 rw [← hn] at p1 p3 hsm hts ⊢
 rw [← hk] at q1 q3 ⊢
 rw [← hR]
 have P3 := Lib.hid p3
 have Q3 := Lib.hid q3
 have HR := Lib.hid hR
 have HTS := Lib.hid hts
 have HN := Lib.hid (And.intro hn hk)
 clear p3 q3 hR hn hk hts
 go_enter Tryz.func32, Tryz.ntmps32
 by_cases hnk : n = k
 ·subst hnk
  have e0 : ((n : Int) == (n : Int)) = true := by simp
  go_wp2_with fail
  go_loopw [17] (fun x wr => ∃ i : Nat, i ≤ n ∧ x = .int .i64 i ∧ Hid (∀ j, j < i → eqCon (l.getD j Cn.none) (m.getD j Cn.none) = true) ∧ Hid (Below w.heap.size w wr)) (fun x _ => n - (intOf x).toNat)
  case atStart => exact ⟨0, Nat.zero_le _, rfl, Lib.hid (fun j hj => absurd hj (by omega)), Lib.hid (Below.refl _ _)⟩
  case round =>
   obtain ⟨i, hin, rfl, hall, hbw⟩ := hrel
   by_cases hlt : i < n
   ·have e1 : ((i : Int) < (n : Int)) = True := eq_true (by omega)
    obtain ⟨g1, rfl, -, hc1⟩ := P3.out (by omega)
    obtain ⟨g2, rfl, -, hc2⟩ := Q3.out (by omega)
    obtain ⟨x, hx⟩ : ∃ q, q = l.getD i Cn.none := ⟨_, rfl⟩
    obtain ⟨y, hy⟩ : ∃ q, q = m.getD i Cn.none := ⟨_, rfl⟩
    obtain ⟨tx, x0, x1, x2, ht1⟩ := hc1 i hlt
    obtain ⟨ty, y0, y1, y2, ht2⟩ := hc2 i hlt
    rw [← hx] at x0 x1 ht1
    rw [← hy] at y0 y1 ht2
    obtain ⟨ax, nx, cx, rfl⟩ := ht1.shape
    obtain ⟨ay, ny, cy, rfl⟩ := ht2.shape
    have x0 := cell_below hbw.out x0
    have x1 := cell_below hbw.out x1
    have x2 := cell_below hbw.out x2
    have hi0 : (0 : Int) ≤ (i : Int) := by omega
    have hi1 : (i : Int) < (n : Int) := by omega
    have HXY := Lib.hid (And.intro hx hy)
    have HT := Lib.hid (And.intro ht1.reads ht2.reads)
    have hts := HTS.out i hlt
    rw [← hx] at hts
    have HTX := Lib.hid hts
    have HY0 := Lib.hid (And.intro y0 (And.intro y1 y2))
    obtain ⟨sx, hsx⟩ : ∃ z : ByteArray, z = ⟨x.const.toArray⟩ := ⟨_, rfl⟩
    obtain ⟨sy, hsy⟩ : ∃ z : ByteArray, z = ⟨y.const.toArray⟩ := ⟨_, rfl⟩
    rw [← hsx] at x1
    rw [← hsy] at HY0
    have HSX := Lib.hid (And.intro hsx hsy)
    clear hx hy hc1 hc2 ht1 ht2 hts y0 y1 y2 hsx hsy
    go_upto_region 6 with fail
    obtain ⟨w1, hw1⟩ : ∃ z, z = wr.alloc (.cells #[.string x.name, .string sx, .slice ax nx cx] 80) := ⟨_, rfl⟩
    obtain ⟨b1, hb1⟩ : ∃ z, z = wr.heap.size := ⟨_, rfl⟩
    rw [← hw1, ← hb1]
    have hl1 : Below wr.heap.size wr w1 := by rw [hw1]; exact (Below.refl _ wr).alloc (Nat.le_refl _) _
    have k1 : w1.heap[b1]? = some (.cells #[.string x.name, .string sx, .slice ax nx cx] 80 (0, 0)) := by rw [hw1, hb1]; exact heap_alloc_new wr _
    have HB1 := Lib.hid (hbw.out.trans (hl1.mono hbw.out.size))
    have HK1 := Lib.hid k1
    clear hw1 hb1 hl1 k1 x0 x1 x2 hbw
    have y0 := cell_below HB1.out HY0.out.1
    have y1 := cell_below HB1.out HY0.out.2.1
    have y2 := cell_below HB1.out HY0.out.2.2
    go_upto_region 7 with fail
    obtain ⟨w2, hw2⟩ : ∃ z, z = w1.alloc (.cells #[.string y.name, .string sy, .slice ay ny cy] 80) := ⟨_, rfl⟩
    obtain ⟨b2, hb2⟩ : ∃ z, z = w1.heap.size := ⟨_, rfl⟩
    rw [← hw2, ← hb2]
    have hl2 : Below w1.heap.size w1 w2 := by rw [hw2]; exact (Below.refl _ w1).alloc (Nat.le_refl _) _
    have k2 : w2.heap[b2]? = some (.cells #[.string y.name, .string sy, .slice ay ny cy] 80 (0, 0)) := by rw [hw2, hb2]; exact heap_alloc_new w1 _
    have k1 := (hl2.block b1 (lt_of_block HK1.out)).trans HK1.out
    have HB2 := Lib.hid (HB1.out.trans (hl2.mono HB1.out.size))
    have s0 := block_cell k1 0
    have s1 := block_cell k1 1
    have s2 := block_cell k1 2
    have u0 := block_cell k2 0
    have u1 := block_cell k2 1
    have u2 := block_cell k2 2
    simp at s0 s1 s2 u0 u1 u2
    have hcc := con1_any (W := w2) x y (HT.out.1.below HB2.out) (HT.out.2.below HB2.out) HTX.out
    rw [← HSX.out.1, ← HSX.out.2] at hcc
    obtain ⟨E, hE⟩ : ∃ z, z = eqCon x y := ⟨_, rfl⟩
    rw [← hE] at hcc
    have HCC := Lib.hid hcc
    have HE := Lib.hid hE
    clear hw2 hb2 hl2 k2 k1 hcc hE y0 y1 y2
    go_wp2_with fail
    refine HCC.out.mono ?_
    rintro e w3 ⟨rfl, hb3⟩
    have HB3 := Lib.hid (HB2.out.trans (hb3.mono HB2.out.size))
    clear hb3 s0 s1 s2 u0 u1 u2
    cases E with
    | true =>
     go_wp2_with fail
     refine ⟨⟨i + 1, hlt, by congr 1, Lib.hid fun j hj => ?_, Lib.hid HB3.out⟩, by simp [intOf]; omega⟩
     by_cases h : j < i
     ·exact hall.out j h
     ·obtain rfl : j = i := by omega
      rw [← HXY.out.1, ← HXY.out.2]
      exact HE.out.symm
    | false =>
     have hR : R = false := by
      rw [HR.out]
      unfold eqCons
      rw [Bool.and_eq_false_iff]
      right
      rw [List.all_eq_false]
      refine ⟨i, List.mem_range.2 (by rw [← HN.out.1]; exact hlt), ?_⟩
      rw [← HXY.out.1, ← HXY.out.2, ← HE.out]
      decide
     go_wp2_with fail
     go_ret
     exact ⟨by rw [hR]; rfl, HB3.out⟩
   ·have e1 : ((i : Int) < (n : Int)) = False := eq_false (by omega)
    obtain rfl : i = n := by omega
    have hR : R = true := by
     rw [HR.out]
     unfold eqCons
     rw [Bool.and_eq_true, beq_iff_eq, List.all_eq_true]
     exact ⟨by rw [← HN.out.1, HN.out.2], fun j hj => hall.out j (by rw [HN.out.1]; exact List.mem_range.1 hj)⟩
    go_wp2_with fail
    go_ret
    exact ⟨by rw [hR]; rfl, hbw.out⟩
 ·have e0 : ((n : Int) == (k : Int)) = false := beq_eq_false_iff_ne.2 (by omega)
  have hR : R = false := by
   rw [HR.out]
   unfold eqCons
   rw [Bool.and_eq_false_iff]
   left
   rw [beq_eq_false_iff_ne]
   intro h
   exact hnk (HN.out.1.trans (h.trans HN.out.2.symm))
  go_wp2_with fail
  go_ret
  exact ⟨by rw [hR]; rfl, Below.refl _ _⟩
end Go.Proofs.YtgofihilkobenaaGreatDoor
