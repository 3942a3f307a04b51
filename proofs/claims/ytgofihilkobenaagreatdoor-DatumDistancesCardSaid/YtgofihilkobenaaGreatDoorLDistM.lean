/- DatumDistances: the walk. -/
import Derived.Test.YtgofihilkobenaaGreatDoorKQ
import Derived.Test.YtgofihilkobenaaGreatDoorKT
import Derived.Test.YtgofihilkobenaaGreatDoorQSameM
import Derived.Test.YtgofihilkobenaaGreatDoorKB2
set_option maxRecDepth 100000
namespace Go.Proofs.YtgofihilkobenaaGreatDoor
open List renaming setIfInBounds_toArray → zLa, set_cons_zero → zLb, set_cons_succ → zLc
open FlowR renaming putSel → zFp
open Act renaming put → zAp
open Nat renaming zero_add → zNz
open Flow.Steps renaming cons → zSc, nil → zSn
open FlowR.Step renaming of → zSo
open Go.RowKit Go.Num Go.Flow Go.Dtm
set_option maxHeartbeats 8000000
set_option linter.unusedVariables false

theorem three_block (w : World) (x y z : Array Value) (s t u : TypeId) : Below w.heap.size w (((w.alloc (.cells x s)).alloc (.cells y t)).alloc (.cells z u)) := (((ZR _ w).alloc (Nat.le_refl _) _).alloc (by simp) _).alloc (by simp; omega) _
/-- Which feature, and which side, a number names. -/
def feOf (n : Nat) (x : Int) : Nat := (x % (n : Int)).toNat
def siOf (fs : List Feat) (i : Nat) (y : Int) : Int := if (fs.getD i Feat.none).kind = 2 then y % 3 - 1 else 0
theorem si_small (fs : List Feat) (i : Nat) (y : Int) : -1 ≤ siOf fs i y ∧ siOf fs i y ≤ 1 := by
 unfold siOf
 split <;> omega
theorem si_ok (fs : List Feat) (i : Nat) (y : Int) : sideErr fs i (siOf fs i y) = 0 := by
 have h := si_small fs i y
 unfold sideErr
 rw [if_neg]
 rintro (h1 | h1 | ⟨h1, h2⟩)
 ·omega
 ·omega
 ·unfold siOf at h2
  rw [if_neg (by omega)] at h2
  exact h2 rfl
theorem fe_lt {n : Nat} (hn : 0 < n) (x : Int) : feOf n x < n ∧ (feOf n x : Int) = x % (n : Int) := by
 have h1 := Int.emod_nonneg x (show (n : Int) ≠ 0 by omega)
 have h2 := Int.emod_lt_of_pos x (show (0 : Int) < (n : Int) by omega)
 unfold feOf
 omega
/-- One of three. -/
def of3 {α : Type} (a b c : α) (k : Nat) : α := if k = 0 then a else if k = 1 then b else c
/-- The first k of three numbers, and zeros. -/
def firsts (F : Nat → Int) (k : Nat) : Array Value := #[.int .i64 (if 0 < k then F 0 else 0), .int .i64 (if 1 < k then F 1 else 0), .int .i64 (if 2 < k then F 2 else 0)]
theorem firsts_at (F : Nat → Int) (k : Nat) (j : Nat) (hj : j < 3) : (firsts F k)[j]? = some (.int .i64 (if j < k then F j else 0)) := by
 rcases (show j = 0 ∨ j = 1 ∨ j = 2 by omega) with rfl | rfl | rfl <;> rfl
theorem firsts_set {w : World} {b : Nat} {t : TypeId} {F : Nat → Int} {k : Nat} (hk : k < 3) (h : w.heap[b]? = some (.cells (firsts F k) t (0, 0))) : (w.setCell ⟨b, k, none⟩ (.int .i64 (F k))).heap[b]? = some (.cells (firsts F (k + 1)) t (0, 0)) := by
 have h1 := heap_setCell_same w b k (firsts F k) t (.int .i64 (F k)) h
 rw [h1]
 congr 1
 rcases (show k = 0 ∨ k = 1 ∨ k = 2 by omega) with rfl | rfl | rfl <;> simp [firsts]
theorem firsts_zero {w : World} {b : Nat} {t : TypeId} {F : Nat → Int} {k : Nat} (hk : k < 3) (hF : F k = 0) (h : w.heap[b]? = some (.cells (firsts F k) t (0, 0))) : w.heap[b]? = some (.cells (firsts F (k + 1)) t (0, 0)) := by
 rw [h]
 have : firsts F (k + 1) = firsts F k := by
  rcases (show k = 0 ∨ k = 1 ∨ k = 2 by omega) with rfl | rfl | rfl <;> simp [firsts, hF]
 rw [this]
theorem said_DatumDistances {w : World} (hg : Glob w) {af : Option Addr} {cf : Nat} {az : Option Addr} {cz : Nat} {fs : List Feat} {zs : List Zn} (h : SchemeIn w af cf az cz fs zs) {x1 y1 z1 : Int} (hx1 : 0 ≤ x1 ∧ x1 ≤ 255) (hy1 : 0 ≤ y1 ∧ y1 ≤ 255) (hz1 : 0 ≤ z1 ∧ z1 ≤ 255) {x2 y2 z2 : Int} (hx2 : 0 ≤ x2 ∧ x2 ≤ 255) (hy2 : 0 ≤ y2 ∧ y2 ≤ 255) (hz2 : 0 ≤ z2 ∧ z2 ≤ 255) :
  Calls Tryz.prog 11 #[.agg #[.slice af fs.length cf, .slice az zs.length cz], .agg #[.int .u8 x1, .int .u8 y1, .int .u8 z1], .agg #[.int .u8 x2, .int .u8 y2, .int .u8 z2]] w fun e w' => e = .returned (.bool true) ∧ Below w.heap.size w w' := by
 obtain ⟨n, hn⟩ : ∃ n, n = fs.length := ⟨_, rfl⟩
 obtain ⟨nz, hnz⟩ : ∃ n, n = zs.length := ⟨_, rfl⟩
 obtain ⟨wa, hwa⟩ : ∃ wa, wa = ((w.alloc (.cells #[.slice af n cf, .slice az nz cz] 26)).alloc (.cells #[.int .u8 x1, .int .u8 y1, .int .u8 z1] 111)).alloc (.cells #[.int .u8 x2, .int .u8 y2, .int .u8 z2] 111) := ⟨_, rfl⟩
 obtain ⟨ba, hba⟩ : ∃ b, b = w.heap.size := ⟨_, rfl⟩
 obtain ⟨bb, hbb⟩ : ∃ b, b = w.heap.size + 1 := ⟨_, rfl⟩
 obtain ⟨bc, hbc⟩ : ∃ b, b = w.heap.size + 1 + 1 := ⟨_, rfl⟩
 have hal : Below w.heap.size w wa := by rw [hwa]; exact three_block w _ _ _ _ _ _
 obtain ⟨k1, k2, k3⟩ := three_made w #[.slice af n cf, .slice az nz cz] #[.int .u8 x1, .int .u8 y1, .int .u8 z1] #[.int .u8 x2, .int .u8 y2, .int .u8 z2] 26 111 111
 rw [← hwa, ← hba] at k1
 rw [← hwa, ← hbb] at k2
 rw [← hwa, ← hbc] at k3
 have s0 := ZI k1 0
 have s1 := ZI k1 1
 simp at s0 s1
 obtain ⟨FI, hFI⟩ : ∃ x, x = (fewOf fs zs && decide (check fs zs = 0)) := ⟨_, rfl⟩
 have hfi := fun (W : World) (hW : SchemeIn W af cf az cz fs zs) => qfine_any hW
 have hbe := fun (W : World) (hgW : Glob W) (hW : SchemeIn W af cf az cz fs zs) (f side g other : Int) => Between_any hgW hW f side g other
 obtain ⟨ZC, hZC⟩ : ∃ x, x = numText ((0 : Int) : Rat) := ⟨_, rfl⟩
 simp only [← hZC] at hbe
 have HZC := ZH hZC
 simp only [← hFI] at hfi
 simp only [← hn, ← hnz] at hfi hbe
 have hcap : n ≤ cf ∧ cf ≤ 9223372036854775807 := by rw [hn]; exact ⟨h.feats.1, h.feats.2.1⟩
 have HFI := ZH hfi
 have HBE := ZH hbe
 have HS := ZH (h.below hal)
 have HG := ZH (hg.below hal)
 have HAL := ZH hal
 have HK1 := ZH k1
 have HK2 := ZH k2
 have HK3 := ZH k3
 have HF := ZH hFI
 have HN := ZH (ZN hn hnz)
 have HW := ZH (ZN hwa (ZN hba (ZN hbb hbc)))
 have HU := ZH (ZN hx1 (ZN hy1 (ZN hz1 (ZN hx2 (ZN hy2 hz2)))))
 rw [← hn, ← hnz]
 clear hwa hba hbb hbc hal k1 k2 k3 h hg hfi hbe hn hnz hFI hZC hx1 hy1 hz1 hx2 hy2 hz2
 go_enter Tryz.func11, Tryz.ntmps11
 go_upto_region 1 with fail
 rw [← HW.out.1, ← HW.out.2.2.2, ← HW.out.2.2.1, ← HW.out.2.1]
 clear HW
 go_wp2_with fail
 refine (known_any HG.out).mono ?_
 rintro e w1 ⟨rfl, hb1⟩
 have HB1 := ZH hb1
 have kk := (HB1.out.block ba (ZL HK1.out)).trans HK1.out
 have s0 := ZI kk 0
 have s1 := ZI kk 1
 simp at s0 s1
 clear kk hb1
 go_wp2_with fail
 refine (HFI.out w1 (HS.out.below HB1.out)).mono ?_
 rintro e w2 ⟨rfl, hb2⟩
 have HB2 := ZH (HB1.out.trans (hb2.mono HB1.out.size))
 have kk := (HB2.out.block ba (ZL HK1.out)).trans HK1.out
 have s0 := ZI kk 0
 have s1 := ZI kk 1
 simp at s0 s1
 clear kk hb2
 cases FI with
 | false =>
  go_wp2_with fail
  refine (known_any (HG.out.below HB2.out)).mono ?_
  rintro e w3 ⟨rfl, hb3⟩
  have HB3 := ZH (HB2.out.trans (hb3.mono HB2.out.size))
  clear hb3
  go_wp2_with fail
  go_ret
  exact ⟨rfl, HAL.out.trans (HB3.out.mono HAL.out.size)⟩
 | true =>
  have hck : check fs zs = 0 := by
   have := HF.out
   simp only [Bool.true_eq, Bool.and_eq_true, decide_eq_true_eq] at this
   exact this.2
  have HCK := ZH (ZN hck (check_small hck))
  clear hck
  by_cases hn0 : n = 0
  ·have e0 : ((n : Int) == 0) = true := by rw [hn0]; rfl
   clear hn0
   go_wp2_with fail
   refine (known_any (HG.out.below HB2.out)).mono ?_
   rintro e w3 ⟨rfl, hb3⟩
   have HB3 := ZH (HB2.out.trans (hb3.mono HB2.out.size))
   clear hb3
   go_wp2_with fail
   go_ret
   exact ⟨rfl, HAL.out.trans (HB3.out.mono HAL.out.size)⟩
  ·have e0 : ((n : Int) == 0) = false := ZQ.2 (by omega)
   have HN0 := ZH (show 0 < n by omega)
   clear hn0
   go_upto_region 4 with fail
   obtain ⟨w3, hw3⟩ : ∃ x, x = (w2.alloc (.cells #[.int .i64 0, .int .i64 0, .int .i64 0] 112)).alloc (.cells #[.int .i64 0, .int .i64 0, .int .i64 0] 112) := ⟨_, rfl⟩
   obtain ⟨bi, hbi⟩ : ∃ b, b = w2.heap.size := ⟨_, rfl⟩
   obtain ⟨bk, hbk⟩ : ∃ b, b = w2.heap.size + 1 := ⟨_, rfl⟩
   obtain ⟨j1, j2⟩ := two_made w2 #[.int .i64 0, .int .i64 0, .int .i64 0] #[.int .i64 0, .int .i64 0, .int .i64 0] 112 112
   rw [← hw3, ← hbi] at j1
   rw [← hw3, ← hbk] at j2
   have hl3 : Below w2.heap.size w2 w3 := by rw [hw3]; exact ((ZR _ w2).alloc (Nat.le_refl _) _).alloc (by simp) _
   obtain ⟨F, hF⟩ : ∃ F : Nat → Nat, F = fun k => feOf n (of3 x1 y1 z1 k) := ⟨_, rfl⟩
   obtain ⟨G, hG⟩ : ∃ G : Nat → Int, G = fun k => siOf fs (F k) (of3 x2 y2 z2 k) := ⟨_, rfl⟩
   have hj1 : w3.heap[bi]? = some (.cells (firsts (fun k => (F k : Int)) 0) 112 (0, 0)) := by rw [j1]; simp [firsts]
   have hj2 : w3.heap[bk]? = some (.cells (firsts G 0) 112 (0, 0)) := by rw [j2]; simp [firsts]
   have HF3 := ZH hF
   have HG3 := ZH hG
   have HJ1 := ZH hj1
   have HJ2 := ZH hj2
   have HL3 := ZH hl3
   have HBK := ZH (show bi ≠ bk ∧ w2.heap.size ≤ bi ∧ w2.heap.size ≤ bk by omega)
   obtain ⟨fb, fo, rfl, -, hfc⟩ := HS.out.feats.2.2 (by have := HN0.out; have := HN.out; omega)
   have HFC := ZH hfc
   rw [← hw3, ← hbk, ← hbi]
   clear hw3 hbi hbk j1 j2 hl3 hF hG hj1 hj2 hfc s0 s1
   go_wp2_with fail
   go_loopg [32] 3 (fun gk x wr => ∃ k : Nat, k + gk = 3 ∧ x = .int .i64 k ∧ Hid (wr.heap[bi]? = some (.cells (firsts (fun k => (F k : Int)) k) 112 (0, 0))) ∧ Hid (wr.heap[bk]? = some (.cells (firsts G k) 112 (0, 0))) ∧ Hid (Below w2.heap.size w2 wr) ∧ Hid (∀ j, j < k → (fs.getD (F j) Feat.none).axis = (fs.getD (F 0) Feat.none).axis))
   case atStart => exact ⟨0, rfl, rfl, HJ1, HJ2, HL3, ZH fun j hj => by omega⟩
   case round =>
    obtain ⟨k, hk, rfl, hbi, hbk, hbw, hax⟩ := hrel
    by_cases hlt : k < 3
    ·have e1 : ((k : Int) < 3) = True := eq_true (by omega)
     have hk0 : (0 : Int) ≤ (k : Int) := by omega
     have hk1 : (k : Int) < 3 := by omega
     obtain ⟨xk, hxk⟩ : ∃ x, x = of3 x1 y1 z1 k := ⟨_, rfl⟩
     obtain ⟨yk, hyk⟩ : ∃ x, x = of3 x2 y2 z2 k := ⟨_, rfl⟩
     have hu := HU.out
     have hxb : 0 ≤ xk ∧ xk ≤ 255 := by rw [hxk]; unfold of3; (repeat' split) <;> omega
     have hyb : 0 ≤ yk ∧ yk ≤ 255 := by rw [hyk]; unfold of3; (repeat' split) <;> omega
     obtain ⟨FK, hFK⟩ : ∃ x, x = F k := ⟨_, rfl⟩
     have hfe := fe_lt HN0.out xk
     have hFK2 : feOf n xk = FK := by rw [hFK, HF3.out, hxk]
     rw [hFK2] at hfe
     obtain ⟨GK, hGK⟩ : ∃ x, x = G k := ⟨_, rfl⟩
     have hGK2 : GK = siOf fs FK yk := by rw [hGK, HG3.out, hyk, hFK]
     have hbw0 := HB2.out.trans (hbw.out.mono HB2.out.size)
     have hX : wr.cell? ⟨bb, k, none⟩ = some (.int .u8 xk) := by
      rw [ZI ((hbw0.block bb (ZL HK2.out)).trans HK2.out) k, hxk]
      rcases (show k = 0 ∨ k = 1 ∨ k = 2 by omega) with rfl | rfl | rfl <;> rfl
     have hY : wr.cell? ⟨bc, k, none⟩ = some (.int .u8 yk) := by
      rw [ZI ((hbw0.block bc (ZL HK3.out)).trans HK3.out) k, hyk]
      rcases (show k = 0 ∨ k = 1 ∨ k = 2 by omega) with rfl | rfl | rfl <;> rfl
     have HX := ZH hX
     have HY := ZH hY
     have HKA := ZH ((hbw0.block ba (ZL HK1.out)).trans HK1.out)
     have HBW := hbw
     have HBI := hbi
     have HBKK := hbk
     have HAX := hax
     have HLT := ZH hlt
     have HFK := ZH hFK
     have HGK := ZH (ZN hGK hGK2)
     have HFE := ZH hfe
     have HYB := ZH hyb
     have HYK := ZH (show (#[Value.int .u8 x2, Value.int .u8 y2, Value.int .u8 z2] : Array Value)[k]? = some (.int .u8 yk) by
      rw [hyk]
      rcases (show k = 0 ∨ k = 1 ∨ k = 2 by omega) with rfl | rfl | rfl <;> rfl)
     have HW7 := ZH (ZR wr.heap.size wr)
     have hFC0 := HFC.out FK (by have := HN.out; omega)
     have HFC2 := ZH (ZN (ZJ hbw0 hFC0.2.1) (ZJ hbw0 hFC0.2.2.1))
     have w1 : IntKind.i64.wrap xk = xk := IntWalk.i64_in xk (by omega)
     have w2' : xk.tmod (n : Int) = (FK : Int) := by rw [Int.tmod_eq_emod_of_nonneg hxb.1, hfe.2]
     have hF0 : (0 : Int) ≤ (FK : Int) := by omega
     have hF1 : (FK : Int) < (n : Int) := by omega
     have hn1 : (n = 0) = False := eq_false (by have := HN0.out; omega)
     clear hxk hyk hu hxb hyb hFK hFK2 hfe hGK hGK2 hbw0 hX hY hbi hbk hbw hax hlt hFC0
     go_upto_region 7 with fail
     refine FlowR.wp_region_sel (fun a b => Below a.heap.size a b) (fun a => ZR _ a) (fun _ _ _ h k => h.trans (k.mono h.size)) [0, 1, 2, 3, 4, 5, 6, 7, 8, 9] [false, false, false, false, false, false, false, false, false, false, false] [true, true, true, true, true, true, true, true, true, true, false] (fun i9 v w' => match i9 with
      | 0 => v = .int .i64 (k : Int)
      | 1 => v = .int .i64 (k : Int)
      | 2 => v = .pointer (some ⟨bb, k, none⟩)
      | 3 => v = .int .u8 xk
      | 4 => v = .int .i64 xk
      | 5 => v = .pointer (some ⟨ba, 0, none⟩)
      | 6 => v = .slice (some ⟨fb, fo, none⟩) n cf
      | 7 => v = .int .i64 (n : Int)
      | 8 => v = .int .i64 (FK : Int)
      | _ => v = .pointer (some ⟨bi, k, none⟩)) rfl rfl (by kernel_rfl) (by kernel_rfl) (by kernel_rfl) (by kernel_rfl) ?st ?steps ?fin
     case st =>
      intro i9 v u1 u2 h hb
      match i9 with
      | 0 | 1 | 2 | 3 | 4 | 5 | 6 | 7 | 8 | 9 | _ + 10 => exact h
     case steps =>
      refine zSc (zSo rfl ?s0) (zSc (zSo rfl ?s1) (zSc (zSo rfl ?s2) (zSc (zSo rfl ?s3) (zSc (zSo rfl ?s4) (zSc (zSo rfl ?s5) (zSc (zSo rfl ?s6) (zSc (zSo rfl ?s7) (zSc (zSo rfl ?s8) (zSc (zSo rfl ?s9) zSn)))))))))
      case s0 | s1 | s5 =>
       intro xs w' hb hT K9 hK9
       clear hT
       simp only [zFp, zAp, zLa, zLb, zLc, Nat.reduceAdd, zNz] at hK9 ⊢
       have hw := Flow.hwD HW7.out hb
       go_simp
       exact hK9 _ _ (ZR _ _) rfl
      case s2 =>
       intro xs w' hb hT K9 hK9
       have h1 : (xs 1) = .int .i64 (k : Int) := hT 1 (by kernel_rfl)
       clear hT
       simp only [zFp, zAp, zLa, zLb, zLc, Nat.reduceAdd, zNz] at hK9 ⊢
       have hw := Flow.hwD HW7.out hb
       (try simp only [h1] at hK9)
       go_simp
       exact hK9 _ _ (ZR _ _) rfl
      case s3 =>
       intro xs w' hb hT K9 hK9
       have h2 : (xs 2) = .pointer (some ⟨bb, k, none⟩) := hT 2 (by kernel_rfl)
       clear hT
       simp only [zFp, zAp, zLa, zLb, zLc, Nat.reduceAdd, zNz] at hK9 ⊢
       have hw := Flow.hwD HW7.out hb
       (try simp only [h2] at hK9)
       (try simp only [h2] at hK9)
       have y0 := ZJ hw HX.out
       go_simp
       exact hK9 _ _ (ZR _ _) rfl
      case s4 =>
       intro xs w' hb hT K9 hK9
       have h3 : (xs 3) = .int .u8 xk := hT 3 (by kernel_rfl)
       clear hT
       simp only [zFp, zAp, zLa, zLb, zLc, Nat.reduceAdd, zNz] at hK9 ⊢
       have hw := Flow.hwD HW7.out hb
       (try simp only [h3] at hK9)
       go_simp
       exact hK9 _ _ (ZR _ _) rfl
      case s6 =>
       intro xs w' hb hT K9 hK9
       have h5 : (xs 5) = .pointer (some ⟨ba, 0, none⟩) := hT 5 (by kernel_rfl)
       clear hT
       simp only [zFp, zAp, zLa, zLb, zLc, Nat.reduceAdd, zNz] at hK9 ⊢
       have hw := Flow.hwD HW7.out hb
       have kb := (hw.block ba (ZL HKA.out)).trans HKA.out
       have y0 := ZI kb 0
       clear kb
       simp at y0
       (try simp only [h5] at hK9)
       go_simp
       exact hK9 _ _ (ZR _ _) rfl
      case s7 =>
       intro xs w' hb hT K9 hK9
       have h6 : (xs 6) = .slice (some ⟨fb, fo, none⟩) n cf := hT 6 (by kernel_rfl)
       clear hT
       simp only [zFp, zAp, zLa, zLb, zLc, Nat.reduceAdd, zNz] at hK9 ⊢
       have hw := Flow.hwD HW7.out hb
       (try simp only [h6] at hK9)
       go_simp
       exact hK9 _ _ (ZR _ _) rfl
      case s8 =>
       intro xs w' hb hT K9 hK9
       have h4 : (xs 4) = .int .i64 xk := hT 4 (by kernel_rfl)
       have h7 : (xs 7) = .int .i64 (n : Int) := hT 7 (by kernel_rfl)
       clear hT
       simp only [zFp, zAp, zLa, zLb, zLc, Nat.reduceAdd, zNz] at hK9 ⊢
       have hw := Flow.hwD HW7.out hb
       (try simp only [h4] at hK9)
       (try simp only [h7] at hK9)
       go_simp
       exact hK9 _ _ (ZR _ _) rfl
      case s9 =>
       intro xs w' hb hT K9 hK9
       have h0 : (xs 0) = .int .i64 (k : Int) := hT 0 (by kernel_rfl)
       clear hT
       simp only [zFp, zAp, zLa, zLb, zLc, Nat.reduceAdd, zNz] at hK9 ⊢
       have hw := Flow.hwD HW7.out hb
       (try simp only [h0] at hK9)
       go_simp
       exact hK9 _ _ (ZR _ _) rfl
     case fin =>
      intro xs w' hb hT
      have hw := Flow.hwD HW7.out hb
      have h8 : (xs 8) = .int .i64 (FK : Int) := hT 8 (by rfl)
      have h9 : (xs 9) = .pointer (some ⟨bi, k, none⟩) := hT 9 (by rfl)
      clear hT
      simp only [zFp, zAp, zLa, zLb, zLc, Nat.reduceAdd, zNz, FlowR.restL, FlowR.orM, Bool.false_or]
      simp only [h8, h9]
      clear h8 h9 hb
      have kbi := (hw.block bi (ZL HBI.out)).trans HBI.out
      have y0 : w'.cell? ⟨bi, k, none⟩ = some (.int .i64 0) := by rw [ZI kbi k, firsts_at _ k k HLT.out, if_neg (Nat.lt_irrefl k)]
      have f0 := ZF kbi k
      have hs := firsts_set HLT.out kbi
      rw [← HFK.out] at hs
      have HW8 := ZH (HBW.out.trans (hw.mono HBW.out.size))
      have HBI8 := ZH hs
      have HBK8 := ZH ((Below.heap_setCell w' ⟨bi, k, none⟩ (.int .i64 (FK : Int)) bk (Ne.symm HBK.out.1)).trans ((hw.block bk (ZL HBKK.out)).trans HBKK.out))
      have HBW8 := ZH (HW8.out.setCell (p := ⟨bi, k, none⟩) HBK.out.2.1 (.int .i64 (FK : Int)))
      clear kbi hs
      go_upto_region 8 with fail
      obtain ⟨w5, hw5⟩ : ∃ x, x = w'.setCell ⟨bi, k, none⟩ (.int .i64 (FK : Int)) := ⟨_, rfl⟩
      rw [← hw5] at HBI8 HBK8 HBW8 ⊢
      clear hw5 y0 f0 hw
      have HKA5 := ZH ((HBW8.out.block ba (by have h1 := ZL HK1.out; have h2 := HB2.out.size; omega)).trans ((HB2.out.block ba (ZL HK1.out)).trans HK1.out))
      have s0 := ZI HKA5.out 0
      simp at s0
      have z0 : w5.cell? ⟨bi, k, none⟩ = some (.int .i64 (FK : Int)) := by rw [ZI HBI8.out k, firsts_at _ _ k HLT.out, if_pos (by omega), HFK.out]
      have hFC0 := HFC.out FK (by have := HFE.out; have := HN.out; omega)
      have q1 := ZJ HBW8.out (ZJ HB2.out hFC0.2.1)
      have q2 := ZJ HBW8.out (ZJ HB2.out hFC0.2.2.1)
      have HQ := ZH (ZN q1 q2)
      obtain ⟨fk, hfk⟩ : ∃ x, x = (fs.getD FK Feat.none).kind := ⟨_, rfl⟩
      rw [← hfk] at q1
      have HFKD := ZH hfk
      clear q2 hFC0 hfk
      go_quiet (fail)
      obtain ⟨w6, hw6⟩ : ∃ x, x = w5.drewN nq := ⟨_, rfl⟩
      rw [← hw6]
      have hb6 : Below w5.heap.size w5 w6 := by rw [hw6]; exact below_drawn w5 nq
      have HBW6 := ZH (HBW8.out.trans (hb6.mono HBW8.out.size))
      have HBI6 := ZH ((hb6.block bi (ZL HBI8.out)).trans HBI8.out)
      have HBK6 := ZH ((hb6.block bk (ZL HBK8.out)).trans HBK8.out)
      have HX6 := ZH hb6
      clear hw6 hb6 s0 z0 q1
      by_cases hslot : fk = 2
      ·have e2 : (fk == 2) = true := by rw [hslot]; rfl
       have hgk : GK = yk % 3 - 1 := by
        rw [HGK.out.2]
        unfold siOf
        rw [if_pos (by rw [← HFKD.out]; exact hslot)]
       obtain ⟨s3, hs3⟩ : ∃ x, x = yk % 3 := ⟨_, rfl⟩
       have u1 : yk.tmod 3 = s3 := by rw [Int.tmod_eq_emod_of_nonneg HYB.out.1, hs3]
       have u2 : IntKind.u8.wrap s3 = s3 := by
        have h1 : s3 = 0 ∨ s3 = 1 ∨ s3 = 2 := by omega
        rcases h1 with h1 | h1 | h1 <;> rw [h1] <;> rfl
       have u3 : IntKind.i64.wrap s3 = s3 := IntWalk.i64_in s3 (by omega)
       have u4 : wrap64 (s3 - 1) = GK := by rw [hgk, ← hs3]; exact IntWalk.wrap64_in _ (by omega)
       have y1 : w6.cell? ⟨bc, k, none⟩ = some (.int .u8 yk) := by
        rw [ZI ((HBW6.out.block bc (by have h1 := ZL HK3.out; have h2 := HB2.out.size; omega)).trans ((HB2.out.block bc (ZL HK3.out)).trans HK3.out)) k]
        exact HYK.out
       have y2 : w6.cell? ⟨bk, k, none⟩ = some (.int .i64 0) := by rw [ZI HBK6.out k, firsts_at _ k k HLT.out, if_neg (Nat.lt_irrefl k)]
       have f2 := ZF HBK6.out k
       have hs := firsts_set HLT.out HBK6.out
       rw [← HGK.out.1] at hs
       have HBK9 := ZH hs
       have HBI9 := ZH ((Below.heap_setCell w6 ⟨bk, k, none⟩ (.int .i64 GK) bi HBK.out.1).trans HBI6.out)
       have HBW9 := ZH (HBW6.out.setCell (p := ⟨bk, k, none⟩) HBK.out.2.2 (.int .i64 GK))
       clear hs hgk hs3 hslot
       go_upto_region 10 with fail
       obtain ⟨w7, hw7⟩ : ∃ x, x = w6.setCell ⟨bk, k, none⟩ (.int .i64 GK) := ⟨_, rfl⟩
       rw [← hw7] at HBI9 HBK9 HBW9 ⊢
       clear hw7 y1 y2 f2 u1 u2 u3 u4
       have HKA7 := ZH ((HBW9.out.block ba (by have h1 := ZL HK1.out; have h2 := HB2.out.size; omega)).trans ((HB2.out.block ba (ZL HK1.out)).trans HK1.out))
       have s0 := ZI HKA7.out 0
       simp at s0
       obtain ⟨f00, hf00⟩ : ∃ x, x = F 0 := ⟨_, rfl⟩
       have hfe0 := fe_lt HN0.out x1
       have hf0n : f00 < n := by rw [hf00, HF3.out]; exact hfe0.1
       have z0 : w7.cell? ⟨bi, k, none⟩ = some (.int .i64 (FK : Int)) := by rw [ZI HBI9.out k, firsts_at _ _ k HLT.out, if_pos (by omega), HFK.out]
       have z1 : w7.cell? ⟨bi, 0, none⟩ = some (.int .i64 (f00 : Int)) := by rw [ZI HBI9.out 0, firsts_at _ _ 0 (by omega), if_pos (by omega), hf00]
       obtain ⟨a1, ha1⟩ : ∃ x, x = (fs.getD FK Feat.none).axis := ⟨_, rfl⟩
       obtain ⟨a2, ha2⟩ : ∃ x, x = (fs.getD f00 Feat.none).axis := ⟨_, rfl⟩
       have q1 := ZJ HBW9.out (ZJ HB2.out (HFC.out FK (by have := HFE.out; have := HN.out; omega)).2.2.1)
       have q2 := ZJ HBW9.out (ZJ HB2.out (HFC.out f00 (by have := HN.out; omega)).2.2.1)
       rw [← ha1] at q1
       rw [← ha2] at q2
       have g0 : (0 : Int) ≤ (f00 : Int) := by omega
       have g1 : (f00 : Int) < (n : Int) := by omega
       have HA := ZH (ZN ha1 (ZN ha2 hf00))
       clear hfe0 hf0n ha1 ha2 hf00
       go_quiet (fail)
       obtain ⟨w8, hw8⟩ : ∃ x, x = w7.drewN nq := ⟨_, rfl⟩
       rw [← hw8]
       have hb8 : Below w7.heap.size w7 w8 := by rw [hw8]; exact below_drawn w7 nq
       have HBW10 := ZH (HBW9.out.trans (hb8.mono HBW9.out.size))
       have HBI10 := ZH ((hb8.block bi (ZL HBI9.out)).trans HBI9.out)
       have HBK10 := ZH ((hb8.block bk (ZL HBK9.out)).trans HBK9.out)
       clear hw8 hb8 s0 z0 z1 q1 q2
       by_cases hax : a1 = a2
       ·have e3 : (a1 != a2) = false := by rw [hax]; simp
        have HAXN := ZH (show ∀ j, j < k + 1 → (fs.getD (F j) Feat.none).axis = (fs.getD (F 0) Feat.none).axis from fun j hj => by
         rcases Nat.lt_or_ge j k with h1 | h1
         ·exact HAX.out j h1
         ·obtain rfl : j = k := by omega
          rw [← HFK.out, ← HA.out.1, hax, HA.out.2.1, HA.out.2.2])
        clear hax
        go_wp2_with fail
        go_roundg (3 - (k + 1))
        case measure => have := HLT.out; omega
        case rel => exact ⟨k + 1, by have := HLT.out; omega, by congr 1, HBI10, HBK10, HBW10, HAXN⟩
       ·have e3 : (a1 != a2) = true := by simp [hax]
        clear hax
        go_wp2_with fail
        go_ret
        exact ⟨rfl, HAL.out.trans ((HB2.out.trans (HBW10.out.mono HB2.out.size)).mono HAL.out.size)⟩
      ·have e2 : (fk == 2) = false := ZQ.2 hslot
       have hgk : G k = 0 := by
        rw [← HGK.out.1, HGK.out.2]
        unfold siOf
        rw [if_neg (by rw [← HFKD.out]; exact hslot)]
       have HBK9 := ZH (firsts_zero HLT.out hgk HBK6.out)
       have HBI9 := HBI6
       have HBW9 := HBW6
       clear hgk hslot
       go_upto_region 10 with fail
       obtain ⟨w7, hw7⟩ : ∃ x, x = w6 := ⟨_, rfl⟩
       rw [← hw7] at HBI9 HBK9 HBW9 ⊢
       clear hw7
       have HKA7 := ZH ((HBW9.out.block ba (by have h1 := ZL HK1.out; have h2 := HB2.out.size; omega)).trans ((HB2.out.block ba (ZL HK1.out)).trans HK1.out))
       have s0 := ZI HKA7.out 0
       simp at s0
       obtain ⟨f00, hf00⟩ : ∃ x, x = F 0 := ⟨_, rfl⟩
       have hfe0 := fe_lt HN0.out x1
       have hf0n : f00 < n := by rw [hf00, HF3.out]; exact hfe0.1
       have z0 : w7.cell? ⟨bi, k, none⟩ = some (.int .i64 (FK : Int)) := by rw [ZI HBI9.out k, firsts_at _ _ k HLT.out, if_pos (by omega), HFK.out]
       have z1 : w7.cell? ⟨bi, 0, none⟩ = some (.int .i64 (f00 : Int)) := by rw [ZI HBI9.out 0, firsts_at _ _ 0 (by omega), if_pos (by omega), hf00]
       obtain ⟨a1, ha1⟩ : ∃ x, x = (fs.getD FK Feat.none).axis := ⟨_, rfl⟩
       obtain ⟨a2, ha2⟩ : ∃ x, x = (fs.getD f00 Feat.none).axis := ⟨_, rfl⟩
       have q1 := ZJ HBW9.out (ZJ HB2.out (HFC.out FK (by have := HFE.out; have := HN.out; omega)).2.2.1)
       have q2 := ZJ HBW9.out (ZJ HB2.out (HFC.out f00 (by have := HN.out; omega)).2.2.1)
       rw [← ha1] at q1
       rw [← ha2] at q2
       have g0 : (0 : Int) ≤ (f00 : Int) := by omega
       have g1 : (f00 : Int) < (n : Int) := by omega
       have HA := ZH (ZN ha1 (ZN ha2 hf00))
       clear hfe0 hf0n ha1 ha2 hf00
       go_quiet (fail)
       obtain ⟨w8, hw8⟩ : ∃ x, x = w7.drewN nq := ⟨_, rfl⟩
       rw [← hw8]
       have hb8 : Below w7.heap.size w7 w8 := by rw [hw8]; exact below_drawn w7 nq
       have HBW10 := ZH (HBW9.out.trans (hb8.mono HBW9.out.size))
       have HBI10 := ZH ((hb8.block bi (ZL HBI9.out)).trans HBI9.out)
       have HBK10 := ZH ((hb8.block bk (ZL HBK9.out)).trans HBK9.out)
       clear hw8 hb8 s0 z0 z1 q1 q2
       by_cases hax : a1 = a2
       ·have e3 : (a1 != a2) = false := by rw [hax]; simp
        have HAXN := ZH (show ∀ j, j < k + 1 → (fs.getD (F j) Feat.none).axis = (fs.getD (F 0) Feat.none).axis from fun j hj => by
         rcases Nat.lt_or_ge j k with h1 | h1
         ·exact HAX.out j h1
         ·obtain rfl : j = k := by omega
          rw [← HFK.out, ← HA.out.1, hax, HA.out.2.1, HA.out.2.2])
        clear hax
        go_wp2_with fail
        go_roundg (3 - (k + 1))
        case measure => have := HLT.out; omega
        case rel => exact ⟨k + 1, by have := HLT.out; omega, by congr 1, HBI10, HBK10, HBW10, HAXN⟩
       ·have e3 : (a1 != a2) = true := by simp [hax]
        clear hax
        go_wp2_with fail
        go_ret
        exact ⟨rfl, HAL.out.trans ((HB2.out.trans (HBW10.out.mono HB2.out.size)).mono HAL.out.size)⟩
    ·have e1 : ((k : Int) < 3) = False := eq_false (by omega)
     obtain rfl : k = 3 := by omega
     have hax3 := hax.out
     obtain ⟨f0, hf0⟩ : ∃ x, x = F 0 := ⟨_, rfl⟩
     obtain ⟨f1, hf1⟩ : ∃ x, x = F 1 := ⟨_, rfl⟩
     obtain ⟨f2, hf2⟩ : ∃ x, x = F 2 := ⟨_, rfl⟩
     obtain ⟨g0, hg0⟩ : ∃ x, x = G 0 := ⟨_, rfl⟩
     obtain ⟨g1, hg1⟩ : ∃ x, x = G 1 := ⟨_, rfl⟩
     obtain ⟨g2, hg2⟩ : ∃ x, x = G 2 := ⟨_, rfl⟩
     have hbif : wr.heap[bi]? = some (.cells #[.int .i64 (f0 : Int), .int .i64 (f1 : Int), .int .i64 (f2 : Int)] 112 (0, 0)) := by rw [hf0, hf1, hf2]; exact hbi.out
     have hbkf : wr.heap[bk]? = some (.cells #[.int .i64 g0, .int .i64 g1, .int .i64 g2] 112 (0, 0)) := by rw [hg0, hg1, hg2]; exact hbk.out
     have hFn : ∀ j, F j < fs.length := fun j => by rw [HF3.out, ← HN.out.1]; exact (fe_lt HN0.out _).1
     have hGs : ∀ j, (-1 ≤ G j ∧ G j ≤ 1) ∧ sideErr fs (F j) (G j) = 0 := fun j => by rw [HG3.out]; exact ⟨si_small _ _ _, si_ok _ _ _⟩
     have HPA := ZH (show (f0 < fs.length ∧ f1 < fs.length ∧ f2 < fs.length) ∧ (sideErr fs f0 g0 = 0 ∧ sideErr fs f1 g1 = 0 ∧ sideErr fs f2 g2 = 0) ∧ ((-1 ≤ g0 ∧ g0 ≤ 1) ∧ (-1 ≤ g1 ∧ g1 ≤ 1) ∧ (-1 ≤ g2 ∧ g2 ≤ 1)) ∧ (fs.getD f1 Feat.none).axis = (fs.getD f0 Feat.none).axis ∧ (fs.getD f2 Feat.none).axis = (fs.getD f0 Feat.none).axis by
      rw [hf0, hf1, hf2, hg0, hg1, hg2]
      exact ⟨⟨hFn 0, hFn 1, hFn 2⟩, ⟨(hGs 0).2, (hGs 1).2, (hGs 2).2⟩, ⟨(hGs 0).1, (hGs 1).1, (hGs 2).1⟩, hax3 1 (by omega), hax3 2 (by omega)⟩)
     have HCH := ZH (show ∀ f : Int, (chainOf fs fs.length f).length ≤ 1000 from fun f => by have h1 := chain_len fs fs.length f; have h2 := HCK.out.2.1; omega)
     have HBIF := ZH hbif
     have HBKF := ZH hbkf
     have HW0 := ZH hbw.out
     have HB0 := ZH (HB2.out.trans (hbw.out.mono HB2.out.size))
     have HKS := ZH (((HB2.out.trans (hbw.out.mono HB2.out.size)).block ba (ZL HK1.out)).trans HK1.out)
     have HBB0 := ZH (ZR wr.heap.size wr)
     obtain ⟨Z, hZ⟩ : ∃ Z : ByteArray, Z = ⟨ZC.toArray⟩ := ⟨_, rfl⟩
     have HZ := ZH hZ
     clear hax3 hf0 hf1 hf2 hg0 hg1 hg2 hbif hbkf hFn hGs hZ hbi hbk hbw hax
     have kk := (HBB0.out.block ba (ZL HKS.out)).trans HKS.out
     have k4 := (HBB0.out.block bi (ZL HBIF.out)).trans HBIF.out
     have k5 := (HBB0.out.block bk (ZL HBKF.out)).trans HBKF.out
     have s0 := ZI kk 0
     have s1 := ZI kk 1
     have i0 := ZI k4 0
     have i1 := ZI k4 1
     have i2 := ZI k4 2
     have j0 := ZI k5 0
     have j1 := ZI k5 1
     have j2 := ZI k5 2
     simp at s0 s1 i0 i1 i2 j0 j1 j2
     clear kk k4 k5
     have hc1 := HBE.out wr ((HG.out.below HB0.out).below HBB0.out) ((HS.out.below HB0.out).below HBB0.out) (f0 : Int) g0 (f1 : Int) g1
     obtain ⟨E1, hE⟩ : ∃ x, x = betweenErr fs zs (f0 : Int) g0 (f1 : Int) g1 := ⟨_, rfl⟩
     obtain ⟨L1, hL⟩ : ∃ x, x = sumTerms (betweenMap fs zs (f0 : Int) g0 (f1 : Int) g1) 48 := ⟨_, rfl⟩
     rw [← hE, ← hL] at hc1
     have HE1 := ZH (show E1 = 0 from hE.trans (between_ok HCK.out.1 HPA.out.1.1 HPA.out.1.2.1 HPA.out.2.1.1 HPA.out.2.1.2.1 (HPA.out.2.2.2.1.symm)))
     have HL1 := ZH hL
     have HC1 := ZH hc1
     clear hc1 hE hL
     go_wp2_with fail
     refine HC1.out.mono ?_
     rintro e v1 ⟨fv, rfl, hv, -, hb⟩
     obtain ⟨tv, rfl, ht⟩ := hv HE1.out
     obtain ⟨ta1, tn1, tc1, rfl⟩ := ht.shape
     rw [← HZ.out]
     have HT1 := ZH ht
     have HVB := ZH hb
     clear hv ht hb s0 s1 i0 i1 i2 j0 j1 j2 HC1
     go_upto_region 14 with fail
     obtain ⟨u1, hu⟩ : ∃ x, x = v1.alloc (.cells #[.string Z, .slice ta1 tn1 tc1] 78) := ⟨_, rfl⟩
     obtain ⟨q1, hq⟩ : ∃ b, b = v1.heap.size := ⟨_, rfl⟩
     rw [← hu, ← hq]
     have hl : Below v1.heap.size v1 u1 := by rw [hu]; exact (ZR _ v1).alloc (Nat.le_refl _) _
     have HKQ1 := ZH (show u1.heap[q1]? = some (.cells #[.string Z, .slice ta1 tn1 tc1] 78 (0, 0)) by rw [hu, hq]; exact ZW v1 _)
     have HX1 := ZH (show Below wr.heap.size wr u1 from HVB.out.trans (hl.mono HVB.out.size))
     have HBB1 := ZH (HBB0.out.trans (HX1.out.mono HBB0.out.size))
     have HTA1 := ZH (show FormAt u1 (.agg #[.string Z, .slice ta1 tn1 tc1]) ZC L1 from ⟨_, by rw [HZ.out], (HT1.out.below hl).reads⟩)
     clear hu hq hl HVB
     have kk := (HBB1.out.block ba (ZL HKS.out)).trans HKS.out
     have k4 := (HBB1.out.block bi (ZL HBIF.out)).trans HBIF.out
     have k5 := (HBB1.out.block bk (ZL HBKF.out)).trans HBKF.out
     have s0 := ZI kk 0
     have s1 := ZI kk 1
     have i0 := ZI k4 0
     have i1 := ZI k4 1
     have i2 := ZI k4 2
     have j0 := ZI k5 0
     have j1 := ZI k5 1
     have j2 := ZI k5 2
     simp at s0 s1 i0 i1 i2 j0 j1 j2
     clear kk k4 k5
     have hc1 := HBE.out u1 ((HG.out.below HB0.out).below HBB1.out) ((HS.out.below HB0.out).below HBB1.out) (f1 : Int) g1 (f2 : Int) g2
     obtain ⟨E2, hE⟩ : ∃ x, x = betweenErr fs zs (f1 : Int) g1 (f2 : Int) g2 := ⟨_, rfl⟩
     obtain ⟨L2, hL⟩ : ∃ x, x = sumTerms (betweenMap fs zs (f1 : Int) g1 (f2 : Int) g2) 48 := ⟨_, rfl⟩
     rw [← hE, ← hL] at hc1
     have HE2 := ZH (show E2 = 0 from hE.trans (between_ok HCK.out.1 HPA.out.1.2.1 HPA.out.1.2.2 HPA.out.2.1.2.1 HPA.out.2.1.2.2 (HPA.out.2.2.2.1.trans HPA.out.2.2.2.2.symm)))
     have HL2 := ZH hL
     have HC1 := ZH hc1
     clear hc1 hE hL
     go_wp2_with fail
     refine HC1.out.mono ?_
     rintro e v2 ⟨fv, rfl, hv, -, hb⟩
     obtain ⟨tv, rfl, ht⟩ := hv HE2.out
     obtain ⟨ta2, tn2, tc2, rfl⟩ := ht.shape
     rw [← HZ.out]
     have HT2 := ZH ht
     have HVB := ZH hb
     clear hv ht hb s0 s1 i0 i1 i2 j0 j1 j2 HC1
     go_upto_region 15 with fail
     obtain ⟨u2, hu⟩ : ∃ x, x = v2.alloc (.cells #[.string Z, .slice ta2 tn2 tc2] 78) := ⟨_, rfl⟩
     obtain ⟨q2, hq⟩ : ∃ b, b = v2.heap.size := ⟨_, rfl⟩
     rw [← hu, ← hq]
     have hl : Below v2.heap.size v2 u2 := by rw [hu]; exact (ZR _ v2).alloc (Nat.le_refl _) _
     have HKQ2 := ZH (show u2.heap[q2]? = some (.cells #[.string Z, .slice ta2 tn2 tc2] 78 (0, 0)) by rw [hu, hq]; exact ZW v2 _)
     have HX2 := ZH (show Below u1.heap.size u1 u2 from HVB.out.trans (hl.mono HVB.out.size))
     have HBB2 := ZH (HBB1.out.trans (HX2.out.mono HBB1.out.size))
     have HTA2 := ZH (show FormAt u2 (.agg #[.string Z, .slice ta2 tn2 tc2]) ZC L2 from ⟨_, by rw [HZ.out], (HT2.out.below hl).reads⟩)
     clear hu hq hl HVB
     have kk := (HBB2.out.block ba (ZL HKS.out)).trans HKS.out
     have k4 := (HBB2.out.block bi (ZL HBIF.out)).trans HBIF.out
     have k5 := (HBB2.out.block bk (ZL HBKF.out)).trans HBKF.out
     have s0 := ZI kk 0
     have s1 := ZI kk 1
     have i0 := ZI k4 0
     have i1 := ZI k4 1
     have i2 := ZI k4 2
     have j0 := ZI k5 0
     have j1 := ZI k5 1
     have j2 := ZI k5 2
     simp at s0 s1 i0 i1 i2 j0 j1 j2
     clear kk k4 k5
     have hc1 := HBE.out u2 ((HG.out.below HB0.out).below HBB2.out) ((HS.out.below HB0.out).below HBB2.out) (f0 : Int) g0 (f2 : Int) g2
     obtain ⟨E3, hE⟩ : ∃ x, x = betweenErr fs zs (f0 : Int) g0 (f2 : Int) g2 := ⟨_, rfl⟩
     obtain ⟨L3, hL⟩ : ∃ x, x = sumTerms (betweenMap fs zs (f0 : Int) g0 (f2 : Int) g2) 48 := ⟨_, rfl⟩
     rw [← hE, ← hL] at hc1
     have HE3 := ZH (show E3 = 0 from hE.trans (between_ok HCK.out.1 HPA.out.1.1 HPA.out.1.2.2 HPA.out.2.1.1 HPA.out.2.1.2.2 (HPA.out.2.2.2.2.symm)))
     have HL3 := ZH hL
     have HC1 := ZH hc1
     clear hc1 hE hL
     go_wp2_with fail
     refine HC1.out.mono ?_
     rintro e v3 ⟨fv, rfl, hv, -, hb⟩
     obtain ⟨tv, rfl, ht⟩ := hv HE3.out
     obtain ⟨ta3, tn3, tc3, rfl⟩ := ht.shape
     rw [← HZ.out]
     have HT3 := ZH ht
     have HVB := ZH hb
     clear hv ht hb s0 s1 i0 i1 i2 j0 j1 j2 HC1
     go_upto_region 16 with fail
     obtain ⟨u3, hu⟩ : ∃ x, x = v3.alloc (.cells #[.string Z, .slice ta3 tn3 tc3] 78) := ⟨_, rfl⟩
     obtain ⟨q3, hq⟩ : ∃ b, b = v3.heap.size := ⟨_, rfl⟩
     rw [← hu, ← hq]
     have hl : Below v3.heap.size v3 u3 := by rw [hu]; exact (ZR _ v3).alloc (Nat.le_refl _) _
     have HKQ3 := ZH (show u3.heap[q3]? = some (.cells #[.string Z, .slice ta3 tn3 tc3] 78 (0, 0)) by rw [hu, hq]; exact ZW v3 _)
     have HX3 := ZH (show Below u2.heap.size u2 u3 from HVB.out.trans (hl.mono HVB.out.size))
     have HBB3 := ZH (HBB2.out.trans (HX3.out.mono HBB2.out.size))
     have HTA3 := ZH (show FormAt u3 (.agg #[.string Z, .slice ta3 tn3 tc3]) ZC L3 from ⟨_, by rw [HZ.out], (HT3.out.below hl).reads⟩)
     clear hu hq hl HVB
     have kk := (HBB3.out.block ba (ZL HKS.out)).trans HKS.out
     have k4 := (HBB3.out.block bi (ZL HBIF.out)).trans HBIF.out
     have k5 := (HBB3.out.block bk (ZL HBKF.out)).trans HBKF.out
     have s0 := ZI kk 0
     have s1 := ZI kk 1
     have i0 := ZI k4 0
     have i1 := ZI k4 1
     have i2 := ZI k4 2
     have j0 := ZI k5 0
     have j1 := ZI k5 1
     have j2 := ZI k5 2
     simp at s0 s1 i0 i1 i2 j0 j1 j2
     clear kk k4 k5
     have hc1 := HBE.out u3 ((HG.out.below HB0.out).below HBB3.out) ((HS.out.below HB0.out).below HBB3.out) (f1 : Int) g1 (f0 : Int) g0
     obtain ⟨E4, hE⟩ : ∃ x, x = betweenErr fs zs (f1 : Int) g1 (f0 : Int) g0 := ⟨_, rfl⟩
     obtain ⟨L4, hL⟩ : ∃ x, x = sumTerms (betweenMap fs zs (f1 : Int) g1 (f0 : Int) g0) 48 := ⟨_, rfl⟩
     rw [← hE, ← hL] at hc1
     have HE4 := ZH (show E4 = 0 from hE.trans (between_ok HCK.out.1 HPA.out.1.2.1 HPA.out.1.1 HPA.out.2.1.2.1 HPA.out.2.1.1 (HPA.out.2.2.2.1)))
     have HL4 := ZH hL
     have HC1 := ZH hc1
     clear hc1 hE hL
     go_wp2_with fail
     refine HC1.out.mono ?_
     rintro e v4 ⟨fv, rfl, hv, -, hb⟩
     obtain ⟨tv, rfl, ht⟩ := hv HE4.out
     obtain ⟨ta4, tn4, tc4, rfl⟩ := ht.shape
     rw [← HZ.out]
     have HT4 := ZH ht
     have HVB := ZH hb
     clear hv ht hb s0 s1 i0 i1 i2 j0 j1 j2 HC1
     go_upto_region 17 with fail
     obtain ⟨u4, hu⟩ : ∃ x, x = v4.alloc (.cells #[.string Z, .slice ta4 tn4 tc4] 78) := ⟨_, rfl⟩
     obtain ⟨q4, hq⟩ : ∃ b, b = v4.heap.size := ⟨_, rfl⟩
     rw [← hu, ← hq]
     have hl : Below v4.heap.size v4 u4 := by rw [hu]; exact (ZR _ v4).alloc (Nat.le_refl _) _
     have HKQ4 := ZH (show u4.heap[q4]? = some (.cells #[.string Z, .slice ta4 tn4 tc4] 78 (0, 0)) by rw [hu, hq]; exact ZW v4 _)
     have HX4 := ZH (show Below u3.heap.size u3 u4 from HVB.out.trans (hl.mono HVB.out.size))
     have HBB4 := ZH (HBB3.out.trans (HX4.out.mono HBB3.out.size))
     have HTA4 := ZH (show FormAt u4 (.agg #[.string Z, .slice ta4 tn4 tc4]) ZC L4 from ⟨_, by rw [HZ.out], (HT4.out.below hl).reads⟩)
     clear hu hq hl HVB
     have HY3 := HX4
     have HY2 := ZH (HX3.out.trans (HX4.out.mono HX3.out.size))
     have HY1 := ZH (HX2.out.trans (HY2.out.mono HX2.out.size))
     have HY4 := ZH (ZR u4.heap.size u4)
     have hl1 : L1.length ≤ 1000 := by rw [HL1.out]; have := terms_len (betweenMap fs zs (f0 : Int) g0 (f1 : Int) g1) 48; omega
     have hl2 : L2.length ≤ 1000 := by rw [HL2.out]; have := terms_len (betweenMap fs zs (f1 : Int) g1 (f2 : Int) g2) 48; omega
     have hft1 : ∀ p, p ∈ L1 → fineTerm 48 400 p := by rw [HL1.out]; exact between_fine fs zs (f0 : Int) g0 (f1 : Int) g1 48 HPA.out.2.2.1.1 HPA.out.2.2.1.2.1 (HCH.out _) (HCH.out _)
     have hft2 : ∀ p, p ∈ L2 → fineTerm 48 400 p := by rw [HL2.out]; exact between_fine fs zs (f1 : Int) g1 (f2 : Int) g2 48 HPA.out.2.2.1.2.1 HPA.out.2.2.1.2.2 (HCH.out _) (HCH.out _)
     obtain ⟨SA, hSA⟩ : ∃ x, x = sumTerms (addAll (L1 ++ L2) noMap) 48 := ⟨_, rfl⟩
     obtain ⟨SB, hSB⟩ : ∃ x, x = sumTerms (scaleAll L1 ((-1 : Int) : Rat) noMap) 48 := ⟨_, rfl⟩
     have HSA := ZH (show SA = L3 by rw [hSA, HL1.out, HL2.out, HL3.out]; exact between_adds fs zs _ _ _ _ _ _ 48)
     have HSB := ZH (show SB = L4 by rw [hSB, HL1.out, HL4.out]; exact between_turns fs zs _ _ _ _ 48 (terms_all _ 48).2)
     have hzv : readVal ZC = 0 := by rw [HZC.out, read_num]; simp
     obtain ⟨C1, hC1⟩ : ∃ x, x = numText (readVal ZC + readVal ZC) := ⟨_, rfl⟩
     obtain ⟨C2, hC2⟩ : ∃ x, x = numText (readVal ZC * ((-1 : Int) : Rat)) := ⟨_, rfl⟩
     have HC1 := ZH (show C1 = ZC by rw [hC1, hzv, HZC.out]; congr 1 <;> simp [Rat.add_zero])
     have HC2 := ZH (show C2 = ZC by rw [hC2, hzv, HZC.out, Rat.zero_mul]; congr 1 <;> simp)
     have hzl : ZC.length ≤ 400 ∧ readErr ZC 65536 = 0 := by
      have h1 := whole_len (z := 0) (by omega) (by omega)
      rw [← HZC.out] at h1
      refine ⟨by omega, ?_⟩
      rw [HZC.out] at h1 ⊢
      exact read_num_ok (by omega) (by omega)
     have HGU := ZH ((HG.out.below HB0.out).below HBB4.out)
     have HAD := ZH (fun (W : World) (hW : Below u4.heap.size u4 W) {x y : Value} (hx : FormAt W x ZC L1) (hy : FormAt W y ZC L2) => mAdd_any (N := 48) (S := 400) (HGU.out.below hW) hx hy hl1 hl2 (by omega) (by omega) hzl.1 hzl.2 hzl.1 hzl.2 (fun p hp => (List.mem_append.1 hp).elim (hft1 p) (hft2 p)) (by omega))
     have HSC := ZH (fun (W : World) (hW : Below u4.heap.size u4 W) {x y : Value} (hx : FormAt W x ZC L1) (hy : RtIn W y ((-1 : Int) : Rat) 2) => mScale_any (N := 48) (S := 400) (HGU.out.below hW) hx (by omega) hy (by omega) (by omega) (by omega) hzl.1 hzl.2 hft1 (by omega))
     have HLA := ZH (show SA.length ≤ 1000000 ∧ SB.length ≤ 1000000 by
      have h1 := terms_len (addAll (L1 ++ L2) noMap) 48
      have h2 := terms_len (scaleAll L1 ((-1 : Int) : Rat) noMap) 48
      rw [hSA, hSB]
      omega)
     have HCS := ZH (ZN hSA (ZN hSB (ZN hC1 hC2)))
     obtain ⟨S1, hS1⟩ : ∃ x, x = decide (C1 = ZC ∧ SA = L3) := ⟨_, rfl⟩
     obtain ⟨S2, hS2⟩ : ∃ x, x = decide (C2 = ZC ∧ SB = L4) := ⟨_, rfl⟩
     have HS12 := ZH (ZN hS1 hS2)
     clear hl1 hl2 hft1 hft2 hSA hSB hzv hC1 hC2 hzl hS1 hS2
     go_upto_region 17 with fail
     refine FlowR.wp_region_sel (fun a b => Below a.heap.size a b) (fun a => ZR _ a) (fun _ _ _ h k => h.trans (k.mono h.size)) [0, 1, 2, 3, 4, 5, 6, 7, 8, 9, 10, 11, 12, 13, 14, 15, 16, 17, 18, 19, 20, 21, 22, 23, 24, 25, 26, 27] [false, false, false, false, false, false, false, false, false, false, false, false, false, false, false, false, false, false, false, false, false, false, false, false, false, false, false, false, false] [true, true, true, true, true, true, true, true, true, true, true, true, true, true, true, true, true, true, true, true, true, true, true, true, true, true, true, true, false] (fun i9 v w' => match i9 with
      | 0 => v = .int .i64 E1
      | 1 => v = .bool (E1 == 0)
      | 2 => v = .bool (E1 == 0)
      | 3 => (E1 == 0) = true → v = .int .i64 E2
      | 4 => (E1 == 0) = true → v = .bool (E2 == 0)
      | 5 => v = .bool ((E1 == 0) && (E2 == 0))
      | 6 => v = .bool ((E1 == 0) && (E2 == 0))
      | 7 => ((E1 == 0) && (E2 == 0)) = true → v = .int .i64 E3
      | 8 => ((E1 == 0) && (E2 == 0)) = true → v = .bool (E3 == 0)
      | 9 => v = .bool (((E1 == 0) && (E2 == 0)) && (E3 == 0))
      | 10 => v = .bool (((E1 == 0) && (E2 == 0)) && (E3 == 0))
      | 11 => (((E1 == 0) && (E2 == 0)) && (E3 == 0)) = true → v = .int .i64 E4
      | 12 => (((E1 == 0) && (E2 == 0)) && (E3 == 0)) = true → v = .bool (E4 == 0)
      | 13 => v = .bool ((((E1 == 0) && (E2 == 0)) && (E3 == 0)) && (E4 == 0))
      | 14 => v = .bool ((((E1 == 0) && (E2 == 0)) && (E3 == 0)) && (E4 == 0))
      | 15 => ((((E1 == 0) && (E2 == 0)) && (E3 == 0)) && (E4 == 0)) = true → v = .agg #[.string Z, .slice ta1 tn1 tc1]
      | 16 => ((((E1 == 0) && (E2 == 0)) && (E3 == 0)) && (E4 == 0)) = true → v = .agg #[.string Z, .slice ta2 tn2 tc2]
      | 17 => ((((E1 == 0) && (E2 == 0)) && (E3 == 0)) && (E4 == 0)) = true → FormIn w' u4.heap.size v C1 SA
      | 18 => ((((E1 == 0) && (E2 == 0)) && (E3 == 0)) && (E4 == 0)) = true → v = .agg #[.string Z, .slice ta3 tn3 tc3]
      | 19 => ((((E1 == 0) && (E2 == 0)) && (E3 == 0)) && (E4 == 0)) = true → v = .bool S1
      | 20 => v = .bool (((((E1 == 0) && (E2 == 0)) && (E3 == 0)) && (E4 == 0)) && S1)
      | 21 => v = .bool (((((E1 == 0) && (E2 == 0)) && (E3 == 0)) && (E4 == 0)) && S1)
      | 22 => (((((E1 == 0) && (E2 == 0)) && (E3 == 0)) && (E4 == 0)) && S1) = true → v = .agg #[.string Z, .slice ta1 tn1 tc1]
      | 23 => (((((E1 == 0) && (E2 == 0)) && (E3 == 0)) && (E4 == 0)) && S1) = true → RtIn w' v ((-1 : Int) : Rat) 2
      | 24 => (((((E1 == 0) && (E2 == 0)) && (E3 == 0)) && (E4 == 0)) && S1) = true → FormIn w' u4.heap.size v C2 SB
      | 25 => (((((E1 == 0) && (E2 == 0)) && (E3 == 0)) && (E4 == 0)) && S1) = true → v = .agg #[.string Z, .slice ta4 tn4 tc4]
      | 26 => (((((E1 == 0) && (E2 == 0)) && (E3 == 0)) && (E4 == 0)) && S1) = true → v = .bool S2
      | _ => v = .bool ((((((E1 == 0) && (E2 == 0)) && (E3 == 0)) && (E4 == 0)) && S1) && S2)) rfl rfl (by kernel_rfl) (by kernel_rfl) (by kernel_rfl) (by kernel_rfl) ?st ?steps ?fin
     case st =>
      intro i9 v u1 u2 h hb
      match i9 with
      | 0 | 1 | 2 | 3 | 4 | 5 | 6 | 7 | 8 | 9 | 10 | 11 | 12 | 13 | 14 | 15 | 16 | 18 | 19 | 20 | 21 | 22 | 25 | 26 | 27 | _ + 28 => exact h
      | 17 => exact fun hq => ((show ((((E1 == 0) && (E2 == 0)) && (E3 == 0)) && (E4 == 0)) = true → FormIn u1 u4.heap.size v C1 SA from h) hq).below hb
      | 23 => exact fun hq => ((show (((((E1 == 0) && (E2 == 0)) && (E3 == 0)) && (E4 == 0)) && S1) = true → RtIn u1 v ((-1 : Int) : Rat) 2 from h) hq).below hb
      | 24 => exact fun hq => ((show (((((E1 == 0) && (E2 == 0)) && (E3 == 0)) && (E4 == 0)) && S1) = true → FormIn u1 u4.heap.size v C2 SB from h) hq).below hb
     case steps =>
      refine zSc (zSo rfl ?s0) (zSc (zSo rfl ?s1) (zSc (zSo rfl ?s2) (zSc (zSo rfl ?s3) (zSc (zSo rfl ?s4) (zSc (zSo rfl ?s5) (zSc (zSo rfl ?s6) (zSc (zSo rfl ?s7) (zSc (zSo rfl ?s8) (zSc (zSo rfl ?s9) (zSc (zSo rfl ?s10) (zSc (zSo rfl ?s11) (zSc (zSo rfl ?s12) (zSc (zSo rfl ?s13) (zSc (zSo rfl ?s14) (zSc (zSo rfl ?s15) (zSc (zSo rfl ?s16) (zSc (zSo rfl ?s17) (zSc (zSo rfl ?s18) (zSc (zSo rfl ?s19) (zSc (zSo rfl ?s20) (zSc (zSo rfl ?s21) (zSc (zSo rfl ?s22) (zSc (zSo rfl ?s23) (zSc (zSo rfl ?s24) (zSc (zSo rfl ?s25) (zSc (zSo rfl ?s26) (zSc (zSo rfl ?s27) zSn)))))))))))))))))))))))))))
      case s0 =>
       intro xs w' hb hT K9 hK9
       clear hT
       simp only [zFp, zAp, zLa, zLb, zLc, Nat.reduceAdd, zNz] at hK9 ⊢
       have hw := Flow.hwD HY4.out hb
       go_simp
       exact hK9 _ _ (ZR _ _) rfl
      case s1 =>
       intro xs w' hb hT K9 hK9
       have h0 : (xs 0) = .int .i64 E1 := hT 0 (by kernel_rfl)
       clear hT
       simp only [zFp, zAp, zLa, zLb, zLc, Nat.reduceAdd, zNz] at hK9 ⊢
       have hw := Flow.hwD HY4.out hb
       (try simp only [h0] at hK9)
       go_simp
       exact hK9 _ _ (ZR _ _) rfl
      case s2 =>
       intro xs w' hb hT K9 hK9
       have h1 : (xs 1) = .bool (E1 == 0) := hT 1 (by kernel_rfl)
       clear hT
       simp only [zFp, zAp, zLa, zLb, zLc, Nat.reduceAdd, zNz] at hK9 ⊢
       have hw := Flow.hwD HY4.out hb
       (try simp only [h1] at hK9)
       go_simp
       exact hK9 _ _ (ZR _ _) rfl
      case s3 =>
       intro xs w' hb hT K9 hK9
       have h2 : (xs 2) = .bool (E1 == 0) := hT 2 (by kernel_rfl)
       clear hT
       simp only [zFp, zAp, zLa, zLb, zLc, Nat.reduceAdd, zNz] at hK9 ⊢
       have hw := Flow.hwD HY4.out hb
       by_cases hg : (E1 == 0) = true
       ·rw [hg] at h2
        (try simp only [h2] at hK9)
        go_simp
        exact hK9 _ _ (ZR _ _) (fun _ => rfl)
       ·have hg' : (E1 == 0) = false := eq_false_of_ne_true hg
        rw [hg'] at h2
        (try simp only [h2] at hK9)
        go_simp
        exact hK9 _ _ (ZR _ _) (fun h => absurd h hg)
      case s4 =>
       intro xs w' hb hT K9 hK9
       have h2 : (xs 2) = .bool (E1 == 0) := hT 2 (by kernel_rfl)
       have h3 : (E1 == 0) = true → (xs 3) = .int .i64 E2 := hT 3 (by kernel_rfl)
       clear hT
       simp only [zFp, zAp, zLa, zLb, zLc, Nat.reduceAdd, zNz] at hK9 ⊢
       have hw := Flow.hwD HY4.out hb
       by_cases hg : (E1 == 0) = true
       ·rw [hg] at h2
        replace h3 := h3 hg
        (try simp only [h2] at hK9)
        (try simp only [h3] at hK9)
        go_simp
        exact hK9 _ _ (ZR _ _) (fun _ => rfl)
       ·have hg' : (E1 == 0) = false := eq_false_of_ne_true hg
        rw [hg'] at h2
        (try simp only [h2] at hK9)
        clear h3
        go_simp
        exact hK9 _ _ (ZR _ _) (fun h => absurd h hg)
      case s5 =>
       intro xs w' hb hT K9 hK9
       have h2 : (xs 2) = .bool (E1 == 0) := hT 2 (by kernel_rfl)
       have h4 : (E1 == 0) = true → (xs 4) = .bool (E2 == 0) := hT 4 (by kernel_rfl)
       clear hT
       simp only [zFp, zAp, zLa, zLb, zLc, Nat.reduceAdd, zNz] at hK9 ⊢
       have hw := Flow.hwD HY4.out hb
       by_cases hg : (E1 == 0) = true
       ·rw [hg] at h2
        replace h4 := h4 hg
        (try simp only [h2] at hK9)
        (try simp only [h4] at hK9)
        go_simp
        exact hK9 _ _ (ZR _ _) (by simp [ hg])
       ·have hg' : (E1 == 0) = false := eq_false_of_ne_true hg
        rw [hg'] at h2
        clear h4
        (try simp only [h2] at hK9)
        go_simp
        exact hK9 _ _ (ZR _ _) (by simp [ hg'])
      case s6 =>
       intro xs w' hb hT K9 hK9
       have h5 : (xs 5) = .bool ((E1 == 0) && (E2 == 0)) := hT 5 (by kernel_rfl)
       clear hT
       simp only [zFp, zAp, zLa, zLb, zLc, Nat.reduceAdd, zNz] at hK9 ⊢
       have hw := Flow.hwD HY4.out hb
       (try simp only [h5] at hK9)
       go_simp
       exact hK9 _ _ (ZR _ _) rfl
      case s7 =>
       intro xs w' hb hT K9 hK9
       have h6 : (xs 6) = .bool ((E1 == 0) && (E2 == 0)) := hT 6 (by kernel_rfl)
       clear hT
       simp only [zFp, zAp, zLa, zLb, zLc, Nat.reduceAdd, zNz] at hK9 ⊢
       have hw := Flow.hwD HY4.out hb
       by_cases hg : ((E1 == 0) && (E2 == 0)) = true
       ·rw [hg] at h6
        (try simp only [h6] at hK9)
        go_simp
        exact hK9 _ _ (ZR _ _) (fun _ => rfl)
       ·have hg' : ((E1 == 0) && (E2 == 0)) = false := eq_false_of_ne_true hg
        rw [hg'] at h6
        (try simp only [h6] at hK9)
        go_simp
        exact hK9 _ _ (ZR _ _) (fun h => absurd h hg)
      case s8 =>
       intro xs w' hb hT K9 hK9
       have h6 : (xs 6) = .bool ((E1 == 0) && (E2 == 0)) := hT 6 (by kernel_rfl)
       have h7 : ((E1 == 0) && (E2 == 0)) = true → (xs 7) = .int .i64 E3 := hT 7 (by kernel_rfl)
       clear hT
       simp only [zFp, zAp, zLa, zLb, zLc, Nat.reduceAdd, zNz] at hK9 ⊢
       have hw := Flow.hwD HY4.out hb
       by_cases hg : ((E1 == 0) && (E2 == 0)) = true
       ·rw [hg] at h6
        replace h7 := h7 hg
        (try simp only [h6] at hK9)
        (try simp only [h7] at hK9)
        go_simp
        exact hK9 _ _ (ZR _ _) (fun _ => rfl)
       ·have hg' : ((E1 == 0) && (E2 == 0)) = false := eq_false_of_ne_true hg
        rw [hg'] at h6
        (try simp only [h6] at hK9)
        clear h7
        go_simp
        exact hK9 _ _ (ZR _ _) (fun h => absurd h hg)
      case s9 =>
       intro xs w' hb hT K9 hK9
       have h6 : (xs 6) = .bool ((E1 == 0) && (E2 == 0)) := hT 6 (by kernel_rfl)
       have h8 : ((E1 == 0) && (E2 == 0)) = true → (xs 8) = .bool (E3 == 0) := hT 8 (by kernel_rfl)
       clear hT
       simp only [zFp, zAp, zLa, zLb, zLc, Nat.reduceAdd, zNz] at hK9 ⊢
       have hw := Flow.hwD HY4.out hb
       by_cases hg : ((E1 == 0) && (E2 == 0)) = true
       ·rw [hg] at h6
        replace h8 := h8 hg
        (try simp only [h6] at hK9)
        (try simp only [h8] at hK9)
        go_simp
        exact hK9 _ _ (ZR _ _) (by simp [ hg])
       ·have hg' : ((E1 == 0) && (E2 == 0)) = false := eq_false_of_ne_true hg
        rw [hg'] at h6
        clear h8
        (try simp only [h6] at hK9)
        go_simp
        exact hK9 _ _ (ZR _ _) (by simp [ hg'])
      case s10 =>
       intro xs w' hb hT K9 hK9
       have h9 : (xs 9) = .bool (((E1 == 0) && (E2 == 0)) && (E3 == 0)) := hT 9 (by kernel_rfl)
       clear hT
       simp only [zFp, zAp, zLa, zLb, zLc, Nat.reduceAdd, zNz] at hK9 ⊢
       have hw := Flow.hwD HY4.out hb
       (try simp only [h9] at hK9)
       go_simp
       exact hK9 _ _ (ZR _ _) rfl
      case s11 =>
       intro xs w' hb hT K9 hK9
       have h10 : (xs 10) = .bool (((E1 == 0) && (E2 == 0)) && (E3 == 0)) := hT 10 (by kernel_rfl)
       clear hT
       simp only [zFp, zAp, zLa, zLb, zLc, Nat.reduceAdd, zNz] at hK9 ⊢
       have hw := Flow.hwD HY4.out hb
       by_cases hg : (((E1 == 0) && (E2 == 0)) && (E3 == 0)) = true
       ·rw [hg] at h10
        (try simp only [h10] at hK9)
        go_simp
        exact hK9 _ _ (ZR _ _) (fun _ => rfl)
       ·have hg' : (((E1 == 0) && (E2 == 0)) && (E3 == 0)) = false := eq_false_of_ne_true hg
        rw [hg'] at h10
        (try simp only [h10] at hK9)
        go_simp
        exact hK9 _ _ (ZR _ _) (fun h => absurd h hg)
      case s12 =>
       intro xs w' hb hT K9 hK9
       have h10 : (xs 10) = .bool (((E1 == 0) && (E2 == 0)) && (E3 == 0)) := hT 10 (by kernel_rfl)
       have h11 : (((E1 == 0) && (E2 == 0)) && (E3 == 0)) = true → (xs 11) = .int .i64 E4 := hT 11 (by kernel_rfl)
       clear hT
       simp only [zFp, zAp, zLa, zLb, zLc, Nat.reduceAdd, zNz] at hK9 ⊢
       have hw := Flow.hwD HY4.out hb
       by_cases hg : (((E1 == 0) && (E2 == 0)) && (E3 == 0)) = true
       ·rw [hg] at h10
        replace h11 := h11 hg
        (try simp only [h10] at hK9)
        (try simp only [h11] at hK9)
        go_simp
        exact hK9 _ _ (ZR _ _) (fun _ => rfl)
       ·have hg' : (((E1 == 0) && (E2 == 0)) && (E3 == 0)) = false := eq_false_of_ne_true hg
        rw [hg'] at h10
        (try simp only [h10] at hK9)
        clear h11
        go_simp
        exact hK9 _ _ (ZR _ _) (fun h => absurd h hg)
      case s13 =>
       intro xs w' hb hT K9 hK9
       have h10 : (xs 10) = .bool (((E1 == 0) && (E2 == 0)) && (E3 == 0)) := hT 10 (by kernel_rfl)
       have h12 : (((E1 == 0) && (E2 == 0)) && (E3 == 0)) = true → (xs 12) = .bool (E4 == 0) := hT 12 (by kernel_rfl)
       clear hT
       simp only [zFp, zAp, zLa, zLb, zLc, Nat.reduceAdd, zNz] at hK9 ⊢
       have hw := Flow.hwD HY4.out hb
       by_cases hg : (((E1 == 0) && (E2 == 0)) && (E3 == 0)) = true
       ·rw [hg] at h10
        replace h12 := h12 hg
        (try simp only [h10] at hK9)
        (try simp only [h12] at hK9)
        go_simp
        exact hK9 _ _ (ZR _ _) (by simp [ hg])
       ·have hg' : (((E1 == 0) && (E2 == 0)) && (E3 == 0)) = false := eq_false_of_ne_true hg
        rw [hg'] at h10
        clear h12
        (try simp only [h10] at hK9)
        go_simp
        exact hK9 _ _ (ZR _ _) (by simp [ hg'])
      case s14 =>
       intro xs w' hb hT K9 hK9
       have h13 : (xs 13) = .bool ((((E1 == 0) && (E2 == 0)) && (E3 == 0)) && (E4 == 0)) := hT 13 (by kernel_rfl)
       clear hT
       simp only [zFp, zAp, zLa, zLb, zLc, Nat.reduceAdd, zNz] at hK9 ⊢
       have hw := Flow.hwD HY4.out hb
       (try simp only [h13] at hK9)
       go_simp
       exact hK9 _ _ (ZR _ _) rfl
      case s15 =>
       intro xs w' hb hT K9 hK9
       have h14 : (xs 14) = .bool ((((E1 == 0) && (E2 == 0)) && (E3 == 0)) && (E4 == 0)) := hT 14 (by kernel_rfl)
       clear hT
       simp only [zFp, zAp, zLa, zLb, zLc, Nat.reduceAdd, zNz] at hK9 ⊢
       have hw := Flow.hwD HY4.out hb
       by_cases hg : ((((E1 == 0) && (E2 == 0)) && (E3 == 0)) && (E4 == 0)) = true
       ·rw [hg] at h14
        have kb := ((HY1.out.trans (hw.mono HY1.out.size)).block q1 (ZL HKQ1.out)).trans HKQ1.out
        have y0 := ZI kb 0
        have y1 := ZI kb 1
        clear kb
        simp at y0 y1
        (try simp only [h14] at hK9)
        go_simp
        exact hK9 _ _ (ZR _ _) (fun _ => rfl)
       ·have hg' : ((((E1 == 0) && (E2 == 0)) && (E3 == 0)) && (E4 == 0)) = false := eq_false_of_ne_true hg
        rw [hg'] at h14
        (try simp only [h14] at hK9)
        go_simp
        exact hK9 _ _ (ZR _ _) (fun h => absurd h hg)
      case s16 =>
       intro xs w' hb hT K9 hK9
       have h14 : (xs 14) = .bool ((((E1 == 0) && (E2 == 0)) && (E3 == 0)) && (E4 == 0)) := hT 14 (by kernel_rfl)
       clear hT
       simp only [zFp, zAp, zLa, zLb, zLc, Nat.reduceAdd, zNz] at hK9 ⊢
       have hw := Flow.hwD HY4.out hb
       by_cases hg : ((((E1 == 0) && (E2 == 0)) && (E3 == 0)) && (E4 == 0)) = true
       ·rw [hg] at h14
        have kb := ((HY2.out.trans (hw.mono HY2.out.size)).block q2 (ZL HKQ2.out)).trans HKQ2.out
        have y0 := ZI kb 0
        have y1 := ZI kb 1
        clear kb
        simp at y0 y1
        (try simp only [h14] at hK9)
        go_simp
        exact hK9 _ _ (ZR _ _) (fun _ => rfl)
       ·have hg' : ((((E1 == 0) && (E2 == 0)) && (E3 == 0)) && (E4 == 0)) = false := eq_false_of_ne_true hg
        rw [hg'] at h14
        (try simp only [h14] at hK9)
        go_simp
        exact hK9 _ _ (ZR _ _) (fun h => absurd h hg)
      case s17 =>
       intro xs w' hb hT K9 hK9
       have h14 : (xs 14) = .bool ((((E1 == 0) && (E2 == 0)) && (E3 == 0)) && (E4 == 0)) := hT 14 (by kernel_rfl)
       have h15 : ((((E1 == 0) && (E2 == 0)) && (E3 == 0)) && (E4 == 0)) = true → (xs 15) = .agg #[.string Z, .slice ta1 tn1 tc1] := hT 15 (by kernel_rfl)
       have h16 : ((((E1 == 0) && (E2 == 0)) && (E3 == 0)) && (E4 == 0)) = true → (xs 16) = .agg #[.string Z, .slice ta2 tn2 tc2] := hT 16 (by kernel_rfl)
       clear hT
       simp only [zFp, zAp, zLa, zLb, zLc, Nat.reduceAdd, zNz] at hK9 ⊢
       have hw := Flow.hwD HY4.out hb
       by_cases hg : ((((E1 == 0) && (E2 == 0)) && (E3 == 0)) && (E4 == 0)) = true
       ·rw [hg] at h14
        replace h15 := h15 hg
        replace h16 := h16 hg
        (try simp only [h14] at hK9)
        (try simp only [h15] at hK9)
        (try simp only [h16] at hK9)
        go_simp
        go_at_call 51
        refine (HAD.out w' hw ((HTA1.out.below (HY1.out.trans (hw.mono HY1.out.size)))) ((HTA2.out.below (HY2.out.trans (hw.mono HY2.out.size))))).mono ?_
        rintro e w3 ⟨v3, rfl, hi3, hb3⟩
        exact hK9 _ _ hb3 (fun _ => (by rw [HCS.out.2.2.1, HCS.out.1]; obtain ⟨tv3, e3, ht3⟩ := hi3; exact ⟨tv3, e3, World.ownsRow.mono ht3 hw.size⟩))
       ·have hg' : ((((E1 == 0) && (E2 == 0)) && (E3 == 0)) && (E4 == 0)) = false := eq_false_of_ne_true hg
        rw [hg'] at h14
        (try simp only [h14] at hK9)
        clear h15 h16
        go_simp
        exact hK9 _ _ (ZR _ _) (fun h => absurd h hg)
      case s18 =>
       intro xs w' hb hT K9 hK9
       have h14 : (xs 14) = .bool ((((E1 == 0) && (E2 == 0)) && (E3 == 0)) && (E4 == 0)) := hT 14 (by kernel_rfl)
       clear hT
       simp only [zFp, zAp, zLa, zLb, zLc, Nat.reduceAdd, zNz] at hK9 ⊢
       have hw := Flow.hwD HY4.out hb
       by_cases hg : ((((E1 == 0) && (E2 == 0)) && (E3 == 0)) && (E4 == 0)) = true
       ·rw [hg] at h14
        have kb := ((HY3.out.trans (hw.mono HY3.out.size)).block q3 (ZL HKQ3.out)).trans HKQ3.out
        have y0 := ZI kb 0
        have y1 := ZI kb 1
        clear kb
        simp at y0 y1
        (try simp only [h14] at hK9)
        go_simp
        exact hK9 _ _ (ZR _ _) (fun _ => rfl)
       ·have hg' : ((((E1 == 0) && (E2 == 0)) && (E3 == 0)) && (E4 == 0)) = false := eq_false_of_ne_true hg
        rw [hg'] at h14
        (try simp only [h14] at hK9)
        go_simp
        exact hK9 _ _ (ZR _ _) (fun h => absurd h hg)
      case s19 =>
       intro xs w' hb hT K9 hK9
       have h14 : (xs 14) = .bool ((((E1 == 0) && (E2 == 0)) && (E3 == 0)) && (E4 == 0)) := hT 14 (by kernel_rfl)
       have h17 : ((((E1 == 0) && (E2 == 0)) && (E3 == 0)) && (E4 == 0)) = true → FormIn w' u4.heap.size (xs 17) C1 SA := hT 17 (by kernel_rfl)
       have h18 : ((((E1 == 0) && (E2 == 0)) && (E3 == 0)) && (E4 == 0)) = true → (xs 18) = .agg #[.string Z, .slice ta3 tn3 tc3] := hT 18 (by kernel_rfl)
       clear hT
       simp only [zFp, zAp, zLa, zLb, zLc, Nat.reduceAdd, zNz] at hK9 ⊢
       have hw := Flow.hwD HY4.out hb
       by_cases hg : ((((E1 == 0) && (E2 == 0)) && (E3 == 0)) && (E4 == 0)) = true
       ·rw [hg] at h14
        replace h17 := h17 hg
        replace h18 := h18 hg
        (try simp only [h14] at hK9)
        (try simp only [h18] at hK9)
        go_simp
        go_at_call 35
        refine (sameForm_any (h17.reads) ((HTA3.out.below (HY3.out.trans (hw.mono HY3.out.size)))) HLA.out.1).mono ?_
        rintro e w3 ⟨rfl, hb3⟩
        exact hK9 _ _ hb3 (fun _ => (by rw [HS12.out.1]))
       ·have hg' : ((((E1 == 0) && (E2 == 0)) && (E3 == 0)) && (E4 == 0)) = false := eq_false_of_ne_true hg
        rw [hg'] at h14
        (try simp only [h14] at hK9)
        clear h17 h18
        go_simp
        exact hK9 _ _ (ZR _ _) (fun h => absurd h hg)
      case s20 =>
       intro xs w' hb hT K9 hK9
       have h14 : (xs 14) = .bool ((((E1 == 0) && (E2 == 0)) && (E3 == 0)) && (E4 == 0)) := hT 14 (by kernel_rfl)
       have h19 : ((((E1 == 0) && (E2 == 0)) && (E3 == 0)) && (E4 == 0)) = true → (xs 19) = .bool S1 := hT 19 (by kernel_rfl)
       clear hT
       simp only [zFp, zAp, zLa, zLb, zLc, Nat.reduceAdd, zNz] at hK9 ⊢
       have hw := Flow.hwD HY4.out hb
       by_cases hg : ((((E1 == 0) && (E2 == 0)) && (E3 == 0)) && (E4 == 0)) = true
       ·rw [hg] at h14
        replace h19 := h19 hg
        (try simp only [h14] at hK9)
        (try simp only [h19] at hK9)
        go_simp
        exact hK9 _ _ (ZR _ _) (by simp [ hg])
       ·have hg' : ((((E1 == 0) && (E2 == 0)) && (E3 == 0)) && (E4 == 0)) = false := eq_false_of_ne_true hg
        rw [hg'] at h14
        clear h19
        (try simp only [h14] at hK9)
        go_simp
        exact hK9 _ _ (ZR _ _) (by simp [ hg'])
      case s21 =>
       intro xs w' hb hT K9 hK9
       have h20 : (xs 20) = .bool (((((E1 == 0) && (E2 == 0)) && (E3 == 0)) && (E4 == 0)) && S1) := hT 20 (by kernel_rfl)
       clear hT
       simp only [zFp, zAp, zLa, zLb, zLc, Nat.reduceAdd, zNz] at hK9 ⊢
       have hw := Flow.hwD HY4.out hb
       (try simp only [h20] at hK9)
       go_simp
       exact hK9 _ _ (ZR _ _) rfl
      case s22 =>
       intro xs w' hb hT K9 hK9
       have h21 : (xs 21) = .bool (((((E1 == 0) && (E2 == 0)) && (E3 == 0)) && (E4 == 0)) && S1) := hT 21 (by kernel_rfl)
       clear hT
       simp only [zFp, zAp, zLa, zLb, zLc, Nat.reduceAdd, zNz] at hK9 ⊢
       have hw := Flow.hwD HY4.out hb
       by_cases hg : (((((E1 == 0) && (E2 == 0)) && (E3 == 0)) && (E4 == 0)) && S1) = true
       ·rw [hg] at h21
        have kb := ((HY1.out.trans (hw.mono HY1.out.size)).block q1 (ZL HKQ1.out)).trans HKQ1.out
        have y0 := ZI kb 0
        have y1 := ZI kb 1
        clear kb
        simp at y0 y1
        (try simp only [h21] at hK9)
        go_simp
        exact hK9 _ _ (ZR _ _) (fun _ => rfl)
       ·have hg' : (((((E1 == 0) && (E2 == 0)) && (E3 == 0)) && (E4 == 0)) && S1) = false := eq_false_of_ne_true hg
        rw [hg'] at h21
        (try simp only [h21] at hK9)
        go_simp
        exact hK9 _ _ (ZR _ _) (fun h => absurd h hg)
      case s23 =>
       intro xs w' hb hT K9 hK9
       have h21 : (xs 21) = .bool (((((E1 == 0) && (E2 == 0)) && (E3 == 0)) && (E4 == 0)) && S1) := hT 21 (by kernel_rfl)
       clear hT
       simp only [zFp, zAp, zLa, zLb, zLc, Nat.reduceAdd, zNz] at hK9 ⊢
       have hw := Flow.hwD HY4.out hb
       by_cases hg : (((((E1 == 0) && (E2 == 0)) && (E3 == 0)) && (E4 == 0)) && S1) = true
       ·rw [hg] at h21
        (try simp only [h21] at hK9)
        go_simp
        go_at_call 26
        refine (ratFrom_any (by omega) (by omega)).mono ?_
        rintro e w3 ⟨v3, rfl, hi3, hb3⟩
        exact hK9 _ _ hb3 (fun _ => hi3)
       ·have hg' : (((((E1 == 0) && (E2 == 0)) && (E3 == 0)) && (E4 == 0)) && S1) = false := eq_false_of_ne_true hg
        rw [hg'] at h21
        (try simp only [h21] at hK9)
        go_simp
        exact hK9 _ _ (ZR _ _) (fun h => absurd h hg)
      case s24 =>
       intro xs w' hb hT K9 hK9
       have h21 : (xs 21) = .bool (((((E1 == 0) && (E2 == 0)) && (E3 == 0)) && (E4 == 0)) && S1) := hT 21 (by kernel_rfl)
       have h22 : (((((E1 == 0) && (E2 == 0)) && (E3 == 0)) && (E4 == 0)) && S1) = true → (xs 22) = .agg #[.string Z, .slice ta1 tn1 tc1] := hT 22 (by kernel_rfl)
       have h23 : (((((E1 == 0) && (E2 == 0)) && (E3 == 0)) && (E4 == 0)) && S1) = true → RtIn w' (xs 23) ((-1 : Int) : Rat) 2 := hT 23 (by kernel_rfl)
       clear hT
       simp only [zFp, zAp, zLa, zLb, zLc, Nat.reduceAdd, zNz] at hK9 ⊢
       have hw := Flow.hwD HY4.out hb
       by_cases hg : (((((E1 == 0) && (E2 == 0)) && (E3 == 0)) && (E4 == 0)) && S1) = true
       ·rw [hg] at h21
        replace h22 := h22 hg
        replace h23 := h23 hg
        (try simp only [h21] at hK9)
        (try simp only [h22] at hK9)
        go_simp
        go_at_call 52
        refine (HSC.out w' hw ((HTA1.out.below (HY1.out.trans (hw.mono HY1.out.size)))) h23).mono ?_
        rintro e w3 ⟨v3, rfl, hi3, hb3⟩
        exact hK9 _ _ hb3 (fun _ => (by rw [HCS.out.2.2.2, HCS.out.2.1]; obtain ⟨tv3, e3, ht3⟩ := hi3; exact ⟨tv3, e3, World.ownsRow.mono ht3 hw.size⟩))
       ·have hg' : (((((E1 == 0) && (E2 == 0)) && (E3 == 0)) && (E4 == 0)) && S1) = false := eq_false_of_ne_true hg
        rw [hg'] at h21
        (try simp only [h21] at hK9)
        clear h22 h23
        go_simp
        exact hK9 _ _ (ZR _ _) (fun h => absurd h hg)
      case s25 =>
       intro xs w' hb hT K9 hK9
       have h21 : (xs 21) = .bool (((((E1 == 0) && (E2 == 0)) && (E3 == 0)) && (E4 == 0)) && S1) := hT 21 (by kernel_rfl)
       clear hT
       simp only [zFp, zAp, zLa, zLb, zLc, Nat.reduceAdd, zNz] at hK9 ⊢
       have hw := Flow.hwD HY4.out hb
       by_cases hg : (((((E1 == 0) && (E2 == 0)) && (E3 == 0)) && (E4 == 0)) && S1) = true
       ·rw [hg] at h21
        have kb := ((HY4.out.trans (hw.mono HY4.out.size)).block q4 (ZL HKQ4.out)).trans HKQ4.out
        have y0 := ZI kb 0
        have y1 := ZI kb 1
        clear kb
        simp at y0 y1
        (try simp only [h21] at hK9)
        go_simp
        exact hK9 _ _ (ZR _ _) (fun _ => rfl)
       ·have hg' : (((((E1 == 0) && (E2 == 0)) && (E3 == 0)) && (E4 == 0)) && S1) = false := eq_false_of_ne_true hg
        rw [hg'] at h21
        (try simp only [h21] at hK9)
        go_simp
        exact hK9 _ _ (ZR _ _) (fun h => absurd h hg)
      case s26 =>
       intro xs w' hb hT K9 hK9
       have h21 : (xs 21) = .bool (((((E1 == 0) && (E2 == 0)) && (E3 == 0)) && (E4 == 0)) && S1) := hT 21 (by kernel_rfl)
       have h24 : (((((E1 == 0) && (E2 == 0)) && (E3 == 0)) && (E4 == 0)) && S1) = true → FormIn w' u4.heap.size (xs 24) C2 SB := hT 24 (by kernel_rfl)
       have h25 : (((((E1 == 0) && (E2 == 0)) && (E3 == 0)) && (E4 == 0)) && S1) = true → (xs 25) = .agg #[.string Z, .slice ta4 tn4 tc4] := hT 25 (by kernel_rfl)
       clear hT
       simp only [zFp, zAp, zLa, zLb, zLc, Nat.reduceAdd, zNz] at hK9 ⊢
       have hw := Flow.hwD HY4.out hb
       by_cases hg : (((((E1 == 0) && (E2 == 0)) && (E3 == 0)) && (E4 == 0)) && S1) = true
       ·rw [hg] at h21
        replace h24 := h24 hg
        replace h25 := h25 hg
        (try simp only [h21] at hK9)
        (try simp only [h25] at hK9)
        go_simp
        go_at_call 35
        refine (sameForm_any (h24.reads) ((HTA4.out.below (HY4.out.trans (hw.mono HY4.out.size)))) HLA.out.2).mono ?_
        rintro e w3 ⟨rfl, hb3⟩
        exact hK9 _ _ hb3 (fun _ => (by rw [HS12.out.2]))
       ·have hg' : (((((E1 == 0) && (E2 == 0)) && (E3 == 0)) && (E4 == 0)) && S1) = false := eq_false_of_ne_true hg
        rw [hg'] at h21
        (try simp only [h21] at hK9)
        clear h24 h25
        go_simp
        exact hK9 _ _ (ZR _ _) (fun h => absurd h hg)
      case s27 =>
       intro xs w' hb hT K9 hK9
       have h21 : (xs 21) = .bool (((((E1 == 0) && (E2 == 0)) && (E3 == 0)) && (E4 == 0)) && S1) := hT 21 (by kernel_rfl)
       have h26 : (((((E1 == 0) && (E2 == 0)) && (E3 == 0)) && (E4 == 0)) && S1) = true → (xs 26) = .bool S2 := hT 26 (by kernel_rfl)
       clear hT
       simp only [zFp, zAp, zLa, zLb, zLc, Nat.reduceAdd, zNz] at hK9 ⊢
       have hw := Flow.hwD HY4.out hb
       by_cases hg : (((((E1 == 0) && (E2 == 0)) && (E3 == 0)) && (E4 == 0)) && S1) = true
       ·rw [hg] at h21
        replace h26 := h26 hg
        (try simp only [h21] at hK9)
        (try simp only [h26] at hK9)
        go_simp
        exact hK9 _ _ (ZR _ _) (by simp [ hg])
       ·have hg' : (((((E1 == 0) && (E2 == 0)) && (E3 == 0)) && (E4 == 0)) && S1) = false := eq_false_of_ne_true hg
        rw [hg'] at h21
        clear h26
        (try simp only [h21] at hK9)
        go_simp
        exact hK9 _ _ (ZR _ _) (by simp [ hg'])
     case fin =>
      intro xs w' hb hT
      have hw := Flow.hwD HY4.out hb
      have h27 : (xs 27) = .bool ((((((E1 == 0) && (E2 == 0)) && (E3 == 0)) && (E4 == 0)) && S1) && S2) := hT 27 (by rfl)
      clear hT
      simp only [zFp, zAp, zLa, zLb, zLc, Nat.reduceAdd, zNz, FlowR.restL, FlowR.orM, Bool.false_or]
      have hbb : (((((E1 == 0) && (E2 == 0)) && (E3 == 0)) && (E4 == 0)) && S1 && S2) = true := by
       rw [HE1.out, HE2.out, HE3.out, HE4.out, HS12.out.1, HS12.out.2]
       simp [HC1.out, HC2.out, HSA.out, HSB.out]
      simp only [h27]
      rw [hbb]
      have HBF := ZH (HBB4.out.trans (hw.mono HBB4.out.size))
      clear h27 hbb hw hb
      go_wp2_with fail
      go_ret
      exact ⟨rfl, HAL.out.trans ((HB0.out.trans (HBF.out.mono HB0.out.size)).mono HAL.out.size)⟩
end Go.Proofs.YtgofihilkobenaaGreatDoor
