/- index. -/
import Derived.Test.YtgofihilkobenaaGreatDoorKK
import Derived.Laws.StructEq
set_option maxRecDepth 100000
namespace Go.Proofs.YtgofihilkobenaaGreatDoor
open Go.RowKit Go.Num Go.Flow Go.Dtm
set_option maxHeartbeats 8000000

/-- A slice of variables, to be read. -/
def VarsIn (w : World) (ao : Option Addr) (c : Nat) (l : List (Nat × Int)) : Prop := l.length ≤ c ∧ c ≤ maxLen ∧ (0 < l.length → ∃ b o, ao = some ⟨b, o, none⟩ ∧ b < w.heap.size ∧ ∀ j, j < l.length → w.cell? ⟨b, o + j * 2, none⟩ = some (.int .i64 ((l.getD j (0, 0)).1 : Int)) ∧ w.cell? ⟨b, o + j * 2 + 1, none⟩ = some (.int .i64 (l.getD j (0, 0)).2))
theorem VarsIn.below {w w' : World} {ao : Option Addr} {c : Nat} {l : List (Nat × Int)} (h : VarsIn w ao c l) (hb : Below w.heap.size w w') : VarsIn w' ao c l := by
 refine ⟨h.1, h.2.1, fun h0 => ?_⟩
 obtain ⟨b, o, e, hl, hc⟩ := h.2.2 h0
 exact ⟨b, o, e, Nat.lt_of_lt_of_le hl hb.size, fun j hj => ⟨ZJ hb (hc j hj).1, ZJ hb (hc j hj).2⟩⟩
theorem varCells_at : ∀ (l : List (Nat × Int)) (j : Nat), j < l.length → (varCells l)[j * 2]? = some (.int .i64 ((l.getD j (0, 0)).1 : Int)) ∧ (varCells l)[j * 2 + 1]? = some (.int .i64 (l.getD j (0, 0)).2)
 | [], j, h => by simp at h
 | p :: r, 0, _ => ⟨rfl, rfl⟩
 | p :: r, j + 1, h => by
  have ih := varCells_at r j (by simpa using h)
  have e : varCells (p :: r) = .int .i64 (p.1 : Int) :: .int .i64 p.2 :: varCells r := rfl
  rw [e, show (j + 1) * 2 = j * 2 + 1 + 1 by omega]
  exact ih
theorem VarRow.reads {w : World} {B : Nat} {v : Value} {l : List (Nat × Int)} (h : VarRow w B v l) : ∃ ao c, v = .slice ao l.length c ∧ VarsIn w ao c l := by
 rcases h.2 with ⟨rfl, h0⟩ | ⟨g, cap, cur, rfl, hb, hg, hc1, hc2, hcz, hct⟩
 ·exact ⟨none, 0, by rw [h0], by rw [h0]; exact Nat.le_refl _, by unfold maxLen; omega, fun h1 => by omega⟩
 ·refine ⟨_, _, rfl, hc1, hc2, fun h0 => ⟨g, 0, rfl, ZL hg, fun j hj => ?_⟩⟩
  have hv := varCells_at l j hj
  rw [← hct, List.getElem?_take, if_pos (by omega), List.getElem?_take, if_pos (by omega), Array.getElem?_toList, Array.getElem?_toList] at hv
  rw [ZI hg, ZI hg, Nat.zero_add]
  exact hv
def isVar (i k : Int) (p : Nat × Int) : Bool := decide ((p.1 : Int) = i) && decide (p.2 = k)
/-- The index of a variable, or -1. -/
def varAt (l : List (Nat × Int)) (i k : Int) : Int := pos (fun j => isVar i k (l.getD j (0, 0))) l.length 0
theorem var_struct : Tryz.prog.underlying 120 = some (.struct (Tryz.prog.fieldsOf 120)) := by kernel_rfl
theorem var_stood : Tryz.prog.stoodInHeld 120 = false := by kernel_rfl
theorem var_guard : Tryz.prog.eqGuardType Tryz.prog.depth 120 = false := by kernel_rfl
theorem eq_var (x y u v : Int) (w : World) : (binOp .eql 120 (.agg #[.int .i64 x, .int .i64 y]) (.agg #[.int .i64 u, .int .i64 v])).run Tryz.prog w = .ok (.bool ((x == u) && (y == v))) w := by
 rw [run_eql_struct, run_equalIn_agg w 9999 120 _ _ var_struct var_stood]
 unfold Program.fieldsOf
 rw [Tryz.underlying120]
 cases h1 : x == u
 ·simp [go_sem, h1, Tryz.underlying3]
 ·by_cases h2 : y = v
  ·simp [go_sem, h1, h2, Tryz.underlying3]
  ·simp [go_sem, h1, h2, Tryz.underlying3]
theorem sIndexV_any {w : World} {ao : Option Addr} {c : Nat} {l : List (Nat × Int)} (h : VarsIn w ao c l) (hsm : l.length ≤ 1000000) (i k : Int) :
  Calls Tryz.prog 117 #[.slice ao l.length c, .agg #[.int .i64 i, .int .i64 k]] w fun e w' => e = .returned (.int .i64 (varAt l i k)) ∧ Below w.heap.size w w' := by
 obtain ⟨n, hn⟩ : ∃ n, n = l.length := ⟨_, rfl⟩
 obtain ⟨wa, hwa⟩ : ∃ wa, wa = w.alloc (.cells #[.int .i64 i, .int .i64 k] 120) := ⟨_, rfl⟩
 obtain ⟨bv, hbv⟩ : ∃ b, b = w.heap.size := ⟨_, rfl⟩
 have hal : Below w.heap.size w wa := by rw [hwa]; exact (ZR _ w).alloc (Nat.le_refl _) _
 have kv : wa.heap[bv]? = some (.cells #[.int .i64 i, .int .i64 k] 120 (0, 0)) := by rw [hwa, hbv]; exact ZW w _
 have v0 := ZI kv 0
 have v1 := ZI kv 1
 simp at v0 v1
 have HAL := ZH hal
 have HV := ZH (ZN v0 v1)
 have HVR := ZH (show varAt l i k = pos (fun j => isVar i k (l.getD j (0, 0))) n 0 by rw [hn]; rfl)
 obtain ⟨p, hp⟩ : ∃ p, p = fun j => isVar i k (l.getD j (0, 0)) := ⟨_, rfl⟩
 rw [← hp] at HVR
 obtain ⟨h1, h2, h3⟩ := h
 unfold maxLen at h2
 rw [← hn] at h1 h3 hsm ⊢
 have H3 := ZH h3
 have HP := ZH hp
 have HW := ZH (ZN hwa hbv)
 clear hwa hbv hal kv v0 v1 hn h3 hp
 go_enter Tryz.func117, Tryz.ntmps117
 go_upto_region 1 with fail
 rw [← HW.out.1, ← HW.out.2]
 clear HW
 go_wp2_with fail
 go_loopw [8] (fun x wr => ∃ m : Nat, m ≤ n ∧ x = .int .i64 m ∧ Hid (∀ j, j < m → p j = false) ∧ Hid (Below wa.heap.size wa wr)) (fun x _ => n - (intOf x).toNat)
 case atStart => exact ⟨0, Nat.zero_le _, rfl, ZH (fun j hj => absurd hj (by omega)), ZH (ZR _ _)⟩
 case round =>
  obtain ⟨m, hmn, rfl, hno, hbw⟩ := hrel
  by_cases hlt : m < n
  ·have e1 : ((m : Int) < (n : Int)) = True := eq_true (by omega)
   obtain ⟨b, o, rfl, hl, hc⟩ := H3.out (by omega)
   have hx := hc m hlt
   obtain ⟨q, hq⟩ : ∃ q, q = l.getD m (0, 0) := ⟨_, rfl⟩
   rw [← hq] at hx
   have hB := HAL.out.trans (hbw.out.mono HAL.out.size)
   have x0 := ZJ hB hx.1
   have x1 := ZJ hB hx.2
   have v0 := ZJ hbw.out HV.out.1
   have v1 := ZJ hbw.out HV.out.2
   have hi0 : (0 : Int) ≤ (m : Int) := by omega
   have hi1 : (m : Int) < (n : Int) := by omega
   have HPM := ZH (show p m = isVar i k q by rw [HP.out, hq])
   clear hx hc hq hB
   have hev := eq_var i k (q.1 : Int) q.2
   have hvg := var_guard
   go_upto_region 4 with fail
   go_quiet (fail)
   cases hpm : isVar i k q with
   | true =>
    have e3 : (i == (q.1 : Int) && k == q.2) = true := by
     unfold isVar at hpm
     rw [beq_dec, beq_dec, ← hpm]
     congr 1 <;> exact decide_eq_decide.2 eq_comm
    have HQ := ZH (pos_some (p := p) (n := n) (k := 0) (i := m) (Nat.zero_le _) (by omega) (fun j _ h => hno.out j h) (by rw [HPM.out, hpm]))
    rw [e3]
    go_wp2_with fail
    go_ret
    exact ⟨by rw [HVR.out, HQ.out]; rfl, HAL.out.trans ((hbw.out.trans ((below_drawn wr _).mono hbw.out.size)).mono HAL.out.size)⟩
   | false =>
    have e3 : (i == (q.1 : Int) && k == q.2) = false := by
     unfold isVar at hpm
     rw [beq_dec, beq_dec, ← hpm]
     congr 1 <;> exact decide_eq_decide.2 eq_comm
    rw [e3]
    go_wp2_with fail
    refine ⟨⟨m + 1, hlt, by congr 1, ZH fun j hj => ?_, ZH (hbw.out.trans ((below_drawn wr _).mono hbw.out.size))⟩, by simp [intOf]; omega⟩
    by_cases h : j < m
    ·exact hno.out j h
    ·obtain rfl : j = m := by omega
     rw [HPM.out, hpm]
  ·have e1 : ((m : Int) < (n : Int)) = False := eq_false (by omega)
   obtain rfl : m = n := by omega
   have HN := ZH (pos_none (p := p) (n := m) (k := 0) (fun j _ h => hno.out j (by omega)))
   go_wp2_with fail
   go_ret
   exact ⟨by rw [HVR.out, HN.out]; rfl, HAL.out.trans (hbw.out.mono HAL.out.size)⟩
theorem index_any {w : World} {af : Option Addr} {cf : Nat} {az : Option Addr} {cz : Nat} {fs : List Feat} {zs : List Zn} (h : SchemeIn w af cf az cz fs zs) (hsf : fs.length ≤ 1000) (hsm : zs.length ≤ 1000000) (i k : Int) :
  Calls Tryz.prog 79 #[.agg #[.slice af fs.length cf, .slice az zs.length cz], .int .i64 i, .int .i64 k] w fun e w' => e = .returned (.int .i64 (varAt (varsTo fs zs fs.length) i k)) ∧ Below w.heap.size w w' := by
 have hvl := vars_len fs zs fs.length
 obtain ⟨l, hl⟩ : ∃ l, l = varsTo fs zs fs.length := ⟨_, rfl⟩
 rw [← hl] at hvl ⊢
 obtain ⟨n, hn⟩ : ∃ n, n = fs.length := ⟨_, rfl⟩
 obtain ⟨nz, hnz⟩ : ∃ n, n = zs.length := ⟨_, rfl⟩
 obtain ⟨wa, hwa⟩ : ∃ wa, wa = w.alloc (.cells #[.slice af n cf, .slice az nz cz] 26) := ⟨_, rfl⟩
 obtain ⟨ba, hba⟩ : ∃ b, b = w.heap.size := ⟨_, rfl⟩
 have hal : Below w.heap.size w wa := by rw [hwa]; exact (ZR _ w).alloc (Nat.le_refl _) _
 have k0 : wa.heap[ba]? = some (.cells #[.slice af n cf, .slice az nz cz] 26 (0, 0)) := by rw [hwa, hba]; exact ZW w _
 have s0 := ZI k0 0
 have s1 := ZI k0 1
 simp at s0 s1
 have hv := variables_any (h.below hal) hsf hsm
 rw [← hn, ← hnz] at hv
 rw [← hn] at hvl hsf
 rw [← hn, ← hnz]
 have HV := ZH hv
 have HAL := ZH hal
 have HL := ZH (ZN hl (ZN hn (ZN hvl hsf)))
 have HW := ZH (ZN hwa hba)
 clear hv hal hl hn hnz hvl hsf hsm hwa hba k0 h
 go_enter Tryz.func79, Tryz.ntmps79
 go_upto_region 1 with fail
 rw [← HW.out.1, ← HW.out.2]
 clear HW
 go_wp2_with fail
 refine HV.out.mono ?_
 rintro e w1 ⟨v, rfl, hr, hb1⟩
 rw [show varsTo fs zs n = l by rw [HL.out.1, HL.out.2.1]] at hr
 obtain ⟨ao, c, rfl, hin⟩ := hr.reads
 have HIX := ZH (sIndexV_any hin (by have := HL.out.2.2.1; have := HL.out.2.2.2; omega) i k)
 generalize l.length = m at *
 have HB1 := ZH (HAL.out.trans (hb1.mono HAL.out.size))
 clear hr hin hb1
 go_wp2_with fail
 refine HIX.out.mono ?_
 rintro e w2 ⟨rfl, hb2⟩
 have HB2 := ZH (HB1.out.trans (hb2.mono HB1.out.size))
 clear hb2
 go_wp2_with fail
 go_ret
 exact ⟨rfl, HB2.out⟩
end Go.Proofs.YtgofihilkobenaaGreatDoor
/- with. -/
set_option maxRecDepth 100000
namespace Go.Proofs.YtgofihilkobenaaGreatDoor
open Go.RowKit Go.Num Go.Flow Go.Dtm
set_option maxHeartbeats 8000000

/-- A slice of integers, to be read. -/
def IntsIn (w : World) (ao : Option Addr) (c : Nat) (l : List Int) : Prop := l.length ≤ c ∧ c ≤ maxLen ∧ (0 < l.length → ∃ b o, ao = some ⟨b, o, none⟩ ∧ b < w.heap.size ∧ ∀ j, j < l.length → w.cell? ⟨b, o + j, none⟩ = some (.int .i64 (l.getD j 0)))
theorem IntsIn.below {w w' : World} {ao : Option Addr} {c : Nat} {l : List Int} (h : IntsIn w ao c l) (hb : Below w.heap.size w w') : IntsIn w' ao c l := by
 refine ⟨h.1, h.2.1, fun h0 => ?_⟩
 obtain ⟨b, o, e, hl, hc⟩ := h.2.2 h0
 exact ⟨b, o, e, Nat.lt_of_lt_of_le hl hb.size, fun j hj => ZJ hb (hc j hj)⟩
theorem ints_one (w : World) (x : Int) : IntsIn (w.alloc (.cells #[.int .i64 x] 3)) (some ⟨w.heap.size, 0, none⟩) 1 [x] := by
 have k := ZW w (.cells #[.int .i64 x] 3)
 refine ⟨Nat.le_refl _, by unfold maxLen; omega, fun _ => ⟨_, _, rfl, ZL k, fun j hj => ?_⟩⟩
 obtain rfl : j = 0 := by simp at hj; omega
 rw [ZI k]
 rfl
theorem ints_two (w : World) (x y : Int) : IntsIn (w.alloc (.cells #[.int .i64 x, .int .i64 y] 3)) (some ⟨w.heap.size, 0, none⟩) 2 [x, y] := by
 have k := ZW w (.cells #[.int .i64 x, .int .i64 y] 3)
 refine ⟨Nat.le_refl _, by unfold maxLen; omega, fun _ => ⟨_, _, rfl, ZL k, fun j hj => ?_⟩⟩
 rw [ZI k]
 match j, hj with
 | 0, _ => rfl
 | 1, _ => rfl
def inside (n : Nat) (i : Int) : Bool := decide (0 ≤ i) && decide (i < (n : Int))
/-- The error of a scheme and of some indices of features. -/
def withErr (fs : List Feat) (zs : List Zn) (l : List Int) : Int := if check fs zs ≠ 0 then check fs zs else if l.all (inside fs.length) = true then 0 else 2
theorem check_small {fs : List Feat} {zs : List Zn} (h : check fs zs = 0) : fs.length ≤ 16 ∧ zs.length ≤ 32 := by
 unfold check at h
 by_cases h1 : 16 < fs.length ∨ 32 < zs.length
 ·rw [if_pos h1] at h; cases h
 ·omega
theorem with_any {w : World} {af : Option Addr} {cf : Nat} {az : Option Addr} {cz : Nat} {fs : List Feat} {zs : List Zn} (h : SchemeIn w af cf az cz fs zs) {ao : Option Addr} {c : Nat} {l : List Int} (hl : IntsIn w ao c l) (hll : l.length ≤ 1000) :
  Calls Tryz.prog 83 #[.agg #[.slice af fs.length cf, .slice az zs.length cz], .slice ao l.length c] w fun e w' => e = .returned (.int .i64 (withErr fs zs l)) ∧ Below w.heap.size w w' := by
 obtain ⟨n, hn⟩ : ∃ n, n = fs.length := ⟨_, rfl⟩
 obtain ⟨nz, hnz⟩ : ∃ n, n = zs.length := ⟨_, rfl⟩
 obtain ⟨m, hm⟩ : ∃ m, m = l.length := ⟨_, rfl⟩
 obtain ⟨wa, hwa⟩ : ∃ wa, wa = w.alloc (.cells #[.slice af n cf, .slice az nz cz] 26) := ⟨_, rfl⟩
 obtain ⟨ba, hba⟩ : ∃ b, b = w.heap.size := ⟨_, rfl⟩
 have hal : Below w.heap.size w wa := by rw [hwa]; exact (ZR _ w).alloc (Nat.le_refl _) _
 have k0 : wa.heap[ba]? = some (.cells #[.slice af n cf, .slice az nz cz] 26 (0, 0)) := by rw [hwa, hba]; exact ZW w _
 have s0 := ZI k0 0
 have s1 := ZI k0 1
 simp at s0 s1
 have hc := Check_any (h.below hal)
 obtain ⟨E, hE⟩ : ∃ E, E = check fs zs := ⟨_, rfl⟩
 have herr : withErr fs zs l = if E ≠ 0 then E else if l.all (inside n) = true then 0 else 2 := by rw [hE, hn]; rfl
 rw [← hE, ← hn, ← hnz] at hc
 obtain ⟨hl1, hl2, hl3⟩ := hl.below hal
 unfold maxLen at hl2
 have hcap := h.feats.1
 have hcap2 : cf ≤ 9223372036854775807 := h.feats.2.1
 rw [← hn] at hcap
 rw [← hm] at hl1 hl3 hll ⊢
 rw [← hn, ← hnz]
 have HC := ZH hc
 have HERR := ZH herr
 have HAL := ZH hal
 have HSC := ZH (ZN s0 s1)
 have HL3 := ZH hl3
 have HM := ZH hm
 have HW := ZH (ZN hwa hba)
 clear hc herr hal hE hn hnz hm hl hl3 hwa hba k0 h
 go_enter Tryz.func83, Tryz.ntmps83
 go_upto_region 1 with fail
 rw [← HW.out.1, ← HW.out.2]
 clear HW
 go_wp2_with fail
 refine HC.out.mono ?_
 rintro e w1 ⟨rfl, hb1⟩
 have HB1 := ZH hb1
 clear hb1
 by_cases hz : E = 0
 ·have e2 : (E == 0) = true := by rw [hz]; rfl
  rw [if_neg (by rw [hz]; simp)] at HERR
  clear hz s0 s1
  go_upto_region 4 with fail
  go_wp2_with fail
  go_loopw [15] (fun x wr => ∃ k : Nat, k ≤ m ∧ x = .int .i64 k ∧ Hid (∀ j, j < k → inside n (l.getD j 0) = true) ∧ Hid (Below wa.heap.size wa wr)) (fun x _ => m - (intOf x).toNat)
  case atStart => exact ⟨0, Nat.zero_le _, rfl, ZH (fun j hj => absurd hj (by omega)), HB1⟩
  case round =>
   obtain ⟨k, hkm, rfl, hok, hbw⟩ := hrel
   have s0 := ZJ hbw.out HSC.out.1
   by_cases hlt : k < m
   ·have e1 : ((k : Int) < (m : Int)) = True := eq_true (by omega)
    obtain ⟨b, o, rfl, hlb, hcc⟩ := HL3.out (by omega)
    have x0 := ZJ hbw.out (hcc k hlt)
    obtain ⟨x, hx⟩ : ∃ x, x = l.getD k 0 := ⟨_, rfl⟩
    rw [← hx] at x0
    have HX := ZH hx
    have hi0 : (0 : Int) ≤ (k : Int) := by omega
    have hi1 : (k : Int) < (m : Int) := by omega
    clear hcc hx
    have hmem : x ∈ l := by
     rw [HX.out, List.getD_eq_getElem?_getD, List.getElem?_eq_getElem (by rw [← HM.out]; exact hlt)]
     exact List.getElem_mem _
    have HMEM := ZH hmem
    clear hmem
    by_cases h1 : x < 0
    ·have e3 : (x < 0) = True := eq_true h1
     have HE := ZH (show withErr fs zs l = 2 by
      rw [HERR.out, if_neg]
      intro h
      have := List.all_eq_true.1 h x HMEM.out
      unfold inside at this
      rw [ZU (by omega)] at this
      cases this)
     go_wp2_with fail
     go_ret
     exact ⟨by rw [HE.out]; rfl, HAL.out.trans (hbw.out.mono HAL.out.size)⟩
    ·have e3 : (x < 0) = False := eq_false h1
     by_cases h2 : (n : Int) ≤ x
     ·have e4 : ((n : Int) ≤ x) = True := eq_true h2
      have HE := ZH (show withErr fs zs l = 2 by
       rw [HERR.out, if_neg]
       intro h
       have := List.all_eq_true.1 h x HMEM.out
       unfold inside at this
       rw [ZU (show ¬ x < (n : Int) by omega), Bool.and_false] at this
       cases this)
      go_wp2_with fail
      go_ret
      exact ⟨by rw [HE.out]; rfl, HAL.out.trans (hbw.out.mono HAL.out.size)⟩
     ·have e4 : ((n : Int) ≤ x) = False := eq_false h2
      have HIN := ZH (show inside n x = true by unfold inside; rw [ZT (show 0 ≤ x by omega), ZT (show x < (n : Int) by omega)]; rfl)
      go_wp2_with fail
      refine ⟨⟨k + 1, hlt, by congr 1, ZH fun j hj => ?_, hbw⟩, by simp [intOf]; omega⟩
      by_cases h : j < k
      ·exact hok.out j h
      ·obtain rfl : j = k := by omega
       rw [← HX.out]
       exact HIN.out
   ·have e1 : ((k : Int) < (m : Int)) = False := eq_false (by omega)
    obtain rfl : k = m := by omega
    have HE := ZH (show withErr fs zs l = 0 by
     rw [HERR.out, if_pos]
     rw [List.all_eq_true]
     intro x hx
     obtain ⟨j, hj, rfl⟩ := List.getElem_of_mem hx
     have := hok.out j (by rw [HM.out]; exact hj)
     rwa [List.getD_eq_getElem?_getD, List.getElem?_eq_getElem hj] at this)
    go_wp2_with fail
    go_ret
    exact ⟨by rw [HE.out]; rfl, HAL.out.trans (hbw.out.mono HAL.out.size)⟩
 ·have e2 : (E == 0) = false := ZQ.2 hz
  rw [if_pos hz] at HERR
  go_wp2_with fail
  go_ret
  exact ⟨by rw [HERR.out]; rfl, HAL.out.trans (HB1.out.mono HAL.out.size)⟩
end Go.Proofs.YtgofihilkobenaaGreatDoor
/- chain, Chain. -/
set_option maxRecDepth 100000
namespace Go.Proofs.YtgofihilkobenaaGreatDoor
open Go.RowKit Go.Num Go.Flow Go.Dtm
set_option maxHeartbeats 8000000

/-- A feature and its datums. -/
def chainOf (fs : List Feat) : Nat → Int → List Int
 | 0, _ => []
 | f + 1, i => if 0 ≤ i then i :: chainOf fs f (fs.getD i.toNat Feat.none).datum else []
/-- Each datum is an earlier feature. -/
def Down (fs : List Feat) : Prop := ∀ j, j < fs.length → (fs.getD j Feat.none).datum < (j : Int)
theorem check_down {fs : List Feat} {zs : List Zn} (h : check fs zs = 0) : Down fs := by
 intro j hj
 unfold check at h
 have h1 : firstErr (featErr fs) fs.length 0 = 0 := by
  split at h
  ·cases h
  ·split at h
   ·assumption
   ·next h2 => exact absurd h h2
 have h2 := firstErr_zero h1 j (Nat.zero_le _) (by omega)
 unfold featErr at h2
 dsimp only at h2
 split at h2
 ·cases h2
 ·split at h2
  ·cases h2
  ·split at h2
   ·cases h2
   ·split at h2
    ·cases h2
    ·omega
def IntRow (w : World) (B : Nat) (v : Value) (l : List Int) : Prop := w.ownsRow B 3 1 v l.length (l.map fun x => .int .i64 x)
theorem IntRow.below {w w' : World} {B : Nat} {v : Value} {l : List Int} (h : IntRow w B v l) (hb : Below w.heap.size w w') : IntRow w' B v l := by
 rcases h.2 with h1 | ⟨g, cap, cur, h1, h2, h3, h4⟩
 ·exact ⟨h.1, .inl h1⟩
 ·exact ⟨h.1, .inr ⟨g, cap, cur, h1, h2, (hb.block g (ZL h3)).trans h3, h4⟩⟩
theorem IntRow.snoc {w : World} {B : Nat} {v : Value} {l : List Int} {x : Int} (h : w.ownsRow B 3 1 v (l.length + 1) ((l.map fun x => .int .i64 x) ++ [.int .i64 x])) : IntRow w B v (l ++ [x]) := by
 unfold IntRow
 rw [List.length_append, List.map_append]
 exact h
theorem infoInt : (Tryz.prog.info? 3).map (fun i => (i.zero, i.size, i.bytes)) = some (some (.int .i64 0), 1, 8) := by kernel_rfl
theorem chain_len (fs : List Feat) : ∀ (f : Nat) (i : Int), (chainOf fs f i).length ≤ f
 | 0, _ => Nat.le_refl _
 | f + 1, i => by
  unfold chainOf
  split
  ·rw [List.length_cons]
   have := chain_len fs f (fs.getD i.toNat Feat.none).datum
   omega
  ·exact Nat.zero_le _
theorem chain_any {w : World} {af : Option Addr} {cf : Nat} {az : Option Addr} {cz : Nat} {fs : List Feat} {zs : List Zn} (h : SchemeIn w af cf az cz fs zs) (hd : Down fs) (hsf : fs.length ≤ 1000) {i : Int} (hi : i < (fs.length : Int)) :
  Calls Tryz.prog 84 #[.agg #[.slice af fs.length cf, .slice az zs.length cz], .int .i64 i] w fun e w' => ∃ v, e = .returned v ∧ IntRow w' w.heap.size v (chainOf fs fs.length i) ∧ Below w.heap.size w w' := by
 obtain ⟨n, hn⟩ : ∃ n, n = fs.length := ⟨_, rfl⟩
 obtain ⟨nz, hnz⟩ : ∃ n, n = zs.length := ⟨_, rfl⟩
 obtain ⟨wa, hwa⟩ : ∃ wa, wa = w.alloc (.cells #[.slice af n cf, .slice az nz cz] 26) := ⟨_, rfl⟩
 obtain ⟨ba, hba⟩ : ∃ b, b = w.heap.size := ⟨_, rfl⟩
 have hal : Below w.heap.size w wa := by rw [hwa]; exact (ZR _ w).alloc (Nat.le_refl _) _
 have k0 : wa.heap[ba]? = some (.cells #[.slice af n cf, .slice az nz cz] 26 (0, 0)) := by rw [hwa, hba]; exact ZW w _
 have s0 := ZI k0 0
 simp at s0
 obtain ⟨C, hC⟩ : ∃ C, C = chainOf fs fs.length i := ⟨_, rfl⟩
 rw [← hC]
 have HS := ZH (h.below hal)
 have HAL := ZH hal
 have HSC := ZH s0
 have hcap : fs.length ≤ cf ∧ cf ≤ 9223372036854775807 := ⟨h.feats.1, h.feats.2.1⟩
 obtain ⟨i0, hi0, hz0, hz1, hz2⟩ := info_parts infoInt
 have HI := ZH (ZN hi0 (ZN hz0 (ZN hz1 hz2)))
 have HD := ZH hd
 have HN := ZH hn
 rw [← hn] at hC hcap hsf hi ⊢
 rw [← hnz]
 have HW := ZH (ZN hwa hba)
 have HC := ZH hC
 clear hal hwa hba k0 hn hnz h hi0 hz0 hz1 hz2 hd hC
 go_enter Tryz.func84, Tryz.ntmps84
 go_upto_region 1 with fail
 rw [← HW.out.1, ← HW.out.2]
 clear HW
 go_wp2_with fail
 clear s0
 go_loopg [5, 6] (i + 1).toNat (fun gk v x wr => ∃ (q : Int) (acc : List Int) (f : Nat), x = .int .i64 q ∧ (q + 1).toNat = gk ∧ q < (n : Int) ∧ f ≤ n ∧ (q + 1).toNat ≤ f ∧ Hid (acc.length + f ≤ n ∧ acc ++ chainOf fs f q = C ∧ IntRow wr wa.heap.size v acc) ∧ Hid (Below wa.heap.size wa wr))
 case atStart => exact ⟨i, [], n, rfl, rfl, hi, Nat.le_refl _, by omega, ZH ⟨by simp, by rw [HC.out]; rfl, World.ownsRow_nil _ _ _ _⟩, ZH (ZR _ _)⟩
 case round =>
  obtain ⟨q, acc, f, rfl, rfl, hq, hfn, hqf, hr, hbw⟩ := hrel
  have s0 := ZJ hbw.out HSC.out
  by_cases hlt : 0 ≤ q
  ·have e1 : ((0 : Int) ≤ q) = True := eq_true hlt
   obtain ⟨k, rfl⟩ : ∃ k : Nat, q = (k : Int) := ⟨q.toNat, by omega⟩
   obtain ⟨f, rfl⟩ : ∃ g, f = g + 1 := ⟨f - 1, by omega⟩
   obtain ⟨b, o, rfl, hlb, hcc⟩ := HS.out.feats.2.2 (by rw [← HN.out]; omega)
   obtain ⟨x, hx⟩ : ∃ x, x = (fs.getD k Feat.none).datum := ⟨_, rfl⟩
   have x3 := (hcc k (by rw [← HN.out]; omega)).2.2.2.1
   rw [← hx] at x3
   have hdn := HD.out k (by rw [← HN.out]; omega)
   rw [← hx] at hdn
   have hcs : chainOf fs (f + 1) (k : Int) = (k : Int) :: chainOf fs f x := by rw [hx]; show (if (0 : Int) ≤ (k : Int) then _ else _) = _; rw [if_pos hlt]; rfl
   have hr1 := hr.out.1
   have hr2 := hr.out.2.1
   rw [hcs] at hr2
   have HR := ZH (ZN hr1 (ZN hr2 hr.out.2.2))
   have HLT := ZH (ZN hdn (ZN hlt (ZN hfn hqf)))
   have hq0 : (0 : Int) ≤ (k : Int) := hlt
   have hq1 : (k : Int) < (n : Int) := hq
   have HX3 := ZH x3
   clear s0 x3 hcc hx hdn hcs hr1 hr2 hr hfn hqf
   go_wp2_with (at_builtin; refine wpList_append_own _ rfl _ _ 89 rfl wa.heap.size 3 i0 _ 1 8 Tryz.underlying89 HI.out.1 HI.out.2.1 HI.out.2.2.1 HI.out.2.2.2 rfl (by decide) _ _ _ rfl (World.ownsRow.alloc HR.out.2.2 _) ⟨wr.heap.size, 0, none⟩ 1 1 [.int .i64 (k : Int)] rfl rfl ?c1 ?c2 ?c3 ?c4 ?c5 ?_)
   case c1 => exact World.news_of_block (ZW wr _)
   case c2 => simp [Value.oneCell']
   case c3 => have := HR.out.1; unfold maxLen; omega
   case c4 => have := HR.out.1; omega
   case c5 => have := hbw.out.size; simp; omega
   intro v2 w2 hown2 hg2 _
   have hb2 := (hbw.out.alloc (by have := hbw.out.size; omega) (.cells #[.int .i64 (k : Int)] 3)).grown hg2 (by have := hbw.out.size; simp; omega) (fun q e => (World.ownsRow.lt HR.out.2.2 q e).1)
   have s0 := ZJ hb2 HSC.out
   have x3 := ZJ hb2 HX3.out
   have HR2 := ZH (ZN (IntRow.snoc hown2) hb2)
   clear hown2 hb2 hg2
   go_wp2_with fail
   go_roundg (x + 1).toNat
   case measure => have := HLT.out.1; omega
   case rel =>
    refine ⟨x, acc ++ [(k : Int)], f, rfl, rfl, by have := HLT.out.1; omega, by have := HLT.out.2.2.1; omega, by have := HLT.out.1; have := HLT.out.2.2.2; omega, ZH ⟨?_, ?_, HR2.out.1⟩, ZH HR2.out.2⟩
    ·rw [List.length_append, List.length_singleton]
     have := HR.out.1
     omega
    ·rw [List.append_assoc]
     exact HR.out.2.1
  ·have e1 : ((0 : Int) ≤ q) = False := eq_false hlt
   have hfin : acc = C := by
    have := hr.out.2.1
    cases f with
    | zero => rw [chainOf, List.append_nil] at this; exact this
    | succ f => rw [chainOf, if_neg hlt, List.append_nil] at this; exact this
   have HF := ZH (ZN hfin hr.out.2.2)
   clear hfin hr
   go_wp2_with fail
   go_ret
   exact ⟨_, rfl, by rw [← HF.out.1]; exact World.ownsRow.mono HF.out.2 HAL.out.size, HAL.out.trans (hbw.out.mono HAL.out.size)⟩
/-- What Chain hands back. -/
def ChainPost (w : World) (fs : List Feat) (zs : List Zn) (i : Int) (e : Ending) (w' : World) : Prop := ∃ v, e = .returned (.tuple #[v, .int .i64 (withErr fs zs [i])]) ∧ (withErr fs zs [i] = 0 → IntRow w' w.heap.size v (chainOf fs fs.length i)) ∧ (withErr fs zs [i] ≠ 0 → v = .slice none 0 0) ∧ Below w.heap.size w w'
theorem with_one {fs : List Feat} {zs : List Zn} {i : Int} (h : withErr fs zs [i] = 0) : check fs zs = 0 ∧ 0 ≤ i ∧ i < (fs.length : Int) := by
 unfold withErr at h
 by_cases h1 : check fs zs = 0
 ·rw [if_neg (by rw [h1]; simp)] at h
  split at h
  ·next h2 =>
   rw [List.all_cons, List.all_nil, Bool.and_true] at h2
   unfold inside at h2
   rw [Bool.and_eq_true, decide_eq_true_iff, decide_eq_true_iff] at h2
   exact ⟨h1, h2⟩
  ·cases h
 ·rw [if_pos h1] at h
  exact absurd h h1
theorem Chain_any {w : World} {af : Option Addr} {cf : Nat} {az : Option Addr} {cz : Nat} {fs : List Feat} {zs : List Zn} (h : SchemeIn w af cf az cz fs zs) (i : Int) :
  Calls Tryz.prog 38 #[.agg #[.slice af fs.length cf, .slice az zs.length cz], .int .i64 i] w (ChainPost w fs zs i) := by
 obtain ⟨n, hn⟩ : ∃ n, n = fs.length := ⟨_, rfl⟩
 obtain ⟨nz, hnz⟩ : ∃ n, n = zs.length := ⟨_, rfl⟩
 obtain ⟨wb, hwb⟩ : ∃ wa, wa = w.alloc (.cells #[.slice af n cf, .slice az nz cz] 26) := ⟨_, rfl⟩
 obtain ⟨ba, hba⟩ : ∃ b, b = w.heap.size := ⟨_, rfl⟩
 have hlb : Below w.heap.size w wb := by rw [hwb]; exact (ZR _ w).alloc (Nat.le_refl _) _
 have k0 : wb.heap[ba]? = some (.cells #[.slice af n cf, .slice az nz cz] 26 (0, 0)) := by rw [hwb, hba]; exact ZW w _
 have s0 := ZI k0 0
 have s1 := ZI k0 1
 simp at s0 s1
 have hlw : Below wb.heap.size wb (wb.alloc (.cells #[.int .i64 i] 3)) := (ZR _ wb).alloc (Nat.le_refl _) _
 have hal := hlb.trans (hlw.mono hlb.size)
 have hw := with_any (h.below hal) (ints_one wb i) (by simp)
 obtain ⟨E, hE⟩ : ∃ E, E = withErr fs zs [i] := ⟨_, rfl⟩
 rw [← hE, ← hn, ← hnz] at hw
 have HWC := ZH (show Calls Tryz.prog 83 #[.agg #[.slice af n cf, .slice az nz cz], .slice (some ⟨wb.heap.size, 0, none⟩) 1 1] (wb.alloc (.cells #[.int .i64 i] 3)) fun e w' => e = .returned (.int .i64 E) ∧ Below (wb.alloc (.cells #[.int .i64 i] 3)).heap.size (wb.alloc (.cells #[.int .i64 i] 3)) w' from hw)
 have HH := ZH h
 have HAL := ZH (ZN hal (ZN hlw hlb))
 have HSC := ZH (ZN s0 s1)
 have HE := ZH hE
 have HN := ZH (ZN hn hnz)
 have HW := ZH (ZN hwb hba)
 rw [← hn, ← hnz]
 clear hw hE hn hnz hal hlw hlb hwb hba k0 h
 go_enter Tryz.func38, Tryz.ntmps38
 go_upto_region 1 with fail
 rw [← HW.out.1, ← HW.out.2]
 clear HW
 go_wp2_with fail
 refine HWC.out.mono ?_
 rintro e w1 ⟨rfl, hb1⟩
 have hB1 := HAL.out.1.trans (hb1.mono HAL.out.1.size)
 have hW1 := HAL.out.2.1.trans (hb1.mono HAL.out.2.1.size)
 have s0 := ZJ hW1 HSC.out.1
 have s1 := ZJ hW1 HSC.out.2
 have HB1 := ZH hB1
 clear hb1 hB1 hW1
 by_cases hz : E = 0
 ·have e2 : (E == 0) = true := by rw [hz]; rfl
  obtain ⟨h1, h2, h3⟩ := with_one (HE.out.symm.trans hz)
  have hch := chain_any (HH.out.below HB1.out) (check_down h1) (by have := (check_small h1).1; omega) h3
  rw [← HN.out.1, ← HN.out.2] at hch
  have HCH := ZH hch
  have HZ := ZH (HE.out.symm.trans hz)
  clear hch h1 h2 h3 hz
  go_wp2_with fail
  refine HCH.out.mono ?_
  rintro e w2 ⟨v, rfl, hr, hb2⟩
  have HF := ZH (ZN (World.ownsRow.mono hr HB1.out.size) (HB1.out.trans (hb2.mono HB1.out.size)))
  clear hr hb2
  go_wp2_with fail
  go_ret2
  exact ⟨_, by rw [HZ.out]; rfl, fun _ => by rw [← HN.out.1]; exact HF.out.1, fun h => absurd HZ.out h, HF.out.2⟩
 ·have e2 : (E == 0) = false := ZQ.2 hz
  have HZ := ZH hz
  clear hz
  go_wp2_with fail
  go_ret2
  exact ⟨_, by rw [← HE.out]; rfl, fun h => absurd (HE.out.trans h) HZ.out, fun _ => rfl, HB1.out⟩
end Go.Proofs.YtgofihilkobenaaGreatDoor
