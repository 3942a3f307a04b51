/- DatumChains: the walk. -/
import Derived.Test.YtgofihilkobenaaGreatDoorKQ
import Derived.Test.YtgofihilkobenaaGreatDoorKT
import Derived.Test.YtgofihilkobenaaGreatDoorKS
import Derived.Test.YtgofihilkobenaaGreatDoorShelf
set_option maxRecDepth 100000
namespace Go.Proofs.YtgofihilkobenaaGreatDoor
open Go.RowKit Go.Num Go.Flow Go.Dtm
set_option maxHeartbeats 8000000
set_option linter.unusedVariables false

theorem allEq_refl : ∀ l : List Int, Lib.allEq (fun x y => x == y) l l = true
 | [] => rfl
 | x :: l => by
  show ((x == x) && Lib.allEq _ l l) = true
  rw [allEq_refl l]
  simp
theorem sEqI_same {w : World} {B1 B2 : Nat} {v1 v2 : Value} {l : List Int} (h1 : IntRow w B1 v1 l) (h2 : IntRow w B2 v2 l) (hl : 0 < l.length) (hb : l.length ≤ 1000000) :
  Calls Tryz.prog 39 #[v1, v2] w fun e w' => e = .returned (.bool true) ∧ Below w.heap.size w w' := by
 obtain ⟨a1, c1, rfl, p1, p2, p3, p4⟩ := row1_reads h1
 obtain ⟨a2, c2, rfl, q1, q2, q3, q4⟩ := row1_reads h2
 obtain ⟨g1, rfl, -, k1⟩ := p4 hl
 obtain ⟨g2, rfl, -, k2⟩ := q4 hl
 have hc : ∀ (g : Nat) (_ : ∀ j u, (l.map fun x => Value.int .i64 x)[j]? = some u → w.cell? ⟨g, j, none⟩ = some u) (j : Nat), j < l.length → w.cell? ⟨g, 0 + j, none⟩ = some (Value.int .i64 l[j]!) := fun g k j hj => by
  rw [Nat.zero_add]
  refine k j _ ?_
  rw [List.getElem?_map, List.getElem?_eq_getElem hj, List.getElem!_eq_getElem?_getD, List.getElem?_eq_getElem hj]
  rfl
 have h := Tryz.slices_Equal (Value.int .i64) (fun x y => x == y) (NeqAt.int _ _ _) g1 0 l.length c1 g2 0 l.length c2 l l w (Nat.le_refl _) (Nat.le_refl _) (by omega) (by omega) (hc g1 k1) (hc g2 k2)
 rw [List.take_length, allEq_refl] at h
 exact h.mono fun e w' ⟨he, q, hw⟩ => ⟨he, by rw [hw]; exact below_drawn w q⟩
theorem chain_pos {fs : List Feat} {i : Int} (h0 : 0 ≤ i) (h1 : i < (fs.length : Int)) : 0 < (chainOf fs fs.length i).length := by
 cases hn : fs.length with
 | zero => omega
 | succ n => rw [chainOf, if_pos h0]; simp
theorem said_DatumChains {w : World} (hg : Glob w) {af : Option Addr} {cf : Nat} {az : Option Addr} {cz : Nat} {fs : List Feat} {zs : List Zn} (h : SchemeIn w af cf az cz fs zs) (i kind : Int) :
  Calls Tryz.prog 7 #[.agg #[.slice af fs.length cf, .slice az zs.length cz], .int .i64 i, .int .i64 kind] w fun e w' => e = .returned (.bool true) ∧ Below w.heap.size w w' := by
 obtain ⟨n, hn⟩ : ∃ n, n = fs.length := ⟨_, rfl⟩
 obtain ⟨nz, hnz⟩ : ∃ n, n = zs.length := ⟨_, rfl⟩
 obtain ⟨wa, hwa⟩ : ∃ wa, wa = w.alloc (.cells #[.slice af n cf, .slice az nz cz] 26) := ⟨_, rfl⟩
 obtain ⟨ba, hba⟩ : ∃ b, b = w.heap.size := ⟨_, rfl⟩
 have hal : Below w.heap.size w wa := by rw [hwa]; exact (Below.refl _ w).alloc (Nat.le_refl _) _
 have k0 : wa.heap[ba]? = some (.cells #[.slice af n cf, .slice az nz cz] 26 (0, 0)) := by rw [hwa, hba]; exact heap_alloc_new w _
 have s0 := block_cell k0 0
 have s1 := block_cell k0 1
 simp at s0 s1
 obtain ⟨FI, hFI⟩ : ∃ x, x = (fewOf fs zs && decide (check fs zs = 0)) := ⟨_, rfl⟩
 have hfi := fun (W : World) (hW : SchemeIn W af cf az cz fs zs) => qfine_any hW
 simp only [← hn, ← hnz, ← hFI] at hfi
 have hcap : n ≤ cf ∧ cf ≤ 9223372036854775807 := by rw [hn]; exact ⟨h.feats.1, h.feats.2.1⟩
 have HS := Lib.hid (h.below hal)
 have HG := Lib.hid (hg.below hal)
 have HAL := Lib.hid hal
 have HSC := Lib.hid (And.intro s0 s1)
 have HFI := Lib.hid hfi
 have HF := Lib.hid hFI
 have HN := Lib.hid (And.intro hn hnz)
 have HW := Lib.hid (And.intro hwa hba)
 rw [← hn, ← hnz]
 clear hal hwa hba k0 h hfi hFI hn hnz hg
 go_enter Tryz.func7, Tryz.ntmps7
 go_upto_region 1 with fail
 rw [← HW.out.1, ← HW.out.2]
 clear HW
 go_wp2_with fail
 refine (known_any HG.out).mono ?_
 rintro e w1 ⟨rfl, hb1⟩
 have s0 := cell_below hb1 HSC.out.1
 have s1 := cell_below hb1 HSC.out.2
 have HB1 := Lib.hid hb1
 clear hb1
 go_wp2_with fail
 refine (HFI.out w1 (HS.out.below HB1.out)).mono ?_
 rintro e w2 ⟨rfl, hb2⟩
 have HB2 := Lib.hid (HB1.out.trans (hb2.mono HB1.out.size))
 have s0 := cell_below HB2.out HSC.out.1
 have s1 := cell_below HB2.out HSC.out.2
 clear hb2
 cases FI with
 | false =>
  go_wp2_with fail
  refine (known_any (HG.out.below HB2.out)).mono ?_
  rintro e w3 ⟨rfl, hb3⟩
  have HB3 := Lib.hid (HB2.out.trans (hb3.mono HB2.out.size))
  clear hb3
  go_wp2_with fail
  go_ret
  exact ⟨rfl, HAL.out.trans (HB3.out.mono HAL.out.size)⟩
 | true =>
  have hck : check fs zs = 0 := by
   have := HF.out
   simp only [Bool.true_eq, Bool.and_eq_true, decide_eq_true_eq] at this
   exact this.2
  have HCK := Lib.hid hck
  have hch := Chain_any (HS.out.below HB2.out) i
  unfold ChainPost at hch
  obtain ⟨WE, hWE⟩ : ∃ x, x = withErr fs zs [i] := ⟨_, rfl⟩
  rw [← hWE, ← HN.out.1, ← HN.out.2] at hch
  have HCH := Lib.hid hch
  have HWE := Lib.hid hWE
  clear hck hch hWE
  go_wp2_with fail
  refine HCH.out.mono ?_
  rintro e w3 ⟨v, rfl, hr3, hn3, hb3⟩
  have HB3 := Lib.hid (HB2.out.trans (hb3.mono HB2.out.size))
  have s0 := cell_below HB3.out HSC.out.1
  have s1 := cell_below HB3.out HSC.out.2
  have hva := Variable_any (HS.out.below HB3.out) i kind
  obtain ⟨VE, hVE⟩ : ∃ x, x = variableErr fs zs i kind := ⟨_, rfl⟩
  obtain ⟨VA, hVA⟩ : ∃ x, x = variableAt fs zs i kind := ⟨_, rfl⟩
  rw [← hVE, ← hVA, ← HN.out.1, ← HN.out.2] at hva
  obtain ⟨vm, hvm⟩ : ∃ x, x = max VA 0 := ⟨_, rfl⟩
  obtain ⟨vb, hvb⟩ : ∃ x, x = decide (0 ≤ VA) := ⟨_, rfl⟩
  rw [← hvm, ← hvb] at hva
  have HVA := Lib.hid hva
  have HVE := Lib.hid (show VE = (if WE ≠ 0 then WE else if kind < 1 ∨ 3 < kind then 12 else 0) ∧ VA = (if VE ≠ 0 then -1 else varAt (varsTo fs zs fs.length) i kind) ∧ vm = max VA 0 ∧ vb = decide (0 ≤ VA) from ⟨by rw [hVE, HWE.out]; rfl, by rw [hVA, hVE]; rfl, hvm, hvb⟩)
  have HR3 := Lib.hid (And.intro hr3 hn3)
  clear hb3 hr3 hn3 hva hVE hVA hvm hvb
  by_cases hin : 0 ≤ i ∧ i < (n : Int)
  ·have hw0 : WE = 0 := by
    rw [HWE.out]
    unfold withErr
    rw [if_neg (by rw [HCK.out]; simp), if_pos (by simp [inside, ← HN.out.1, hin.1, hin.2])]
   have hrow := HR3.out.1 hw0
   have hr0 := hrow
   have hcp := chain_pos hin.1 (by rw [← HN.out.1]; exact hin.2 : i < (fs.length : Int))
   have hcl2 := chain_len fs fs.length i
   have hsm := (check_small HCK.out).1
   obtain ⟨CL, hCL⟩ : ∃ x, x = chainOf fs n i := ⟨_, rfl⟩
   have e1 : ¬ i < 0 := by omega
   have e2 : ((n : Int) ≤ i) = False := eq_false (by omega)
   have hch := fun (W : World) (hW : SchemeIn W af cf az cz fs zs) => qchain_any hW (check_down HCK.out) (by omega) (show i < (fs.length : Int) by rw [← HN.out.1]; exact hin.2)
   simp only [← HN.out.1, ← HN.out.2] at hch
   simp only [← hCL] at hch
   rw [← HN.out.1, ← hCL] at hcp hcl2
   rw [← hCL] at hr0
   have HRW := Lib.hid hr0
   have HQC := Lib.hid hch
   have HCP := Lib.hid (And.intro hcp (show CL.length ≤ 100 by have := HN.out.1; omega))
   have HVE2 := HVE.out.1
   rw [hw0, if_neg (by simp)] at HVE2
   clear hrow hr0 hch hcp hcl2 hsm hCL HR3
   by_cases hk : kind < 1 ∨ 3 < kind
   ·rw [if_pos hk] at HVE2
    have hv1 : VA = -1 := by rw [HVE.out.2.1, if_pos (by rw [HVE2]; decide)]
    have hv2 : vm = 0 := by rw [HVE.out.2.2.1, hv1]; decide
    have hv3 : vb = false := by rw [HVE.out.2.2.2, hv1]; decide
    have HX := Lib.hid (And.intro HVE2 (And.intro hv2 hv3))
    rw [HX.out.1, HX.out.2.1, HX.out.2.2] at HVA
    rw [hw0]
    clear HVE2 hv1 hv2 hv3 hin hw0
    by_cases hk1 : kind < 1
    ·have e3 : (kind < 1) = True := eq_true hk1
     clear hk hk1
     go_wp2_with fail
     refine HVA.out.mono ?_
     rintro e w4 ⟨rfl, hb4⟩
     have HB4 := Lib.hid (HB3.out.trans (hb4.mono HB3.out.size))
     have HRW4 := Lib.hid (ownsRow_stays HRW.out (Stays.of_below hb4))
     have s0 := cell_below HB4.out HSC.out.1
     have s1 := cell_below HB4.out HSC.out.2
     clear hb4
     go_wp2_with fail
     refine (HQC.out w4 (HS.out.below HB4.out)).mono ?_
     rintro e w5 ⟨v5, rfl, hr5, hb5⟩
     have hse := sEqI_same (ownsRow_stays HRW4.out (Stays.of_below hb5)) hr5 HCP.out.1 (by have := HCP.out.2; omega)
     have HSE := Lib.hid hse
     have HB5 := Lib.hid (HB4.out.trans (hb5.mono HB4.out.size))
     clear hse hr5 hb5
     go_wp2_with fail
     refine HSE.out.mono ?_
     rintro e w6 ⟨rfl, hb6⟩
     have HB6 := Lib.hid (HB5.out.trans (hb6.mono HB5.out.size))
     clear hb6
     go_wp2_with fail
     go_ret
     exact ⟨rfl, HAL.out.trans (HB6.out.mono HAL.out.size)⟩
    ·have e3 : (kind < 1) = False := eq_false hk1
     have e4 : ((3 : Int) < kind) = True := eq_true (by omega)
     clear hk hk1
     go_wp2_with fail
     refine HVA.out.mono ?_
     rintro e w4 ⟨rfl, hb4⟩
     have HB4 := Lib.hid (HB3.out.trans (hb4.mono HB3.out.size))
     have HRW4 := Lib.hid (ownsRow_stays HRW.out (Stays.of_below hb4))
     have s0 := cell_below HB4.out HSC.out.1
     have s1 := cell_below HB4.out HSC.out.2
     clear hb4
     go_wp2_with fail
     refine (HQC.out w4 (HS.out.below HB4.out)).mono ?_
     rintro e w5 ⟨v5, rfl, hr5, hb5⟩
     have hse := sEqI_same (ownsRow_stays HRW4.out (Stays.of_below hb5)) hr5 HCP.out.1 (by have := HCP.out.2; omega)
     have HSE := Lib.hid hse
     have HB5 := Lib.hid (HB4.out.trans (hb5.mono HB4.out.size))
     clear hse hr5 hb5
     go_wp2_with fail
     refine HSE.out.mono ?_
     rintro e w6 ⟨rfl, hb6⟩
     have HB6 := Lib.hid (HB5.out.trans (hb6.mono HB5.out.size))
     clear hb6
     go_wp2_with fail
     go_ret
     exact ⟨rfl, HAL.out.trans (HB6.out.mono HAL.out.size)⟩
   ·have e3 : (kind < 1) = False := eq_false (by omega)
    have e4 : ((3 : Int) < kind) = False := eq_false (by omega)
    rw [if_neg hk] at HVE2
    rw [HVE2] at HVA
    rw [hw0]
    clear HVE2 hin hw0 hk
    go_wp2_with fail
    refine HVA.out.mono ?_
    rintro e w4 ⟨rfl, hb4⟩
    have HB4 := Lib.hid (HB3.out.trans (hb4.mono HB3.out.size))
    have HRW4 := Lib.hid (ownsRow_stays HRW.out (Stays.of_below hb4))
    have s0 := cell_below HB4.out HSC.out.1
    have s1 := cell_below HB4.out HSC.out.2
    clear hb4
    go_wp2_with fail
    refine (HQC.out w4 (HS.out.below HB4.out)).mono ?_
    rintro e w5 ⟨v5, rfl, hr5, hb5⟩
    have hse := sEqI_same (ownsRow_stays HRW4.out (Stays.of_below hb5)) hr5 HCP.out.1 (by have := HCP.out.2; omega)
    have HSE := Lib.hid hse
    have HB5 := Lib.hid (HB4.out.trans (hb5.mono HB4.out.size))
    clear hse hr5 hb5
    go_wp2_with fail
    refine HSE.out.mono ?_
    rintro e w6 ⟨rfl, hb6⟩
    have HB6 := Lib.hid (HB5.out.trans (hb6.mono HB5.out.size))
    clear hb6
    go_wp2_with fail
    go_ret
    exact ⟨rfl, HAL.out.trans (HB6.out.mono HAL.out.size)⟩
  ·have hw2 : WE = 2 := by
    rw [HWE.out]
    unfold withErr
    rw [if_neg (by rw [HCK.out]; simp), if_neg]
    simp only [List.all_cons, List.all_nil, Bool.and_true]
    unfold inside
    rw [← HN.out.1, Bool.and_eq_true, decide_eq_true_iff, decide_eq_true_iff]
    exact hin
   have hv : v = .slice none 0 0 := HR3.out.2 (by rw [hw2]; decide)
   subst hv
   have HVE2 := HVE.out.1
   rw [hw2, if_pos (by decide)] at HVE2
   have hv1 : VA = -1 := by rw [HVE.out.2.1, if_pos (by rw [HVE2]; decide)]
   have hv2 : vm = 0 := by rw [HVE.out.2.2.1, hv1]; decide
   have hv3 : vb = false := by rw [HVE.out.2.2.2, hv1]; decide
   rw [HVE2, hv2, hv3] at HVA
   rw [hw2]
   clear HVE2 hv1 hv2 hv3 hw2
   by_cases hi : i < 0
   ·have e3 : (i < 0) = True := eq_true hi
    clear hi hin
    go_wp2_with fail
    refine HVA.out.mono ?_
    rintro e w4 ⟨rfl, hb4⟩
    have HB4 := Lib.hid (HB3.out.trans (hb4.mono HB3.out.size))
    have s0 := cell_below HB4.out HSC.out.1
    have s1 := cell_below HB4.out HSC.out.2
    clear hb4
    go_wp2_with fail
    go_ret
    exact ⟨rfl, HAL.out.trans (HB4.out.mono HAL.out.size)⟩
   ·have e3 : (i < 0) = False := eq_false hi
    have e4 : ((n : Int) ≤ i) = True := eq_true (by omega)
    clear hi hin
    go_wp2_with fail
    refine HVA.out.mono ?_
    rintro e w4 ⟨rfl, hb4⟩
    have HB4 := Lib.hid (HB3.out.trans (hb4.mono HB3.out.size))
    have s0 := cell_below HB4.out HSC.out.1
    have s1 := cell_below HB4.out HSC.out.2
    clear hb4
    go_wp2_with fail
    go_ret
    exact ⟨rfl, HAL.out.trans (HB4.out.mono HAL.out.size)⟩
end Go.Proofs.YtgofihilkobenaaGreatDoor
