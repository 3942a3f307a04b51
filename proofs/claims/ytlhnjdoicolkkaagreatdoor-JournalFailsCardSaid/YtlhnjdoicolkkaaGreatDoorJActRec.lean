/- act: Records. -/
import Derived.Test.YtlhnjdoicolkkaaGreatDoorJAct
import Derived.Deep.RegionHeld3
set_option maxRecDepth 100000
namespace Go.Proofs.YtlhnjdoicolkkaaGreatDoor
open Go.RowKit Go.Dsk Go.Maps Go.WideMaps
set_option maxHeartbeats 8000000
open Jnl (J)

section
variable {w0 w : World} {bp bj bm bd bo : Nat} {d m : M} {j : J} {R : SP}
theorem pact_rec {k q : Int} {l : List Bs} {va : Value} {r : ByteArray} (hR : Nice R) (hg : Glob w0) (h : Duo R w0 w bp bj bm bd bo d m j j) (hs : SimE m d) (_hi : m.Ok) (hl : StrsIn w va l)
    (hk0 : 0 ≤ k) (_hk1 : k ≤ 255) (hq0 : -128 ≤ q) (hq1 : q ≤ 127) (hr : RecIs l q r) (hw : m.wt < 1073741000) (_hrl : j.recs.length ≤ 260000) (hk : k % 8 = 6) :
    Calls Tryz.prog 34 #[.pointer (some ⟨bp, 0, none⟩), va, .agg #[.int .u8 k, .int .i8 q]] w fun e w' => e = .returned (.bool true) ∧ ∃ bj' bm', Duo R w0 w' bp bj' bm' bd bo (actJ logB.data.toList r.data.toList k q j d).2 (actJ logB.data.toList r.data.toList k q j m).2 (actJ logB.data.toList r.data.toList k q j m).1 (actJ logB.data.toList r.data.toList k q j m).1 := by
  have hwd : d.wt < 1073741000 := by rw [sim_wt hs]; exact hw
  have hf1 := (duo_fit h).first
  have a1 : ∀ x : M, actJ logB.data.toList r.data.toList k q j x = (j, x) := fun x => by unfold actJ; rw [if_neg (by omega), if_neg (by omega), if_neg (by omega), if_pos hk]
  rw [a1, a1]
  clear a1
  have hk8 : k.tmod 8 = k % 8 := Int.tmod_eq_emod_of_nonneg hk0
  rw [hk] at hk8
  obtain ⟨bx, hbx⟩ : ∃ bx, bx = w.heap.size := ⟨_, rfl⟩
  have x0 : (w.alloc (.cells #[.int .u8 k, .int .i8 q] 64)).cell? ⟨bx, 0, none⟩ = some (.int .u8 k) := by rw [hbx]; simp
  have x1 : (w.alloc (.cells #[.int .u8 k, .int .i8 q] 64)).cell? ⟨bx, 1, none⟩ = some (.int .i8 q) := by rw [hbx]; simp
  have hal : Below w.heap.size w (w.alloc (.cells #[.int .u8 k, .int .i8 q] 64)) := (Below.refl _ w).alloc (Nat.le_refl _) _
  have HW := Lib.hid (h.moved (nice_duo hR) hal)
  have HL := Lib.hid (hl.below hal)
  have HG := Lib.hid hg
  have HBX := Lib.hid hbx
  have HR := Lib.hid hr
  obtain ⟨ao, c, rfl, -, -, -⟩ := hl
  clear h hal hg hbx hr _hi hs
  go_enter Tryz.func34, Tryz.ntmps34
  go_upto_region 1 with fail
  rw [← HBX.out]
  generalize w.alloc (.cells #[.int .u8 k, .int .i8 q] 64) = wa at *
  clear HBX
  rcases HR.out with ⟨rfl, rfl⟩ | ⟨i, hil, hid, hst⟩
  · go_upto_region 4 with fail
    clear HL HR
    obtain ⟨mr, mp, hm⟩ := duo_model HW.out
    have p1 := (duo_cells HW.out).2.1
    have b2 := hm.c2
    clear hm
    go_region
    all_goals
      clear p1 b2
      have h1 := HW.out.moved (nice_duo hR) (Below.refl _ wa).drew
      have p0 := (duo_cells h1).1
      have HC := Lib.hid (duo_records hR h1 ((j.first : Int) + q) (by omega))
      clear h1
      go_wp2_with fail
      refine HC.out.mono ?_
      rintro e w1 ⟨v, rfl, hv, -, h1⟩
      have p1 := (duo_cells h1).2.1
      obtain ⟨mr1, mp1, hm1⟩ := duo_model h1
      have b2 := hm1.c2
      have b5 := hm1.c5
      have b3 := hm1.c3
      have H1 := Lib.hid h1
      have HV := Lib.hid hv
      have HM := Lib.hid hm1
      have HMR := Lib.hid hm1.r
      obtain ⟨av, cv, rfl, -, -, -⟩ := hv
      clear h1 hm1 HC
      cases hb : j.broken with
      | true =>
        rw [hb] at b5
        have hd : j.records ((j.first : Int) + q) = ([], 18) := by unfold Jnl.J.records; rw [if_pos hb]
        rw [hd] at HV ⊢
        clear hd
        go_wp2_with fail
        go_ret
        exact ⟨rfl, _, _, H1.out⟩
      | false =>
        rw [hb] at b5
        have hlv : j.last = (j.first : Int) + j.recs.length - 1 := by unfold Jnl.J.last; rw [hb]; simp
        by_cases hlo : (j.first : Int) + q < j.first
        · have hd : j.records ((j.first : Int) + q) = ([], 10) := by unfold Jnl.J.records; rw [if_neg (by rw [hb]; simp), if_pos (.inl hlo)]
          have hlo' : ((j.first : Int) + q < j.first) = True := by simp; omega
          rw [hd] at HV ⊢
          clear hd
          go_wp2_with fail
          go_ret
          exact ⟨rfl, _, _, H1.out⟩
        · have hlo' : ((j.first : Int) + q < j.first) = False := by simp; omega
          have HLL := Lib.hid (duo_llast hR H1.out)
          by_cases hhi : j.last + 1 < (j.first : Int) + q
          · have hd : j.records ((j.first : Int) + q) = ([], 10) := by unfold Jnl.J.records; rw [if_neg (by rw [hb]; simp), if_pos (.inr hhi)]
            rw [hd] at HV ⊢
            rw [hlv] at hhi
            have hhi' : ((j.first : Int) + j.recs.length - 1 + 1 < (j.first : Int) + q) = True := by simp; omega
            clear hd hlv
            go_wp2_with fail
            refine HLL.out.mono ?_
            rintro e w2 ⟨rfl, hb2, h2⟩
            have H2 := Lib.hid h2
            clear h2
            go_wp2_with fail
            go_ret
            exact ⟨rfl, _, _, H2.out⟩
          · have hd : j.records ((j.first : Int) + q) = (j.recs.drop q.toNat, 0) := by
              unfold Jnl.J.records
              rw [if_neg (by rw [hb]; simp), if_neg (by omega), show (j.first : Int) + q - j.first = q by omega]
            rw [hd] at HV ⊢
            rw [hlv] at hhi
            have hhi' : ((j.first : Int) + j.recs.length - 1 + 1 < (j.first : Int) + q) = False := by simp; omega
            obtain ⟨u, hu⟩ : ∃ u : Nat, (u : Int) = q := ⟨q.toNat, by omega⟩
            subst hu
            have hul : u ≤ j.recs.length := by omega
            rw [Int.toNat_natCast] at HV ⊢
            generalize (List.drop u j.recs).length = n at HV ⊢
            have HU := Lib.hid hul
            clear hd hlv hlo hhi
            go_wp2_with fail
            refine HLL.out.mono ?_
            rintro e w2 ⟨rfl, hb2, h2⟩
            have p1 := cell_below ((hb2.trans ((Below.refl _ w2).drew.mono hb2.size))) p1
            have b2 := cell_below ((hb2.trans ((Below.refl _ w2).drew.mono hb2.size))) b2
            have b3 := cell_below ((hb2.trans ((Below.refl _ w2).drew.mono hb2.size))) b3
            have hv2 := (HV.out.below hb2).below (Below.refl _ w2).drew
            have hr2 := (HMR.out.below hb2).below (Below.refl _ w2).drew
            have H2 := Lib.hid (h2.moved (nice_duo hR) (Below.refl _ w2).drew)
            obtain ⟨ar, cr, hmr, hcr1, hcr2, -⟩ := HMR.out
            subst hmr
            unfold maxLen at hcr2
            have hsub := strs_drop hr2 hul
            have hw2 : wrap64 ((j.first : Int) + (u : Int) - (j.first : Int)) = (u : Int) := (IntWalk.wrap64_in _ (by omega)).trans (by omega)
            have hw3 : IntKind.i64.wrap ((j.first : Int) + (u : Int) - (j.first : Int)) = (u : Int) := (IntWalk.i64_in _ (by omega)).trans (by omega)
            have hq0 : (0 : Int) ≤ (u : Int) := by omega
            have hq1 : (u : Int) ≤ (j.recs.length : Int) := by omega
            have HD := H2
            have HVK := Lib.hid hv2
            clear h2 hb2 hv2 hr2 HM HMR HLL H1 H2 HV
            by_cases hck : cr = u
            · subst hck
              simp only [if_true, Nat.sub_self] at hsub
              rw [show j.recs.length - cr = 0 by omega] at hsub
              have HRK := Lib.hid hsub
              clear hsub
              go_upto_region 25 with fail
              go_region_held3 (fun w' => w'.cell? ⟨bp, 1, none⟩ = some (pm bm) ∧ w'.cell? ⟨bm, 2, none⟩ = some (.int .i64 j.first) ∧ w'.cell? ⟨bm, 3, none⟩ = some (.slice ar j.recs.length cr)) (go_keep)
                (first
                  | (go_at_call 40
                     refine (duo_same hR HD.out HVK.out HRK.out).mono ?_
                     rintro e wk ⟨rfl, hbk, hk⟩
                     have p1 := cell_below hbk p1
                     have b2 := cell_below hbk b2
                     have b3 := cell_below hbk b3
                     clear HD HVK HRK
                     have HD := Lib.hid hk
                     clear hk hbk))
              all_goals
                go_wp2_with fail
                go_ret
                exact ⟨rfl, _, _, HD.out⟩
            · simp only [hck, if_false] at hsub
              have HRK := Lib.hid hsub
              clear hsub
              go_upto_region 25 with fail
              go_region_held3 (fun w' => w'.cell? ⟨bp, 1, none⟩ = some (pm bm) ∧ w'.cell? ⟨bm, 2, none⟩ = some (.int .i64 j.first) ∧ w'.cell? ⟨bm, 3, none⟩ = some (.slice ar j.recs.length cr)) (go_keep)
                (first
                  | (go_at_call 40
                     refine (duo_same hR HD.out HVK.out HRK.out).mono ?_
                     rintro e wk ⟨rfl, hbk, hk⟩
                     have p1 := cell_below hbk p1
                     have b2 := cell_below hbk b2
                     have b3 := cell_below hbk b3
                     clear HD HVK HRK
                     have HD := Lib.hid hk
                     clear hk hbk))
              all_goals
                go_wp2_with fail
                go_ret
                exact ⟨rfl, _, _, HD.out⟩
  · obtain ⟨b, off, rfl, -, hcell⟩ : ∃ b off, ao = some ⟨b, off, none⟩ ∧ b < wa.heap.size ∧ ∀ j, j < l.length → wa.cell? ⟨b, off + j, none⟩ = some (strV (l.getD j [])) := by
      obtain ⟨_, _, e, _, _, hc⟩ := HL.out
      simp only [Value.slice.injEq] at e
      obtain ⟨rfl, -, rfl⟩ := e
      exact hc (by omega)
    have xl := (hcell i hil).trans (congrArg some hst)
    have hl0 : (0 : Int) < (l.length : Int) := by omega
    have hi0 : (0 : Int) ≤ (i : Int) := by omega
    have hi1 : (i : Int) < (l.length : Int) := by omega
    have hq8 : (q % 256).tmod (l.length : Int) = (i : Int) := by rw [Int.tmod_eq_emod_of_nonneg (by omega)]; exact hid
    have hnz : ((l.length : Int) == 0) = false := by
      have : ((l.length : Int)) ≠ 0 := by omega
      simpa using this
    clear hcell hst hid
    go_upto_region 4 with fail
    clear HL HR xl
    obtain ⟨mr, mp, hm⟩ := duo_model HW.out
    have p1 := (duo_cells HW.out).2.1
    have b2 := hm.c2
    clear hm
    go_region
    all_goals
      clear p1 b2
      have h1 := HW.out.moved (nice_duo hR) (Below.refl _ wa).drew
      have p0 := (duo_cells h1).1
      have HC := Lib.hid (duo_records hR h1 ((j.first : Int) + q) (by omega))
      clear h1
      go_wp2_with fail
      refine HC.out.mono ?_
      rintro e w1 ⟨v, rfl, hv, -, h1⟩
      have p1 := (duo_cells h1).2.1
      obtain ⟨mr1, mp1, hm1⟩ := duo_model h1
      have b2 := hm1.c2
      have b5 := hm1.c5
      have b3 := hm1.c3
      have H1 := Lib.hid h1
      have HV := Lib.hid hv
      have HM := Lib.hid hm1
      have HMR := Lib.hid hm1.r
      obtain ⟨av, cv, rfl, -, -, -⟩ := hv
      clear h1 hm1 HC
      cases hb : j.broken with
      | true =>
        rw [hb] at b5
        have hd : j.records ((j.first : Int) + q) = ([], 18) := by unfold Jnl.J.records; rw [if_pos hb]
        rw [hd] at HV ⊢
        clear hd
        go_wp2_with fail
        go_ret
        exact ⟨rfl, _, _, H1.out⟩
      | false =>
        rw [hb] at b5
        have hlv : j.last = (j.first : Int) + j.recs.length - 1 := by unfold Jnl.J.last; rw [hb]; simp
        by_cases hlo : (j.first : Int) + q < j.first
        · have hd : j.records ((j.first : Int) + q) = ([], 10) := by unfold Jnl.J.records; rw [if_neg (by rw [hb]; simp), if_pos (.inl hlo)]
          have hlo' : ((j.first : Int) + q < j.first) = True := by simp; omega
          rw [hd] at HV ⊢
          clear hd
          go_wp2_with fail
          go_ret
          exact ⟨rfl, _, _, H1.out⟩
        · have hlo' : ((j.first : Int) + q < j.first) = False := by simp; omega
          have HLL := Lib.hid (duo_llast hR H1.out)
          by_cases hhi : j.last + 1 < (j.first : Int) + q
          · have hd : j.records ((j.first : Int) + q) = ([], 10) := by unfold Jnl.J.records; rw [if_neg (by rw [hb]; simp), if_pos (.inr hhi)]
            rw [hd] at HV ⊢
            rw [hlv] at hhi
            have hhi' : ((j.first : Int) + j.recs.length - 1 + 1 < (j.first : Int) + q) = True := by simp; omega
            clear hd hlv
            go_wp2_with fail
            refine HLL.out.mono ?_
            rintro e w2 ⟨rfl, hb2, h2⟩
            have H2 := Lib.hid h2
            clear h2
            go_wp2_with fail
            go_ret
            exact ⟨rfl, _, _, H2.out⟩
          · have hd : j.records ((j.first : Int) + q) = (j.recs.drop q.toNat, 0) := by
              unfold Jnl.J.records
              rw [if_neg (by rw [hb]; simp), if_neg (by omega), show (j.first : Int) + q - j.first = q by omega]
            rw [hd] at HV ⊢
            rw [hlv] at hhi
            have hhi' : ((j.first : Int) + j.recs.length - 1 + 1 < (j.first : Int) + q) = False := by simp; omega
            obtain ⟨u, hu⟩ : ∃ u : Nat, (u : Int) = q := ⟨q.toNat, by omega⟩
            subst hu
            have hul : u ≤ j.recs.length := by omega
            rw [Int.toNat_natCast] at HV ⊢
            generalize (List.drop u j.recs).length = n at HV ⊢
            have HU := Lib.hid hul
            clear hd hlv hlo hhi
            go_wp2_with fail
            refine HLL.out.mono ?_
            rintro e w2 ⟨rfl, hb2, h2⟩
            have p1 := cell_below ((hb2.trans ((Below.refl _ w2).drew.mono hb2.size))) p1
            have b2 := cell_below ((hb2.trans ((Below.refl _ w2).drew.mono hb2.size))) b2
            have b3 := cell_below ((hb2.trans ((Below.refl _ w2).drew.mono hb2.size))) b3
            have hv2 := (HV.out.below hb2).below (Below.refl _ w2).drew
            have hr2 := (HMR.out.below hb2).below (Below.refl _ w2).drew
            have H2 := Lib.hid (h2.moved (nice_duo hR) (Below.refl _ w2).drew)
            obtain ⟨ar, cr, hmr, hcr1, hcr2, -⟩ := HMR.out
            subst hmr
            unfold maxLen at hcr2
            have hsub := strs_drop hr2 hul
            have hw2 : wrap64 ((j.first : Int) + (u : Int) - (j.first : Int)) = (u : Int) := (IntWalk.wrap64_in _ (by omega)).trans (by omega)
            have hw3 : IntKind.i64.wrap ((j.first : Int) + (u : Int) - (j.first : Int)) = (u : Int) := (IntWalk.i64_in _ (by omega)).trans (by omega)
            have hq0 : (0 : Int) ≤ (u : Int) := by omega
            have hq1 : (u : Int) ≤ (j.recs.length : Int) := by omega
            have HD := H2
            have HVK := Lib.hid hv2
            clear h2 hb2 hv2 hr2 HM HMR HLL H1 H2 HV
            by_cases hck : cr = u
            · subst hck
              simp only [if_true, Nat.sub_self] at hsub
              rw [show j.recs.length - cr = 0 by omega] at hsub
              have HRK := Lib.hid hsub
              clear hsub
              go_upto_region 25 with fail
              go_region_held3 (fun w' => w'.cell? ⟨bp, 1, none⟩ = some (pm bm) ∧ w'.cell? ⟨bm, 2, none⟩ = some (.int .i64 j.first) ∧ w'.cell? ⟨bm, 3, none⟩ = some (.slice ar j.recs.length cr)) (go_keep)
                (first
                  | (go_at_call 40
                     refine (duo_same hR HD.out HVK.out HRK.out).mono ?_
                     rintro e wk ⟨rfl, hbk, hk⟩
                     have p1 := cell_below hbk p1
                     have b2 := cell_below hbk b2
                     have b3 := cell_below hbk b3
                     clear HD HVK HRK
                     have HD := Lib.hid hk
                     clear hk hbk))
              all_goals
                go_wp2_with fail
                go_ret
                exact ⟨rfl, _, _, HD.out⟩
            · simp only [hck, if_false] at hsub
              have HRK := Lib.hid hsub
              clear hsub
              go_upto_region 25 with fail
              go_region_held3 (fun w' => w'.cell? ⟨bp, 1, none⟩ = some (pm bm) ∧ w'.cell? ⟨bm, 2, none⟩ = some (.int .i64 j.first) ∧ w'.cell? ⟨bm, 3, none⟩ = some (.slice ar j.recs.length cr)) (go_keep)
                (first
                  | (go_at_call 40
                     refine (duo_same hR HD.out HVK.out HRK.out).mono ?_
                     rintro e wk ⟨rfl, hbk, hk⟩
                     have p1 := cell_below hbk p1
                     have b2 := cell_below hbk b2
                     have b3 := cell_below hbk b3
                     clear HD HVK HRK
                     have HD := Lib.hid hk
                     clear hk hbk))
              all_goals
                go_wp2_with fail
                go_ret
                exact ⟨rfl, _, _, HD.out⟩
end
end Go.Proofs.YtlhnjdoicolkkaaGreatDoor
