/- agree: the journal and its model are in the same state. -/
import Derived.Test.YtlhnjdoicolkkaaGreatDoorJOpA
import Derived.Test.YtlhnjdoicolkkaaGreatDoorJStart
import Derived.Test.YtlhnjdoicolkkaaGreatDoorJBnd
import Derived.Deep.RegionHeld3
set_option maxRecDepth 100000
namespace Go.Proofs.YtlhnjdoicolkkaaGreatDoor
open Go.RowKit Go.Dsk Go.Maps Go.WideMaps
set_option maxHeartbeats 8000000
open Jnl (J)

section
variable {w0 w : World} {bp bj bm bd bo : Nat} {d m : M} {j : J} {R : SP}
/-- What can be read of a pair. -/
structure DSee (w : World) (bp bj bm bd bo : Nat) (j : J) (vr vp mr mp : Value) : Prop where
  p0 : w.cell? ⟨bp, 0, none⟩ = some (pj bj)
  p1 : w.cell? ⟨bp, 1, none⟩ = some (pm bm)
  p2 : w.cell? ⟨bp, 2, none⟩ = some (.pointer (some ⟨bd, 0, none⟩))
  js : JSee w bj bd logB j vr vp
  ms : MSee w bm bo logB j mr mp
theorem duo_see (h : Duo R w0 w bp bj bm bd bo d m j j) : ∃ vr vp mr mp, DSee w bp bj bm bd bo j vr vp mr mp := by
  obtain ⟨vr, vp, h1⟩ := jr_see h.left
  obtain ⟨mr, mp, h2⟩ := h.snd.snd.snd.quiet fun _ hS => hS.see
  have hp := h.snd.snd.snd.snd.quiet fun _ hS => hS.2
  have a0 := block_cell hp 0
  have a1 := block_cell hp 1
  have a2 := block_cell hp 2
  simp at a0 a1 a2
  exact ⟨vr, vp, mr, mp, a0, a1, a2, h1, h2⟩
theorem duo_disks (h : Duo R w0 w bp bj bm bd bo d m j j) : Has w0 w (Star (DiskP bd d) (Star (DiskP bo m) (Star (JrnP bj bd logB j) (Star (MdlP bm bo logB j) (Star (PairP bp bj bm bd) R))))) :=
  h.imp fun _ h => h.inner fun _ h => h.left
theorem nice_duo2 (hR : Nice R) : Nice (Star (JrnP bj bd logB j) (Star (MdlP bm bo logB j) (Star (PairP bp bj bm bd) R))) := Nice.star (nice_jrn _ _ _ _) (Nice.star (nice_mdl _ _ _ _) (Nice.star (nice_pair _ _ _ _) hR))
/-- The calls that agree makes. -/
theorem duo_first (h : Duo R w0 w bp bj bm bd bo d m j j) (hb : j.broken = false) : Calls Tryz.prog 32 #[pj bj] w fun e w' => e = .returned (.int .i64 (j.first : Int)) ∧ Below w.heap.size w w' ∧ Duo R w0 w' bp bj bm bd bo d m j j := by
  obtain ⟨_, _, _, _, hd⟩ := duo_see h
  have hf := First_any hd.js
  rw [hb] at hf
  refine hf.mono ?_
  rintro e w' ⟨rfl, rfl⟩
  exact ⟨rfl, Below.refl _ _, h⟩
theorem duo_last (hR : Nice R) (h : Duo R w0 w bp bj bm bd bo d m j j) (hb : j.broken = false) : Calls Tryz.prog 33 #[pj bj] w fun e w' => e = .returned (.int .i64 ((j.first : Int) + j.recs.length - 1)) ∧ Below w.heap.size w w' ∧ Duo R w0 w' bp bj bm bd bo d m j j := by
  obtain ⟨_, _, _, _, hd⟩ := duo_see h
  have hf := Last_any hd.js
  have hlv : j.last = (j.first : Int) + j.recs.length - 1 := by unfold Jnl.J.last; rw [hb]; simp
  rw [hlv] at hf
  refine hf.mono ?_
  rintro e w' ⟨rfl, q, rfl⟩
  exact ⟨rfl, below_drawn w q, h.moved (nice_duo hR) (below_drawn w q)⟩
theorem duo_llast (hR : Nice R) (h : Duo R w0 w bp bj bm bd bo d m j j) : Calls Tryz.prog 72 #[pm bm] w fun e w' => e = .returned (.int .i64 ((j.first : Int) + j.recs.length - 1)) ∧ Below w.heap.size w w' ∧ Duo R w0 w' bp bj bm bd bo d m j j := by
  obtain ⟨_, _, _, _, hd⟩ := duo_see h
  refine (llast_any hd.ms).mono ?_
  rintro e w' ⟨rfl, q, rfl⟩
  exact ⟨rfl, below_drawn w q, h.moved (nice_duo hR) (below_drawn w q)⟩
theorem duo_pending (h : Duo R w0 w bp bj bm bd bo d m j j) (hb : j.broken = false) : Calls Tryz.prog 23 #[pj bj] w fun e w' => e = .returned (.int .i64 (j.pend.length : Int)) ∧ Below w.heap.size w w' ∧ Duo R w0 w' bp bj bm bd bo d m j j := by
  obtain ⟨_, _, _, _, hd⟩ := duo_see h
  have hf := Pending_any hd.js
  rw [hb] at hf
  refine hf.mono ?_
  rintro e w' ⟨rfl, rfl⟩
  exact ⟨rfl, Below.refl _ _, h⟩
theorem duo_equal (hR : Nice R) (h : Duo R w0 w bp bj bm bd bo d m j j) (hs : SimE m d) : Calls Tryz.prog 74 #[.pointer (some ⟨bd, 0, none⟩), .pointer (some ⟨bo, 0, none⟩)] w fun e w' => e = .returned (.bool true) ∧ Below w.heap.size w w' ∧ Duo R w0 w' bp bj bm bd bo d m j j := by
  refine (equal_any (nice_duo2 hR) (duo_disks h) hs).mono ?_
  rintro e w' ⟨rfl, hb⟩
  exact ⟨rfl, hb, h.moved (nice_duo hR) hb⟩
theorem cell_below {w w' : World} (hb : Below w.heap.size w w') {p : Addr} {v : Value} (h : w.cell? p = some v) : w'.cell? p = some v := by
  refine (hb.cell (p := p) ?_).trans h
  unfold World.cell? at h
  rcases Nat.lt_or_ge p.block w.heap.size with h1 | h1
  · exact h1
  · rw [Array.getElem?_eq_none h1] at h
    cases h
theorem duo_same (hR : Nice R) (h : Duo R w0 w bp bj bm bd bo d m j j) {v mr : Value} {l : List Bs} (hv : StrsIn w v l) (hr : StrsIn w mr l) : Calls Tryz.prog 40 #[v, mr] w fun e w' => e = .returned (.bool true) ∧ Below w.heap.size w w' ∧ Duo R w0 w' bp bj bm bd bo d m j j := by
  have hs := same_any hv hr
  rw [decide_eq_true rfl] at hs
  refine hs.mono ?_
  rintro e w' ⟨rfl, q, rfl⟩
  exact ⟨rfl, below_drawn w q, h.moved (nice_duo hR) (below_drawn w q)⟩
theorem agree_well (hR : Nice R) (h : Duo R w0 w bp bj bm bd bo d m j j) (hs : SimE m d) (hb : j.broken = false) :
    Calls Tryz.prog 35 #[.pointer (some ⟨bp, 0, none⟩)] w fun e w' => e = .returned (.bool true) ∧ Duo R w0 w' bp bj bm bd bo d m j j := by
  obtain ⟨vr, vp, mr, mp, hd⟩ := duo_see h
  have p0 := hd.p0
  have p1 := hd.p1
  have p2 := hd.p2
  have f1 := hd.js.fit.first
  have HF := Lib.hid hd.js.fit
  have hw1 := h.moved (nice_duo hR) (Below.refl _ w).drew
  obtain ⟨vr2, vp2, mr2, mp2, hd2⟩ := duo_see hw1
  have hfi := First_any hd2.js
  rw [hb] at hfi
  simp only [Bool.false_eq_true, if_false] at hfi
  have hrc := Records_any hd2.js (j.first : Int) (by omega)
  have hrv : j.records (j.first : Int) = (j.recs, 0) := by
    unfold Jnl.J.records
    have hlv : j.last = (j.first : Int) + j.recs.length - 1 := by unfold Jnl.J.last; rw [hb]; simp
    rw [if_neg (by rw [hb]; simp), if_neg (by rw [hlv]; omega)]
    simp
  rw [hrv] at hrc
  have m5 := hd.ms.c5
  rw [hb] at m5
  have H := Lib.hid h
  have HW := Lib.hid hw1
  have HFI := Lib.hid hfi
  have HRC := Lib.hid hrc
  have HS := Lib.hid hs
  clear h hd hfi hw1 hd2 hrc hrv hs
  go_enter Tryz.func35, Tryz.ntmps35
  go_upto_region 3 with fail
  go_region_held3 (fun w' => w'.cell? ⟨bp, 0, none⟩ = some (pj bj)) (go_keep)
    (first
      | (go_at_call 32
         refine HFI.out.mono ?_
         rintro e w3 ⟨rfl, rfl⟩)
      | (go_at_call 29
         refine HRC.out.mono ?_
         rintro e w4 ⟨v, rfl, hv, hb4⟩
         have h4 := HW.out.moved (nice_duo hR) hb4
         obtain ⟨_, _, _, _, hd4⟩ := duo_see h4
         have q0 := hd4.p0
         have HV := Lib.hid hv
         have H4 := Lib.hid h4
         clear hv hb4 h4 hd4))
  all_goals
    clear HRC HFI HW p0 p1 p2 m5 q0
    obtain ⟨vr4, vp4, mr4, mp4, hd4⟩ := duo_see H4.out
    have p0 := hd4.p0
    have p1 := hd4.p1
    have p2 := hd4.p2
    have m5 := hd4.ms.c5
    rw [hb] at m5
    have HD4 := Lib.hid hd4
    clear hd4
    go_upto_region 6 with fail
    clear p0 p1 p2 m5
    have hW := H4.out.moved (nice_duo hR) (Below.refl _ w4).drew
    obtain ⟨vr5, vp5, mr5, mp5, hd5⟩ := duo_see hW
    have p0 := hd5.p0
    have p1 := hd5.p1
    have p2 := hd5.p2
    have b0 := hd5.ms.c0
    have b2 := hd5.ms.c2
    have b3 := hd5.ms.c3
    have b4 := hd5.ms.c4
    have e1 : ((j.first : Int) == (j.first : Int)) = true := by simp
    have e2 : ((j.first : Int) + (j.recs.length : Int) - 1 == (j.first : Int) + (j.recs.length : Int) - 1) = true := by simp
    have e3 : ((j.pend.length : Int) == (j.pend.length : Int)) = true := by simp
    have HD := Lib.hid hW
    have HRK := Lib.hid hd5.ms.r
    obtain ⟨ar5, cr5, rfl, -, -, -⟩ := hd5.ms.r
    obtain ⟨ap5, cp5, rfl, -, -, -⟩ := hd5.ms.p
    have HVK := Lib.hid ((HV.out.below (Below.refl _ w4).drew))
    clear hW hd5 HV
    dsimp only [HAppend.hAppend, Append.append, List.append]
    go_region_held3 (fun w' => w'.cell? ⟨bp, 0, none⟩ = some (pj bj) ∧ w'.cell? ⟨bp, 1, none⟩ = some (pm bm) ∧ w'.cell? ⟨bp, 2, none⟩ = some (.pointer (some ⟨bd, 0, none⟩)) ∧ w'.cell? ⟨bm, 0, none⟩ = some (.pointer (some ⟨bo, 0, none⟩)) ∧ w'.cell? ⟨bm, 2, none⟩ = some (.int .i64 j.first) ∧ w'.cell? ⟨bm, 3, none⟩ = some (.slice ar5 j.recs.length cr5) ∧ w'.cell? ⟨bm, 4, none⟩ = some (.slice ap5 j.pend.length cp5)) (go_keep)
      (first
        | (go_at_call 32
           refine (duo_first HD.out hb).mono ?_
           rintro e wk ⟨rfl, hbk, hk⟩
           have hvk := HVK.out.below hbk
           have hrk := HRK.out.below hbk
           have p0 := cell_below hbk p0
           have p1 := cell_below hbk p1
           have p2 := cell_below hbk p2
           have b0 := cell_below hbk b0
           have b2 := cell_below hbk b2
           have b3 := cell_below hbk b3
           have b4 := cell_below hbk b4
           clear HD HVK HRK
           have HD := Lib.hid hk
           have HVK := Lib.hid hvk
           have HRK := Lib.hid hrk
           clear hk hbk hvk hrk)
        | (go_at_call 33
           refine (duo_last hR HD.out hb).mono ?_
           rintro e wk ⟨rfl, hbk, hk⟩
           have hvk := HVK.out.below hbk
           have hrk := HRK.out.below hbk
           have p0 := cell_below hbk p0
           have p1 := cell_below hbk p1
           have p2 := cell_below hbk p2
           have b0 := cell_below hbk b0
           have b2 := cell_below hbk b2
           have b3 := cell_below hbk b3
           have b4 := cell_below hbk b4
           clear HD HVK HRK
           have HD := Lib.hid hk
           have HVK := Lib.hid hvk
           have HRK := Lib.hid hrk
           clear hk hbk hvk hrk)
        | (go_at_call 72
           refine (duo_llast hR HD.out).mono ?_
           rintro e wk ⟨rfl, hbk, hk⟩
           have hvk := HVK.out.below hbk
           have hrk := HRK.out.below hbk
           have p0 := cell_below hbk p0
           have p1 := cell_below hbk p1
           have p2 := cell_below hbk p2
           have b0 := cell_below hbk b0
           have b2 := cell_below hbk b2
           have b3 := cell_below hbk b3
           have b4 := cell_below hbk b4
           clear HD HVK HRK
           have HD := Lib.hid hk
           have HVK := Lib.hid hvk
           have HRK := Lib.hid hrk
           clear hk hbk hvk hrk)
        | (go_at_call 23
           refine (duo_pending HD.out hb).mono ?_
           rintro e wk ⟨rfl, hbk, hk⟩
           have hvk := HVK.out.below hbk
           have hrk := HRK.out.below hbk
           have p0 := cell_below hbk p0
           have p1 := cell_below hbk p1
           have p2 := cell_below hbk p2
           have b0 := cell_below hbk b0
           have b2 := cell_below hbk b2
           have b3 := cell_below hbk b3
           have b4 := cell_below hbk b4
           clear HD HVK HRK
           have HD := Lib.hid hk
           have HVK := Lib.hid hvk
           have HRK := Lib.hid hrk
           clear hk hbk hvk hrk)
        | (go_at_call 40
           refine (duo_same hR HD.out HVK.out HRK.out).mono ?_
           rintro e wk ⟨rfl, hbk, hk⟩
           have hvk := HVK.out.below hbk
           have hrk := HRK.out.below hbk
           have p0 := cell_below hbk p0
           have p1 := cell_below hbk p1
           have p2 := cell_below hbk p2
           have b0 := cell_below hbk b0
           have b2 := cell_below hbk b2
           have b3 := cell_below hbk b3
           have b4 := cell_below hbk b4
           clear HD HVK HRK
           have HD := Lib.hid hk
           have HVK := Lib.hid hvk
           have HRK := Lib.hid hrk
           clear hk hbk hvk hrk)
        | (go_at_call 74
           refine (duo_equal hR HD.out HS.out).mono ?_
           rintro e wk ⟨rfl, hbk, hk⟩
           have hvk := HVK.out.below hbk
           have hrk := HRK.out.below hbk
           have p0 := cell_below hbk p0
           have p1 := cell_below hbk p1
           have p2 := cell_below hbk p2
           have b0 := cell_below hbk b0
           have b2 := cell_below hbk b2
           have b3 := cell_below hbk b3
           have b4 := cell_below hbk b4
           clear HD HVK HRK
           have HD := Lib.hid hk
           have HVK := Lib.hid hvk
           have HRK := Lib.hid hrk
           clear hk hbk hvk hrk))
    all_goals
      go_wp2_with fail
      go_ret
      exact ⟨rfl, HD.out⟩
end
end Go.Proofs.YtlhnjdoicolkkaaGreatDoor

/- agree: a journal that is broken, and its model. -/
set_option maxRecDepth 100000
namespace Go.Proofs.YtlhnjdoicolkkaaGreatDoor
open Go.RowKit Go.Dsk Go.Maps Go.WideMaps
set_option maxHeartbeats 8000000
open Jnl (J)

section
variable {w0 w : World} {bp bj bm bd bo : Nat} {d m : M} {j : J} {R : SP}
theorem duo_first0 (h : Duo R w0 w bp bj bm bd bo d m j j) (hb : j.broken = true) : Calls Tryz.prog 32 #[pj bj] w fun e w' => e = .returned (.int .i64 0) ∧ Below w.heap.size w w' ∧ Duo R w0 w' bp bj bm bd bo d m j j := by
  obtain ⟨_, _, _, _, hd⟩ := duo_see h
  have hf := First_any hd.js
  rw [hb] at hf
  refine hf.mono ?_
  rintro e w' ⟨rfl, rfl⟩
  exact ⟨rfl, Below.refl _ _, h⟩
theorem duo_last0 (hR : Nice R) (h : Duo R w0 w bp bj bm bd bo d m j j) (hb : j.broken = true) : Calls Tryz.prog 33 #[pj bj] w fun e w' => e = .returned (.int .i64 0) ∧ Below w.heap.size w w' ∧ Duo R w0 w' bp bj bm bd bo d m j j := by
  obtain ⟨_, _, _, _, hd⟩ := duo_see h
  have hf := Last_any hd.js
  have hlv : j.last = 0 := by unfold Jnl.J.last; rw [if_pos hb]
  rw [hlv] at hf
  refine hf.mono ?_
  rintro e w' ⟨rfl, q, rfl⟩
  exact ⟨rfl, below_drawn w q, h.moved (nice_duo hR) (below_drawn w q)⟩
theorem duo_pending0 (h : Duo R w0 w bp bj bm bd bo d m j j) (hb : j.broken = true) : Calls Tryz.prog 23 #[pj bj] w fun e w' => e = .returned (.int .i64 0) ∧ Below w.heap.size w w' ∧ Duo R w0 w' bp bj bm bd bo d m j j := by
  obtain ⟨_, _, _, _, hd⟩ := duo_see h
  have hf := Pending_any hd.js
  rw [hb] at hf
  refine hf.mono ?_
  rintro e w' ⟨rfl, rfl⟩
  exact ⟨rfl, Below.refl _ _, h⟩
theorem agree_broken (hR : Nice R) (h : Duo R w0 w bp bj bm bd bo d m j j) (hs : SimE m d) (hb : j.broken = true) :
    Calls Tryz.prog 35 #[.pointer (some ⟨bp, 0, none⟩)] w fun e w' => e = .returned (.bool true) ∧ Duo R w0 w' bp bj bm bd bo d m j j := by
  obtain ⟨vr, vp, mr, mp, hd⟩ := duo_see h
  have p0 := hd.p0
  have p1 := hd.p1
  have p2 := hd.p2
  have f1 := hd.js.fit.first
  have HF := Lib.hid hd.js.fit
  have hw1 := h.moved (nice_duo hR) (Below.refl _ w).drew
  obtain ⟨vr2, vp2, mr2, mp2, hd2⟩ := duo_see hw1
  have hfi := First_any hd2.js
  rw [hb] at hfi
  simp only [if_true] at hfi
  have hrc := Records_any hd2.js 0 (by omega)
  have hrv : j.records 0 = ([], 18) := by unfold Jnl.J.records; rw [if_pos hb]
  rw [hrv] at hrc
  have m5 := hd.ms.c5
  rw [hb] at m5
  have H := Lib.hid h
  have HW := Lib.hid hw1
  have HFI := Lib.hid hfi
  have HRC := Lib.hid hrc
  have HS := Lib.hid hs
  clear h hd hfi hw1 hd2 hrc hrv hs
  go_enter Tryz.func35, Tryz.ntmps35
  go_upto_region 3 with fail
  go_region_held3 (fun w' => w'.cell? ⟨bp, 0, none⟩ = some (pj bj)) (go_keep)
    (first
      | (go_at_call 32
         refine HFI.out.mono ?_
         rintro e w3 ⟨rfl, rfl⟩)
      | (go_at_call 29
         refine HRC.out.mono ?_
         rintro e w4 ⟨v, rfl, hv, hb4⟩
         have h4 := HW.out.moved (nice_duo hR) hb4
         obtain ⟨_, _, _, _, hd4⟩ := duo_see h4
         have q0 := hd4.p0
         have HV := Lib.hid hv
         have H4 := Lib.hid h4
         clear hv hb4 h4 hd4))
  all_goals
    clear HRC HFI HW p0 p1 p2 m5 q0
    obtain ⟨av, cv, hve, -, -, -⟩ := HV.out
    simp only [List.length_nil] at hve
    subst hve
    obtain ⟨vr4, vp4, mr4, mp4, hd4⟩ := duo_see H4.out
    have p0 := hd4.p0
    have p1 := hd4.p1
    have p2 := hd4.p2
    have m5 := hd4.ms.c5
    rw [hb] at m5
    have HD4 := Lib.hid hd4
    clear hd4
    go_upto_region 5 with fail
    clear p0 p1 p2 m5
    have hW := H4.out.moved (nice_duo hR) (Below.refl _ w4).drew
    obtain ⟨vr5, vp5, mr5, mp5, hd5⟩ := duo_see hW
    have p0 := hd5.p0
    have p1 := hd5.p1
    have p2 := hd5.p2
    have b0 := hd5.ms.c0
    have b2 := hd5.ms.c2
    have b3 := hd5.ms.c3
    have b4 := hd5.ms.c4
    have e1 : ((j.first : Int) == (j.first : Int)) = true := by simp
    have e2 : ((j.first : Int) + (j.recs.length : Int) - 1 == (j.first : Int) + (j.recs.length : Int) - 1) = true := by simp
    have e3 : ((j.pend.length : Int) == (j.pend.length : Int)) = true := by simp
    have HD := Lib.hid hW
    have HRK := Lib.hid hd5.ms.r
    obtain ⟨ar5, cr5, rfl, -, -, -⟩ := hd5.ms.r
    obtain ⟨ap5, cp5, rfl, -, -, -⟩ := hd5.ms.p
    have HVK := Lib.hid ((HV.out.below (Below.refl _ w4).drew))
    clear hW hd5 HV
    go_region_held3 (fun w' => w'.cell? ⟨bp, 0, none⟩ = some (pj bj) ∧ w'.cell? ⟨bp, 1, none⟩ = some (pm bm) ∧ w'.cell? ⟨bp, 2, none⟩ = some (.pointer (some ⟨bd, 0, none⟩)) ∧ w'.cell? ⟨bm, 0, none⟩ = some (.pointer (some ⟨bo, 0, none⟩)) ∧ w'.cell? ⟨bm, 2, none⟩ = some (.int .i64 j.first) ∧ w'.cell? ⟨bm, 3, none⟩ = some (.slice ar5 j.recs.length cr5) ∧ w'.cell? ⟨bm, 4, none⟩ = some (.slice ap5 j.pend.length cp5)) (go_keep)
      (first
        | (go_at_call 32
           refine (duo_first0 HD.out hb).mono ?_
           rintro e wk ⟨rfl, hbk, hk⟩
           have hvk := HVK.out.below hbk
           have hrk := HRK.out.below hbk
           have p0 := cell_below hbk p0
           have p1 := cell_below hbk p1
           have p2 := cell_below hbk p2
           have b0 := cell_below hbk b0
           have b2 := cell_below hbk b2
           have b3 := cell_below hbk b3
           have b4 := cell_below hbk b4
           clear HD HVK HRK
           have HD := Lib.hid hk
           have HVK := Lib.hid hvk
           have HRK := Lib.hid hrk
           clear hk hbk hvk hrk)
        | (go_at_call 33
           refine (duo_last0 hR HD.out hb).mono ?_
           rintro e wk ⟨rfl, hbk, hk⟩
           have hvk := HVK.out.below hbk
           have hrk := HRK.out.below hbk
           have p0 := cell_below hbk p0
           have p1 := cell_below hbk p1
           have p2 := cell_below hbk p2
           have b0 := cell_below hbk b0
           have b2 := cell_below hbk b2
           have b3 := cell_below hbk b3
           have b4 := cell_below hbk b4
           clear HD HVK HRK
           have HD := Lib.hid hk
           have HVK := Lib.hid hvk
           have HRK := Lib.hid hrk
           clear hk hbk hvk hrk)
        | (go_at_call 72
           refine (duo_llast hR HD.out).mono ?_
           rintro e wk ⟨rfl, hbk, hk⟩
           have hvk := HVK.out.below hbk
           have hrk := HRK.out.below hbk
           have p0 := cell_below hbk p0
           have p1 := cell_below hbk p1
           have p2 := cell_below hbk p2
           have b0 := cell_below hbk b0
           have b2 := cell_below hbk b2
           have b3 := cell_below hbk b3
           have b4 := cell_below hbk b4
           clear HD HVK HRK
           have HD := Lib.hid hk
           have HVK := Lib.hid hvk
           have HRK := Lib.hid hrk
           clear hk hbk hvk hrk)
        | (go_at_call 23
           refine (duo_pending0 HD.out hb).mono ?_
           rintro e wk ⟨rfl, hbk, hk⟩
           have hvk := HVK.out.below hbk
           have hrk := HRK.out.below hbk
           have p0 := cell_below hbk p0
           have p1 := cell_below hbk p1
           have p2 := cell_below hbk p2
           have b0 := cell_below hbk b0
           have b2 := cell_below hbk b2
           have b3 := cell_below hbk b3
           have b4 := cell_below hbk b4
           clear HD HVK HRK
           have HD := Lib.hid hk
           have HVK := Lib.hid hvk
           have HRK := Lib.hid hrk
           clear hk hbk hvk hrk)
        | (go_at_call 40
           refine (duo_same hR HD.out HVK.out HRK.out).mono ?_
           rintro e wk ⟨rfl, hbk, hk⟩
           have hvk := HVK.out.below hbk
           have hrk := HRK.out.below hbk
           have p0 := cell_below hbk p0
           have p1 := cell_below hbk p1
           have p2 := cell_below hbk p2
           have b0 := cell_below hbk b0
           have b2 := cell_below hbk b2
           have b3 := cell_below hbk b3
           have b4 := cell_below hbk b4
           clear HD HVK HRK
           have HD := Lib.hid hk
           have HVK := Lib.hid hvk
           have HRK := Lib.hid hrk
           clear hk hbk hvk hrk)
        | (go_at_call 74
           refine (duo_equal hR HD.out HS.out).mono ?_
           rintro e wk ⟨rfl, hbk, hk⟩
           have hvk := HVK.out.below hbk
           have hrk := HRK.out.below hbk
           have p0 := cell_below hbk p0
           have p1 := cell_below hbk p1
           have p2 := cell_below hbk p2
           have b0 := cell_below hbk b0
           have b2 := cell_below hbk b2
           have b3 := cell_below hbk b3
           have b4 := cell_below hbk b4
           clear HD HVK HRK
           have HD := Lib.hid hk
           have HVK := Lib.hid hvk
           have HRK := Lib.hid hrk
           clear hk hbk hvk hrk))
    all_goals
      go_wp2_with fail
      go_ret
      exact ⟨rfl, HD.out⟩
end
end Go.Proofs.YtlhnjdoicolkkaaGreatDoor
