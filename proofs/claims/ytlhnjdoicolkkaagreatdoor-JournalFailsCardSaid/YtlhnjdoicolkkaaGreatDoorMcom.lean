/- Two lists behind one another in a new row; the model behind a commit. -/
import Derived.Test.YtlhnjdoicolkkaaGreatDoorMj
import Derived.Test.YtlhnjdoicolkkaaGreatDoorJCommit2
import Derived.Deep.AppendLies
import Derived.Deep.Upon
import Derived.Test.YtlhnjdoicolkkaaGreatDoorJShort
import Derived.BigRegion
set_option maxRecDepth 100000
namespace Go.Proofs.YtlhnjdoicolkkaaGreatDoor
open Go.RowKit Go.Dsk Go.Maps Go.WideMaps
set_option maxHeartbeats 2000000
open Jnl (J)

theorem appX_none (w : World) (b : Addr) (cap : Nat) (ao : Option Addr) (c : Nat) : (appX #[25, 25] 25 #[.slice (some b) 0 cap, .slice ao 0 c]).run Tryz.prog w = .ok (.slice (some b) 0 cap) w := by
  obtain ⟨i0, hi, hz0, hz1, hz2⟩ := info_parts infoStr
  rw [← appX_is]
  exact run_append_nothing w 25 25 25 9 i0 Tryz.underlying25 hi (some b) 0 cap (Nat.zero_le _) _ ⟨.inl ⟨_, Tryz.underlying25⟩, fun w' => by cases ao <;> simp [Builtin.lenOf], by cases ao <;> simp [Builtin.firstCells, loadCells, loadCellsFrom], by cases ao <;> simp [Builtin.firstCells, loadCells, loadCellsFrom], by simp, by simp⟩
/-- Two lists behind one another in a new row. -/
theorem append_both {W : World} {vr vp : Value} {l1 l2 : List Bs} (h1 : StrsIn W vr l1) (h2 : StrsIn W vp l2) (hne : l2 ≠ []) (hl1 : l1.length ≤ 1073741824) (hl2 : l2.length ≤ 64) :
    ∃ v1 g cap w3 w4, (appX #[25, 25] 25 #[.slice (some ⟨W.heap.size, 0, none⟩) 0 0, vr]).run Tryz.prog (W.alloc (.cells #[] 9)).drew = .ok v1 w3 ∧ (appX #[25, 25] 25 #[v1, vp]).run Tryz.prog w3 = .ok (.slice (some ⟨g, 0, none⟩) (l1.length + l2.length) cap) w4 ∧
      w4.ownsRow W.heap.size 9 1 (.slice (some ⟨g, 0, none⟩) (l1.length + l2.length) cap) (l1.length + l2.length) (l1.map strV ++ l2.map strV) ∧ Below W.heap.size W w3 ∧ Below W.heap.size W w4 ∧ W.heap.size ≤ g := by
  obtain ⟨i0, hi, hz0, hz1, hz2⟩ := info_parts infoStr
  have hb0 : Below W.heap.size W (W.alloc (.cells #[] 9)).drew := ((Below.refl _ W).alloc (Nat.le_refl _) _).drew
  have hs0 : W.heap.size ≤ (W.alloc (.cells #[] 9)).drew.heap.size := hb0.size
  have ho0 : (W.alloc (.cells #[] 9)).drew.ownsRow W.heap.size 9 1 (.slice (some ⟨W.heap.size, 0, none⟩) 0 0) 0 [] := ⟨by simp, .inr ⟨W.heap.size, 0, #[], rfl, Nat.le_refl _, heap_alloc_new W _, Nat.le_refl _, by unfold maxLen; omega, by simp, by simp⟩⟩
  have news : ∀ {w' : World} {b off : Nat} {l : List Bs}, (∀ j, j < l.length → w'.cell? ⟨b, off + j, none⟩ = some (strV (l.getD j []))) → ∀ j u, (l.map strV)[j]? = some u → w'.cell? ((⟨b, off, none⟩ : Addr).add j) = some u := fun hc j u hu => by
    rw [List.getElem?_map] at hu
    rename_i l
    cases hi : l[j]? with
    | none => rw [hi] at hu; cases hu
    | some x =>
      rw [hi] at hu
      simp only [Option.map_some, Option.some.injEq] at hu
      have hlt : j < l.length := (List.getElem?_eq_some_iff.1 hi).1
      rw [add_plain2, hc j hlt, ← hu, List.getD_eq_getElem?_getD, hi]
      rfl
  have one : ∀ {l : List Bs}, ∀ u ∈ l.map strV, u.oneCell' = true := fun u hu => by
    obtain ⟨x, _, rfl⟩ := List.mem_map.1 hu
    rfl
  have key : ∃ v1 w3, (appX #[25, 25] 25 #[.slice (some ⟨W.heap.size, 0, none⟩) 0 0, vr]).run Tryz.prog (W.alloc (.cells #[] 9)).drew = .ok v1 w3 ∧ w3.ownsRow W.heap.size 9 1 v1 l1.length (l1.map strV) ∧ Below W.heap.size W w3 := by
    obtain ⟨ao, c, rfl, hc1, hc2, hc⟩ := h1
    cases hl : l1.length with
    | zero =>
      have e := List.length_eq_zero_iff.1 hl
      subst e
      exact ⟨_, _, appX_none _ _ _ ao c, ho0, hb0⟩
    | succ m =>
      rw [← hl]
      obtain ⟨b, off, rfl, hlt, hcell⟩ := hc (by omega)
      obtain ⟨g, cap, w3, hr, ho, hg, _, _⟩ := run_append_lies (P := Tryz.prog) (W.alloc (.cells #[] 9)).drew 25 25 W.heap.size 9 i0 _ 1 16 Tryz.underlying25 hi hz0 hz1 hz2 rfl (by decide) _ 0 [] ho0 ⟨b, off, none⟩ l1.length c (l1.map strV) (by simp) (news fun j hj => (hb0.cell (p := ⟨b, off + j, none⟩) hlt).trans (hcell j hj)) one (by omega) (by unfold maxLen; omega) (by omega) hs0 _ rfl
      rw [Nat.zero_add] at hr ho
      exact ⟨_, w3, by rw [← appX_is]; exact hr, ho, hb0.grown hg hs0 (fun q e => (ho0.lt q e).1)⟩
  obtain ⟨v1, w3, hr1, ho1, hb1⟩ := key
  obtain ⟨ap, cp, rfl, hp1, hp2, hp⟩ := h2
  obtain ⟨b, off, rfl, hlt, hcell⟩ := hp (List.length_pos_iff.2 hne)
  obtain ⟨g, cap, w4, hr, ho, hg, hat, _⟩ := run_append_lies (P := Tryz.prog) w3 25 25 W.heap.size 9 i0 _ 1 16 Tryz.underlying25 hi hz0 hz1 hz2 rfl (by decide) v1 l1.length _ ho1 ⟨b, off, none⟩ l2.length cp (l2.map strV) (by simp) (news fun j hj => (hb1.cell (p := ⟨b, off + j, none⟩) hlt).trans (hcell j hj)) one (List.length_pos_iff.2 hne) (by unfold maxLen; omega) (by omega) hb1.size _ rfl
  refine ⟨v1, g, cap, w3, w4, hr1, by rw [← appX_is]; exact hr, ho, hb1, hb1.grown hg hb1.size (fun q e => (ho1.lt q e).1), ?_⟩
  rcases hat with h | h
  · exact (ho1.lt g h).1
  · rw [h]; exact hb1.size
section
variable {w0 w : World} {bm bd : Nat} {n : ByteArray} {j : J} {d : M} {R : SP} {S : Nat → Prop}
/-- Behind the two stores of a commit. -/
abbrev cset (w : World) (bm : Nat) (v : Value) : World := (w.setCell ⟨bm, 3, none⟩ v).setCell ⟨bm, 4, none⟩ (.slice none 0 0)
theorem mdl_done {vr vp : Value} (h : MdlV bm bd n j vr vp S w) {w4 : World} {g cap : Nat} (hrl : j.recs.length + 64 ≤ 1073741824)
    (hown : w4.ownsRow w.heap.size 9 1 (.slice (some ⟨g, 0, none⟩) (j.recs.length + j.pend.length) cap) (j.recs.length + j.pend.length) (j.recs.map strV ++ j.pend.map strV)) (hb : Below w.heap.size w w4) (hg : w.heap.size ≤ g) (hne : j.pend ≠ []) :
    Does S w (MdlP bm bd n (jdone j)) (cset w4 bm (.slice (some ⟨g, 0, none⟩) (j.recs.length + j.pend.length) cap)) ∧ w4.heap[bm]? = some (.cells (mCells bd n j vr vp) 72 (0, 0)) := by
  obtain ⟨hF, C, D, hu2, hd2, h1, E, F, hu3, hd3, h2, h3⟩ := h
  have hbl := lt_of_block h1.2
  have hd4 : w4.heap[bm]? = some (.cells (mCells bd n j vr vp) 72 (0, 0)) := (hb.block bm hbl).trans h1.2
  have e1 := block_set hd4 3 (.slice (some ⟨g, 0, none⟩) (j.recs.length + j.pend.length) cap)
  have e2 := block_set e1 4 (.slice none 0 0)
  have nb : ∀ {W : World} {cs : Array Value}, W.heap[bm]? = some (.cells cs 72 (0, 0)) → ¬ IsBox W bm := by
    rintro W cs h ⟨s, hs⟩
    rw [h] at hs
    simp at hs
  have hfr : Fr (fun i => i = bm) w (cset w4 bm (.slice (some ⟨g, 0, none⟩) (j.recs.length + j.pend.length) cap)) :=
    ((show Fr (fun i => i = bm) w w4 from (Fr.below hb).mono fun _ h => False.elim h).setCell (p := ⟨bm, 3, none⟩) (.inl rfl) (nb hd4) _).setCell (p := ⟨bm, 4, none⟩) (.inl rfl) (nb e1) _
  have hgb : g ≠ bm := by omega
  have hpl := hF.pend
  have ho : (cset w4 bm (.slice (some ⟨g, 0, none⟩) (j.recs.length + j.pend.length) cap)).ownsRow w.heap.size 9 1 (.slice (some ⟨g, 0, none⟩) (j.recs.length + j.pend.length) cap) (j.recs.length + j.pend.length) (j.recs.map strV ++ j.pend.map strV) :=
    row_same hown fun k hk => by
      have : k = g := by simpa [Value.ownBlock, eq_comm] using hk
      subst this
      exact (block_other (by exact hgb) _).trans (block_other (by exact hgb) _)
  refine ⟨⟨fun i => C i ∨ i = g, ?_, ⟨⟨hF.first, by simp only [jdone, List.length_append]; omega, by simp [jdone], fun x hx => ?_, by simp [jdone]⟩, .slice (some ⟨g, 0, none⟩) (j.recs.length + j.pend.length) cap, .slice none 0 0, C, fun i => i = g, fun _ => Iff.rfl, ?_, ⟨h1.1, ?_⟩, fun i => i = g, fun _ => False, fun i => by simp, fun _ _ h => h, ⟨fun i => ?_, ?_⟩, str_nil _⟩, hfr.mono ?_⟩, hd4⟩
  · rintro i (hi | rfl)
    · exact .inl ((hu2 i).2 (.inl hi))
    · exact .inr hg
  · rcases List.mem_append.1 hx with hx | hx
    · exact hF.lenR x hx
    · exact hF.lenP x hx
  · rintro i hc rfl
    exact hgb ((h1.1 _).1 hc)
  · simpa [mCells, jdone] using e2
  · cases hm : j.recs.length + j.pend.length with
    | zero =>
      have := List.length_pos_iff.2 hne
      omega
    | succ m => simp [rdBlk, eq_comm]
  · have hl : (jdone j).recs.length = j.recs.length + j.pend.length := by simp [jdone]
    refine own_reads (base := w.heap.size) ?_
    rw [hl]
    simpa [jdone] using ho
  · rintro i rfl
    exact (hu2 _).2 (.inl ((h1.1 _).2 rfl))
end
end Go.Proofs.YtlhnjdoicolkkaaGreatDoor

/- The model's commit. -/
set_option maxRecDepth 100000
namespace Go.Proofs.YtlhnjdoicolkkaaGreatDoor
open Go.RowKit Go.Dsk Go.Maps Go.WideMaps
set_option maxHeartbeats 8000000
open Jnl (J)
attribute [local go_sem ↓] appX_is

section
variable {w0 w : World} {bm bd : Nat} {n : ByteArray} {j : J} {d : M} {R : SP} {vr vp : Value}
theorem lcommit_broken (h : DM R w0 w bd d bm n j) (hb : j.broken = true) :
    Calls Tryz.prog 70 #[pm bm] w fun e w' => e = .returned (.tuple #[.int .i64 0, .int .i64 18]) ∧ DM R w0 w' bd d bm n j := by
  obtain ⟨vr, vp, hs⟩ := dm_see h
  have c5 := hs.c5
  rw [hb] at c5
  have H := Lib.hid h
  clear h hs
  go_enter Tryz.func70, Tryz.ntmps70
  go_wp2_with fail
  go_ret2
  exact ⟨rfl, H.out⟩
theorem lcommit_none (hR : Nice R) (h : DM R w0 w bd d bm n j) (hb : j.broken = false) (hp : j.pend = []) :
    Calls Tryz.prog 70 #[pm bm] w fun e w' => e = .returned (.tuple #[.int .i64 j.last, .int .i64 0]) ∧ DM R w0 w' bd d bm n j := by
  obtain ⟨vr, vp, hs⟩ := dm_see h
  have c5 := hs.c5
  rw [hb] at c5
  have c4 := hs.c4
  obtain ⟨ao, c, e4, -⟩ := hs.p
  rw [hp] at e4
  subst e4
  have hl := llast_any hs
  have hlv : j.last = (j.first : Int) + j.recs.length - 1 := by unfold Jnl.J.last; rw [hb]; simp
  rw [← hlv] at hl
  have H := Lib.hid h
  have HL := Lib.hid hl
  clear h hs hl hlv
  go_enter Tryz.func70, Tryz.ntmps70
  go_wp2_with fail
  refine HL.out.mono ?_
  rintro e w2 ⟨rfl, q, rfl⟩
  go_wp2_with fail
  go_ret2
  exact ⟨rfl, H.out.moved (nice_dm hR) (below_drawn _ q)⟩
theorem lcommit_down (hR : Nice R) (hg : Glob w0) (h : DMV R w0 w bd d bm n j vr vp) (hb : j.broken = false) (hp : j.pend ≠ []) (hd : d.down = true) (hn : n.size ≤ 1048576) (hw : d.wt < 1073741700) (hrl : j.recs.length + 64 ≤ 1073741824)
    {Z : Int × J × M} (hZ : Jnl.run (Jnl.commitSteps n.data.toList (([] : Bs) ++ Jnl.frames j.pend) true) j d = Z) :
    Calls Tryz.prog 70 #[pm bm] w fun e w' => (Z.1 ≠ 0 ∧ e = .returned (.tuple #[.int .i64 0, .int .i64 Z.1]) ∧ DM R w0 w' bd Z.2.2 bm n Z.2.1) ∨
      (Z.1 = 0 ∧ e = .returned (.tuple #[.int .i64 ((j.first : Int) + (j.recs ++ j.pend).length - 1), .int .i64 0]) ∧ DM R w0 w' bd Z.2.2 bm n (jdone j)) := by
  obtain ⟨lb, hlb, hll, hls⟩ := log_ba n hn
  have hs := dmv_see h
  have c0 := hs.c0
  have c1 := hs.c1
  have c2 := hs.c2
  have c4 := hs.c4
  have c5 := hs.c5
  rw [hb] at c5
  have HF := Lib.hid hs.fit
  have hfirst := hs.fit.first
  have hpl := hs.fit.pend
  obtain ⟨ap, cp, hvp, -, -, -⟩ := hs.p
  rw [hvp] at c4
  have HVP := Lib.hid hvp
  have hl0 : ((j.pend.length : Int) == 0) = false := by
    have : j.pend.length ≠ 0 := fun e => hp (List.eq_nil_of_length_eq_zero e)
    simpa using this
  have hdn := dr_down h hd
  have H := Lib.hid h
  have HG := Lib.hid hg
  have HP := Lib.hid hp
  unfold Jnl.commitSteps at hZ
  rw [← hll] at hZ
  have HZ := Lib.hid hZ
  have HLS := Lib.hid hls
  have hz1 : (n.size : Int) ≤ 8388608 := by omega
  have hz2 : (((⟨#[46, 108, 111, 103]⟩ : ByteArray).size : Nat) : Int) ≤ 8388608 := by decide
  have hadd : ∀ W : World, (Op.stringOp .add n ⟨#[46, 108, 111, 103]⟩).run Tryz.prog W = .ok (.string lb) W := fun W => by rw [run_string_add W n _ hz1 hz2, hlb]
  have HDN := Lib.hid hdn
  clear h hs hg hp hZ hd hvp hll hls hdn hb
  go_enter Tryz.func70, Tryz.ntmps70
  go_wp2_with fail
  refine HDN.out.mono ?_
  rintro e w1 ⟨rfl, hw1⟩
  obtain rfl := hw1
  have H5 := H
  clear H
  obtain ⟨pre, hpre⟩ : ∃ pre : Bs, [] = pre := ⟨_, rfl⟩
  have hprl : pre.length ≤ 29 := by rw [← hpre]; simp
  have HPRE := Lib.hid hpre
  clear hpre
  go_wp2_with fail
  go_loopw [5, 6] (fun ss i wr => ∃ (s : ByteArray) (k : Nat), ss = .string s ∧ k ≤ j.pend.length ∧ i = .int .i64 k ∧ s.data.toList = pre ++ Jnl.frames (j.pend.take k) ∧ DMV R w0 wr bd d bm n j vr vp) (fun _ i _ => j.pend.length - (intOf i).toNat)
  case atStart => exact ⟨_, 0, rfl, Nat.zero_le _, rfl, by rw [← HPRE.out]; simp [Jnl.frames], H5.out⟩
  case round =>
    obtain ⟨s, k, rfl, hk, rfl, hsd, hB⟩ := hrel
    have HB := Lib.hid hB
    have HS := Lib.hid hsd
    have hs6 := dmv_see hB
    have q4 := hs6.c4
    rw [HVP.out] at q4
    clear hB H5 hsd
    have hbig : s.size ≤ 300000 := by
      have h1 : s.data.toList.length = s.size := rfl
      have h2 := frames_len (l := j.pend.take k) (fun r hr => HF.out.lenP r (List.mem_of_mem_take hr))
      have h3 : (j.pend.take k).length * 4104 ≤ 64 * 4104 := Nat.mul_le_mul_right _ (by rw [List.length_take]; omega)
      rw [HS.out, List.length_append] at h1
      omega
    by_cases hlt : k < j.pend.length
    · obtain ⟨ao2, c2', e2, _, _, hcell⟩ := hs6.p
      rw [HVP.out] at e2
      simp only [Value.slice.injEq] at e2
      obtain ⟨rfl, -, rfl⟩ := e2
      obtain ⟨b, off, rfl, hbl, hcell⟩ := hcell (Nat.lt_of_le_of_lt (Nat.zero_le _) hlt)
      have x0 := hcell k hlt
      have hln := getD_len HF.out.lenP k
      have hft := frames_take hlt
      obtain ⟨sx, hsx⟩ : ∃ sx : ByteArray, (⟨(j.pend.getD k []).toArray⟩ : ByteArray) = sx := ⟨_, rfl⟩
      have hsd : sx.data.toList = j.pend.getD k [] := by rw [← hsx]
      have hss : sx.size ≤ 4096 := by
        have : sx.data.toList.length = sx.size := rfl
        rw [hsd] at this
        omega
      unfold strV at x0
      rw [hsx] at x0
      rw [← hsd] at hft
      have hfz := frame_sz sx
      have hk0 : (0 : Int) ≤ (k : Int) := by omega
      have hk1 : (k : Int) < (j.pend.length : Int) := by omega
      have HS2 := Lib.hid hft
      clear hcell hln hft hsx hsd hs6
      go_wp2_with fail
      refine (lframe_any sx (by omega) _).mono ?_
      rintro e w7 ⟨rfl, hb7⟩
      have H7 := Lib.hid (HB.out.moved (nice_dmv hR) hb7)
      clear hb7 HB
      go_wp2_with fail
      go_roundw
      case rel =>
        refine ⟨_, k + 1, rfl, by omega, by go_num, ?_, H7.out⟩
        rw [HS2.out, ← List.append_assoc, ← HS.out]
        simp [ByteArray.data_append]
      case measure => simp [intOf]; omega
    · obtain rfl : k = j.pend.length := by omega
      have hx : s.data.toList = ([] : Bs) ++ Jnl.frames j.pend := by
        rw [HS.out, List.take_length, ← HPRE.out]
      have hz := HZ.out
      rw [← hx] at hz
      have HZ2 := Lib.hid hz
      have q0 := hs6.c0
      have q1 := hs6.c1
      clear hx hz hs6 HZ HS
      obtain ⟨⟨r1, d1⟩, he1⟩ : ∃ p, d.append lb.data.toList s.data.toList = p := ⟨_, rfl⟩
      have hw1 : d1.wt < 1073741701 := by
        have := append_wt d lb.data.toList s.data.toList
        rw [he1] at this
        simp only at this
        omega
      have HE1 := Lib.hid he1
      clear he1
      go_upto_region 13 with fail
      go_region_held3 (fun w' => w'.cell? ⟨bm, 0, none⟩ = some (.pointer (some ⟨bd, 0, none⟩)) ∧ w'.cell? ⟨bm, 1, none⟩ = some (.string n)) (go_keep)
        (first
          | (go_at_call 53
             refine (dr_append (Nice.star (nice_mdlv _ _ _ _ _ _) hR) (HB.out.moved (nice_dmv hR) (Below.refl _ _).drew) lb s HLS.out (by omega) HE1.out (by omega)).mono ?_
             rintro e wa1 ⟨rfl, ha⟩
             have hsa := dmv_see ha
             have a0 := hsa.c0
             have a1 := hsa.c1
             have HA1 := Lib.hid ha
             clear ha hsa)
          | (go_at_call 109
             refine (done_mdl (Nice.star (nice_disk _ _) hR) HA1.out.left r1).mono ?_
             rintro e wb1 ⟨rfl, hb⟩
             have hsb := dmv_see hb.left
             have p0 := hsb.c0
             have p1 := hsb.c1
             have HB1 := Lib.hid hb.left
             clear hb hsb))
      all_goals
        clear HB
        by_cases hr1 : r1 = 0
        · subst hr1
          have hb1 := HB1.out
          rw [did_zero] at hb1
          have HC1 := Lib.hid hb1
          clear hb1 HB1 HA1
          obtain ⟨⟨r2, d2⟩, he2⟩ : ∃ p, d1.sync lb.data.toList = p := ⟨_, rfl⟩
          have hw2 : d2.wt < 1073741702 := by
            have := sync_wt (dr_ok HC1.out) lb.data.toList
            rw [he2] at this
            simp only at this
            omega
          have HE2 := Lib.hid he2
          clear he2
          go_upto_region 16 with fail
          go_region_held3 (fun w' => w'.cell? ⟨bm, 0, none⟩ = some (.pointer (some ⟨bd, 0, none⟩)) ∧ w'.cell? ⟨bm, 1, none⟩ = some (.string n)) (go_keep)
            (first
              | (go_at_call 57
                 refine (dr_sync (Nice.star (nice_mdlv _ _ _ _ _ _) hR) (HC1.out.moved (nice_dmv hR) (Below.refl _ _).drew) lb HLS.out HE2.out (by omega)).mono ?_
                 rintro e wa2 ⟨rfl, ha⟩
                 have hsa := dmv_see ha
                 have a0 := hsa.c0
                 have a1 := hsa.c1
                 have HA2 := Lib.hid ha
                 clear ha hsa)
              | (go_at_call 109
                 refine (done_mdl (Nice.star (nice_disk _ _) hR) HA2.out.left r2).mono ?_
                 rintro e wb2 ⟨rfl, hb⟩
                 have hsb := dmv_see hb.left
                 have p0 := hsb.c0
                 have p1 := hsb.c1
                 have HB2 := Lib.hid hb.left
                 clear hb hsb))
          all_goals
            clear HC1
            by_cases hr2 : r2 = 0
            · subst hr2
              have hb2 := HB2.out
              rw [did_zero] at hb2
              have HC2 := Lib.hid hb2
              clear hb2 HB2 HA2
              have hz : Z = (0, j, d2) := by
                rw [← HZ2.out]
                simp [Jnl.run, Jnl.appends, Jnl.syncs, HE1.out, HE2.out]
              subst hz
              have hs8 := dmv_see HC2.out
              obtain ⟨v1, g, cap, w3, w4, hr1, hr2, hown, hbl3, hbl4, hg⟩ := append_both hs8.r hs8.p HP.out (by omega) hpl
              have hst := fun S (hS : MdlV bm bd n j vr vp S wb2) => mdl_done hS hrl hown hbl4 hg HP.out
              have hd4 := HC2.out.left.quiet fun S hS => (hst S hS).2
              have hbm := lt_of_block hs8.hd
              obtain ⟨ar, cr, hvr, -⟩ := hs8.r
              have f3 := hs8.c3
              have f4 := hs8.c4
              have g4 : (wb2.alloc (.cells #[] 9)).cell? ⟨bm, 4, none⟩ = some vp := (cell?_alloc_lt hbm).trans f4
              have g3 : (wb2.alloc (.cells #[] 9)).cell? ⟨bm, 3, none⟩ = some vr := (cell?_alloc_lt hbm).trans f3
              have k4 : w3.cell? ⟨bm, 4, none⟩ = some vp := (hbl3.cell (p := ⟨bm, 4, none⟩) hbm).trans f4
              rw [HVP.out] at f4 g4 k4 hr2
              rw [hvr] at f3 g3 hr1
              have e1 := block_set hd4 3 (.slice (some ⟨g, 0, none⟩) (j.recs.length + j.pend.length) cap)
              have y3 := block_cell hd4 3
              have y4 := block_cell e1 4
              have z3 := block_free hd4 3
              have z4 := block_free e1 4
              simp [mCells] at y3 y4
              have hfin := (HC2.out.left.turn (Nice.star (nice_disk _ _) hR) fun S hS => (hst S hS).1).left
              obtain ⟨vr9, vp9, hs9⟩ := dm_see hfin
              have hlast := llast_any hs9
              have hlv : (((jdone j).first : Int) + (jdone j).recs.length - 1) = (j.first : Int) + (j.recs ++ j.pend).length - 1 := rfl
              rw [hlv] at hlast
              unfold cset at hfin hlast
              have HFIN := Lib.hid hfin
              have HLAST := Lib.hid hlast
              clear hst hown hbl3 hbl4 hg hd4 e1 hs8 hs9 hfin hlast hlv hvr HC2
              go_upto_region 23 with fail
              go_region
              all_goals
                clear y3 y4 z3 z4 hr1 hr2 f3 f4 g3 g4 k4
                generalize (w4.setCell ⟨bm, 3, none⟩ (.slice (some ⟨g, 0, none⟩) (j.recs.length + j.pend.length) cap)).setCell ⟨bm, 4, none⟩ (.slice none 0 0) = wz at *
                go_wp2_with fail
                refine HLAST.out.mono ?_
                rintro e wy ⟨rfl, q, rfl⟩
                go_wp2_with fail
                go_ret2
                exact ⟨rfl, HFIN.out.moved (nice_dm hR) (below_drawn _ q)⟩
            · have hr' : (r2 != 0) = true := by simpa using hr2
              have hz : Z = (r2, j.did r2, d2) := by
                rw [← HZ2.out]
                simp [Jnl.run, Jnl.appends, Jnl.syncs, HE1.out, HE2.out, hr2]
              subst hz
              go_wp2_with fail
              go_ret2
              exact ⟨rfl, dmv_dm HB2.out⟩
        · have hr' : (r1 != 0) = true := by simpa using hr1
          have hz : Z = (r1, j.did r1, d1) := by
            rw [← HZ2.out]
            simp [Jnl.run, Jnl.appends, HE1.out, hr1]
          subst hz
          go_wp2_with fail
          go_ret2
          exact ⟨rfl, dmv_dm HB1.out⟩
theorem lcommit_has (hR : Nice R) (hg : Glob w0) (h : DMV R w0 w bd d bm n j vr vp) (hb : j.broken = false) (hp : j.pend ≠ []) (hd : d.down = false) (hx : decide ((d.read (Jnl.logName n.data.toList)).2 = 0) = true) (hn : n.size ≤ 1048576) (hw : d.wt < 1073741700) (hrl : j.recs.length + 64 ≤ 1073741824)
    {Z : Int × J × M} (hZ : Jnl.run (Jnl.commitSteps n.data.toList (([] : Bs) ++ Jnl.frames j.pend) true) j d = Z) :
    Calls Tryz.prog 70 #[pm bm] w fun e w' => (Z.1 ≠ 0 ∧ e = .returned (.tuple #[.int .i64 0, .int .i64 Z.1]) ∧ DM R w0 w' bd Z.2.2 bm n Z.2.1) ∨
      (Z.1 = 0 ∧ e = .returned (.tuple #[.int .i64 ((j.first : Int) + (j.recs ++ j.pend).length - 1), .int .i64 0]) ∧ DM R w0 w' bd Z.2.2 bm n (jdone j)) := by
  obtain ⟨lb, hlb, hll, hls⟩ := log_ba n hn
  have hs := dmv_see h
  have c0 := hs.c0
  have c1 := hs.c1
  have c2 := hs.c2
  have c4 := hs.c4
  have c5 := hs.c5
  rw [hb] at c5
  have HF := Lib.hid hs.fit
  have hfirst := hs.fit.first
  have hpl := hs.fit.pend
  obtain ⟨ap, cp, hvp, -, -, -⟩ := hs.p
  rw [hvp] at c4
  have HVP := Lib.hid hvp
  have hl0 : ((j.pend.length : Int) == 0) = false := by
    have : j.pend.length ≠ 0 := fun e => hp (List.eq_nil_of_length_eq_zero e)
    simpa using this
  have hdn := dr_down h hd
  have hh := lhas_any (dmv_dm h) lb hls
  rw [hll, hx] at hh
  have HH := Lib.hid hh
  clear hh hx
  have H := Lib.hid h
  have HG := Lib.hid hg
  have HP := Lib.hid hp
  unfold Jnl.commitSteps at hZ
  rw [← hll] at hZ
  have HZ := Lib.hid hZ
  have HLS := Lib.hid hls
  have hz1 : (n.size : Int) ≤ 8388608 := by omega
  have hz2 : (((⟨#[46, 108, 111, 103]⟩ : ByteArray).size : Nat) : Int) ≤ 8388608 := by decide
  have hadd : ∀ W : World, (Op.stringOp .add n ⟨#[46, 108, 111, 103]⟩).run Tryz.prog W = .ok (.string lb) W := fun W => by rw [run_string_add W n _ hz1 hz2, hlb]
  have HDN := Lib.hid hdn
  clear h hs hg hp hZ hd hvp hll hls hdn hb
  go_enter Tryz.func70, Tryz.ntmps70
  go_wp2_with fail
  refine HDN.out.mono ?_
  rintro e w1 ⟨rfl, hw1⟩
  obtain rfl := hw1
  go_wp2_with fail
  refine HH.out.mono ?_
  rintro e w1 ⟨rfl, hw1⟩
  obtain rfl := hw1.symm
  have H5 := H
  clear H
  obtain ⟨pre, hpre⟩ : ∃ pre : Bs, [] = pre := ⟨_, rfl⟩
  have hprl : pre.length ≤ 29 := by rw [← hpre]; simp
  have HPRE := Lib.hid hpre
  clear hpre
  go_wp2_with fail
  go_loopw [5, 6] (fun ss i wr => ∃ (s : ByteArray) (k : Nat), ss = .string s ∧ k ≤ j.pend.length ∧ i = .int .i64 k ∧ s.data.toList = pre ++ Jnl.frames (j.pend.take k) ∧ DMV R w0 wr bd d bm n j vr vp) (fun _ i _ => j.pend.length - (intOf i).toNat)
  case atStart => exact ⟨_, 0, rfl, Nat.zero_le _, rfl, by rw [← HPRE.out]; simp [Jnl.frames], H5.out⟩
  case round =>
    obtain ⟨s, k, rfl, hk, rfl, hsd, hB⟩ := hrel
    have HB := Lib.hid hB
    have HS := Lib.hid hsd
    have hs6 := dmv_see hB
    have q4 := hs6.c4
    rw [HVP.out] at q4
    clear hB H5 hsd
    have hbig : s.size ≤ 300000 := by
      have h1 : s.data.toList.length = s.size := rfl
      have h2 := frames_len (l := j.pend.take k) (fun r hr => HF.out.lenP r (List.mem_of_mem_take hr))
      have h3 : (j.pend.take k).length * 4104 ≤ 64 * 4104 := Nat.mul_le_mul_right _ (by rw [List.length_take]; omega)
      rw [HS.out, List.length_append] at h1
      omega
    by_cases hlt : k < j.pend.length
    · obtain ⟨ao2, c2', e2, _, _, hcell⟩ := hs6.p
      rw [HVP.out] at e2
      simp only [Value.slice.injEq] at e2
      obtain ⟨rfl, -, rfl⟩ := e2
      obtain ⟨b, off, rfl, hbl, hcell⟩ := hcell (Nat.lt_of_le_of_lt (Nat.zero_le _) hlt)
      have x0 := hcell k hlt
      have hln := getD_len HF.out.lenP k
      have hft := frames_take hlt
      obtain ⟨sx, hsx⟩ : ∃ sx : ByteArray, (⟨(j.pend.getD k []).toArray⟩ : ByteArray) = sx := ⟨_, rfl⟩
      have hsd : sx.data.toList = j.pend.getD k [] := by rw [← hsx]
      have hss : sx.size ≤ 4096 := by
        have : sx.data.toList.length = sx.size := rfl
        rw [hsd] at this
        omega
      unfold strV at x0
      rw [hsx] at x0
      rw [← hsd] at hft
      have hfz := frame_sz sx
      have hk0 : (0 : Int) ≤ (k : Int) := by omega
      have hk1 : (k : Int) < (j.pend.length : Int) := by omega
      have HS2 := Lib.hid hft
      clear hcell hln hft hsx hsd hs6
      go_wp2_with fail
      refine (lframe_any sx (by omega) _).mono ?_
      rintro e w7 ⟨rfl, hb7⟩
      have H7 := Lib.hid (HB.out.moved (nice_dmv hR) hb7)
      clear hb7 HB
      go_wp2_with fail
      go_roundw
      case rel =>
        refine ⟨_, k + 1, rfl, by omega, by go_num, ?_, H7.out⟩
        rw [HS2.out, ← List.append_assoc, ← HS.out]
        simp [ByteArray.data_append]
      case measure => simp [intOf]; omega
    · obtain rfl : k = j.pend.length := by omega
      have hx : s.data.toList = ([] : Bs) ++ Jnl.frames j.pend := by
        rw [HS.out, List.take_length, ← HPRE.out]
      have hz := HZ.out
      rw [← hx] at hz
      have HZ2 := Lib.hid hz
      have q0 := hs6.c0
      have q1 := hs6.c1
      clear hx hz hs6 HZ HS
      obtain ⟨⟨r1, d1⟩, he1⟩ : ∃ p, d.append lb.data.toList s.data.toList = p := ⟨_, rfl⟩
      have hw1 : d1.wt < 1073741701 := by
        have := append_wt d lb.data.toList s.data.toList
        rw [he1] at this
        simp only at this
        omega
      have HE1 := Lib.hid he1
      clear he1
      go_upto_region 13 with fail
      go_region_held3 (fun w' => w'.cell? ⟨bm, 0, none⟩ = some (.pointer (some ⟨bd, 0, none⟩)) ∧ w'.cell? ⟨bm, 1, none⟩ = some (.string n)) (go_keep)
        (first
          | (go_at_call 53
             refine (dr_append (Nice.star (nice_mdlv _ _ _ _ _ _) hR) (HB.out.moved (nice_dmv hR) (Below.refl _ _).drew) lb s HLS.out (by omega) HE1.out (by omega)).mono ?_
             rintro e wa1 ⟨rfl, ha⟩
             have hsa := dmv_see ha
             have a0 := hsa.c0
             have a1 := hsa.c1
             have HA1 := Lib.hid ha
             clear ha hsa)
          | (go_at_call 109
             refine (done_mdl (Nice.star (nice_disk _ _) hR) HA1.out.left r1).mono ?_
             rintro e wb1 ⟨rfl, hb⟩
             have hsb := dmv_see hb.left
             have p0 := hsb.c0
             have p1 := hsb.c1
             have HB1 := Lib.hid hb.left
             clear hb hsb))
      all_goals
        clear HB
        by_cases hr1 : r1 = 0
        · subst hr1
          have hb1 := HB1.out
          rw [did_zero] at hb1
          have HC1 := Lib.hid hb1
          clear hb1 HB1 HA1
          obtain ⟨⟨r2, d2⟩, he2⟩ : ∃ p, d1.sync lb.data.toList = p := ⟨_, rfl⟩
          have hw2 : d2.wt < 1073741702 := by
            have := sync_wt (dr_ok HC1.out) lb.data.toList
            rw [he2] at this
            simp only at this
            omega
          have HE2 := Lib.hid he2
          clear he2
          go_upto_region 16 with fail
          go_region_held3 (fun w' => w'.cell? ⟨bm, 0, none⟩ = some (.pointer (some ⟨bd, 0, none⟩)) ∧ w'.cell? ⟨bm, 1, none⟩ = some (.string n)) (go_keep)
            (first
              | (go_at_call 57
                 refine (dr_sync (Nice.star (nice_mdlv _ _ _ _ _ _) hR) (HC1.out.moved (nice_dmv hR) (Below.refl _ _).drew) lb HLS.out HE2.out (by omega)).mono ?_
                 rintro e wa2 ⟨rfl, ha⟩
                 have hsa := dmv_see ha
                 have a0 := hsa.c0
                 have a1 := hsa.c1
                 have HA2 := Lib.hid ha
                 clear ha hsa)
              | (go_at_call 109
                 refine (done_mdl (Nice.star (nice_disk _ _) hR) HA2.out.left r2).mono ?_
                 rintro e wb2 ⟨rfl, hb⟩
                 have hsb := dmv_see hb.left
                 have p0 := hsb.c0
                 have p1 := hsb.c1
                 have HB2 := Lib.hid hb.left
                 clear hb hsb))
          all_goals
            clear HC1
            by_cases hr2 : r2 = 0
            · subst hr2
              have hb2 := HB2.out
              rw [did_zero] at hb2
              have HC2 := Lib.hid hb2
              clear hb2 HB2 HA2
              have hz : Z = (0, j, d2) := by
                rw [← HZ2.out]
                simp [Jnl.run, Jnl.appends, Jnl.syncs, HE1.out, HE2.out]
              subst hz
              have hs8 := dmv_see HC2.out
              obtain ⟨v1, g, cap, w3, w4, hr1, hr2, hown, hbl3, hbl4, hg⟩ := append_both hs8.r hs8.p HP.out (by omega) hpl
              have hst := fun S (hS : MdlV bm bd n j vr vp S wb2) => mdl_done hS hrl hown hbl4 hg HP.out
              have hd4 := HC2.out.left.quiet fun S hS => (hst S hS).2
              have hbm := lt_of_block hs8.hd
              obtain ⟨ar, cr, hvr, -⟩ := hs8.r
              have f3 := hs8.c3
              have f4 := hs8.c4
              have g4 : (wb2.alloc (.cells #[] 9)).cell? ⟨bm, 4, none⟩ = some vp := (cell?_alloc_lt hbm).trans f4
              have g3 : (wb2.alloc (.cells #[] 9)).cell? ⟨bm, 3, none⟩ = some vr := (cell?_alloc_lt hbm).trans f3
              have k4 : w3.cell? ⟨bm, 4, none⟩ = some vp := (hbl3.cell (p := ⟨bm, 4, none⟩) hbm).trans f4
              rw [HVP.out] at f4 g4 k4 hr2
              rw [hvr] at f3 g3 hr1
              have e1 := block_set hd4 3 (.slice (some ⟨g, 0, none⟩) (j.recs.length + j.pend.length) cap)
              have y3 := block_cell hd4 3
              have y4 := block_cell e1 4
              have z3 := block_free hd4 3
              have z4 := block_free e1 4
              simp [mCells] at y3 y4
              have hfin := (HC2.out.left.turn (Nice.star (nice_disk _ _) hR) fun S hS => (hst S hS).1).left
              obtain ⟨vr9, vp9, hs9⟩ := dm_see hfin
              have hlast := llast_any hs9
              have hlv : (((jdone j).first : Int) + (jdone j).recs.length - 1) = (j.first : Int) + (j.recs ++ j.pend).length - 1 := rfl
              rw [hlv] at hlast
              unfold cset at hfin hlast
              have HFIN := Lib.hid hfin
              have HLAST := Lib.hid hlast
              clear hst hown hbl3 hbl4 hg hd4 e1 hs8 hs9 hfin hlast hlv hvr HC2
              go_upto_region 23 with fail
              go_region
              all_goals
                clear y3 y4 z3 z4 hr1 hr2 f3 f4 g3 g4 k4
                generalize (w4.setCell ⟨bm, 3, none⟩ (.slice (some ⟨g, 0, none⟩) (j.recs.length + j.pend.length) cap)).setCell ⟨bm, 4, none⟩ (.slice none 0 0) = wz at *
                go_wp2_with fail
                refine HLAST.out.mono ?_
                rintro e wy ⟨rfl, q, rfl⟩
                go_wp2_with fail
                go_ret2
                exact ⟨rfl, HFIN.out.moved (nice_dm hR) (below_drawn _ q)⟩
            · have hr' : (r2 != 0) = true := by simpa using hr2
              have hz : Z = (r2, j.did r2, d2) := by
                rw [← HZ2.out]
                simp [Jnl.run, Jnl.appends, Jnl.syncs, HE1.out, HE2.out, hr2]
              subst hz
              go_wp2_with fail
              go_ret2
              exact ⟨rfl, dmv_dm HB2.out⟩
        · have hr' : (r1 != 0) = true := by simpa using hr1
          have hz : Z = (r1, j.did r1, d1) := by
            rw [← HZ2.out]
            simp [Jnl.run, Jnl.appends, HE1.out, hr1]
          subst hz
          go_wp2_with fail
          go_ret2
          exact ⟨rfl, dmv_dm HB1.out⟩
theorem lcommit_fresh (hR : Nice R) (hg : Glob w0) (h : DMV R w0 w bd d bm n j vr vp) (hb : j.broken = false) (hp : j.pend ≠ []) (hd : d.down = false) (hx : decide ((d.read (Jnl.logName n.data.toList)).2 = 0) = false) (hn : n.size ≤ 1048576) (hw : d.wt < 1073741700) (hrl : j.recs.length + 64 ≤ 1073741824)
    {Z : Int × J × M} (hZ : Jnl.run (Jnl.commitSteps n.data.toList ((Jnl.frame (Lib.itoa j.first) : Bs) ++ Jnl.frames j.pend) false) j d = Z) :
    Calls Tryz.prog 70 #[pm bm] w fun e w' => (Z.1 ≠ 0 ∧ e = .returned (.tuple #[.int .i64 0, .int .i64 Z.1]) ∧ DM R w0 w' bd Z.2.2 bm n Z.2.1) ∨
      (Z.1 = 0 ∧ e = .returned (.tuple #[.int .i64 ((j.first : Int) + (j.recs ++ j.pend).length - 1), .int .i64 0]) ∧ DM R w0 w' bd Z.2.2 bm n (jdone j)) := by
  obtain ⟨lb, hlb, hll, hls⟩ := log_ba n hn
  have hs := dmv_see h
  have c0 := hs.c0
  have c1 := hs.c1
  have c2 := hs.c2
  have c4 := hs.c4
  have c5 := hs.c5
  rw [hb] at c5
  have HF := Lib.hid hs.fit
  have hfirst := hs.fit.first
  have hpl := hs.fit.pend
  obtain ⟨ap, cp, hvp, -, -, -⟩ := hs.p
  rw [hvp] at c4
  have HVP := Lib.hid hvp
  have hl0 : ((j.pend.length : Int) == 0) = false := by
    have : j.pend.length ≠ 0 := fun e => hp (List.eq_nil_of_length_eq_zero e)
    simpa using this
  have hdn := dr_down h hd
  have hh := lhas_any (dmv_dm h) lb hls
  rw [hll, hx] at hh
  have HH := Lib.hid hh
  clear hh hx
  have H := Lib.hid h
  have HG := Lib.hid hg
  have HP := Lib.hid hp
  unfold Jnl.commitSteps at hZ
  rw [← hll] at hZ
  have HZ := Lib.hid hZ
  have HLS := Lib.hid hls
  have hz1 : (n.size : Int) ≤ 8388608 := by omega
  have hz2 : (((⟨#[46, 108, 111, 103]⟩ : ByteArray).size : Nat) : Int) ≤ 8388608 := by decide
  have hadd : ∀ W : World, (Op.stringOp .add n ⟨#[46, 108, 111, 103]⟩).run Tryz.prog W = .ok (.string lb) W := fun W => by rw [run_string_add W n _ hz1 hz2, hlb]
  have HDN := Lib.hid hdn
  clear h hs hg hp hZ hd hvp hll hls hdn hb
  go_enter Tryz.func70, Tryz.ntmps70
  go_wp2_with fail
  refine HDN.out.mono ?_
  rintro e w1 ⟨rfl, hw1⟩
  obtain rfl := hw1
  go_wp2_with fail
  refine HH.out.mono ?_
  rintro e w1 ⟨rfl, hw1⟩
  obtain rfl := hw1.symm
  have hil := itoa_small hfirst
  obtain ⟨ib, hib⟩ : ∃ ib : ByteArray, (⟨(Lib.itoa (j.first : Int)).toArray⟩ : ByteArray) = ib := ⟨_, rfl⟩
  have hibs : ib.data.toList = Lib.itoa (j.first : Int) := by rw [← hib]
  have hibl : ib.size ≤ 21 := by
    have : ib.data.toList.length = ib.size := rfl
    rw [hibs] at this
    omega
  have HIT := Lib.hid (And.intro hib hibs)
  have hf1 : (-9223372036854775808 : Int) ≤ (j.first : Int) := by omega
  have hf2 : (j.first : Int) ≤ 9223372036854775807 := by omega
  clear hib hibs hil
  go_wp2_with fail
  refine (Itoa_any hf1 hf2 (HG.out.below H.out.below)).mono ?_
  rintro e w3 ⟨rfl, hb3⟩
  rw [HIT.out.1]
  have H3 := Lib.hid (H.out.moved (nice_dmv hR) hb3)
  clear hb3 H hf1 hf2 c4
  go_wp2_with fail
  refine (lframe_any ib (by omega) _).mono ?_
  rintro e w4 ⟨rfl, hb4⟩
  have H5 := Lib.hid (H3.out.moved (nice_dmv hR) hb4)
  clear hb4 H3
  obtain ⟨pre, hpre⟩ : ∃ pre : Bs, Jnl.frame ib.data.toList = pre := ⟨_, rfl⟩
  have hpre2 : Jnl.frame (Lib.itoa j.first) = pre := by rw [← HIT.out.2]; exact hpre
  have hprl : pre.length ≤ 29 := by
    rw [← hpre, Jnl.frame_length]
    have : ib.data.toList.length = ib.size := rfl
    omega
  rw [hpre]
  have HPRE := Lib.hid hpre2
  clear hpre hpre2 HIT
  have h5 := dmv_see H5.out
  have c45 := h5.c4
  rw [HVP.out] at c45
  clear h5
  go_wp2_with fail
  go_loopw [5, 6] (fun ss i wr => ∃ (s : ByteArray) (k : Nat), ss = .string s ∧ k ≤ j.pend.length ∧ i = .int .i64 k ∧ s.data.toList = pre ++ Jnl.frames (j.pend.take k) ∧ DMV R w0 wr bd d bm n j vr vp) (fun _ i _ => j.pend.length - (intOf i).toNat)
  case atStart => exact ⟨_, 0, rfl, Nat.zero_le _, rfl, by simp [Jnl.frames], H5.out⟩
  case round =>
    obtain ⟨s, k, rfl, hk, rfl, hsd, hB⟩ := hrel
    have HB := Lib.hid hB
    have HS := Lib.hid hsd
    have hs6 := dmv_see hB
    have q4 := hs6.c4
    rw [HVP.out] at q4
    clear hB H5 hsd
    have hbig : s.size ≤ 300000 := by
      have h1 : s.data.toList.length = s.size := rfl
      have h2 := frames_len (l := j.pend.take k) (fun r hr => HF.out.lenP r (List.mem_of_mem_take hr))
      have h3 : (j.pend.take k).length * 4104 ≤ 64 * 4104 := Nat.mul_le_mul_right _ (by rw [List.length_take]; omega)
      rw [HS.out, List.length_append] at h1
      omega
    by_cases hlt : k < j.pend.length
    · obtain ⟨ao2, c2', e2, _, _, hcell⟩ := hs6.p
      rw [HVP.out] at e2
      simp only [Value.slice.injEq] at e2
      obtain ⟨rfl, -, rfl⟩ := e2
      obtain ⟨b, off, rfl, hbl, hcell⟩ := hcell (Nat.lt_of_le_of_lt (Nat.zero_le _) hlt)
      have x0 := hcell k hlt
      have hln := getD_len HF.out.lenP k
      have hft := frames_take hlt
      obtain ⟨sx, hsx⟩ : ∃ sx : ByteArray, (⟨(j.pend.getD k []).toArray⟩ : ByteArray) = sx := ⟨_, rfl⟩
      have hsd : sx.data.toList = j.pend.getD k [] := by rw [← hsx]
      have hss : sx.size ≤ 4096 := by
        have : sx.data.toList.length = sx.size := rfl
        rw [hsd] at this
        omega
      unfold strV at x0
      rw [hsx] at x0
      rw [← hsd] at hft
      have hfz := frame_sz sx
      have hk0 : (0 : Int) ≤ (k : Int) := by omega
      have hk1 : (k : Int) < (j.pend.length : Int) := by omega
      have HS2 := Lib.hid hft
      clear hcell hln hft hsx hsd hs6
      go_wp2_with fail
      refine (lframe_any sx (by omega) _).mono ?_
      rintro e w7 ⟨rfl, hb7⟩
      have H7 := Lib.hid (HB.out.moved (nice_dmv hR) hb7)
      clear hb7 HB
      go_wp2_with fail
      go_roundw
      case rel =>
        refine ⟨_, k + 1, rfl, by omega, by go_num, ?_, H7.out⟩
        rw [HS2.out, ← List.append_assoc, ← HS.out]
        simp [ByteArray.data_append]
      case measure => simp [intOf]; omega
    · obtain rfl : k = j.pend.length := by omega
      have hx : s.data.toList = (Jnl.frame (Lib.itoa j.first) : Bs) ++ Jnl.frames j.pend := by
        rw [HS.out, List.take_length, ← HPRE.out]
      have hz := HZ.out
      rw [← hx] at hz
      have HZ2 := Lib.hid hz
      have q0 := hs6.c0
      have q1 := hs6.c1
      clear hx hz hs6 HZ HS
      obtain ⟨⟨r1, d1⟩, he1⟩ : ∃ p, d.append lb.data.toList s.data.toList = p := ⟨_, rfl⟩
      have hw1 : d1.wt < 1073741701 := by
        have := append_wt d lb.data.toList s.data.toList
        rw [he1] at this
        simp only at this
        omega
      have HE1 := Lib.hid he1
      clear he1
      go_upto_region 13 with fail
      go_region_held3 (fun w' => w'.cell? ⟨bm, 0, none⟩ = some (.pointer (some ⟨bd, 0, none⟩)) ∧ w'.cell? ⟨bm, 1, none⟩ = some (.string n)) (go_keep)
        (first
          | (go_at_call 53
             refine (dr_append (Nice.star (nice_mdlv _ _ _ _ _ _) hR) (HB.out.moved (nice_dmv hR) (Below.refl _ _).drew) lb s HLS.out (by omega) HE1.out (by omega)).mono ?_
             rintro e wa1 ⟨rfl, ha⟩
             have hsa := dmv_see ha
             have a0 := hsa.c0
             have a1 := hsa.c1
             have HA1 := Lib.hid ha
             clear ha hsa)
          | (go_at_call 109
             refine (done_mdl (Nice.star (nice_disk _ _) hR) HA1.out.left r1).mono ?_
             rintro e wb1 ⟨rfl, hb⟩
             have hsb := dmv_see hb.left
             have p0 := hsb.c0
             have p1 := hsb.c1
             have HB1 := Lib.hid hb.left
             clear hb hsb))
      all_goals
        clear HB
        by_cases hr1 : r1 = 0
        · subst hr1
          have hb1 := HB1.out
          rw [did_zero] at hb1
          have HC1 := Lib.hid hb1
          clear hb1 HB1 HA1
          obtain ⟨⟨r2, d2⟩, he2⟩ : ∃ p, d1.sync lb.data.toList = p := ⟨_, rfl⟩
          have hw2 : d2.wt < 1073741702 := by
            have := sync_wt (dr_ok HC1.out) lb.data.toList
            rw [he2] at this
            simp only at this
            omega
          have HE2 := Lib.hid he2
          clear he2
          go_upto_region 16 with fail
          go_region_held3 (fun w' => w'.cell? ⟨bm, 0, none⟩ = some (.pointer (some ⟨bd, 0, none⟩)) ∧ w'.cell? ⟨bm, 1, none⟩ = some (.string n)) (go_keep)
            (first
              | (go_at_call 57
                 refine (dr_sync (Nice.star (nice_mdlv _ _ _ _ _ _) hR) (HC1.out.moved (nice_dmv hR) (Below.refl _ _).drew) lb HLS.out HE2.out (by omega)).mono ?_
                 rintro e wa2 ⟨rfl, ha⟩
                 have hsa := dmv_see ha
                 have a0 := hsa.c0
                 have a1 := hsa.c1
                 have HA2 := Lib.hid ha
                 clear ha hsa)
              | (go_at_call 109
                 refine (done_mdl (Nice.star (nice_disk _ _) hR) HA2.out.left r2).mono ?_
                 rintro e wb2 ⟨rfl, hb⟩
                 have hsb := dmv_see hb.left
                 have p0 := hsb.c0
                 have p1 := hsb.c1
                 have HB2 := Lib.hid hb.left
                 clear hb hsb))
          all_goals
            clear HC1
            by_cases hr2 : r2 = 0
            · subst hr2
              have hb2 := HB2.out
              rw [did_zero] at hb2
              have HC2 := Lib.hid hb2
              clear hb2 HB2 HA2
              obtain ⟨⟨r3, d3⟩, he3⟩ : ∃ p, d2.publish = p := ⟨_, rfl⟩
              have hw3 : d3.wt < 1073741703 := by
                have := publish_wt (dr_ok HC2.out)
                rw [he3] at this
                simp only at this
                omega
              have HE3 := Lib.hid he3
              clear he3
              have hsp := dmv_see HC2.out
              have s0 := hsp.c0
              clear hsp
              go_wp2_with fail
              refine (dr_publish (Nice.star (nice_mdlv _ _ _ _ _ _) hR) HC2.out HE3.out (by omega)).mono ?_
              rintro e wa3 ⟨rfl, ha⟩
              have HA3 := Lib.hid ha.left
              clear ha
              go_wp2_with fail
              refine (done_mdl (Nice.star (nice_disk _ _) hR) HA3.out r3).mono ?_
              rintro e wb3 ⟨rfl, hb⟩
              have HB3 := Lib.hid hb.left
              clear hb HC2
              by_cases hr3 : r3 = 0
              · subst hr3
                have hb3 := HB3.out
                rw [did_zero] at hb3
                have HC3 := Lib.hid hb3
                clear hb3 HB3 HA3
                have hz : Z = (0, j, d3) := by
                  rw [← HZ2.out]
                  simp [Jnl.run, Jnl.appends, Jnl.syncs, Jnl.publishes, HE1.out, HE2.out, HE3.out]
                subst hz
                have hs8 := dmv_see HC3.out
                obtain ⟨v1, g, cap, w3, w4, hr1, hr2, hown, hbl3, hbl4, hg⟩ := append_both hs8.r hs8.p HP.out (by omega) hpl
                have hst := fun S (hS : MdlV bm bd n j vr vp S wb3) => mdl_done hS hrl hown hbl4 hg HP.out
                have hd4 := HC3.out.left.quiet fun S hS => (hst S hS).2
                have hbm := lt_of_block hs8.hd
                obtain ⟨ar, cr, hvr, -⟩ := hs8.r
                have f3 := hs8.c3
                have f4 := hs8.c4
                have g4 : (wb3.alloc (.cells #[] 9)).cell? ⟨bm, 4, none⟩ = some vp := (cell?_alloc_lt hbm).trans f4
                have g3 : (wb3.alloc (.cells #[] 9)).cell? ⟨bm, 3, none⟩ = some vr := (cell?_alloc_lt hbm).trans f3
                have k4 : w3.cell? ⟨bm, 4, none⟩ = some vp := (hbl3.cell (p := ⟨bm, 4, none⟩) hbm).trans f4
                rw [HVP.out] at f4 g4 k4 hr2
                rw [hvr] at f3 g3 hr1
                have e1 := block_set hd4 3 (.slice (some ⟨g, 0, none⟩) (j.recs.length + j.pend.length) cap)
                have y3 := block_cell hd4 3
                have y4 := block_cell e1 4
                have z3 := block_free hd4 3
                have z4 := block_free e1 4
                simp [mCells] at y3 y4
                have hfin := (HC3.out.left.turn (Nice.star (nice_disk _ _) hR) fun S hS => (hst S hS).1).left
                obtain ⟨vr9, vp9, hs9⟩ := dm_see hfin
                have hlast := llast_any hs9
                have hlv : (((jdone j).first : Int) + (jdone j).recs.length - 1) = (j.first : Int) + (j.recs ++ j.pend).length - 1 := rfl
                rw [hlv] at hlast
                unfold cset at hfin hlast
                have HFIN := Lib.hid hfin
                have HLAST := Lib.hid hlast
                clear hst hown hbl3 hbl4 hg hd4 e1 hs8 hs9 hfin hlast hlv hvr HC3
                go_upto_region 23 with fail
                go_region
                all_goals
                  clear y3 y4 z3 z4 hr1 hr2 f3 f4 g3 g4 k4
                  generalize (w4.setCell ⟨bm, 3, none⟩ (.slice (some ⟨g, 0, none⟩) (j.recs.length + j.pend.length) cap)).setCell ⟨bm, 4, none⟩ (.slice none 0 0) = wz at *
                  go_wp2_with fail
                  refine HLAST.out.mono ?_
                  rintro e wy ⟨rfl, q, rfl⟩
                  go_wp2_with fail
                  go_ret2
                  exact ⟨rfl, HFIN.out.moved (nice_dm hR) (below_drawn _ q)⟩
              · have hr' : (r3 != 0) = true := by simpa using hr3
                have hz : Z = (r3, j.did r3, d3) := by
                  rw [← HZ2.out]
                  simp [Jnl.run, Jnl.appends, Jnl.syncs, Jnl.publishes, HE1.out, HE2.out, HE3.out, hr3]
                subst hz
                go_wp2_with fail
                go_ret2
                exact ⟨rfl, dmv_dm HB3.out⟩
            · have hr' : (r2 != 0) = true := by simpa using hr2
              have hz : Z = (r2, j.did r2, d2) := by
                rw [← HZ2.out]
                simp [Jnl.run, Jnl.appends, Jnl.syncs, HE1.out, HE2.out, hr2]
              subst hz
              go_wp2_with fail
              go_ret2
              exact ⟨rfl, dmv_dm HB2.out⟩
        · have hr' : (r1 != 0) = true := by simpa using hr1
          have hz : Z = (r1, j.did r1, d1) := by
            rw [← HZ2.out]
            simp [Jnl.run, Jnl.appends, HE1.out, hr1]
          subst hz
          go_wp2_with fail
          go_ret2
          exact ⟨rfl, dmv_dm HB1.out⟩
end
end Go.Proofs.YtlhnjdoicolkkaaGreatDoor

/- The model's commit, as the chapter defines it. -/
set_option maxRecDepth 100000
namespace Go.Proofs.YtlhnjdoicolkkaaGreatDoor
open Go.RowKit Go.Dsk Go.Maps Go.WideMaps
set_option maxHeartbeats 2000000
open Jnl (J)

theorem run_down {n x : Bs} {b : Bool} {j : J} {d : M} (hd : d.down = true) : Jnl.run (Jnl.commitSteps n x b) j d = (18, j.did 18, d) := by
  have e : Jnl.appends (Jnl.logName n) x d = (18, d) := by
    unfold Jnl.appends M.append
    rw [if_pos hd]
  show (if (Jnl.appends (Jnl.logName n) x d).1 = 0 then _ else ((Jnl.appends (Jnl.logName n) x d).1, j.did (Jnl.appends (Jnl.logName n) x d).1, (Jnl.appends (Jnl.logName n) x d).2)) = _
  rw [e]
  rfl
section
variable {w0 w : World} {bm bd : Nat} {n : ByteArray} {j : J} {d : M} {R : SP}
theorem lcommit_any (hR : Nice R) (hg : Glob w0) (h : DM R w0 w bd d bm n j) (hh : j.broken = false → d.down = false → j.has = (find d.names (Jnl.logName n.data.toList)).isSome) (hn : n.size ≤ 1048576) (hw : d.wt < 1073741700) (hrl : j.recs.length + 64 ≤ 1073741824) :
    Calls Tryz.prog 70 #[pm bm] w fun e w' => e = .returned (.tuple #[.int .i64 (j.commit n.data.toList d).1, .int .i64 (j.commit n.data.toList d).2.1]) ∧ DM R w0 w' bd (j.commit n.data.toList d).2.2.2 bm n (j.commit n.data.toList d).2.2.1 := by
  unfold Jnl.J.commit
  cases hb : j.broken with
  | true => exact lcommit_broken h hb
  | false =>
    simp only [Bool.false_eq_true, if_false]
    by_cases hp : j.pend = []
    · rw [if_pos hp]
      exact lcommit_none hR h hb hp
    · rw [if_neg hp]
      obtain ⟨vr, vp, hV⟩ := dm_open h
      have key : ∀ {Z : Int × J × M}, Jnl.run (Jnl.commitSteps n.data.toList j.data j.has) j d = Z → Calls Tryz.prog 70 #[pm bm] w fun e w' => (Z.1 ≠ 0 ∧ e = .returned (.tuple #[.int .i64 0, .int .i64 Z.1]) ∧ DM R w0 w' bd Z.2.2 bm n Z.2.1) ∨
          (Z.1 = 0 ∧ e = .returned (.tuple #[.int .i64 ((j.first : Int) + (j.recs ++ j.pend).length - 1), .int .i64 0]) ∧ DM R w0 w' bd Z.2.2 bm n (jdone j)) := by
        intro Z hZ
        cases hd : d.down with
        | true =>
          rw [run_down hd] at hZ
          exact lcommit_down hR hg hV hb hp hd hn hw hrl ((run_down hd).trans hZ)
        | false =>
          have hhas := hh hb hd
          cases hf : (find d.names (Jnl.logName n.data.toList)).isSome with
          | true =>
            rw [hf] at hhas
            unfold Jnl.J.data at hZ
            rw [hhas] at hZ
            exact lcommit_has hR hg hV hb hp hd (decide_eq_true (Jnl.read_some hd hf)) hn hw hrl hZ
          | false =>
            rw [hf] at hhas
            unfold Jnl.J.data at hZ
            rw [hhas] at hZ
            exact lcommit_fresh hR hg hV hb hp hd (by rw [Jnl.read_none hd hf]; rfl) hn hw hrl hZ
      refine (key rfl).mono ?_
      rintro e w' (⟨h1, h2, h3⟩ | ⟨h1, h2, h3⟩)
      · rw [if_neg h1]
        exact ⟨h2, h3⟩
      · rw [if_pos h1]
        refine ⟨h2, ?_⟩
        have hj : ({ j with recs := j.recs ++ j.pend, pend := [], has := true } : J) = jdone j := rfl
        simpa only [hb, jdone] using h3
end
end Go.Proofs.YtlhnjdoicolkkaaGreatDoor
