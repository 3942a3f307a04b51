/- The model's open. -/
import Derived.Test.YtlhnjdoicolkkaaGreatDoorMj
import Derived.Test.YtlhnjdoicolkkaaGreatDoorJNil
import Derived.Test.YtlhnjdoicolkkaaGreatDoorJShort
set_option maxRecDepth 100000
namespace Go.Proofs.YtlhnjdoicolkkaaGreatDoor
open Go.RowKit Go.Dsk Go.Maps Go.WideMaps
set_option maxHeartbeats 16000000
open Jnl (J)

section
variable {w0 w : World} {bm bd : Nat} {n : ByteArray} {j : J} {d : M} {R : SP} {S : Nat → Prop}
theorem mdl_new (hR : Nice R) (h : Dr R w0 w bd d) : DM R w0 (w.alloc (.cells #[.pointer (some ⟨bd, 0, none⟩), .string n, .int .i64 1, .slice none 0 0, .slice none 0 0, .bool false] 72)) bd d w.heap.size n Jnl.J.new := by
  have hN : Nice (Star (DiskP bd d) R) := Nice.star (nice_disk _ _) hR
  have h1 := h.new hN ((Below.refl _ w).alloc (Nat.le_refl _) (.cells (mCells bd n Jnl.J.new (.slice none 0 0) (.slice none 0 0)) 72)) (P := MdlP w.heap.size bd n Jnl.J.new) (S := fun i => i = w.heap.size) (fun i hi => by rw [hi]; exact Nat.le_refl _)
    ⟨⟨by decide, by decide, by decide, by simp [Jnl.J.new], by simp [Jnl.J.new]⟩, .slice none 0 0, .slice none 0 0, fun i => i = w.heap.size, fun _ => False, fun i => by simp, fun _ _ h => h, ⟨fun i => Iff.rfl, heap_alloc_new w _⟩, fun _ => False, fun _ => False, fun i => by simp, fun _ h _ => h, ⟨fun i => by simp [rdBlk], none, 0, rfl, Nat.le_refl _, by unfold maxLen; omega, fun h => absurd h (by simp [Jnl.J.new])⟩, str_nil _⟩
  exact h1.left
/-- A model that is let go. -/
theorem dm_drop (h : DM R w0 w bd d bm n j) : Dr R w0 w bd d := h.sub (Sub.inner (Sub.drop _ _))
theorem strRow_rd {v : Value} {l : List Bs} {base : Nat} (h : StrRow base w v l) : RdP v l (fun i => rdBlk v = some i) w := ⟨fun _ => Iff.rfl, h.reads⟩
theorem strRow_base {v : Value} {l : List Bs} {base : Nat} (h : StrRow base w v l) : ∀ i, rdBlk v = some i → base ≤ i := by
  intro i hi
  obtain ⟨⟨_, ⟨rfl, _⟩ | ⟨g, cap, cur, rfl, hg, _⟩⟩, _⟩ := h
  · simp [rdBlk] at hi
  · cases hl : l.length with
    | zero => rw [hl] at hi; simp [rdBlk] at hi
    | succ m =>
      rw [hl] at hi
      simp only [rdBlk, Option.some.injEq] at hi
      omega
theorem opJ_fit {x : Bs} (hx : x.length ≤ 16777216) : Fit (Jnl.opJ x) := by
  obtain ⟨h1, h2, h3, h4⟩ := Jnl.scan_fit x
  exact ⟨h1, by show (Jnl.scan x).2.1.length ≤ _; omega, by simp [Jnl.opJ], h3, by simp [Jnl.opJ]⟩
/-- The model gets what the scan has found. -/
theorem dm_found (hR : Nice R) {v : Value} {x : Bs} (hx : x.length ≤ 16777216) (h : DM (Star (RdP v (Jnl.scan x).2.1) R) w0 w bd d bm n Jnl.J.new) : DM R w0 (mset w bm (Jnl.scan x).1 v) bd d bm n (Jnl.opJ x) := by
  have h1 : Has w0 w (Star (Star (MdlP bm bd n Jnl.J.new) (RdP v (Jnl.scan x).2.1)) (Star (DiskP bd d) R)) := h.out3
  exact (h1.turn (Nice.star (nice_disk _ _) hR) fun _ hS => mdl_recs hS (opJ_fit hx) rfl rfl rfl rfl).left
/-- What lopen leaves. -/
abbrev Opened (R : SP) (w0 w' : World) (bd : Nat) (n : ByteArray) (Z : Int × Option J × M) (e : Ending) : Prop :=
  (∃ bm j, Z.2.1 = some j ∧ e = .returned (.tuple #[pm bm, .int .i64 Z.1]) ∧ DM R w0 w' bd Z.2.2 bm n j) ∨ (Z.2.1 = none ∧ e = .returned (.tuple #[.pointer none, .int .i64 Z.1]) ∧ Dr R w0 w' bd Z.2.2)
theorem lopen_any (hR : Nice R) (hg : Glob w0) (h : Dr R w0 w bd d) (hn : n.size ≤ 1048576) (hw : d.wt < 1073741000) {Z : Int × Option J × M} (hZ : Jnl.opened n.data.toList d = Z) :
    Calls Tryz.prog 48 #[pbox bd, .string n] w fun e w' => Opened R w0 w' bd n Z e := by
  obtain ⟨nb, hnb, hnl, hns⟩ := new_ba n hn
  obtain ⟨lb, hlb, hll, hls⟩ := log_ba n hn
  have h1 := mdl_new (n := n) hR h
  have hri := fun w' => right_any n (by omega) w'
  obtain ⟨bq, hbq⟩ : ∃ bq, Jnl.jname n.data.toList = bq := ⟨_, rfl⟩
  rw [hbq] at hri
  have HNM := Lib.hid hbq
  have HRI := Lib.hid hri
  have H1 := Lib.hid h1
  have HZ := Lib.hid hZ
  have HNS := Lib.hid (And.intro hns (And.intro hls (And.intro hnl hll)))
  have HG := Lib.hid hg
  have hok := dr_ok h
  have HOK := Lib.hid hok
  obtain ⟨bm, hbm⟩ : ∃ bm, bm = w.heap.size := ⟨_, rfl⟩
  have HBM := Lib.hid hbm
  rw [← hbm] at H1
  clear h h1 hZ hnl hll hns hls hbq hg hok hri hbm
  go_enter Tryz.func48, Tryz.ntmps48
  go_upto_region 2 with fail
  rw [← HBM.out]
  generalize w.alloc (.cells #[.pointer (some ⟨bd, 0, none⟩), .string n, .int .i64 1, .slice none 0 0, .slice none 0 0, .bool false] 72) = wa at *
  go_wp2_with fail
  refine (HRI.out _).mono ?_
  rintro e w1 ⟨rfl, hw1⟩
  obtain rfl := hw1
  cases bq with
  | false =>
    go_wp2_with fail
    go_ret2
    have hz : Z = (11, none, d) := HZ.out.symm.trans (Jnl.opened_name HNM.out)
    rw [hz]
    exact .inr ⟨rfl, rfl, dm_drop H1.out⟩
  | true =>
    have hdn := dr_down H1.out rfl
    cases hdd : d.down with
    | true =>
      rw [hdd] at hdn
      have HDD := Lib.hid hdd
      clear hdd
      go_wp2_with fail
      refine hdn.mono ?_
      rintro e w2 ⟨rfl, hw2⟩
      obtain rfl := hw2
      go_wp2_with fail
      go_ret2
      have hz : Z = (18, none, d) := HZ.out.symm.trans (Jnl.opened_down HNM.out HDD.out)
      rw [hz]
      exact .inr ⟨rfl, rfl, dm_drop H1.out⟩
    | false =>
      rw [hdd] at hdn
      have HDD := Lib.hid hdd
      clear hdd
      have hh := lhas_any H1.out nb HNS.out.1
      rw [HNS.out.2.2.1] at hh
      cases hf : (find d.names (Jnl.newName n.data.toList)).isSome with
      | true =>
        rw [decide_eq_true (Jnl.read_some HDD.out hf)] at hh
        have hcl := Jnl.cleaned_new hf
        obtain ⟨⟨rc, dc⟩, hc⟩ : ∃ p, d.remove nb.data.toList = p := ⟨_, rfl⟩
        have hcl2 : Jnl.cleaned n.data.toList d = (rc, dc) := by rw [hcl, ← HNS.out.2.2.1, hc]
        have hwc : dc.wt < 1073741001 := by
          have := remove_wt HOK.out nb.data.toList
          rw [hc] at this
          simp only at this
          omega
        have hokc : dc.Ok := by
          have := Dsk.remove_keeps HOK.out nb.data.toList
          rw [hc] at this
          exact this
        have HC := Lib.hid (And.intro hc (And.intro hcl2 hokc))
        clear hf hcl hc hcl2 hokc
        go_wp2_with fail
        refine hdn.mono ?_
        rintro e w2 ⟨rfl, hw2⟩
        obtain rfl := hw2
        go_wp2_with fail
        refine hh.mono ?_
        rintro e w3 ⟨rfl, hw3⟩
        obtain rfl := hw3.symm
        go_wp2_with fail
        refine (dr_remove (Nice.star (nice_mdl _ _ _ _) hR) H1.out nb HNS.out.1 HC.out.1 (by omega)).mono ?_
        rintro e w4 ⟨rfl, h4⟩
        have H4 := Lib.hid h4
        clear h4 H1 hdn hh
        by_cases hr : rc = 0
        · subst hr
          have HCL := Lib.hid (And.intro HC.out.2.1 HC.out.2.2)
          clear HC
          have hcf : (dc).down = false ∧ find (dc).names (Jnl.logName n.data.toList) = find d.names (Jnl.logName n.data.toList) := by
            have h := Jnl.cleaned_find (n := n.data.toList) HDD.out (by rw [HCL.out.1])
            rw [HCL.out.1] at h
            exact h
          obtain ⟨⟨x, rr⟩, hx⟩ : ∃ p, dc.read lb.data.toList = p := ⟨_, rfl⟩
          have hrd := dr_read H4.out lb HNS.out.2.1 hx
          cases hf : (find d.names (Jnl.logName n.data.toList)).isSome with
          | false =>
            have hx2 := Jnl.read_none hcf.1 (by rw [hcf.2]; exact hf)
            rw [← HNS.out.2.2.2, hx] at hx2
            simp only [Prod.mk.injEq] at hx2
            obtain ⟨rfl, rfl⟩ := hx2
            have HF := Lib.hid hf
            clear hf hx hcf
            go_wp2_with fail
            refine hrd.mono ?_
            rintro e w5 ⟨rfl, hw5⟩
            obtain rfl := hw5
            go_wp2_with fail
            go_ret2
            have hz : Z = (0, some Jnl.J.new, dc) := by
              have := Jnl.opened_none HNM.out HDD.out (by rw [HCL.out.1]) HF.out
              rw [HCL.out.1] at this
              exact HZ.out.symm.trans this
            rw [hz]
            exact .inl ⟨bm, _, rfl, rfl, H4.out⟩
          | true =>
            have hx2 := Jnl.read_some hcf.1 (by rw [hcf.2]; exact hf)
            rw [← HNS.out.2.2.2, hx] at hx2
            simp only at hx2
            subst hx2
            have hxs : x.length ≤ 16777216 := by
              have := Jnl.read_size HCL.out.2 lb.data.toList
              rw [hx] at this
              exact this
            have hz : Z = Jnl.opened2 n.data.toList dc x := by
              have := Jnl.opened_some HNM.out HDD.out (by rw [HCL.out.1]) hf
              rw [HCL.out.1] at this
              simp only at this
              rw [← HNS.out.2.2.2, hx] at this
              exact HZ.out.symm.trans this
            obtain ⟨xb, hxb⟩ : ∃ xb : ByteArray, (⟨x.toArray⟩ : ByteArray) = xb := ⟨_, rfl⟩
            have hxl : xb.data.toList = x := by rw [← hxb]
            have hxz : xb.size = x.length := by rw [← hxl]; rfl
            have hsc := fun w1 (hb : Glob w1) => lscan_any xb (by omega) (w := w1) hb
            rw [hxl] at hsc
            rw [hxb] at hrd
            obtain ⟨k, hk⟩ : ∃ k, (Jnl.scan x).2.2 = k := ⟨_, rfl⟩
            have hkl := (Jnl.scan_fit x).2.2.2
            rw [hk] at hkl
            simp only [hk] at hsc
            have HSC := Lib.hid hsc
            have HX := Lib.hid (And.intro hz (And.intro hxl (And.intro hk hxs)))
            clear hf hx hcf hz hxb hxl hsc hk HZ
            go_wp2_with fail
            refine hrd.mono ?_
            rintro e w5 ⟨rfl, hw5⟩
            obtain rfl := hw5
            go_wp2_with fail
            refine (HSC.out _ (HG.out.below H4.out.below)).mono ?_
            rintro e w6 ⟨v, rfl, hrow, hb6⟩
            have HSH := Lib.hid (show ∃ av cv, v = .slice av (Jnl.scan x).2.1.length cv from by obtain ⟨av, cv, h, -⟩ := hrow.reads; exact ⟨av, cv, h⟩)
            have h6 := (H4.out.new (nice_dm hR) hb6 (P := RdP v (Jnl.scan x).2.1) (strRow_base hrow) (strRow_rd hrow)).in3
            have H6 := Lib.hid h6
            have hRR : Nice (Star (RdP v (Jnl.scan x).2.1) R) := Nice.star (nice_rd _ _) hR
            clear hrow hb6 h6 hrd HSC H4
            obtain ⟨f, hf⟩ : ∃ f, f = (Jnl.scan x).1 := ⟨_, rfl⟩
            rw [← hf]
            have HF := Lib.hid hf
            clear hf
            by_cases hk0 : k = 0
            · subst hk0
              obtain ⟨⟨r2, d2⟩, hd2⟩ : ∃ p, dc.remove lb.data.toList = p := ⟨_, rfl⟩
              have hw2 : d2.wt < 1073741002 := by
                have := remove_wt HCL.out.2 lb.data.toList
                rw [hd2] at this
                simp only at this
                omega
              have HD2 := Lib.hid hd2
              clear hd2
              go_wp2_with fail
              refine (dr_remove (Nice.star (nice_mdl _ _ _ _) hRR) H6.out lb HNS.out.2.1 HD2.out (by omega)).mono ?_
              rintro e w7 ⟨rfl, h7⟩
              have H7 := Lib.hid h7
              clear h7 H6
              have hd2' := HD2.out
              rw [HNS.out.2.2.2] at hd2'
              have HD2' := Lib.hid hd2'
              clear hd2'
              by_cases hr2 : r2 = 0
              · subst hr2
                obtain ⟨⟨r3, d3⟩, hd3⟩ : ∃ p, d2.publish = p := ⟨_, rfl⟩
                have hw3 : d3.wt < 1073741003 := by
                  have := publish_wt (dr_ok H7.out)
                  rw [hd3] at this
                  simp only at this
                  omega
                have HD3 := Lib.hid hd3
                clear hd3
                go_wp2_with fail
                refine (dr_publish (Nice.star (nice_mdl _ _ _ _) hRR) H7.out HD3.out (by omega)).mono ?_
                rintro e w8 ⟨rfl, h8⟩
                have H8 := Lib.hid h8
                clear h8 H7
                by_cases hr3 : r3 = 0
                · subst hr3
                  obtain ⟨vr, vp, hs⟩ := dm_see H8.out
                  obtain ⟨av, cv, rfl⟩ := HSH.out
                  have z2 := hs.free 2
                  have c2 := hs.c2
                  have c3 := hs.c3
                  have e1 := block_set hs.hd 2 (.int .i64 f)
                  have z3 := block_free e1 3
                  have y3 := block_cell e1 3
                  simp [mCells] at y3
                  have hfin := dm_found hR HX.out.2.2.2 H8.out
                  rw [← HF.out] at hfin
                  have HFIN := Lib.hid hfin
                  clear hfin hs e1 H8
                  go_wp2_with fail
                  go_ret2
                  have hz : Z = (0, some (Jnl.opJ x), d3) := HX.out.1.trans (Jnl.opened2_zero3 HX.out.2.2.1 HD2'.out HD3.out)
                  rw [hz]
                  exact .inl ⟨bm, _, rfl, rfl, HFIN.out⟩
                · have hr' : (r3 != 0) = true := by simpa using hr3
                  go_wp2_with fail
                  go_ret2
                  have hz : Z = (r3, none, d3) := HX.out.1.trans (Jnl.opened2_zero2 HX.out.2.2.1 HD2'.out HD3.out hr3)
                  rw [hz]
                  exact .inr ⟨rfl, rfl, (dm_drop H8.out).sub (Sub.inner (Sub.drop _ _))⟩
              · have hr' : (r2 != 0) = true := by simpa using hr2
                go_wp2_with fail
                go_ret2
                have hz : Z = (r2, none, d2) := HX.out.1.trans (Jnl.opened2_zero1 HX.out.2.2.1 HD2'.out hr2)
                rw [hz]
                exact .inr ⟨rfl, rfl, (dm_drop H7.out).sub (Sub.inner (Sub.drop _ _))⟩
            · have hk0' : ((k : Int) == 0) = false := by simpa using hk0
              by_cases hkx : k < xb.size
              · have hkx' : ((k : Int) < (xb.size : Int)) = True := by simp; omega
                have hq0 : (0 : Int) ≤ (k : Int) := by omega
                have hq1 : (k : Int) ≤ (xb.size : Int) := by omega
                obtain ⟨y, hy⟩ : ∃ y, xb.extract 0 k = y := ⟨_, rfl⟩
                have hyl : y.data.toList = x.take k := by rw [← hy, ba_take, HX.out.2.1]
                have hys : y.size ≤ 1073741824 := by
                  rw [← hy, ByteArray.size_extract]
                  have := HX.out.2.2.2
                  omega
                obtain ⟨⟨r2, j2, d2⟩, hZ2⟩ : ∃ p, Jnl.run (Jnl.replaceSteps n.data.toList y.data.toList) Jnl.J.new dc = p := ⟨_, rfl⟩
                have HZ2 := Lib.hid (And.intro hZ2 hyl)
                clear hZ2 hyl
                go_wp2_with fail
                refine (lreplace_any hRR H6.out y hys hn (by omega) HZ2.out.1).mono ?_
                rintro e w7 ⟨rfl, h7⟩
                have H7 := Lib.hid h7
                clear h7 H6
                have hz2 := HZ2.out.1
                rw [HZ2.out.2, ← HX.out.2.2.1] at hz2
                have HZ3 := Lib.hid hz2
                clear hz2
                have hkn : (Jnl.scan x).2.2 ≠ 0 := by rw [HX.out.2.2.1]; exact hk0
                have hkn2 : (Jnl.scan x).2.2 < x.length := by rw [HX.out.2.2.1, ← hxz]; exact hkx
                have HK := Lib.hid (And.intro hkn hkn2)
                clear hkn hkn2
                by_cases hr2 : r2 = 0
                · subst hr2
                  have hj2 : j2 = Jnl.J.new := by
                    have := run_ok (l := Jnl.replaceSteps n.data.toList y.data.toList) (j := Jnl.J.new) (d := dc) (by rw [HZ2.out.1])
                    rw [HZ2.out.1] at this
                    exact this
                  subst hj2
                  obtain ⟨vr, vp, hs⟩ := dm_see H7.out
                  obtain ⟨av, cv, rfl⟩ := HSH.out
                  have z2 := hs.free 2
                  have c2 := hs.c2
                  have c3 := hs.c3
                  have e1 := block_set hs.hd 2 (.int .i64 f)
                  have z3 := block_free e1 3
                  have y3 := block_cell e1 3
                  simp [mCells] at y3
                  have hfin := dm_found hR HX.out.2.2.2 H7.out
                  rw [← HF.out] at hfin
                  have HFIN := Lib.hid hfin
                  clear hfin hs e1 H7
                  go_wp2_with fail
                  go_ret2
                  have hz : Z = (0, some (Jnl.opJ x), d2) := HX.out.1.trans (Jnl.opened2_part2 HK.out.1 HK.out.2 HZ3.out rfl)
                  rw [hz]
                  exact .inl ⟨bm, _, rfl, rfl, HFIN.out⟩
                · have hr' : (r2 != 0) = true := by simpa using hr2
                  go_wp2_with fail
                  go_ret2
                  have hz : Z = (r2, none, d2) := HX.out.1.trans (Jnl.opened2_part1 HK.out.1 HK.out.2 HZ3.out hr2)
                  rw [hz]
                  exact .inr ⟨rfl, rfl, (dm_drop H7.out).sub (Sub.inner (Sub.drop _ _))⟩
              · have hkx' : ((k : Int) < (xb.size : Int)) = False := by simp; omega
                have hkn : (Jnl.scan x).2.2 ≠ 0 := by rw [HX.out.2.2.1]; exact hk0
                have hkn2 : ¬ (Jnl.scan x).2.2 < x.length := by rw [HX.out.2.2.1, ← hxz]; exact hkx
                have HK := Lib.hid (And.intro hkn hkn2)
                clear hkn hkn2
                obtain ⟨vr, vp, hs⟩ := dm_see H6.out
                obtain ⟨av, cv, rfl⟩ := HSH.out
                have z2 := hs.free 2
                have c2 := hs.c2
                have c3 := hs.c3
                have e1 := block_set hs.hd 2 (.int .i64 f)
                have z3 := block_free e1 3
                have y3 := block_cell e1 3
                simp [mCells] at y3
                have hfin := dm_found hR HX.out.2.2.2 H6.out
                rw [← HF.out] at hfin
                have HFIN := Lib.hid hfin
                clear hfin hs e1 H6
                go_wp2_with fail
                go_ret2
                have hz : Z = (0, some (Jnl.opJ x), dc) := HX.out.1.trans (Jnl.opened2_all HK.out.1 HK.out.2)
                rw [hz]
                exact .inl ⟨bm, _, rfl, rfl, HFIN.out⟩
        · have hr' : (rc != 0) = true := by simpa using hr
          go_wp2_with fail
          go_ret2
          have hz : Z = (rc, none, dc) := by
            have := Jnl.opened_unclean HNM.out HDD.out (by rw [HC.out.2.1]; exact hr)
            rw [HC.out.2.1] at this
            exact HZ.out.symm.trans this
          rw [hz]
          exact .inr ⟨rfl, rfl, dm_drop H4.out⟩
      | false =>
        have hrn := Jnl.read_none HDD.out hf
        have hno : decide ((d.read (Jnl.newName n.data.toList)).2 = 0) = false := by rw [hrn]; rfl
        rw [hno] at hh
        have hcl2 : Jnl.cleaned n.data.toList d = (0, d) := Jnl.cleaned_not hf
        have HCL := Lib.hid (And.intro hcl2 HOK.out)
        have hwc : d.wt < 1073741001 := by omega
        clear hf hrn hno hcl2
        go_wp2_with fail
        refine hdn.mono ?_
        rintro e w2 ⟨rfl, hw2⟩
        obtain rfl := hw2
        go_wp2_with fail
        refine hh.mono ?_
        rintro e w3 ⟨rfl, hw3⟩
        obtain rfl := hw3.symm
        have H4 := H1
        clear H1 hdn hh
        have hcf : (d).down = false ∧ find (d).names (Jnl.logName n.data.toList) = find d.names (Jnl.logName n.data.toList) := by
          have h := Jnl.cleaned_find (n := n.data.toList) HDD.out (by rw [HCL.out.1])
          rw [HCL.out.1] at h
          exact h
        obtain ⟨⟨x, rr⟩, hx⟩ : ∃ p, d.read lb.data.toList = p := ⟨_, rfl⟩
        have hrd := dr_read H4.out lb HNS.out.2.1 hx
        cases hf : (find d.names (Jnl.logName n.data.toList)).isSome with
        | false =>
          have hx2 := Jnl.read_none hcf.1 (by rw [hcf.2]; exact hf)
          rw [← HNS.out.2.2.2, hx] at hx2
          simp only [Prod.mk.injEq] at hx2
          obtain ⟨rfl, rfl⟩ := hx2
          have HF := Lib.hid hf
          clear hf hx hcf
          go_wp2_with fail
          refine hrd.mono ?_
          rintro e w5 ⟨rfl, hw5⟩
          obtain rfl := hw5
          go_wp2_with fail
          go_ret2
          have hz : Z = (0, some Jnl.J.new, d) := by
            have := Jnl.opened_none HNM.out HDD.out (by rw [HCL.out.1]) HF.out
            rw [HCL.out.1] at this
            exact HZ.out.symm.trans this
          rw [hz]
          exact .inl ⟨bm, _, rfl, rfl, H4.out⟩
        | true =>
          have hx2 := Jnl.read_some hcf.1 (by rw [hcf.2]; exact hf)
          rw [← HNS.out.2.2.2, hx] at hx2
          simp only at hx2
          subst hx2
          have hxs : x.length ≤ 16777216 := by
            have := Jnl.read_size HCL.out.2 lb.data.toList
            rw [hx] at this
            exact this
          have hz : Z = Jnl.opened2 n.data.toList d x := by
            have := Jnl.opened_some HNM.out HDD.out (by rw [HCL.out.1]) hf
            rw [HCL.out.1] at this
            simp only at this
            rw [← HNS.out.2.2.2, hx] at this
            exact HZ.out.symm.trans this
          obtain ⟨xb, hxb⟩ : ∃ xb : ByteArray, (⟨x.toArray⟩ : ByteArray) = xb := ⟨_, rfl⟩
          have hxl : xb.data.toList = x := by rw [← hxb]
          have hxz : xb.size = x.length := by rw [← hxl]; rfl
          have hsc := fun w1 (hb : Glob w1) => lscan_any xb (by omega) (w := w1) hb
          rw [hxl] at hsc
          rw [hxb] at hrd
          obtain ⟨k, hk⟩ : ∃ k, (Jnl.scan x).2.2 = k := ⟨_, rfl⟩
          have hkl := (Jnl.scan_fit x).2.2.2
          rw [hk] at hkl
          simp only [hk] at hsc
          have HSC := Lib.hid hsc
          have HX := Lib.hid (And.intro hz (And.intro hxl (And.intro hk hxs)))
          clear hf hx hcf hz hxb hxl hsc hk HZ
          go_wp2_with fail
          refine hrd.mono ?_
          rintro e w5 ⟨rfl, hw5⟩
          obtain rfl := hw5
          go_wp2_with fail
          refine (HSC.out _ (HG.out.below H4.out.below)).mono ?_
          rintro e w6 ⟨v, rfl, hrow, hb6⟩
          have HSH := Lib.hid (show ∃ av cv, v = .slice av (Jnl.scan x).2.1.length cv from by obtain ⟨av, cv, h, -⟩ := hrow.reads; exact ⟨av, cv, h⟩)
          have h6 := (H4.out.new (nice_dm hR) hb6 (P := RdP v (Jnl.scan x).2.1) (strRow_base hrow) (strRow_rd hrow)).in3
          have H6 := Lib.hid h6
          have hRR : Nice (Star (RdP v (Jnl.scan x).2.1) R) := Nice.star (nice_rd _ _) hR
          clear hrow hb6 h6 hrd HSC H4
          obtain ⟨f, hf⟩ : ∃ f, f = (Jnl.scan x).1 := ⟨_, rfl⟩
          rw [← hf]
          have HF := Lib.hid hf
          clear hf
          by_cases hk0 : k = 0
          · subst hk0
            obtain ⟨⟨r2, d2⟩, hd2⟩ : ∃ p, d.remove lb.data.toList = p := ⟨_, rfl⟩
            have hw2 : d2.wt < 1073741002 := by
              have := remove_wt HCL.out.2 lb.data.toList
              rw [hd2] at this
              simp only at this
              omega
            have HD2 := Lib.hid hd2
            clear hd2
            go_wp2_with fail
            refine (dr_remove (Nice.star (nice_mdl _ _ _ _) hRR) H6.out lb HNS.out.2.1 HD2.out (by omega)).mono ?_
            rintro e w7 ⟨rfl, h7⟩
            have H7 := Lib.hid h7
            clear h7 H6
            have hd2' := HD2.out
            rw [HNS.out.2.2.2] at hd2'
            have HD2' := Lib.hid hd2'
            clear hd2'
            by_cases hr2 : r2 = 0
            · subst hr2
              obtain ⟨⟨r3, d3⟩, hd3⟩ : ∃ p, d2.publish = p := ⟨_, rfl⟩
              have hw3 : d3.wt < 1073741003 := by
                have := publish_wt (dr_ok H7.out)
                rw [hd3] at this
                simp only at this
                omega
              have HD3 := Lib.hid hd3
              clear hd3
              go_wp2_with fail
              refine (dr_publish (Nice.star (nice_mdl _ _ _ _) hRR) H7.out HD3.out (by omega)).mono ?_
              rintro e w8 ⟨rfl, h8⟩
              have H8 := Lib.hid h8
              clear h8 H7
              by_cases hr3 : r3 = 0
              · subst hr3
                obtain ⟨vr, vp, hs⟩ := dm_see H8.out
                obtain ⟨av, cv, rfl⟩ := HSH.out
                have z2 := hs.free 2
                have c2 := hs.c2
                have c3 := hs.c3
                have e1 := block_set hs.hd 2 (.int .i64 f)
                have z3 := block_free e1 3
                have y3 := block_cell e1 3
                simp [mCells] at y3
                have hfin := dm_found hR HX.out.2.2.2 H8.out
                rw [← HF.out] at hfin
                have HFIN := Lib.hid hfin
                clear hfin hs e1 H8
                go_wp2_with fail
                go_ret2
                have hz : Z = (0, some (Jnl.opJ x), d3) := HX.out.1.trans (Jnl.opened2_zero3 HX.out.2.2.1 HD2'.out HD3.out)
                rw [hz]
                exact .inl ⟨bm, _, rfl, rfl, HFIN.out⟩
              · have hr' : (r3 != 0) = true := by simpa using hr3
                go_wp2_with fail
                go_ret2
                have hz : Z = (r3, none, d3) := HX.out.1.trans (Jnl.opened2_zero2 HX.out.2.2.1 HD2'.out HD3.out hr3)
                rw [hz]
                exact .inr ⟨rfl, rfl, (dm_drop H8.out).sub (Sub.inner (Sub.drop _ _))⟩
            · have hr' : (r2 != 0) = true := by simpa using hr2
              go_wp2_with fail
              go_ret2
              have hz : Z = (r2, none, d2) := HX.out.1.trans (Jnl.opened2_zero1 HX.out.2.2.1 HD2'.out hr2)
              rw [hz]
              exact .inr ⟨rfl, rfl, (dm_drop H7.out).sub (Sub.inner (Sub.drop _ _))⟩
          · have hk0' : ((k : Int) == 0) = false := by simpa using hk0
            by_cases hkx : k < xb.size
            · have hkx' : ((k : Int) < (xb.size : Int)) = True := by simp; omega
              have hq0 : (0 : Int) ≤ (k : Int) := by omega
              have hq1 : (k : Int) ≤ (xb.size : Int) := by omega
              obtain ⟨y, hy⟩ : ∃ y, xb.extract 0 k = y := ⟨_, rfl⟩
              have hyl : y.data.toList = x.take k := by rw [← hy, ba_take, HX.out.2.1]
              have hys : y.size ≤ 1073741824 := by
                rw [← hy, ByteArray.size_extract]
                have := HX.out.2.2.2
                omega
              obtain ⟨⟨r2, j2, d2⟩, hZ2⟩ : ∃ p, Jnl.run (Jnl.replaceSteps n.data.toList y.data.toList) Jnl.J.new d = p := ⟨_, rfl⟩
              have HZ2 := Lib.hid (And.intro hZ2 hyl)
              clear hZ2 hyl
              go_wp2_with fail
              refine (lreplace_any hRR H6.out y hys hn (by omega) HZ2.out.1).mono ?_
              rintro e w7 ⟨rfl, h7⟩
              have H7 := Lib.hid h7
              clear h7 H6
              have hz2 := HZ2.out.1
              rw [HZ2.out.2, ← HX.out.2.2.1] at hz2
              have HZ3 := Lib.hid hz2
              clear hz2
              have hkn : (Jnl.scan x).2.2 ≠ 0 := by rw [HX.out.2.2.1]; exact hk0
              have hkn2 : (Jnl.scan x).2.2 < x.length := by rw [HX.out.2.2.1, ← hxz]; exact hkx
              have HK := Lib.hid (And.intro hkn hkn2)
              clear hkn hkn2
              by_cases hr2 : r2 = 0
              · subst hr2
                have hj2 : j2 = Jnl.J.new := by
                  have := run_ok (l := Jnl.replaceSteps n.data.toList y.data.toList) (j := Jnl.J.new) (d := d) (by rw [HZ2.out.1])
                  rw [HZ2.out.1] at this
                  exact this
                subst hj2
                obtain ⟨vr, vp, hs⟩ := dm_see H7.out
                obtain ⟨av, cv, rfl⟩ := HSH.out
                have z2 := hs.free 2
                have c2 := hs.c2
                have c3 := hs.c3
                have e1 := block_set hs.hd 2 (.int .i64 f)
                have z3 := block_free e1 3
                have y3 := block_cell e1 3
                simp [mCells] at y3
                have hfin := dm_found hR HX.out.2.2.2 H7.out
                rw [← HF.out] at hfin
                have HFIN := Lib.hid hfin
                clear hfin hs e1 H7
                go_wp2_with fail
                go_ret2
                have hz : Z = (0, some (Jnl.opJ x), d2) := HX.out.1.trans (Jnl.opened2_part2 HK.out.1 HK.out.2 HZ3.out rfl)
                rw [hz]
                exact .inl ⟨bm, _, rfl, rfl, HFIN.out⟩
              · have hr' : (r2 != 0) = true := by simpa using hr2
                go_wp2_with fail
                go_ret2
                have hz : Z = (r2, none, d2) := HX.out.1.trans (Jnl.opened2_part1 HK.out.1 HK.out.2 HZ3.out hr2)
                rw [hz]
                exact .inr ⟨rfl, rfl, (dm_drop H7.out).sub (Sub.inner (Sub.drop _ _))⟩
            · have hkx' : ((k : Int) < (xb.size : Int)) = False := by simp; omega
              have hkn : (Jnl.scan x).2.2 ≠ 0 := by rw [HX.out.2.2.1]; exact hk0
              have hkn2 : ¬ (Jnl.scan x).2.2 < x.length := by rw [HX.out.2.2.1, ← hxz]; exact hkx
              have HK := Lib.hid (And.intro hkn hkn2)
              clear hkn hkn2
              obtain ⟨vr, vp, hs⟩ := dm_see H6.out
              obtain ⟨av, cv, rfl⟩ := HSH.out
              have z2 := hs.free 2
              have c2 := hs.c2
              have c3 := hs.c3
              have e1 := block_set hs.hd 2 (.int .i64 f)
              have z3 := block_free e1 3
              have y3 := block_cell e1 3
              simp [mCells] at y3
              have hfin := dm_found hR HX.out.2.2.2 H6.out
              rw [← HF.out] at hfin
              have HFIN := Lib.hid hfin
              clear hfin hs e1 H6
              go_wp2_with fail
              go_ret2
              have hz : Z = (0, some (Jnl.opJ x), d) := HX.out.1.trans (Jnl.opened2_all HK.out.1 HK.out.2)
              rw [hz]
              exact .inl ⟨bm, _, rfl, rfl, HFIN.out⟩
end
end Go.Proofs.YtlhnjdoicolkkaaGreatDoor
