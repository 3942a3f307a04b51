/- Opening a journal: what the list of names contains; the journal gets what the scan has found. -/
import Derived.Test.YtlhnjdoicolkkaaGreatDoorLopen
import Derived.Test.YtlhnjdoicolkkaaGreatDoorJReplace
import Derived.BigRegion
import Derived.Deep.RegionHeld3
set_option maxRecDepth 100000
namespace Go.Proofs.YtlhnjdoicolkkaaGreatDoor
open Go.RowKit Go.Dsk Go.Maps Go.WideMaps
set_option maxHeartbeats 2000000
open Jnl (J)

theorem contains_any {W : World} {v : Value} {l : List Bs} (h : StrsIn W v l) (x : ByteArray) :
    Calls Tryz.prog 62 #[v, .string x] W fun e w' => e = .returned (.bool (l.contains x.data.toList)) ∧ w' = W := by
  obtain ⟨ao, c, rfl, h1, h2, hc⟩ := h
  unfold maxLen at h2
  cases hl : l.length with
  | zero =>
    have e := List.length_eq_zero_iff.1 hl
    subst e
    exact Tryz.slices_Contains_string_empty ao c x W
  | succ m =>
    rw [← hl]
    obtain ⟨b, off, rfl, hlt, hcell⟩ := hc (by omega)
    have hzl : (l.map fun y => (⟨y.toArray⟩ : ByteArray)).length = l.length := by simp
    have h := Tryz.slices_Contains_string b off l.length c (l.map fun y => ⟨y.toArray⟩) x W (by rw [hzl]; exact Nat.le_refl _) (by omega) (fun j hj => by
      rw [hzl] at hj
      rw [hcell j hj]
      unfold strV
      simp only [List.getD_eq_getElem?_getD, List.getElem?_map]
      rw [List.getElem?_eq_getElem hj]
      rfl)
    have e : Lib.containsS ((l.map fun y => (⟨y.toArray⟩ : ByteArray)).take l.length) x = l.contains x.data.toList := by
      rw [List.take_of_length_le (by rw [hzl]; exact Nat.le_refl _), Bool.eq_iff_iff, Lib.containsS_iff, List.contains_iff_mem, List.mem_map]
      constructor
      · rintro ⟨y, hy, rfl⟩
        exact hy
      · intro hy
        exact ⟨_, hy, ba_self x⟩
    rw [e] at h
    exact h
theorem contains_names (d : M) (hd : d.down = false) (n : Bs) : d.list.contains n = (find d.names n).isSome := by
  have e : d.list = d.names.map (·.1) := by unfold M.list; rw [hd]; rfl
  rw [e, Bool.eq_iff_iff, List.contains_iff_mem, List.mem_map]
  unfold find
  rw [Option.isSome_map, List.find?_isSome]
  simp
theorem star_nil {X : SP} {S : Nat → Prop} {w : World} (h : X S w) : Star Nil X S w := ⟨fun _ => False, S, fun i => by simp, fun _ h => h.elim, fun _ h => h, h⟩
section
variable {w0 w : World} {bj bd b1 : Nat} {n : ByteArray} {j : J} {d : M} {R : SP} {S : Nat → Prop}
/-- Behind the three stores. -/
abbrev fset (w : World) (bj f : Nat) (v : Value) (b : Bool) : World := ((w.setCell ⟨bj, 2, none⟩ (.int .i64 f)).setCell ⟨bj, 3, none⟩ v).setCell ⟨bj, 5, none⟩ (.bool b)
theorem jrn_found {v : Value} {x : Bs} (hx : x.length ≤ 16777216) (h : Star (JrnP bj bd n Jnl.J.new) (StrP v (Jnl.scan x).2.1) S w) : Does S w (JrnP bj bd n (Jnl.opJ x)) (fset w bj (Jnl.scan x).1 v (decide (0 < (Jnl.scan x).2.2))) := by
  obtain ⟨A, B, hu, hd, ⟨hF, vr, vp, C, D, hu2, hd2, h1, E, F, hu3, hd3, h2, h3⟩, h4⟩ := h
  have e1 := block_set h1.2 2 (.int .i64 (Jnl.scan x).1)
  have e2 := block_set e1 3 v
  have e3 := block_set e2 5 (.bool (decide (0 < (Jnl.scan x).2.2)))
  have nb : ∀ {W : World} {cs : Array Value}, W.heap[bj]? = some (.cells cs 86 (0, 0)) → ¬ IsBox W bj := by
    rintro W cs h ⟨s, hs⟩
    rw [h] at hs
    simp at hs
  have hfr : Fr (fun i => i = bj) w (fset w bj (Jnl.scan x).1 v (decide (0 < (Jnl.scan x).2.2))) :=
    (((Fr.refl (fun i => i = bj) w).setCell (p := ⟨bj, 2, none⟩) (.inl rfl) (nb h1.2) _).setCell (p := ⟨bj, 3, none⟩) (.inl rfl) (nb e1) _).setCell (p := ⟨bj, 5, none⟩) (.inl rfl) (nb e2) _
  have hnb : ∀ i, i = bj → ¬ F i := fun i hi hf => hd2 i ((h1.1 i).2 hi) ((hu3 i).2 (.inr hf))
  have hnb2 : ∀ i, i = bj → ¬ B i := fun i hi hb => hd i ((hu2 i).2 (.inl ((h1.1 i).2 hi))) hb
  refine ⟨fun i => C i ∨ (B i ∨ F i), ?_, ⟨opJ_fit hx, v, vp, C, fun i => B i ∨ F i, fun _ => Iff.rfl, ?_, ⟨h1.1, ?_⟩, B, F, fun _ => Iff.rfl, ?_, ?_, ?_⟩, hfr.mono ?_⟩
  · rintro i (hi | hi | hi)
    · exact .inl ((hu i).2 (.inl ((hu2 i).2 (.inl hi))))
    · exact .inl ((hu i).2 (.inr hi))
    · exact .inl ((hu i).2 (.inl ((hu2 i).2 (.inr ((hu3 i).2 (.inr hi))))))
  · rintro i hc (hb | hf)
    · exact hd i ((hu2 i).2 (.inl hc)) hb
    · exact hd2 i hc ((hu3 i).2 (.inr hf))
  · simpa [jCells, Jnl.opJ, Jnl.J.new] using e3
  · intro i hb hf
    exact hd i ((hu2 i).2 (.inr ((hu3 i).2 (.inr hf)))) hb
  · exact (nice_str v _).keep h4 hfr fun i hi e => hnb2 i e hi
  · exact (nice_str vp _).keep h3 hfr fun i hi e => hnb i e hi
  · rintro i rfl
    exact (hu _).2 (.inl ((hu2 _).2 (.inl ((h1.1 _).2 rfl))))
theorem jd_found (hR : Nice R) {v : Value} {x : Bs} (hx : x.length ≤ 16777216) (h : Jd (Star (StrP v (Jnl.scan x).2.1) R) w0 w bd d bj n Jnl.J.new b1) : Jd R w0 (fset w bj (Jnl.scan x).1 v (decide (0 < (Jnl.scan x).2.2))) bd d bj n (Jnl.opJ x) b1 := by
  have h1 : Has w0 w (Star (Star (JrnP bj bd n Jnl.J.new) (StrP v (Jnl.scan x).2.1)) (Star (DiskP bd d) (Star (BoxP b1 (pj bj) 43) R))) := (h.imp fun _ h => h.inner fun _ h => h.inner fun _ h => h.left).out3
  exact (h1.turn (Nice.star (nice_disk _ _) (Nice.star (nice_box _ _ _) hR)) fun _ hS => jrn_found hx hS).left
theorem jd_drop {X : SP} (h : Jd (Star X R) w0 w bd d bj n j b1) : Jd R w0 w bd d bj n j b1 := h.sub (Sub.inner (Sub.inner (Sub.inner (Sub.drop _ _))))
theorem jd_dj1 (h : Jd R w0 w bd d bj n j b1) : DJ R w0 w bd d bj n j := h.sub (Sub.inner (Sub.inner (Sub.drop _ _)))
theorem jd_dr (h : Jd R w0 w bd d bj n j b1) : Dr R w0 w bd d := (jd_dj1 h).sub (Sub.inner (Sub.drop _ _))
end
end Go.Proofs.YtlhnjdoicolkkaaGreatDoor

/- Open, whatever the disk holds. -/
set_option maxRecDepth 100000
namespace Go.Proofs.YtlhnjdoicolkkaaGreatDoor
open Go.RowKit Go.Dsk Go.Maps Go.WideMaps
set_option maxHeartbeats 8000000
open Jnl (J)

section
variable {w0 w : World} {bj bd b1 : Nat} {n : ByteArray} {j : J} {d : M} {R : SP} {S : Nat → Prop}
/-- What Open leaves. -/
abbrev JOpened (R : SP) (w0 w' : World) (bd : Nat) (n : ByteArray) (Z : Int × Option J × M) (e : Ending) : Prop :=
  (∃ bj j, Z.2.1 = some j ∧ e = .returned (.tuple #[pj bj, .int .i64 Z.1]) ∧ DJ R w0 w' bd Z.2.2 bj n j) ∨ (Z.2.1 = none ∧ e = .returned (.tuple #[.pointer none, .int .i64 Z.1]) ∧ Dr R w0 w' bd Z.2.2)
theorem own_rd {base : Nat} {v : Value} {l : List Bs} (h : w.ownsRow base 9 1 v l.length (l.map strV)) : RdP v l (fun i => rdBlk v = some i) w ∧ ∀ i, rdBlk v = some i → base ≤ i := by
  refine ⟨⟨fun _ => Iff.rfl, own_reads h⟩, fun i hi => ?_⟩
  obtain ⟨_, ⟨rfl, _⟩ | ⟨g, cap, cur, rfl, hg, _⟩⟩ := h
  · simp [rdBlk] at hi
  · cases hl : l.length with
    | zero => rw [hl] at hi; simp [rdBlk] at hi
    | succ m =>
      rw [hl] at hi
      simp only [rdBlk, Option.some.injEq] at hi
      omega
theorem dr_names2 (h : Dr R w0 w bd d) : Calls Tryz.prog 61 #[.pointer (some ⟨bd, 0, none⟩)] w fun e w' => ∃ v, e = .returned v ∧ w'.ownsRow w.heap.size 9 1 v d.list.length (d.list.map strV) ∧ Below w.heap.size w w' :=
  dr_quiet h (fun loc S bn bm sl bs lft hr => Names_rep hr (by have := dr_wt h; omega))
theorem Open_up (hR : Nice R) (hg : Glob w0) (h : Dr R w0 w bd d) (hnm : Jnl.jname n.data.toList = true) (hdd : d.down = false) (hn : n.size ≤ 1048576) (hw : d.wt < 1073741000) {Z : Int × Option J × M} (hZ : Jnl.opened n.data.toList d = Z) :
    Calls Tryz.prog 27 #[.pointer (some ⟨bd, 0, none⟩), .string n] w fun e w' => JOpened R w0 w' bd n Z e := by
  have hnl := new_size n
  have hll := log_size n
  have hns : (⟨(Jnl.newName n.data.toList).toArray⟩ : ByteArray).size ≤ 1073741824 := by omega
  have hls : (⟨(Jnl.logName n.data.toList).toArray⟩ : ByteArray).size ≤ 1073741824 := by omega
  obtain ⟨nb, hnb⟩ : ∃ nb : ByteArray, (⟨(Jnl.newName n.data.toList).toArray⟩ : ByteArray) = nb := ⟨_, rfl⟩
  obtain ⟨lb, hlb⟩ : ∃ lb : ByteArray, (⟨(Jnl.logName n.data.toList).toArray⟩ : ByteArray) = lb := ⟨_, rfl⟩
  have hnd : nb.data.toList = Jnl.newName n.data.toList := by rw [← hnb]
  have hld : lb.data.toList = Jnl.logName n.data.toList := by rw [← hlb]
  rw [hnb] at hns
  rw [hlb] at hls
  have hjn := jisName_any n (by omega) w
  rw [hnm] at hjn
  have hok := dr_ok h
  have HOK := Lib.hid hok
  have HNM := Lib.hid hnm
  have HDD := Lib.hid hdd
  have HNS := Lib.hid (And.intro hns (And.intro hls (And.intro hnd hld)))
  have HNB := Lib.hid (And.intro hnb hlb)
  have HG := Lib.hid hg
  have HZ := Lib.hid hZ
  have H := Lib.hid h
  have hN : Nice (Star (DiskP bd d) R) := Nice.star (nice_disk _ _) hR
  clear h hnm hdd hZ hg hnl hll hns hls hnd hld hnb hlb hok
  go_enter Tryz.func27, Tryz.ntmps27
  go_wp2_with fail
  refine hjn.mono ?_
  rintro e w1 ⟨rfl, hb1⟩
  have H1 := Lib.hid (H.out.moved hN hb1)
  clear hb1 hjn H
  go_wp2_with fail
  refine (dr_down H1.out HDD.out).mono ?_
  rintro e w2 ⟨rfl, hw2⟩
  obtain rfl := hw2
  have hj := jrn_new (n := n) hR H1.out
  have hbx := hj.new (nice_dj hR) ((Below.refl _ (w1.alloc (.cells (jCells bd n Jnl.J.new (.slice none 0 0) (.slice none 0 0)) 86))).alloc (Nat.le_refl _) (.cells #[pj w1.heap.size] 43)) (P := BoxP (w1.alloc (.cells (jCells bd n Jnl.J.new (.slice none 0 0) (.slice none 0 0)) 86)).heap.size (pj w1.heap.size) 43) (S := fun i => i = (w1.alloc (.cells (jCells bd n Jnl.J.new (.slice none 0 0) (.slice none 0 0)) 86)).heap.size) (fun i hi => by rw [hi]; exact Nat.le_refl _) ⟨fun _ => Iff.rfl, heap_alloc_new _ _⟩
  have hsz : (w1.alloc (.cells (jCells bd n Jnl.J.new (.slice none 0 0) (.slice none 0 0)) 86)).heap.size = w1.heap.size + 1 := by simp
  rw [hsz] at hbx
  have hjd : Jd R w0 ((w1.alloc (.cells (jCells bd n Jnl.J.new (.slice none 0 0) (.slice none 0 0)) 86)).alloc (.cells #[pj w1.heap.size] 43)) bd d w1.heap.size n Jnl.J.new (w1.heap.size + 1) := hbx.in3
  have e1 : jCells bd n Jnl.J.new (.slice none 0 0) (.slice none 0 0) = #[.pointer (some ⟨bd, 0, none⟩), .string n, .int .i64 1, .slice none 0 0, .slice none 0 0, .bool false, .bool false] := rfl
  rw [e1] at hjd
  have HJ := Lib.hid hjd
  clear hj hbx hsz hjd e1 H1
  go_upto_region 8 with fail
  generalize (w1.alloc (.cells #[.pointer (some ⟨bd, 0, none⟩), .string n, .int .i64 1, .slice none 0 0, .slice none 0 0, .bool false, .bool false] 86)).alloc (.cells #[pj w1.heap.size] 43) = wB at *
  generalize w1.heap.size + 1 = b1 at *
  generalize w1.heap.size = bj at *
  have hdn := dr_names2 HJ.out
  have HDN := Lib.hid hdn
  clear hdn
  go_wp2_with fail
  refine HDN.out.mono ?_
  rintro e w3 ⟨vn, rfl, hrow, hb3⟩
  obtain ⟨nr1, nr2⟩ := own_rd hrow
  have hNJ := (HJ.out.new (nice_jd hR) hb3 nr2 nr1).in4
  have hNL : Nice (Star (RdP vn d.list) R) := Nice.star (nice_rd _ _) hR
  have HN := Lib.hid hNJ
  have hrd : StrsIn w3 vn d.list := nr1.2
  obtain ⟨k1, k2, k3⟩ := jd_see hNJ
  have hc1 := contains_any hrd nb
  rw [HNS.out.2.2.1, contains_names d HDD.out] at hc1
  have HRD := Lib.hid hrd
  have HC1 := Lib.hid hc1
  clear hNJ nr1 nr2 hrow hb3 HJ HDN hrd hc1
  have hjn := jnext_any k3 hn
  rw [HNB.out.1] at hjn
  have HJN := Lib.hid hjn
  clear hjn
  cases hf : (find d.names (Jnl.newName n.data.toList)).isSome with
  | true =>
    rw [hf] at HC1
    have hcl := Jnl.cleaned_new hf
    obtain ⟨⟨rc, dc⟩, hc⟩ : ∃ p, d.remove nb.data.toList = p := ⟨_, rfl⟩
    have hcl2 : Jnl.cleaned n.data.toList d = (rc, dc) := by rw [hcl, ← HNS.out.2.2.1, hc]
    have hwc : dc.wt < 1073741001 := by
      have := remove_wt HOK.out nb.data.toList
      rw [hc] at this
      simp only at this
      omega
    have hokc : dc.Ok := by
      have := Dsk.remove_keeps HOK.out nb.data.toList
      rw [hc] at this
      exact this
    have HC := Lib.hid (And.intro hc (And.intro hcl2 hokc))
    clear hf hcl hc hcl2 hokc
    go_wp2_with fail
    refine HJN.out.mono ?_
    rintro e w4 ⟨rfl, hw4⟩
    obtain rfl := hw4.symm
    go_wp2_with fail
    refine HC1.out.mono ?_
    rintro e w4 ⟨rfl, hw4⟩
    obtain rfl := hw4.symm
    go_wp2_with fail
    refine HJN.out.mono ?_
    rintro e w4 ⟨rfl, hw4⟩
    obtain rfl := hw4.symm
    go_wp2_with fail
    refine (dr_remove (nice_jd2 hNL) HN.out nb HNS.out.1 HC.out.1 (by omega)).mono ?_
    rintro e w4 ⟨rfl, h4⟩
    have H4 := Lib.hid h4
    clear h4 HN HC1 HRD HJN k1 k2 k3
    by_cases hr : rc = 0
    · subst hr
      have HCL := Lib.hid (And.intro HC.out.2.1 HC.out.2.2)
      clear HC
      have hcf : (dc).down = false ∧ find (dc).names (Jnl.logName n.data.toList) = find d.names (Jnl.logName n.data.toList) := by
        have h := Jnl.cleaned_find (n := n.data.toList) HDD.out (by rw [HCL.out.1])
        rw [HCL.out.1] at h
        exact h
      have hrd : StrsIn w4 vn d.list := H4.out.snd.snd.snd.quiet fun _ hS => hS.2
      have hc2 := contains_any hrd lb
      rw [HNS.out.2.2.2, contains_names d HDD.out] at hc2
      obtain ⟨k1, k2, k3⟩ := jd_see H4.out
      have hjf := jfile_any k3 hn
      rw [HNB.out.2] at hjf
      have HJF := Lib.hid hjf
      obtain ⟨⟨x, rr⟩, hx⟩ : ∃ p, dc.read lb.data.toList = p := ⟨_, rfl⟩
      have hread := dr_read H4.out lb HNS.out.2.1 hx
      clear hrd hjf
      cases hf : (find d.names (Jnl.logName n.data.toList)).isSome with
      | false =>
        rw [hf] at hc2
        have HC2 := Lib.hid hc2
        have HF := Lib.hid hf
        clear hf hx hcf hc2 hread
        go_wp2_with fail
        refine HJF.out.mono ?_
        rintro e w5 ⟨rfl, hw5⟩
        obtain rfl := hw5.symm
        go_wp2_with fail
        refine HC2.out.mono ?_
        rintro e w5 ⟨rfl, hw5⟩
        obtain rfl := hw5.symm
        go_wp2_with fail
        go_ret2
        have hz : Z = (0, some Jnl.J.new, dc) := by
          have := Jnl.opened_none HNM.out HDD.out (by rw [HCL.out.1]) HF.out
          rw [HCL.out.1] at this
          exact HZ.out.symm.trans this
        rw [hz]
        exact .inl ⟨bj, _, rfl, rfl, jd_dj1 (jd_drop H4.out)⟩
      | true =>
        rw [hf] at hc2
        have HC2 := Lib.hid hc2
        have hx2 := Jnl.read_some hcf.1 (by rw [hcf.2]; exact hf)
        rw [← HNS.out.2.2.2, hx] at hx2
        simp only at hx2
        subst hx2
        have hxs : x.length ≤ 16777216 := by
          have := Jnl.read_size HCL.out.2 lb.data.toList
          rw [hx] at this
          exact this
        have hz : Z = Jnl.opened2 n.data.toList dc x := by
          have := Jnl.opened_some HNM.out HDD.out (by rw [HCL.out.1]) hf
          rw [HCL.out.1] at this
          simp only at this
          rw [← HNS.out.2.2.2, hx] at this
          exact HZ.out.symm.trans this
        obtain ⟨xb, hxb⟩ : ∃ xb : ByteArray, (⟨x.toArray⟩ : ByteArray) = xb := ⟨_, rfl⟩
        have hxl : xb.data.toList = x := by rw [← hxb]
        have hxz : xb.size = x.length := by rw [← hxl]; rfl
        have hsc := fun w1 (hb : Glob w1) => Scan_any xb (by omega) (w := w1) hb
        rw [hxl] at hsc
        rw [hxb] at hread
        obtain ⟨k, hk⟩ : ∃ k, (Jnl.scan x).2.2 = k := ⟨_, rfl⟩
        have hkl := (Jnl.scan_fit x).2.2.2
        rw [hk] at hkl
        simp only [hk] at hsc
        have HSC := Lib.hid hsc
        have HX := Lib.hid (And.intro hz (And.intro hxl (And.intro hk hxs)))
        have HRE := Lib.hid hread
        clear hf hx hcf hz hxb hxl hsc hk HZ hc2 hread
        go_wp2_with fail
        refine HJF.out.mono ?_
        rintro e w5 ⟨rfl, hw5⟩
        obtain rfl := hw5.symm
        go_wp2_with fail
        refine HC2.out.mono ?_
        rintro e w5 ⟨rfl, hw5⟩
        obtain rfl := hw5.symm
        go_wp2_with fail
        refine HJF.out.mono ?_
        rintro e w5 ⟨rfl, hw5⟩
        obtain rfl := hw5.symm
        go_wp2_with fail
        refine HRE.out.mono ?_
        rintro e w5 ⟨rfl, hw5⟩
        obtain rfl := hw5
        go_wp2_with fail
        refine (HSC.out _ (HG.out.below H4.out.below)).mono ?_
        rintro e w6 ⟨v, rfl, hrow, hb6⟩
        have HSH := Lib.hid (show ∃ av cv, v = .slice av (Jnl.scan x).2.1.length cv from by obtain ⟨av, cv, h, -⟩ := hrow.reads; exact ⟨av, cv, h⟩)
        have hcap : ∀ a cap, v = .slice a 0 cap → cap = 0 := fun a cap e => by
          have h0 : (Jnl.scan x).2.1 = [] := by
            obtain ⟨av, cv, h⟩ := HSH.out
            rw [e] at h
            simp only [Value.slice.injEq] at h
            exact List.length_eq_zero_iff.1 h.2.1.symm
          have := hrow.2 h0
          rw [e] at this
          simp only [Value.slice.injEq] at this
          exact this.2.2
        have h6 := (H4.out.new (nice_jd hNL) hb6 (fun i hi => (hrow.1.lt i hi).1) (str_row hrow.1 hcap)).in4
        have H6 := Lib.hid h6
        have hRR : Nice (Star (StrP v (Jnl.scan x).2.1) (Star (RdP vn d.list) R)) := Nice.star (nice_str _ _) hNL
        obtain ⟨q1, q2, q3⟩ := jd_see h6
        clear hrow hcap hb6 h6 HRE HSC H4 HC2 HJF k1 k2 k3
        obtain ⟨f, hf⟩ : ∃ f, f = (Jnl.scan x).1 := ⟨_, rfl⟩
        rw [← hf]
        have HF := Lib.hid hf
        clear hf
        by_cases hk0 : k = 0
        · subst hk0
          obtain ⟨⟨r2, j2, d2⟩, hZ2⟩ : ∃ p, Jnl.run [Jnl.removes (Jnl.logName n.data.toList), Jnl.publishes] Jnl.J.new dc = p := ⟨_, rfl⟩
          have h7 := H6.out.moved (nice_jd hRR) (Below.refl _ w6).drew
          have hS := steps_new (nice_jd hRR) h7 (bd := bd) (b1 := b1) (b2 := b1) (ks := [.opA, .pub]) #[.func (.func 66) #[] #[pbox b1], .func (.func 58) #[pbox bd] #[]] rfl (by decide)
          have hS2 := hS.in4.imp fun _ h => h.inner fun _ h => h.inner fun _ h => h.inner fun _ h => star_nil h
          have hcall := run_any (ks := [.opA, .pub]) (x := []) Nice.nil hRR (fun k hk => by
            simp only [List.mem_cons, List.not_mem_nil, or_false] at hk
            rcases hk with rfl | rfl <;> exact trivial) hS2 hn (by simp) (by simp only [List.length_cons, List.length_nil]; omega)
          have hsteps : ([.opA, .pub] : List Sk).map (Sk.step n.data.toList []) = [Jnl.removes (Jnl.logName n.data.toList), Jnl.publishes] := rfl
          rw [hsteps, hZ2] at hcall
          have HCALL := Lib.hid hcall
          have hzz := Jnl.opened2_run (n := n.data.toList) (x := x) (d := dc) (if_pos HX.out.2.2.1)
          rw [hZ2] at hzz
          have HZZ := Lib.hid (And.intro (HX.out.1.trans hzz) hZ2)
          clear h7 hS hS2 hcall hsteps hzz hZ2
          go_upto_region 20 with fail
          go_region_held3 (fun w' => w'.cell? ⟨b1, 0, none⟩ = some (pj bj) ∧ w'.cell? ⟨bj, 0, none⟩ = some (.pointer (some ⟨bd, 0, none⟩))) (go_keep)
            (first
              | (go_at_call 59
                 refine HCALL.out.mono ?_
                 rintro e w7 ⟨rfl, he⟩
                 obtain ⟨p1, p2, -⟩ := jd_see he
                 have H7 := Lib.hid (jd_drop (jd_drop he))
                 clear he))
          all_goals
            clear HCALL H6
            by_cases hr2 : r2 = 0
            · subst hr2
              have hj2 : j2 = Jnl.J.new := by
                have := run_ok (l := [Jnl.removes (Jnl.logName n.data.toList), Jnl.publishes]) (j := Jnl.J.new) (d := dc) (by rw [HZZ.out.2])
                rw [HZZ.out.2] at this
                exact this
              subst hj2
              have hz : Z = (0, some (Jnl.opJ x), d2) := HZZ.out.1.trans (if_pos rfl)
              subst hz
              obtain ⟨av, cv, rfl⟩ := HSH.out
              have hff := jd_found hNL HX.out.2.2.2 H7.out
              obtain ⟨m1, m2, m3⟩ := jd_see H7.out
              have hdl : b1 ≠ bj := by
                obtain ⟨_, U, _, S, T, _, _, _, S2, T2, _, hd, ⟨_, _, _, A, B, hu3, _, h3, _⟩, S3, T3, hu4, _, hb, _⟩ := H7.out
                intro e
                exact hd bj ((hu3 bj).2 (.inl ((h3.1 bj).2 rfl))) ((hu4 bj).2 (.inl ((hb.1 bj).2 e.symm)))
              obtain ⟨vr, vp, hs⟩ := jr_see H7.out.left
              have e1 := block_set hs.hd 2 (.int .i64 f)
              have e2 := block_set e1 3 (.slice av (Jnl.scan x).2.1.length cv)
              have y2 := block_cell hs.hd 2
              have y3 := block_cell e1 3
              have y5 := block_cell e2 5
              have z2 := block_free hs.hd 2
              have z3 := block_free e1 3
              have z5 := block_free e2 5
              simp [jCells] at y2 y3 y5
              have m4 : (w7.setCell ⟨bj, 2, none⟩ (.int .i64 f)).cell? ⟨b1, 0, none⟩ = some (pj bj) := (World.cell?_of_block (a := ⟨b1, 0, none⟩) (block_other hdl _)).trans m1
              have m5 : ((w7.setCell ⟨bj, 2, none⟩ (.int .i64 f)).setCell ⟨bj, 3, none⟩ (.slice av (Jnl.scan x).2.1.length cv)).cell? ⟨b1, 0, none⟩ = some (pj bj) := (World.cell?_of_block (a := ⟨b1, 0, none⟩) (block_other hdl _)).trans m4
              rw [← HF.out, HX.out.2.2.1] at hff
              rw [show decide ((0 : Nat) < 0) = false from rfl] at hff
              unfold fset at hff
              obtain ⟨-, -, -⟩ := jd_see hff
              have m6 := (jd_see hff).1
              have HFIN := Lib.hid hff
              clear hff hs e1 e2 hdl H7
              go_upto_region 25 with fail
              go_region
              all_goals
                go_wp2_with fail
                go_ret2
                exact .inl ⟨bj, _, rfl, rfl, jd_dj1 (jd_drop (HFIN.out.moved (nice_jd hNL) (Below.refl _ _).drew))⟩
            · have hr' : (r2 != 0) = true := by simpa using hr2
              have hz : Z = (r2, none, d2) := HZZ.out.1.trans (if_neg hr2)
              subst hz
              go_wp2_with fail
              go_ret2
              exact .inr ⟨rfl, rfl, jd_dr (jd_drop (jd_drop H7.out))⟩
        · have hk0' : ((k : Int) == 0) = false := by simpa using hk0
          by_cases hkx : k < xb.size
          · have hkx' : ((k : Int) < (xb.size : Int)) = True := by simp; omega
            have hq0 : (0 : Int) ≤ (k : Int) := by omega
            have hq1 : (k : Int) ≤ (xb.size : Int) := by omega
            obtain ⟨y, hy⟩ : ∃ y, xb.extract 0 k = y := ⟨_, rfl⟩
            have hyl : y.data.toList = x.take k := by rw [← hy, ba_take, HX.out.2.1]
            have hys : y.size ≤ 1073741824 := by
              rw [← hy, ByteArray.size_extract]
              have := HX.out.2.2.2
              omega
            obtain ⟨⟨r2, j2, d2⟩, hZ2⟩ : ∃ p, Jnl.run (Jnl.replaceSteps n.data.toList y.data.toList) Jnl.J.new dc = p := ⟨_, rfl⟩
            have hkn : (Jnl.scan x).2.2 ≠ 0 := by rw [HX.out.2.2.1]; exact hk0
            have hkn2 : (Jnl.scan x).2.2 < x.length := by rw [HX.out.2.2.1, ← hxz]; exact hkx
            have hz2 := hZ2
            rw [hyl, ← HX.out.2.2.1] at hz2
            have hp1 : r2 ≠ 0 → Z = (r2, none, d2) := fun h => HX.out.1.trans (Jnl.opened2_part1 hkn hkn2 hz2 h)
            have hp2 : r2 = 0 → Z = (0, some (Jnl.opJ x), d2) := fun h => HX.out.1.trans (Jnl.opened2_part2 hkn hkn2 hz2 h)
            have HZZ := Lib.hid (And.intro hp1 (And.intro hp2 hZ2))
            have hcall := replace_any (Nice.star (nice_box b1 (pj bj) 43) hRR) (H6.out.moved (nice_jd hRR) (Below.refl _ w6).drew) y hys hn (by omega) hZ2
            have HCALL := Lib.hid hcall
            clear hZ2 hyl hkn hkn2 hz2 hp1 hp2 hcall
            go_upto_region 22 with fail
            go_region_held3 (fun w' => w'.cell? ⟨b1, 0, none⟩ = some (pj bj)) (go_keep)
              (first
                | (go_at_call 67
                   refine HCALL.out.mono ?_
                   rintro e w7 ⟨rfl, he⟩
                   obtain ⟨p1, p2, -⟩ := jd_see he
                   have H7 := Lib.hid he
                   clear he))
            all_goals
              clear HCALL H6
              by_cases hr2 : r2 = 0
              · subst hr2
                have hj2 : j2 = Jnl.J.new := by
                  have := run_ok (l := Jnl.replaceSteps n.data.toList y.data.toList) (j := Jnl.J.new) (d := dc) (by rw [HZZ.out.2.2])
                  rw [HZZ.out.2.2] at this
                  exact this
                subst hj2
                have hz : Z = (0, some (Jnl.opJ x), d2) := HZZ.out.2.1 rfl
                subst hz
                obtain ⟨av, cv, rfl⟩ := HSH.out
                have hff := jd_found hNL HX.out.2.2.2 H7.out
                obtain ⟨m1, m2, m3⟩ := jd_see H7.out
                have hdl : b1 ≠ bj := by
                  obtain ⟨_, U, _, S, T, _, _, _, S2, T2, _, hd, ⟨_, _, _, A, B, hu3, _, h3, _⟩, S3, T3, hu4, _, hb, _⟩ := H7.out
                  intro e
                  exact hd bj ((hu3 bj).2 (.inl ((h3.1 bj).2 rfl))) ((hu4 bj).2 (.inl ((hb.1 bj).2 e.symm)))
                obtain ⟨vr, vp, hs⟩ := jr_see H7.out.left
                have e1 := block_set hs.hd 2 (.int .i64 f)
                have e2 := block_set e1 3 (.slice av (Jnl.scan x).2.1.length cv)
                have y2 := block_cell hs.hd 2
                have y3 := block_cell e1 3
                have y5 := block_cell e2 5
                have z2 := block_free hs.hd 2
                have z3 := block_free e1 3
                have z5 := block_free e2 5
                simp [jCells] at y2 y3 y5
                have m4 : (w7.setCell ⟨bj, 2, none⟩ (.int .i64 f)).cell? ⟨b1, 0, none⟩ = some (pj bj) := (World.cell?_of_block (a := ⟨b1, 0, none⟩) (block_other hdl _)).trans m1
                have m5 : ((w7.setCell ⟨bj, 2, none⟩ (.int .i64 f)).setCell ⟨bj, 3, none⟩ (.slice av (Jnl.scan x).2.1.length cv)).cell? ⟨b1, 0, none⟩ = some (pj bj) := (World.cell?_of_block (a := ⟨b1, 0, none⟩) (block_other hdl _)).trans m4
                rw [← HF.out, HX.out.2.2.1] at hff
                unfold fset at hff
                obtain ⟨-, -, -⟩ := jd_see hff
                have m6 := (jd_see hff).1
                have HFIN := Lib.hid hff
                clear hff hs e1 e2 hdl H7
                have hkb : decide ((0 : Int) < (k : Int)) = decide (0 < k) := by rw [Bool.eq_iff_iff]; simp
                go_upto_region 25 with fail
                go_region
                all_goals
                  go_wp2_with fail
                  go_ret2
                  exact .inl ⟨bj, _, rfl, rfl, jd_dj1 (jd_drop (HFIN.out.moved (nice_jd hNL) (Below.refl _ _).drew))⟩
              · have hr' : (r2 != 0) = true := by simpa using hr2
                have hz : Z = (r2, none, d2) := HZZ.out.1 hr2
                subst hz
                go_wp2_with fail
                go_ret2
                exact .inr ⟨rfl, rfl, jd_dr (jd_drop (jd_drop H7.out))⟩
          · have hkx' : ((k : Int) < (xb.size : Int)) = False := by simp; omega
            have hkn : (Jnl.scan x).2.2 ≠ 0 := by rw [HX.out.2.2.1]; exact hk0
            have hkn2 : ¬ (Jnl.scan x).2.2 < x.length := by rw [HX.out.2.2.1, ← hxz]; exact hkx
            have hz : Z = (0, some (Jnl.opJ x), dc) := HX.out.1.trans (Jnl.opened2_all hkn hkn2)
            subst hz
            have H7 := H6
            clear hkn hkn2 H6
            obtain ⟨av, cv, rfl⟩ := HSH.out
            have hff := jd_found hNL HX.out.2.2.2 H7.out
            obtain ⟨m1, m2, m3⟩ := jd_see H7.out
            have hdl : b1 ≠ bj := by
              obtain ⟨_, U, _, S, T, _, _, _, S2, T2, _, hd, ⟨_, _, _, A, B, hu3, _, h3, _⟩, S3, T3, hu4, _, hb, _⟩ := H7.out
              intro e
              exact hd bj ((hu3 bj).2 (.inl ((h3.1 bj).2 rfl))) ((hu4 bj).2 (.inl ((hb.1 bj).2 e.symm)))
            obtain ⟨vr, vp, hs⟩ := jr_see H7.out.left
            have e1 := block_set hs.hd 2 (.int .i64 f)
            have e2 := block_set e1 3 (.slice av (Jnl.scan x).2.1.length cv)
            have y2 := block_cell hs.hd 2
            have y3 := block_cell e1 3
            have y5 := block_cell e2 5
            have z2 := block_free hs.hd 2
            have z3 := block_free e1 3
            have z5 := block_free e2 5
            simp [jCells] at y2 y3 y5
            have m4 : (w6.setCell ⟨bj, 2, none⟩ (.int .i64 f)).cell? ⟨b1, 0, none⟩ = some (pj bj) := (World.cell?_of_block (a := ⟨b1, 0, none⟩) (block_other hdl _)).trans m1
            have m5 : ((w6.setCell ⟨bj, 2, none⟩ (.int .i64 f)).setCell ⟨bj, 3, none⟩ (.slice av (Jnl.scan x).2.1.length cv)).cell? ⟨b1, 0, none⟩ = some (pj bj) := (World.cell?_of_block (a := ⟨b1, 0, none⟩) (block_other hdl _)).trans m4
            rw [← HF.out, HX.out.2.2.1] at hff
            unfold fset at hff
            obtain ⟨-, -, -⟩ := jd_see hff
            have m6 := (jd_see hff).1
            have HFIN := Lib.hid hff
            clear hff hs e1 e2 hdl H7
            have hkb : decide ((0 : Int) < (k : Int)) = decide (0 < k) := by rw [Bool.eq_iff_iff]; simp
            go_upto_region 25 with fail
            go_region
            all_goals
              go_wp2_with fail
              go_ret2
              exact .inl ⟨bj, _, rfl, rfl, jd_dj1 (jd_drop (HFIN.out.moved (nice_jd hNL) (Below.refl _ _).drew))⟩
    · have hr' : (rc != 0) = true := by simpa using hr
      go_wp2_with fail
      go_ret2
      have hz : Z = (rc, none, dc) := by
        have := Jnl.opened_unclean HNM.out HDD.out (by rw [HC.out.2.1]; exact hr)
        rw [HC.out.2.1] at this
        exact HZ.out.symm.trans this
      rw [hz]
      exact .inr ⟨rfl, rfl, jd_dr (jd_drop H4.out)⟩
  | false =>
    rw [hf] at HC1
    have hcl2 : Jnl.cleaned n.data.toList d = (0, d) := Jnl.cleaned_not hf
    have HCL := Lib.hid (And.intro hcl2 HOK.out)
    have hwc : d.wt < 1073741001 := by omega
    clear hf hcl2
    go_wp2_with fail
    refine HJN.out.mono ?_
    rintro e w4 ⟨rfl, hw4⟩
    obtain rfl := hw4.symm
    go_wp2_with fail
    refine HC1.out.mono ?_
    rintro e w4 ⟨rfl, hw4⟩
    obtain rfl := hw4.symm
    have H4 := HN
    clear HN HC1 HRD HJN k1 k2 k3
    have hcf : (d).down = false ∧ find (d).names (Jnl.logName n.data.toList) = find d.names (Jnl.logName n.data.toList) := by
      have h := Jnl.cleaned_find (n := n.data.toList) HDD.out (by rw [HCL.out.1])
      rw [HCL.out.1] at h
      exact h
    have hrd : StrsIn w3 vn d.list := H4.out.snd.snd.snd.quiet fun _ hS => hS.2
    have hc2 := contains_any hrd lb
    rw [HNS.out.2.2.2, contains_names d HDD.out] at hc2
    obtain ⟨k1, k2, k3⟩ := jd_see H4.out
    have hjf := jfile_any k3 hn
    rw [HNB.out.2] at hjf
    have HJF := Lib.hid hjf
    obtain ⟨⟨x, rr⟩, hx⟩ : ∃ p, d.read lb.data.toList = p := ⟨_, rfl⟩
    have hread := dr_read H4.out lb HNS.out.2.1 hx
    clear hrd hjf
    cases hf : (find d.names (Jnl.logName n.data.toList)).isSome with
    | false =>
      rw [hf] at hc2
      have HC2 := Lib.hid hc2
      have HF := Lib.hid hf
      clear hf hx hcf hc2 hread
      go_wp2_with fail
      refine HJF.out.mono ?_
      rintro e w5 ⟨rfl, hw5⟩
      obtain rfl := hw5.symm
      go_wp2_with fail
      refine HC2.out.mono ?_
      rintro e w5 ⟨rfl, hw5⟩
      obtain rfl := hw5.symm
      go_wp2_with fail
      go_ret2
      have hz : Z = (0, some Jnl.J.new, d) := by
        have := Jnl.opened_none HNM.out HDD.out (by rw [HCL.out.1]) HF.out
        rw [HCL.out.1] at this
        exact HZ.out.symm.trans this
      rw [hz]
      exact .inl ⟨bj, _, rfl, rfl, jd_dj1 (jd_drop H4.out)⟩
    | true =>
      rw [hf] at hc2
      have HC2 := Lib.hid hc2
      have hx2 := Jnl.read_some hcf.1 (by rw [hcf.2]; exact hf)
      rw [← HNS.out.2.2.2, hx] at hx2
      simp only at hx2
      subst hx2
      have hxs : x.length ≤ 16777216 := by
        have := Jnl.read_size HCL.out.2 lb.data.toList
        rw [hx] at this
        exact this
      have hz : Z = Jnl.opened2 n.data.toList d x := by
        have := Jnl.opened_some HNM.out HDD.out (by rw [HCL.out.1]) hf
        rw [HCL.out.1] at this
        simp only at this
        rw [← HNS.out.2.2.2, hx] at this
        exact HZ.out.symm.trans this
      obtain ⟨xb, hxb⟩ : ∃ xb : ByteArray, (⟨x.toArray⟩ : ByteArray) = xb := ⟨_, rfl⟩
      have hxl : xb.data.toList = x := by rw [← hxb]
      have hxz : xb.size = x.length := by rw [← hxl]; rfl
      have hsc := fun w1 (hb : Glob w1) => Scan_any xb (by omega) (w := w1) hb
      rw [hxl] at hsc
      rw [hxb] at hread
      obtain ⟨k, hk⟩ : ∃ k, (Jnl.scan x).2.2 = k := ⟨_, rfl⟩
      have hkl := (Jnl.scan_fit x).2.2.2
      rw [hk] at hkl
      simp only [hk] at hsc
      have HSC := Lib.hid hsc
      have HX := Lib.hid (And.intro hz (And.intro hxl (And.intro hk hxs)))
      have HRE := Lib.hid hread
      clear hf hx hcf hz hxb hxl hsc hk HZ hc2 hread
      go_wp2_with fail
      refine HJF.out.mono ?_
      rintro e w5 ⟨rfl, hw5⟩
      obtain rfl := hw5.symm
      go_wp2_with fail
      refine HC2.out.mono ?_
      rintro e w5 ⟨rfl, hw5⟩
      obtain rfl := hw5.symm
      go_wp2_with fail
      refine HJF.out.mono ?_
      rintro e w5 ⟨rfl, hw5⟩
      obtain rfl := hw5.symm
      go_wp2_with fail
      refine HRE.out.mono ?_
      rintro e w5 ⟨rfl, hw5⟩
      obtain rfl := hw5
      go_wp2_with fail
      refine (HSC.out _ (HG.out.below H4.out.below)).mono ?_
      rintro e w6 ⟨v, rfl, hrow, hb6⟩
      have HSH := Lib.hid (show ∃ av cv, v = .slice av (Jnl.scan x).2.1.length cv from by obtain ⟨av, cv, h, -⟩ := hrow.reads; exact ⟨av, cv, h⟩)
      have hcap : ∀ a cap, v = .slice a 0 cap → cap = 0 := fun a cap e => by
        have h0 : (Jnl.scan x).2.1 = [] := by
          obtain ⟨av, cv, h⟩ := HSH.out
          rw [e] at h
          simp only [Value.slice.injEq] at h
          exact List.length_eq_zero_iff.1 h.2.1.symm
        have := hrow.2 h0
        rw [e] at this
        simp only [Value.slice.injEq] at this
        exact this.2.2
      have h6 := (H4.out.new (nice_jd hNL) hb6 (fun i hi => (hrow.1.lt i hi).1) (str_row hrow.1 hcap)).in4
      have H6 := Lib.hid h6
      have hRR : Nice (Star (StrP v (Jnl.scan x).2.1) (Star (RdP vn d.list) R)) := Nice.star (nice_str _ _) hNL
      obtain ⟨q1, q2, q3⟩ := jd_see h6
      clear hrow hcap hb6 h6 HRE HSC H4 HC2 HJF k1 k2 k3
      obtain ⟨f, hf⟩ : ∃ f, f = (Jnl.scan x).1 := ⟨_, rfl⟩
      rw [← hf]
      have HF := Lib.hid hf
      clear hf
      by_cases hk0 : k = 0
      · subst hk0
        obtain ⟨⟨r2, j2, d2⟩, hZ2⟩ : ∃ p, Jnl.run [Jnl.removes (Jnl.logName n.data.toList), Jnl.publishes] Jnl.J.new d = p := ⟨_, rfl⟩
        have h7 := H6.out.moved (nice_jd hRR) (Below.refl _ w6).drew
        have hS := steps_new (nice_jd hRR) h7 (bd := bd) (b1 := b1) (b2 := b1) (ks := [.opA, .pub]) #[.func (.func 66) #[] #[pbox b1], .func (.func 58) #[pbox bd] #[]] rfl (by decide)
        have hS2 := hS.in4.imp fun _ h => h.inner fun _ h => h.inner fun _ h => h.inner fun _ h => star_nil h
        have hcall := run_any (ks := [.opA, .pub]) (x := []) Nice.nil hRR (fun k hk => by
          simp only [List.mem_cons, List.not_mem_nil, or_false] at hk
          rcases hk with rfl | rfl <;> exact trivial) hS2 hn (by simp) (by simp only [List.length_cons, List.length_nil]; omega)
        have hsteps : ([.opA, .pub] : List Sk).map (Sk.step n.data.toList []) = [Jnl.removes (Jnl.logName n.data.toList), Jnl.publishes] := rfl
        rw [hsteps, hZ2] at hcall
        have HCALL := Lib.hid hcall
        have hzz := Jnl.opened2_run (n := n.data.toList) (x := x) (d := d) (if_pos HX.out.2.2.1)
        rw [hZ2] at hzz
        have HZZ := Lib.hid (And.intro (HX.out.1.trans hzz) hZ2)
        clear h7 hS hS2 hcall hsteps hzz hZ2
        go_upto_region 20 with fail
        go_region_held3 (fun w' => w'.cell? ⟨b1, 0, none⟩ = some (pj bj) ∧ w'.cell? ⟨bj, 0, none⟩ = some (.pointer (some ⟨bd, 0, none⟩))) (go_keep)
          (first
            | (go_at_call 59
               refine HCALL.out.mono ?_
               rintro e w7 ⟨rfl, he⟩
               obtain ⟨p1, p2, -⟩ := jd_see he
               have H7 := Lib.hid (jd_drop (jd_drop he))
               clear he))
        all_goals
          clear HCALL H6
          by_cases hr2 : r2 = 0
          · subst hr2
            have hj2 : j2 = Jnl.J.new := by
              have := run_ok (l := [Jnl.removes (Jnl.logName n.data.toList), Jnl.publishes]) (j := Jnl.J.new) (d := d) (by rw [HZZ.out.2])
              rw [HZZ.out.2] at this
              exact this
            subst hj2
            have hz : Z = (0, some (Jnl.opJ x), d2) := HZZ.out.1.trans (if_pos rfl)
            subst hz
            obtain ⟨av, cv, rfl⟩ := HSH.out
            have hff := jd_found hNL HX.out.2.2.2 H7.out
            obtain ⟨m1, m2, m3⟩ := jd_see H7.out
            have hdl : b1 ≠ bj := by
              obtain ⟨_, U, _, S, T, _, _, _, S2, T2, _, hd, ⟨_, _, _, A, B, hu3, _, h3, _⟩, S3, T3, hu4, _, hb, _⟩ := H7.out
              intro e
              exact hd bj ((hu3 bj).2 (.inl ((h3.1 bj).2 rfl))) ((hu4 bj).2 (.inl ((hb.1 bj).2 e.symm)))
            obtain ⟨vr, vp, hs⟩ := jr_see H7.out.left
            have e1 := block_set hs.hd 2 (.int .i64 f)
            have e2 := block_set e1 3 (.slice av (Jnl.scan x).2.1.length cv)
            have y2 := block_cell hs.hd 2
            have y3 := block_cell e1 3
            have y5 := block_cell e2 5
            have z2 := block_free hs.hd 2
            have z3 := block_free e1 3
            have z5 := block_free e2 5
            simp [jCells] at y2 y3 y5
            have m4 : (w7.setCell ⟨bj, 2, none⟩ (.int .i64 f)).cell? ⟨b1, 0, none⟩ = some (pj bj) := (World.cell?_of_block (a := ⟨b1, 0, none⟩) (block_other hdl _)).trans m1
            have m5 : ((w7.setCell ⟨bj, 2, none⟩ (.int .i64 f)).setCell ⟨bj, 3, none⟩ (.slice av (Jnl.scan x).2.1.length cv)).cell? ⟨b1, 0, none⟩ = some (pj bj) := (World.cell?_of_block (a := ⟨b1, 0, none⟩) (block_other hdl _)).trans m4
            rw [← HF.out, HX.out.2.2.1] at hff
            rw [show decide ((0 : Nat) < 0) = false from rfl] at hff
            unfold fset at hff
            obtain ⟨-, -, -⟩ := jd_see hff
            have m6 := (jd_see hff).1
            have HFIN := Lib.hid hff
            clear hff hs e1 e2 hdl H7
            go_upto_region 25 with fail
            go_region
            all_goals
              go_wp2_with fail
              go_ret2
              exact .inl ⟨bj, _, rfl, rfl, jd_dj1 (jd_drop (HFIN.out.moved (nice_jd hNL) (Below.refl _ _).drew))⟩
          · have hr' : (r2 != 0) = true := by simpa using hr2
            have hz : Z = (r2, none, d2) := HZZ.out.1.trans (if_neg hr2)
            subst hz
            go_wp2_with fail
            go_ret2
            exact .inr ⟨rfl, rfl, jd_dr (jd_drop (jd_drop H7.out))⟩
      · have hk0' : ((k : Int) == 0) = false := by simpa using hk0
        by_cases hkx : k < xb.size
        · have hkx' : ((k : Int) < (xb.size : Int)) = True := by simp; omega
          have hq0 : (0 : Int) ≤ (k : Int) := by omega
          have hq1 : (k : Int) ≤ (xb.size : Int) := by omega
          obtain ⟨y, hy⟩ : ∃ y, xb.extract 0 k = y := ⟨_, rfl⟩
          have hyl : y.data.toList = x.take k := by rw [← hy, ba_take, HX.out.2.1]
          have hys : y.size ≤ 1073741824 := by
            rw [← hy, ByteArray.size_extract]
            have := HX.out.2.2.2
            omega
          obtain ⟨⟨r2, j2, d2⟩, hZ2⟩ : ∃ p, Jnl.run (Jnl.replaceSteps n.data.toList y.data.toList) Jnl.J.new d = p := ⟨_, rfl⟩
          have hkn : (Jnl.scan x).2.2 ≠ 0 := by rw [HX.out.2.2.1]; exact hk0
          have hkn2 : (Jnl.scan x).2.2 < x.length := by rw [HX.out.2.2.1, ← hxz]; exact hkx
          have hz2 := hZ2
          rw [hyl, ← HX.out.2.2.1] at hz2
          have hp1 : r2 ≠ 0 → Z = (r2, none, d2) := fun h => HX.out.1.trans (Jnl.opened2_part1 hkn hkn2 hz2 h)
          have hp2 : r2 = 0 → Z = (0, some (Jnl.opJ x), d2) := fun h => HX.out.1.trans (Jnl.opened2_part2 hkn hkn2 hz2 h)
          have HZZ := Lib.hid (And.intro hp1 (And.intro hp2 hZ2))
          have hcall := replace_any (Nice.star (nice_box b1 (pj bj) 43) hRR) (H6.out.moved (nice_jd hRR) (Below.refl _ w6).drew) y hys hn (by omega) hZ2
          have HCALL := Lib.hid hcall
          clear hZ2 hyl hkn hkn2 hz2 hp1 hp2 hcall
          go_upto_region 22 with fail
          go_region_held3 (fun w' => w'.cell? ⟨b1, 0, none⟩ = some (pj bj)) (go_keep)
            (first
              | (go_at_call 67
                 refine HCALL.out.mono ?_
                 rintro e w7 ⟨rfl, he⟩
                 obtain ⟨p1, p2, -⟩ := jd_see he
                 have H7 := Lib.hid he
                 clear he))
          all_goals
            clear HCALL H6
            by_cases hr2 : r2 = 0
            · subst hr2
              have hj2 : j2 = Jnl.J.new := by
                have := run_ok (l := Jnl.replaceSteps n.data.toList y.data.toList) (j := Jnl.J.new) (d := d) (by rw [HZZ.out.2.2])
                rw [HZZ.out.2.2] at this
                exact this
              subst hj2
              have hz : Z = (0, some (Jnl.opJ x), d2) := HZZ.out.2.1 rfl
              subst hz
              obtain ⟨av, cv, rfl⟩ := HSH.out
              have hff := jd_found hNL HX.out.2.2.2 H7.out
              obtain ⟨m1, m2, m3⟩ := jd_see H7.out
              have hdl : b1 ≠ bj := by
                obtain ⟨_, U, _, S, T, _, _, _, S2, T2, _, hd, ⟨_, _, _, A, B, hu3, _, h3, _⟩, S3, T3, hu4, _, hb, _⟩ := H7.out
                intro e
                exact hd bj ((hu3 bj).2 (.inl ((h3.1 bj).2 rfl))) ((hu4 bj).2 (.inl ((hb.1 bj).2 e.symm)))
              obtain ⟨vr, vp, hs⟩ := jr_see H7.out.left
              have e1 := block_set hs.hd 2 (.int .i64 f)
              have e2 := block_set e1 3 (.slice av (Jnl.scan x).2.1.length cv)
              have y2 := block_cell hs.hd 2
              have y3 := block_cell e1 3
              have y5 := block_cell e2 5
              have z2 := block_free hs.hd 2
              have z3 := block_free e1 3
              have z5 := block_free e2 5
              simp [jCells] at y2 y3 y5
              have m4 : (w7.setCell ⟨bj, 2, none⟩ (.int .i64 f)).cell? ⟨b1, 0, none⟩ = some (pj bj) := (World.cell?_of_block (a := ⟨b1, 0, none⟩) (block_other hdl _)).trans m1
              have m5 : ((w7.setCell ⟨bj, 2, none⟩ (.int .i64 f)).setCell ⟨bj, 3, none⟩ (.slice av (Jnl.scan x).2.1.length cv)).cell? ⟨b1, 0, none⟩ = some (pj bj) := (World.cell?_of_block (a := ⟨b1, 0, none⟩) (block_other hdl _)).trans m4
              rw [← HF.out, HX.out.2.2.1] at hff
              unfold fset at hff
              obtain ⟨-, -, -⟩ := jd_see hff
              have m6 := (jd_see hff).1
              have HFIN := Lib.hid hff
              clear hff hs e1 e2 hdl H7
              have hkb : decide ((0 : Int) < (k : Int)) = decide (0 < k) := by rw [Bool.eq_iff_iff]; simp
              go_upto_region 25 with fail
              go_region
              all_goals
                go_wp2_with fail
                go_ret2
                exact .inl ⟨bj, _, rfl, rfl, jd_dj1 (jd_drop (HFIN.out.moved (nice_jd hNL) (Below.refl _ _).drew))⟩
            · have hr' : (r2 != 0) = true := by simpa using hr2
              have hz : Z = (r2, none, d2) := HZZ.out.1 hr2
              subst hz
              go_wp2_with fail
              go_ret2
              exact .inr ⟨rfl, rfl, jd_dr (jd_drop (jd_drop H7.out))⟩
        · have hkx' : ((k : Int) < (xb.size : Int)) = False := by simp; omega
          have hkn : (Jnl.scan x).2.2 ≠ 0 := by rw [HX.out.2.2.1]; exact hk0
          have hkn2 : ¬ (Jnl.scan x).2.2 < x.length := by rw [HX.out.2.2.1, ← hxz]; exact hkx
          have hz : Z = (0, some (Jnl.opJ x), d) := HX.out.1.trans (Jnl.opened2_all hkn hkn2)
          subst hz
          have H7 := H6
          clear hkn hkn2 H6
          obtain ⟨av, cv, rfl⟩ := HSH.out
          have hff := jd_found hNL HX.out.2.2.2 H7.out
          obtain ⟨m1, m2, m3⟩ := jd_see H7.out
          have hdl : b1 ≠ bj := by
            obtain ⟨_, U, _, S, T, _, _, _, S2, T2, _, hd, ⟨_, _, _, A, B, hu3, _, h3, _⟩, S3, T3, hu4, _, hb, _⟩ := H7.out
            intro e
            exact hd bj ((hu3 bj).2 (.inl ((h3.1 bj).2 rfl))) ((hu4 bj).2 (.inl ((hb.1 bj).2 e.symm)))
          obtain ⟨vr, vp, hs⟩ := jr_see H7.out.left
          have e1 := block_set hs.hd 2 (.int .i64 f)
          have e2 := block_set e1 3 (.slice av (Jnl.scan x).2.1.length cv)
          have y2 := block_cell hs.hd 2
          have y3 := block_cell e1 3
          have y5 := block_cell e2 5
          have z2 := block_free hs.hd 2
          have z3 := block_free e1 3
          have z5 := block_free e2 5
          simp [jCells] at y2 y3 y5
          have m4 : (w6.setCell ⟨bj, 2, none⟩ (.int .i64 f)).cell? ⟨b1, 0, none⟩ = some (pj bj) := (World.cell?_of_block (a := ⟨b1, 0, none⟩) (block_other hdl _)).trans m1
          have m5 : ((w6.setCell ⟨bj, 2, none⟩ (.int .i64 f)).setCell ⟨bj, 3, none⟩ (.slice av (Jnl.scan x).2.1.length cv)).cell? ⟨b1, 0, none⟩ = some (pj bj) := (World.cell?_of_block (a := ⟨b1, 0, none⟩) (block_other hdl _)).trans m4
          rw [← HF.out, HX.out.2.2.1] at hff
          unfold fset at hff
          obtain ⟨-, -, -⟩ := jd_see hff
          have m6 := (jd_see hff).1
          have HFIN := Lib.hid hff
          clear hff hs e1 e2 hdl H7
          have hkb : decide ((0 : Int) < (k : Int)) = decide (0 < k) := by rw [Bool.eq_iff_iff]; simp
          go_upto_region 25 with fail
          go_region
          all_goals
            go_wp2_with fail
            go_ret2
            exact .inl ⟨bj, _, rfl, rfl, jd_dj1 (jd_drop (HFIN.out.moved (nice_jd hNL) (Below.refl _ _).drew))⟩
end
end Go.Proofs.YtlhnjdoicolkkaaGreatDoor

/- Open, as the chapter defines it; equal disks. -/
set_option maxRecDepth 100000
namespace Go.Proofs.YtlhnjdoicolkkaaGreatDoor
open Go.RowKit Go.Dsk Go.Maps Go.WideMaps
set_option maxHeartbeats 2000000
open Jnl (J)

section
variable {w0 w : World} {bd : Nat} {n : ByteArray} {d : M} {R : SP}
theorem JOpen_any (hR : Nice R) (hg : Glob w0) (h : Dr R w0 w bd d) (hn : n.size ≤ 1048576) (hw : d.wt < 1073741000) {Z : Int × Option J × M} (hZ : Jnl.opened n.data.toList d = Z) :
    Calls Tryz.prog 27 #[.pointer (some ⟨bd, 0, none⟩), .string n] w fun e w' => JOpened R w0 w' bd n Z e := by
  have hN : Nice (Star (DiskP bd d) R) := Nice.star (nice_disk _ _) hR
  cases hnm : Jnl.jname n.data.toList with
  | false =>
    refine (Open_name bd w hn hnm).mono ?_
    rintro e w' ⟨rfl, hb⟩
    rw [← hZ, Jnl.opened_name hnm]
    exact .inr ⟨rfl, rfl, h.moved hN hb⟩
  | true =>
    cases hdd : d.down with
    | true =>
      refine (Open_down hR h hn hnm hdd).mono ?_
      rintro e w' ⟨rfl, hb⟩
      rw [← hZ, Jnl.opened_down hnm hdd]
      exact .inr ⟨rfl, rfl, h.moved hN hb⟩
    | false => exact Open_up hR hg h hnm hdd hn hw hZ
/-- Two disks that look the same. -/
theorem equal_looks {ba bb : Nat} {a b : M} (hR : Nice R) (h : Has w0 w (Star (DiskP ba a) (Star (DiskP bb b) R))) (hsl : b.list = a.list) (hsd : b.down = a.down) (hsf : b.free = a.free) (hsr : ∀ n, b.read n = a.read n) :
    Calls Tryz.prog 74 #[.pointer (some ⟨ba, 0, none⟩), .pointer (some ⟨bb, 0, none⟩)] w fun e w' => e = .returned (.bool true) ∧ Below w.heap.size w w' := by
  have hok := dr_ok h
  have hN : Nice (Star (DiskP ba a) (Star (DiskP bb b) R)) := Nice.star (nice_disk _ _) (Nice.star (nice_disk _ _) hR)
  have hn1 := dr_names2 h
  have HSR := Lib.hid hsr
  have HSL := Lib.hid hsl
  have HSD := Lib.hid hsd
  have HSF := Lib.hid hsf
  have H := Lib.hid h
  have HLS := Lib.hid (show ∀ x ∈ a.list, x.length ≤ 1048576 from fun x hx => by
    unfold M.list at hx
    split at hx
    · simp at hx
    · obtain ⟨p, hp, rfl⟩ := List.mem_map.1 hx
      have := isName_len (hok.names.2 p hp).1
      omega)
  clear h hok hsl hsd hsf hsr
  go_enter Tryz.func74, Tryz.ntmps74
  go_wp2_with fail
  refine hn1.mono ?_
  rintro e w1 ⟨v1, rfl, hr1, hb1⟩
  have H1 := Lib.hid (H.out.moved hN hb1)
  have HB1 := Lib.hid hb1
  have HR1 := Lib.hid (own_reads hr1)
  clear hr1 hb1 hn1 H
  obtain ⟨ao, cp, hv1, -, hcm, -⟩ := id HR1.out
  subst hv1
  unfold maxLen at hcm
  go_wp2_with fail
  refine (dr_names2 H1.out.left).mono ?_
  rintro e w2 ⟨v2, rfl, hr2, hb2⟩
  have H2 := Lib.hid (H1.out.moved hN hb2)
  have HB2 := Lib.hid (HB1.out.trans (hb2.mono HB1.out.size))
  have HR2 := Lib.hid (HR1.out.below hb2)
  have hq := own_reads hr2
  rw [HSL.out] at hq
  have hsm := same_any HR2.out hq
  rw [decide_eq_true rfl] at hsm
  have HSM := Lib.hid hsm
  clear hr2 hb2 hq hsm H1 HB1 HR1
  go_wp2_with fail
  refine HSM.out.mono ?_
  rintro e w3 ⟨rfl, q, rfl⟩
  have H3 := Lib.hid (H2.out.moved hN (below_drawn w2 q))
  have HB3 := Lib.hid (HB2.out.trans ((below_drawn w2 q).mono HB2.out.size))
  have HR3 := Lib.hid (HR2.out.below (below_drawn w2 q))
  generalize w2.drewN q = w3 at *
  clear H2 HB2 HR2 HSM
  obtain ⟨dn, hdn⟩ : ∃ dn, a.down = dn := ⟨_, rfl⟩
  have hd1 := dr_down H3.out hdn
  have hd2 := dr_down H3.out.left (HSD.out.trans hdn)
  have hdd : (dn != dn) = false := by cases dn <;> rfl
  have HD := Lib.hid (And.intro hd1 hd2)
  clear hdn hd1 hd2
  go_wp2_with fail
  refine HD.out.1.mono ?_
  rintro e w4 ⟨rfl, hw4⟩
  obtain rfl := hw4
  go_wp2_with fail
  refine HD.out.2.mono ?_
  rintro e w4 ⟨rfl, hw4⟩
  obtain rfl := hw4
  obtain ⟨fr, hfr⟩ : ∃ fr, a.free = fr := ⟨_, rfl⟩
  have hf1 := dr_free H3.out hfr
  have hff : (fr != fr) = false := by simp
  have HF1 := Lib.hid hf1
  have HFR := Lib.hid hfr
  clear hf1 hfr
  go_wp2_with fail
  refine HF1.out.mono ?_
  rintro e w5 ⟨rfl, hb5⟩
  have H5 := Lib.hid (H3.out.moved hN hb5)
  have HB5 := Lib.hid (HB3.out.trans (hb5.mono HB3.out.size))
  have HR5 := Lib.hid (HR3.out.below hb5)
  clear hb5 H3 HB3 HR3 HD HF1
  go_wp2_with fail
  refine (dr_free H5.out.left (HSF.out.trans HFR.out)).mono ?_
  rintro e w6 ⟨rfl, hb6⟩
  have H6 := Lib.hid (H5.out.moved hN hb6)
  have HB6 := Lib.hid (HB5.out.trans (hb6.mono HB5.out.size))
  have HR6 := Lib.hid (HR5.out.below hb6)
  clear hb6 H5 HB5 HR5
  go_wp2_with fail
  go_loopw [6] (fun i wr => wr = w6 ∧ ∃ k : Nat, k ≤ a.list.length ∧ i = .int .i64 k) (fun i _ => a.list.length - (intOf i).toNat)
  case atStart => exact ⟨rfl, 0, Nat.zero_le _, rfl⟩
  case round =>
    obtain ⟨hwr, k, hk, rfl⟩ := hrel
    obtain rfl := hwr.symm
    by_cases hlt : k < a.list.length
    · obtain ⟨ao2, c2, e2, _, _, hcell⟩ := id HR6.out
      simp only [Value.slice.injEq] at e2
      obtain ⟨rfl, -, rfl⟩ := e2
      obtain ⟨b0, off, rfl, hbl, hcell⟩ := hcell (Nat.lt_of_le_of_lt (Nat.zero_le _) hlt)
      have x0 := hcell k hlt
      obtain ⟨nb, hnb⟩ : ∃ nb : ByteArray, (⟨(a.list.getD k []).toArray⟩ : ByteArray) = nb := ⟨_, rfl⟩
      unfold strV at x0
      rw [hnb] at x0
      have hns : nb.size ≤ 1073741824 := by
        rw [← hnb]
        show (a.list.getD k []).length ≤ _
        rw [List.getD_eq_getElem?_getD, List.getElem?_eq_getElem hlt]
        have := HLS.out _ (List.getElem_mem hlt)
        simp only [Option.getD_some]
        omega
      obtain ⟨⟨x, r⟩, hx⟩ : ∃ p, a.read nb.data.toList = p := ⟨_, rfl⟩
      have hq1 := dr_read H6.out nb hns hx
      have hq2 := dr_read H6.out.left nb hns ((HSR.out _).trans hx)
      obtain ⟨xb, hxb⟩ : ∃ xb : ByteArray, (⟨x.toArray⟩ : ByteArray) = xb := ⟨_, rfl⟩
      rw [hxb] at hq1 hq2
      have hrr : (r != r) = false := by simp
      have hxx : (!(xb.toList == xb.toList)) = false := by simp
      have hk0 : (0 : Int) ≤ (k : Int) := by omega
      have hk1 : (k : Int) < (a.list.length : Int) := by omega
      have HQ := Lib.hid (And.intro hq1 hq2)
      clear hcell hnb hns hx hq1 hq2 hxb
      go_wp2_with fail
      refine HQ.out.1.mono ?_
      rintro e w7 ⟨rfl, hw7⟩
      obtain rfl := hw7
      go_wp2_with fail
      refine HQ.out.2.mono ?_
      rintro e w7 ⟨rfl, hw7⟩
      obtain rfl := hw7
      go_wp2_with fail
      go_roundw
      case rel => exact ⟨trivial, k + 1, by omega, by go_num⟩
      case measure => simp [intOf]; omega
    · obtain rfl : k = a.list.length := by omega
      go_wp2_with fail
      go_ret
      exact ⟨rfl, HB6.out⟩
theorem equal_any {ba bb : Nat} {a b : M} (hR : Nice R) (h : Has w0 w (Star (DiskP ba a) (Star (DiskP bb b) R))) (hs : SimE b a) :
    Calls Tryz.prog 74 #[.pointer (some ⟨ba, 0, none⟩), .pointer (some ⟨bb, 0, none⟩)] w fun e w' => e = .returned (.bool true) ∧ Below w.heap.size w w' :=
  equal_looks hR h (sim_list hs).symm (sim_down hs).symm (sim_free hs (dr_ok h.left)).symm fun n => (sim_read hs (dr_ok h.left) n).symm
theorem equal_turned {ba bb : Nat} {a b : M} (hR : Nice R) (h : Has w0 w (Star (DiskP ba a) (Star (DiskP bb b) R))) (hs : SimE a b) :
    Calls Tryz.prog 74 #[.pointer (some ⟨ba, 0, none⟩), .pointer (some ⟨bb, 0, none⟩)] w fun e w' => e = .returned (.bool true) ∧ Below w.heap.size w w' :=
  equal_looks hR h (sim_list hs) (sim_down hs) (sim_free hs (dr_ok h)) fun n => sim_read hs (dr_ok h) n
end
end Go.Proofs.YtlhnjdoicolkkaaGreatDoor
