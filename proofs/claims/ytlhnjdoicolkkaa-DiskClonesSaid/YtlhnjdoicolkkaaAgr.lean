/- The document's model: agrees, of a disk that reads as the model. -/
import Derived.Test.YtlhnjdoicolkkaaDAct
set_option maxRecDepth 100000
namespace Go.Proofs.Ytlhnjdoicolkkaa
open Go.RowKit Go.Dsk Go.Maps Go.WideMaps
set_option maxHeartbeats 2000000

/-- Two plain disks that cannot be told apart by reading. -/
structure Same (a b : M) : Prop where
  list : a.list = b.list
  free : a.free = b.free
  read : ∀ n, a.read n = b.read n
  down : a.down = b.down
theorem Same.refl (a : M) : Same a a := ⟨rfl, rfl, fun _ => rfl, rfl⟩
theorem sim_same {a b : M} (h : SimE a b) (ha : a.Ok) : Same a b := ⟨(sim_list h).symm, (sim_free h ha).symm, fun n => (sim_read h ha n).symm, (sim_down h).symm⟩

section
variable {w0 w : World} {bd p : Nat} {md mm : M} {R : SP}
/-- A disk and a model, and R beside them. -/
abbrev Duo (R : SP) (w0 w : World) (bd : Nat) (md : M) (p : Nat) (mm : M) : Prop := Has w0 w (Star (DiskP bd md) (Star (MdlP p mm) R))
theorem nice_duo (hR : Nice R) : Nice (Star (DiskP bd md) (Star (MdlP p mm) R)) := Nice.star (nice_disk _ _) (Nice.star (nice_mdl _ _) hR)
theorem duo_mdl (h : Duo R w0 w bd md p mm) {Q : Prop} (hc : ∀ T vf vn vd vp, MRep T w p vf vn vd vp mm → Q) : Q := mr_quiet h.left hc
theorem duo_moved {w' : World} (hR : Nice R) (h : Duo R w0 w bd md p mm) (hb : Below w.heap.size w w') : Duo R w0 w' bd md p mm := h.moved (nice_duo hR) hb
theorem down_quiet (h : Duo R w0 w bd md p mm) {b : Bool} (he : md.down = b) : Calls Try.prog 21 #[.pointer (some ⟨bd, 0, none⟩)] w fun e w' => e = .returned (.bool b) ∧ w' = w :=
  (dr_down h he).mono fun _ _ ⟨a, b⟩ => ⟨a, b.symm⟩
theorem mused_quiet (h : Duo R w0 w bd md p mm) (hok : mm.Ok) (hwt : mm.wt < 1073741821) : Calls Try.prog 50 #[.pointer (some ⟨p, 0, none⟩)] w fun e w' => e = .returned (.int .i64 mm.used) ∧ Below w.heap.size w w' :=
  duo_mdl h fun T vf vn vd vp hr => (mused_any hr hok (by omega)).mono fun _ _ ⟨a, n, b⟩ => ⟨a, b ▸ below_drawn w n⟩

theorem agrees_down (hR : Nice R) (h : Duo R w0 w bd md p mm) (hs : Same md mm) (hd : mm.down = true) :
    Calls Try.prog 26 #[.pointer (some ⟨p, 0, none⟩), .pointer (some ⟨bd, 0, none⟩)] w fun e w' => e = .returned (.bool true) ∧ Below w.heap.size w w' := by
  have H := Lib.hid h
  have HRR := Lib.hid hR
  have hdd : md.down = true := hs.down.trans hd
  have hl0 : md.list = [] := by unfold M.list; rw [if_pos hdd]
  have hf0 : md.free = 0 := by unfold M.free; rw [if_pos hdd]
  have hdn := dr_names h
  rw [hl0] at hdn
  have HNA := Lib.hid hdn
  have HDD := Lib.hid hdd
  have HF0 := Lib.hid hf0
  have HD := Lib.hid hd
  clear h hR hs hdd hl0 hf0 hdn hd
  go_enter Try.func26, Try.ntmps26
  go_upto_region 2 with (go_at_call 20; refine HNA.out.mono ?_; rintro e w1 ⟨ao, cp, rfl, _, _, hb1⟩; have H1 := Lib.hid (duo_moved HRR.out H.out hb1); have HB1 := Lib.hid hb1; have k2 := duo_mdl (duo_moved HRR.out H.out hb1) (fun T vf vn vd vp hr => hr.c2); rw [HD.out] at k2; clear hb1)
  go_quiet ((go_at_call 21; exact Calls.quiet_of_same (down_quiet (duo_moved HRR.out H1.out (below_drawn _ _)) HDD.out)))
  have H2 := Lib.hid (duo_moved HRR.out H1.out (below_drawn w1 nq))
  have hb2 := HB1.out.trans ((below_drawn w1 nq).mono HB1.out.size)
  have HB2 := Lib.hid hb2
  have k2 : (w1.drewN nq).cell? ⟨p, 2, none⟩ = some (.bool true) := k2
  clear hb2 HB1 H1
  generalize w1.drewN nq = w2 at *
  go_wp2_with (go_at_call 19; refine (dr_free H2.out HF0.out).mono ?_; rintro e w3 ⟨rfl, hb3⟩; have HB3 := Lib.hid hb3; clear hb3)
  go_ret
  exact ⟨rfl, HB2.out.trans (HB3.out.mono HB2.out.size)⟩
theorem list_at {m : M} (hd : m.down = false) {k : Nat} (hk : k < m.names.length) : m.list.getD k [] = (m.names.getD k ([], 0)).1 := by
  unfold M.list
  rw [hd]
  simp only [Bool.false_eq_true, if_false, List.getD_eq_getElem?_getD, List.getElem?_map, List.getElem?_eq_getElem hk]
  rfl
theorem sorted_find' {l : Dir} (h : Sorted l) {k : Nat} (hk : k < l.length) : find l (l.getD k ([], 0)).1 = some (l.getD k ([], 0)).2 := by
  have e : l.getD k ([], 0) = l[k] := by rw [List.getD_eq_getElem?_getD, List.getElem?_eq_getElem hk]; rfl
  rw [e]
  exact sorted_find h k hk
theorem agrees_up (hR : Nice R) (h : Duo R w0 w bd md p mm) (hs : Same md mm) (hok : mm.Ok) (hwt : mm.wt < 1073741821) (hd : mm.down = false) :
    Calls Try.prog 26 #[.pointer (some ⟨p, 0, none⟩), .pointer (some ⟨bd, 0, none⟩)] w fun e w' => e = .returned (.bool true) ∧ Below w.heap.size w w' := by
  have H := Lib.hid h
  have HRR := Lib.hid hR
  have HS := Lib.hid hs
  have HOK := Lib.hid hok
  have hdd : md.down = false := hs.down.trans hd
  have hll : md.list.length = mm.names.length := by rw [hs.list]; unfold M.list; rw [hd]; simp
  have hff : md.free = max 0 (mm.cap - mm.used) := by rw [hs.free]; unfold M.free; rw [hd]; simp
  have hdn := dr_names h
  rw [hll] at hdn
  have hub := used_bd hok (by omega)
  have hc0 := hok.cap0
  have hc1 := hok.cap1
  have hnw := names_length hok
  have HNA := Lib.hid hdn
  have HDD := Lib.hid hdd
  have HFF := Lib.hid hff
  have HD := Lib.hid hd
  clear h hR hs hdd hll hff hdn hd hok
  go_enter Try.func26, Try.ntmps26
  go_upto_region 2 with (go_at_call 20; refine HNA.out.mono ?_; rintro e w1 ⟨ao, cp, rfl, hcp, hcs, hb1⟩; have H1 := Lib.hid (duo_moved HRR.out H.out hb1); have HB1 := Lib.hid hb1; have HCS := Lib.hid hcs; have k2 := duo_mdl (duo_moved HRR.out H.out hb1) (fun T vf vn vd vp hr => hr.c2); rw [HD.out] at k2; clear hb1 hcs)
  go_quiet ((go_at_call 21; exact Calls.quiet_of_same (down_quiet (duo_moved HRR.out H1.out (below_drawn _ _)) HDD.out)))
  have H2 := Lib.hid (duo_moved HRR.out H1.out (below_drawn w1 nq))
  have hb2 := below_drawn w1 nq
  have HB2 := Lib.hid hb2
  have k2 : (w1.drewN nq).cell? ⟨p, 2, none⟩ = some (.bool false) := k2
  clear hb2 H1
  generalize w1.drewN nq = w2 at *
  obtain ⟨vn, vf, k0, k3, k4, hsn, hsf⟩ : ∃ vn vf, w2.cell? ⟨p, 0, none⟩ = some (.int .i64 mm.cap) ∧ w2.cell? ⟨p, 3, none⟩ = some vf ∧ w2.cell? ⟨p, 4, none⟩ = some vn ∧ (∃ a c, vn = .slice a mm.names.length c) ∧ (∃ a c, vf = .slice a mm.files.length c) :=
    duo_mdl H2.out (fun T vf vn vd vp hr => ⟨vn, vf, hr.c0, hr.c3, hr.c4, by obtain ⟨a, c, e, _⟩ := RowAt.shape hr.hn; exact ⟨a, c, e⟩, by obtain ⟨a, c, e, _⟩ := hr.hf.shape; exact ⟨a, c, e⟩⟩)
  obtain ⟨aon, cpn, rfl⟩ := hsn
  have t1 : ((mm.names.length : Int) != (mm.names.length : Int)) = false := by simp
  have hpl : p < w2.heap.size := duo_mdl H2.out (fun T vf vn vd vp hr => hr.plt)
  have hwr : IntKind.i64.wrap (mm.cap - (mm.used : Int)) = mm.cap - (mm.used : Int) := IntWalk.i64_in _ (by omega)
  go_upto_region 6 with fail
  go_region_held3 (fun w' => w'.cell? ⟨p, 0, none⟩ = some (.int .i64 mm.cap) ∧ w'.cell? ⟨p, 4, none⟩ = some (.slice aon mm.names.length cpn)) (go_keep)
    (first
      | (go_at_call 19
         refine (dr_free (duo_moved HRR.out H2.out (Below.refl _ _).drew) HFF.out).mono ?_
         rintro e w3 ⟨rfl, hb3⟩
         have hb3 : Below w2.heap.size w2 w3 := (Below.refl _ _).drew.trans hb3
         have e0 := (hb3.cell (p := ⟨p, 0, none⟩) hpl).trans k0
         have e4 := (hb3.cell (p := ⟨p, 4, none⟩) hpl).trans k4
         have HB3 := Lib.hid hb3
         clear hb3)
      | (go_at_call 50
         refine (mused_quiet (duo_moved HRR.out H2.out HB3.out) HOK.out hwt).mono ?_
         rintro e w4 ⟨rfl, hb4⟩
         have hb4 : Below w2.heap.size w2 w4 := HB3.out.trans (hb4.mono HB3.out.size)
         have q0 := (hb4.cell (p := ⟨p, 0, none⟩) hpl).trans k0
         have q4 := (hb4.cell (p := ⟨p, 4, none⟩) hpl).trans k4
         have HB4 := Lib.hid hb4
         clear hb4))
  have H4 := Lib.hid (duo_moved HRR.out H2.out HB4.out)
  have HBW := Lib.hid (HB1.out.trans ((HB2.out.trans (HB4.out.mono HB2.out.size)).mono HB1.out.size))
  have HBV := Lib.hid (HB2.out.trans (HB4.out.mono HB2.out.size))
  clear k0 k2 k3 k4 hpl hwr H2 HB3 HB4 HB2
  go_wp2_with fail
  go_loopw [6] (fun i wr => ∃ k : Nat, k ≤ mm.names.length ∧ i = .int .i64 k ∧ Below w4.heap.size w4 wr) (fun i _ => mm.names.length - (intOf i).toNat)
  case atStart => exact ⟨0, Nat.zero_le _, rfl, Below.refl _ _⟩
  case round =>
    obtain ⟨k, hk, rfl, hbr⟩ := hrel
    have HR := Lib.hid (duo_moved HRR.out H4.out hbr)
    have HBR := Lib.hid hbr
    clear hbr
    by_cases hlt : k < mm.names.length
    · obtain ⟨g, rfl, hg1, hg2, hgc⟩ := HCS.out (by omega)
      have x0 := hgc k hlt
      rw [HS.out.list, list_at HD.out hlt] at x0
      have hg3 : g < w4.heap.size := by have := HBV.out.size; omega
      have x0 := (HBR.out.cell (p := ⟨g, k, none⟩) hg3).trans ((HBV.out.cell (p := ⟨g, k, none⟩) hg2).trans x0)
      have hsf := sorted_find' HOK.out.names.1 hlt
      obtain ⟨vn', vf', cn, cf, gn, gf, e1, e2, y3, y4, n0, n1, f0, z0, z1⟩ : ∃ vn' vf' cn cf gn gf, vn' = .slice (some ⟨gn, 0, none⟩) mm.names.length cn ∧ vf' = .slice (some ⟨gf, 0, none⟩) mm.files.length cf ∧ wr.cell? ⟨p, 3, none⟩ = some vf' ∧ wr.cell? ⟨p, 4, none⟩ = some vn' ∧
          wr.cell? ⟨gn, k * 2, none⟩ = some (.string ⟨(mm.names.getD k ([], 0)).1.toArray⟩) ∧ wr.cell? ⟨gn, k * 2 + 1, none⟩ = some (.int .i64 (mm.names.getD k ([], 0)).2) ∧
          wr.cell? ⟨gf, (mm.names.getD k ([], 0)).2 * 2, none⟩ = some (.string ⟨(mm.files.getD (mm.names.getD k ([], 0)).2 ⟨[], 0⟩).bytes.toArray⟩) ∧ cn ≤ maxLen ∧ cf ≤ maxLen := by
        refine duo_mdl HR.out (fun T vf vn vd vp hr => ?_)
        obtain ⟨gn, gf, cn, cf, e1, e2, _, l1, _, l2, a, b, c, _⟩ := hr.nameAt HOK.out hlt
        exact ⟨vn, vf, cn, cf, gn, gf, e1, e2, hr.c3, hr.c4, a, b, c, l1, l2⟩
      have hrd : ∀ n, n = (mm.names.getD k ([], 0)).1 → md.read n = ((mm.files.getD (mm.names.getD k ([], 0)).2 ⟨[], 0⟩).bytes, 0) := by
        rintro n rfl
        rw [HS.out.read]
        unfold M.read
        rw [HD.out, hsf]
        rfl
      have hnl : (mm.names.getD k ([], 0)).1.length ≤ 40 := by
        have : mm.names.getD k ([], 0) ∈ mm.names := by rw [List.getD_eq_getElem?_getD, List.getElem?_eq_getElem hlt]; exact List.getElem_mem hlt
        exact isName_len (HOK.out.names.2 _ this).1
      have hfn := names_at HOK.out hlt
      have hbl := (getD_size HOK.out (mm.names.getD k ([], 0)).2).1
      generalize (mm.names.getD k ([], 0)).1 = nm at *
      generalize (mm.names.getD k ([], 0)).2 = f at *
      generalize (mm.files.getD f ⟨[], 0⟩).bytes = fbs at *
      obtain ⟨nb, hnb⟩ : ∃ nb : ByteArray, nb = ⟨nm.toArray⟩ := ⟨_, rfl⟩
      obtain ⟨fb, hfb⟩ : ∃ fb : ByteArray, fb = ⟨fbs.toArray⟩ := ⟨_, rfl⟩
      have hnz : nb.size ≤ 40 := by rw [hnb, size_mk]; exact hnl
      have hfz : fb.size = fbs.length := by rw [hfb, size_mk]
      have hrd2 := hrd nb.data.toList (by rw [hnb])
      have hc1 := dr_read HR.out nb (by omega) hrd2
      have hc2 := dr_size HR.out nb (by omega) hrd2
      rw [← hfb] at hc1 f0
      rw [← hnb] at n0
      rw [← hnb] at x0
      rw [← hfz] at hc2 hbl
      rw [e1] at y4
      rw [e2] at y3
      have HC1 := Lib.hid hc1
      have HC2 := Lib.hid hc2
      have hk0 : (0 : Int) ≤ (k : Int) := by omega
      have hk1 : (k : Int) < (mm.names.length : Int) := by omega
      have hf0 : (0 : Int) ≤ (f : Int) := by omega
      have hf1 : (f : Int) < (mm.files.length : Int) := by omega
      unfold maxLen at z0 z1
      clear hc1 hc2 hrd hrd2 hnb hfb hfz hsf hgc e1 e2 hnl hg1 hg2
      go_upto_region 13 with (first
        | (go_at_call 18; refine HC1.out.mono ?_; rintro e w' ⟨rfl, rfl⟩)
        | (go_at_call 33; refine HC2.out.mono ?_; rintro e w' ⟨rfl, rfl⟩))
      go_quiet (fail)
      have x0 : (wr.drewN nq).cell? ⟨g, k, none⟩ = some (.string nb) := x0
      have y4 : (wr.drewN nq).cell? ⟨p, 4, none⟩ = some (.slice (some ⟨gn, 0, none⟩) mm.names.length cn) := y4
      have n0 : (wr.drewN nq).cell? ⟨gn, k * 2, none⟩ = some (.string nb) := n0
      have hbz := below_drewN HBR.out nq
      have HBZ := Lib.hid hbz
      generalize wr.drewN nq = wz at x0 y4 n0 HBZ
      clear y3 n1 f0 hbz hf0 hf1 HR HBR
      have t3 : (nb.toList == nb.toList) = true := by simp
      have t4 : (fb.toList == fb.toList) = true := by simp
      have t5 : ((fb.size : Int) != (fb.size : Int)) = false := by simp
      go_upto_region 14 with fail
      go_quiet (fail)
      go_wp2_with fail
      go_roundw
      case rel => exact ⟨k + 1, by omega, by go_num, below_drewN HBZ.out nq⟩
      case measure => simp [intOf]; omega
    · obtain rfl : k = mm.names.length := by omega
      go_wp2_with fail
      go_ret
      exact ⟨rfl, HBW.out.trans (HBR.out.mono HBW.out.size)⟩
theorem agrees_any (hR : Nice R) (h : Duo R w0 w bd md p mm) (hs : Same md mm) (hok : mm.Ok) (hwt : mm.wt < 1073741821) :
    Calls Try.prog 26 #[.pointer (some ⟨p, 0, none⟩), .pointer (some ⟨bd, 0, none⟩)] w fun e w' => e = .returned (.bool true) ∧ Duo R w0 w' bd md p mm := by
  have key : Calls Try.prog 26 #[.pointer (some ⟨p, 0, none⟩), .pointer (some ⟨bd, 0, none⟩)] w fun e w' => e = .returned (.bool true) ∧ Below w.heap.size w w' := by
    cases hd : mm.down with
    | true => exact agrees_down hR h hs hd
    | false => exact agrees_up hR h hs hok hwt hd
  refine key.mono ?_
  rintro e w' ⟨rfl, hb⟩
  exact ⟨rfl, duo_moved hR h hb⟩
end
end Go.Proofs.Ytlhnjdoicolkkaa
