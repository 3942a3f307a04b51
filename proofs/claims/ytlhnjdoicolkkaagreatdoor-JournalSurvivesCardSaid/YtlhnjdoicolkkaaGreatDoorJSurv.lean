/- JournalSurvives: the walk. -/
import Derived.Test.YtlhnjdoicolkkaaGreatDoorJLive
import Derived.Test.YtlhnjdoicolkkaaGreatDoorMcom
import Derived.Test.YtlhnjdoicolkkaaGreatDoorJBnd
import Derived.Test.YtlhnjdoicolkkaaGreatDoorJLaws
import Derived.Test.YtlhnjdoicolkkaaGreatDoorJIn
set_option maxRecDepth 100000
namespace Go.Proofs.YtlhnjdoicolkkaaGreatDoor
open Go.RowKit Go.Dsk Go.Maps Go.WideMaps
set_option maxHeartbeats 8000000
open Jnl (J)
attribute [local go_sem ↓] appX_is

/-- A disk, its journal, the records that the law keeps. -/
abbrev SJ (w0 w : World) (bd bj : Nat) (d : M) (j : J) (vd : Value) (dur : List Bs) (vp : Value) (pend : List Bs) : Prop :=
  Has w0 w (Star (DiskP bd d) (Star (JrnP bj bd logB j) (Star (OffP vd dur) (Star (OffP vp pend) Nil))))
section
variable {w0 w : World} {bd bj : Nat} {d : M} {j : J} {vd vp : Value} {dur pend : List Bs}
theorem nice_sj : Nice (Star (DiskP bd d) (Star (JrnP bj bd logB j) (Star (OffP vd dur) (Star (OffP vp pend) Nil)))) := Nice.star (nice_disk _ _) (Nice.star (nice_jrn _ _ _ _) (Nice.star (nice_off _ _) (Nice.star (nice_off _ _) Nice.nil)))
theorem nice_vp : Nice (Star (OffP vd dur) (Star (OffP vp pend) Nil)) := Nice.star (nice_off _ _) (Nice.star (nice_off _ _) Nice.nil)
theorem sub_nil1 (X : SP) : Sub X (Star (OffP (.slice none 0 0) []) Nil) := fun _ w _ => ⟨fun _ => False, fun _ h => h.elim, fun _ => False, fun _ => False, fun _ => by simp, fun _ h => h.elim, off_nil w, fun _ h => h⟩
theorem sub_nil2 (X : SP) : Sub X (Star (OffP (.slice none 0 0) []) (Star (OffP (.slice none 0 0) []) Nil)) := fun _ w _ =>
  ⟨fun _ => False, fun _ h => h.elim, fun _ => False, fun _ => False, fun _ => by simp, fun _ h => h.elim, off_nil w, fun _ => False, fun _ => False, fun _ => by simp, fun _ h => h.elim, off_nil w, fun _ h => h⟩
theorem sj_none (h : Has w0 w (Star (DiskP bd d) (Star (JrnP bj bd logB j) Nil))) : SJ w0 w bd bj d j (.slice none 0 0) [] (.slice none 0 0) [] := h.sub (Sub.inner (Sub.inner (sub_nil2 _)))
theorem sj_drop (h : SJ w0 w bd bj d j vd dur vp pend) : SJ w0 w bd bj d j vd dur (.slice none 0 0) [] := h.sub (Sub.inner (Sub.inner (Sub.inner (sub_nil1 _))))
theorem sj_dur (h : SJ w0 w bd bj d j vd dur vp pend) : StrsIn w vd dur := off_reads h.snd.snd
theorem sj_pend (h : SJ w0 w bd bj d j vd dur vp pend) : StrsIn w vp pend := off_reads h.snd.snd.snd
theorem sj_commit (hg : Glob w0) (h : SJ w0 w bd bj d j vd dur vp pend) (hw : d.wt < 1073741800) (hrl : j.recs.length + 64 ≤ 1073741824) {n : Int} {e : Int} {j' : J} {d' : M} (hZ : j.commit Jnl.nm d = (n, e, j', d')) :
    Calls Tryz.prog 24 #[pj bj] w fun x w' => x = .returned (.tuple #[.int .i64 n, .int .i64 e]) ∧ SJ w0 w' bd bj d' j' vd dur vp pend := by
  have := Commit_any (n := logB) nice_vp hg h (by decide) hw hrl
  rw [show j.commit logB.data.toList d = _ from hZ] at this
  exact this
theorem sj_discard (h : SJ w0 w bd bj d j vd dur vp pend) : Calls Tryz.prog 30 #[pj bj] w fun r w' => r = .returned (.int .i64 j.discard.1) ∧ SJ w0 w' bd bj d j.discard.2 vd dur vp pend :=
  (Discard_jr (Nice.star (nice_disk _ _) nice_vp) h.left).mono fun _ _ h => ⟨h.1, h.2.left⟩
theorem sj_append (h : SJ w0 w bd bj d j vd dur vp pend) (r : ByteArray) : Calls Tryz.prog 22 #[pj bj, .string r] w fun x w' => x = .returned (.tuple #[.int .i64 (j.append r.data.toList).1, .int .i64 (j.append r.data.toList).2.1]) ∧ SJ w0 w' bd bj d (j.append r.data.toList).2.2 vd dur vp pend :=
  (JAppend_jr (Nice.star (nice_disk _ _) nice_vp) h.left r).mono fun _ _ h => ⟨h.1, h.2.left⟩
theorem sj_cut (hg : Glob w0) (h : SJ w0 w bd bj d j vd dur vp pend) {f : Int} (hf : f < 1073741824000000 ∧ -1073741824000000 < f) (hw : d.wt < 1073741800) (hlr : j.recs.length ≤ 260000) {e : Int} {j' : J} {d' : M} (hZ : j.cut Jnl.nm d f = (e, j', d')) :
    Calls Tryz.prog 31 #[pj bj, .int .i64 f] w fun x w' => x = .returned (.int .i64 e) ∧ SJ w0 w' bd bj d' j' vd dur vp pend := by
  have := Cut_any (n := logB) nice_vp hg h hf (by decide) hw hlr
  rw [show j.cut logB.data.toList d f = _ from hZ] at this
  exact this
/-- What holds after k acts. -/
def Lp (k first : Nat) (dur pend : List Bs) (vd vp : Value) (w0 w : World) (bd bj : Nat) : Prop :=
  ∃ j d, SJ w0 w bd bj d j vd dur vp pend ∧ Jnl.St k first dur pend j d ∧ d.wt ≤ 5 * k ∧ j.recs.length ≤ 64 * k
theorem off_drop {ao : Option Addr} {c : Nat} {l : List Bs} {S : Nat → Prop} (h : OffP (.slice ao l.length c) l S w) {k : Nat} (hk : k ≤ l.length) : OffP (.slice (if c = k then ao else ao.map fun x => x.add k) (l.length - k) (c - k)) (l.drop k) S w := by
  have e : (ao.map fun a => if c = k then a else a.add k) = if c = k then ao else ao.map fun x => x.add k := by split <;> simp
  rw [← e]
  exact off_cut h hk
theorem sj_slice {ao : Option Addr} {c : Nat} {k : Nat} (hk : k ≤ dur.length) (h : SJ w0 w bd bj d j (.slice ao dur.length c) dur vp pend) : SJ w0 w bd bj d j (.slice (if c = k then ao else ao.map fun x => x.add k) (dur.length - k) (c - k)) (dur.drop k) vp pend :=
  h.imp fun _ h => h.inner fun _ h => h.inner fun _ h => by
    obtain ⟨S, T, hu, hd, h1, h2⟩ := h
    exact ⟨S, T, hu, hd, off_drop h1 hk, h2⟩
theorem sj_fit (h : SJ w0 w bd bj d j vd dur vp pend) : Fit j := h.snd.quiet fun _ hS => hS.1
/-- The pending records join the durable ones. -/
theorem sj_join (h : SJ w0 w bd bj d j vd dur vp pend) (hl : dur.length + pend.length ≤ 4096) :
    ∃ v' w', (appX #[25, 25] 25 #[vd, vp]).run Tryz.prog w = .ok v' w' ∧ SJ w0 w' bd bj d j v' (dur ++ pend) (.slice none 0 0) [] := by
  obtain ⟨v', w', hr, h'⟩ := off_append (Nice.star (nice_disk _ _) (Nice.star (nice_jrn _ _ _ _) (Nice.star (nice_off _ _) Nice.nil))) h.out2 (sj_pend h) hl
  rw [appX_is] at hr
  exact ⟨v', w', hr, sj_drop h'.in3⟩
theorem one_row (w : World) (s : ByteArray) : StrsIn (w.alloc (.cells #[.string s] 9)) (.slice (some ⟨w.heap.size, 0, none⟩) 1 1) [s.data.toList] := by
  refine ⟨_, 1, rfl, by simp, by unfold maxLen; omega, fun _ => ⟨w.heap.size, 0, rfl, by simp, fun j hj => ?_⟩⟩
  obtain rfl : j = 0 := by simp only [List.length_cons, List.length_nil] at hj; omega
  rw [block_cell (heap_alloc_new w _)]
  exact congrArg some (congrArg Value.string (ba_self s)).symm
/-- One more pending record. -/
theorem sj_more (s : ByteArray) (h : SJ w0 w bd bj d j vd dur vp pend) (hl : pend.length + 1 ≤ 4096) :
    ∃ v' w', (appX #[25, 25] 25 #[vp, .slice (some ⟨w.heap.size, 0, none⟩) 1 1]).run Tryz.prog (w.alloc (.cells #[.string s] 9)) = .ok v' w' ∧ SJ w0 w' bd bj d j vd dur v' (pend ++ [s.data.toList]) := by
  obtain ⟨v', w', hr, h'⟩ := off_append (Nice.star (nice_disk _ _) (Nice.star (nice_jrn _ _ _ _) (Nice.star (nice_off _ _) Nice.nil))) (h.moved nice_sj ((Below.refl _ w).alloc (Nat.le_refl _) (.cells #[.string s] 9))).out4 (one_row w s) (by simpa using hl)
  rw [appX_is] at hr
  exact ⟨v', w', hr, h'.in4⟩
theorem recs_discard (j : J) : j.discard.2.recs = j.recs := by unfold Jnl.J.discard; split <;> rfl
theorem recs_append (j : J) (r : Bs) : (j.append r).2.2.recs = j.recs := by
  unfold Jnl.J.append
  split
  · rfl
  split
  · rfl
  split <;> rfl
end
theorem ints_at {w : World} {ao : Option Addr} {c : Nat} {sc : List Int} (hb : IntsBody w ao c sc) (hl : sc.length * 8 ≤ 140737488355328) {w' : World} (hw : Below w.heap.size w w') : IntsAt w' (.slice ao sc.length c) sc := by
  rcases hb with ⟨rfl, rfl, rfl⟩ | ⟨a, rfl, rfl⟩ | ⟨b, off, rfl, hlt, hc⟩
  · exact ⟨hl, .inl ⟨rfl, rfl⟩⟩
  · exact ⟨hl, .inr (.inl ⟨a, c, rfl, rfl⟩)⟩
  · exact ⟨hl, .inr (.inr ⟨b, off, c, rfl, fun j hj => (hw.cell (p := ⟨b, off + j, none⟩) hlt).trans (hc j hj)⟩)⟩
theorem said_JournalSurvives {w : World} (hg : Glob w) {va : Value} {l : List Bs} (hv : StrsIn w va l) {vb : Value} {acts : List (Int × Int)} (ha : ActsIn w vb acts) {lim : Int} {ao : Option Addr} {c : Nat} {sc : List Int} (h0 : 0 ≤ lim) (h1 : lim ≤ 255) (hb : IntsBody w ao c sc) (_hsc : sc.length ≤ c) (_hcm : c ≤ maxLen) :
    Calls Tryz.prog 9 #[va, vb, .agg #[.int .u8 lim, .slice ao sc.length c]] w fun e w' => e = .returned (.bool true) ∧ Below w.heap.size w w' := by
  obtain ⟨bx, hbx⟩ : ∃ bx, bx = w.heap.size := ⟨_, rfl⟩
  have hcell0 : (w.alloc (.cells #[.int .u8 lim, .slice ao sc.length c] 68)).cell? ⟨bx, 0, none⟩ = some (.int .u8 lim) := by rw [hbx]; simp
  have hcell1 : (w.alloc (.cells #[.int .u8 lim, .slice ao sc.length c] 68)).cell? ⟨bx, 1, none⟩ = some (.slice ao sc.length c) := by rw [hbx]; simp
  have hlt : bx < (w.alloc (.cells #[.int .u8 lim, .slice ao sc.length c] 68)).heap.size := by rw [hbx]; simp
  have hal : Below w.heap.size w (w.alloc (.cells #[.int .u8 lim, .slice ao sc.length c] 68)) := (Below.refl _ w).alloc (Nat.le_refl _) _
  have HG := Lib.hid (hg.below hal)
  have HV := Lib.hid (hv.below hal)
  have HI := Lib.hid hb
  obtain ⟨ab, cb, rfl, -, -, hcell⟩ := ha.below hal
  have HA := Lib.hid hcell
  have HAL := Lib.hid hal
  have HC := Lib.hid (And.intro hcell0 (And.intro hcell1 hlt))
  have HBX := Lib.hid hbx
  clear hbx hcell0 hcell1 hlt hal hg hv hb ha hcell
  go_enter Tryz.func9, Tryz.ntmps9
  go_upto_region 1 with fail
  rw [← HBX.out]
  generalize w.alloc (.cells #[.int .u8 lim, .slice ao sc.length c] 68) = wa at *
  clear HBX
  go_wp2_with fail
  refine (jknown_any HG.out).mono ?_
  rintro e w1 ⟨rfl, hb1⟩
  have x1 := (hb1.cell (p := ⟨bx, 1, none⟩) HC.out.2.2).trans HC.out.2.1
  have HB1 := Lib.hid hb1
  clear hb1
  by_cases hlen : 10 < sc.length
  · have hl' : ((10 : Int) < (sc.length : Int)) = True := by simp; omega
    go_wp2_with fail
    refine (jknown_any (HG.out.below HB1.out)).mono ?_
    rintro e w2 ⟨rfl, hb2⟩
    have HB2 := Lib.hid (HAL.out.trans ((HB1.out.trans (hb2.mono HB1.out.size)).mono HAL.out.size))
    clear hb2
    go_wp2_with fail
    go_ret
    exact ⟨rfl, HB2.out⟩
  have hl' : ((10 : Int) < (sc.length : Int)) = False := by simp; omega
  go_wp2_with fail
  refine (short_any (HV.out.below HB1.out)).mono ?_
  rintro e w2 ⟨vl, rfl, hr2, hb2⟩
  have hb02 := HB1.out.trans (hb2.mono HB1.out.size)
  have hread := hr2.reads
  have hlens := short_lens l
  obtain ⟨L, hL⟩ : ∃ L, L = shortOf l := ⟨_, rfl⟩
  rw [← hL] at hread hlens
  obtain ⟨al, cl, hvl, hcl1, hcl2, hcellL⟩ := hread
  obtain ⟨NL, hNL⟩ : ∃ NL, NL = L.length := ⟨_, rfl⟩
  rw [← hNL] at hvl hcl1 hcellL
  subst hvl
  have HL := Lib.hid (And.intro hcellL (And.intro hlens hNL))
  have HB2 := Lib.hid hb02
  have KEEP0 : ∀ wx : World, Below w2.heap.size w2 wx → wx.cell? ⟨bx, 0, none⟩ = some (.int .u8 lim) := fun _ h => ((hb02.trans (h.mono hb02.size)).cell (p := ⟨bx, 0, none⟩) HC.out.2.2).trans HC.out.1
  have KEEP1 : ∀ wx : World, Below w2.heap.size w2 wx → wx.cell? ⟨bx, 1, none⟩ = some (.slice ao sc.length c) := fun _ h => ((hb02.trans (h.mono hb02.size)).cell (p := ⟨bx, 1, none⟩) HC.out.2.2).trans HC.out.2.1
  have KEEPS : ∀ wx : World, Below w2.heap.size w2 wx → IntsAt wx (.slice ao sc.length c) sc := fun _ h => ints_at HI.out (by omega) (HAL.out.trans ((hb02.trans (h.mono hb02.size)).mono HAL.out.size))
  have KEEPB : ∀ wx : World, Below w2.heap.size w2 wx → Below w.heap.size w wx := fun _ h => HAL.out.trans ((hb02.trans (h.mono hb02.size)).mono HAL.out.size)
  have HK0 := Lib.hid KEEP0
  have HK1 := Lib.hid KEEP1
  have HKS := Lib.hid KEEPS
  have HKB := Lib.hid KEEPB
  have HG2 := Lib.hid (HG.out.below hb02)
  clear hb2 hb02 hr2 hlens hcellL hL hNL KEEP0 KEEP1 KEEPS KEEPB x1 HB1 HV HG
  go_wp2_with fail
  refine (dr_new Nice.nil (Has.start (Below.refl _ w2)) 100000 (by omega) (by omega)).mono ?_
  rintro e w3 ⟨bd, rfl, h3⟩
  have H3 := Lib.hid h3
  clear h3
  go_wp2_with fail
  refine (JOpen_any (n := logB) Nice.nil HG2.out H3.out (by decide) (by simp [M.wt, M.new]) (opened_new 100000)).mono ?_
  rintro e w4 (⟨bj, j', hj, rfl, h4⟩ | ⟨hj, _⟩)
  rotate_left
  · cases hj
  simp only [Option.some.injEq] at hj
  subst hj
  have H4 := Lib.hid h4
  have x0 := HK0.out _ h4.below
  clear h4 H3
  go_wp2_with fail
  refine (dr_limit (Nice.star (nice_jrn _ _ _ _) Nice.nil) H4.out lim (by omega) (r := 0) (m' := Jnl.DA (max lim (-1)) false) rfl (by simp [M.wt, Jnl.DA])).mono ?_
  rintro e w5 ⟨rfl, h5⟩
  have h6 : Lp 0 1 [] [] (.slice none 0 0) (.slice none 0 0) w2 w5 bd bj := ⟨_, _, sj_none h5, Jnl.st_new _, by simp [M.wt, Jnl.DA], by simp [Jnl.J.new]⟩
  have H6 := Lib.hid h6
  clear h5 h6 H4 x0
  go_wp2_with fail
  go_loopw [11, 12, 13, 14] (fun fi vd vp i wr => ∃ (k first : Nat) (dur pend : List Bs) (v1 v2 : Value), v1 = vd ∧ v2 = vp ∧ k ≤ acts.length ∧ k ≤ 40 ∧ i = .int .i64 k ∧ fi = .int .i64 first ∧ Lp k first dur pend v1 v2 w2 wr bd bj) (fun _ _ _ i _ => acts.length - (intOf i).toNat)
  case atStart => exact ⟨0, 1, [], [], _, _, rfl, rfl, Nat.zero_le _, Nat.zero_le _, rfl, rfl, H6.out⟩
  case round =>
    obtain ⟨k, first, dur, pend, vd, vp, rfl, rfl, hk, hk40, rfl, rfl, j, d, hH, hst, hwt, hrl⟩ := hrel
    have HS := Lib.hid hst
    have hz1 := hst.sz.sum
    have hz0 := hst.sz.one
    clear hst H6
    by_cases hgo : k < acts.length ∧ k < 40
    · obtain ⟨hlt, h40⟩ := hgo
      obtain ⟨b, off, rfl, hbl, hcell⟩ := HA.out (Nat.lt_of_le_of_lt (Nat.zero_le _) hlt)
      obtain ⟨x0, x1, y0, y1, y2, y3⟩ := hcell k hlt
      have hbw := HB2.out.trans (hH.below.mono HB2.out.size)
      have z0 := (hbw.cell (p := ⟨b, off + k * 2, none⟩) hbl).trans x0
      have z1 := (hbw.cell (p := ⟨b, off + k * 2 + 1, none⟩) hbl).trans x1
      generalize acts.getD k (0, 0) = kq at *
      obtain ⟨kd, q⟩ := kq
      simp only at z0 z1 y0 y1 y2 y3
      have hk0 : (0 : Int) ≤ (k : Int) := by omega
      have hk1 : (k : Int) < (acts.length : Int) := by omega
      have hk2 : (k : Int) < 40 := by omega
      have HH := Lib.hid hH
      clear hcell x0 x1 hbw hH
      obtain ⟨ba, hba⟩ : ∃ ba, ba = wr.heap.size := ⟨_, rfl⟩
      have hal2 : Below wr.heap.size wr (wr.alloc (.cells #[.int .u8 kd, .int .i8 q] 64)) := (Below.refl _ wr).alloc (Nat.le_refl _) _
      have x0 : (wr.alloc (.cells #[.int .u8 kd, .int .i8 q] 64)).cell? ⟨ba, 0, none⟩ = some (.int .u8 kd) := by rw [hba]; simp
      have x1 : (wr.alloc (.cells #[.int .u8 kd, .int .i8 q] 64)).cell? ⟨ba, 1, none⟩ = some (.int .i8 q) := by rw [hba]; simp
      have hH2 := HH.out.moved nice_sj hal2
      have hshd := hH2.snd.snd.quiet fun _ hS => hS.shape
      have hshp := hH2.snd.snd.snd.quiet fun _ hS => hS.shape
      obtain ⟨ad, cd, rfl, hcd1, hcd2, -⟩ := hshd
      obtain ⟨ap, cp, rfl, hcp1, hcp2, -⟩ := hshp
      unfold maxLen at hcd2 hcp2
      have hok := dr_ok hH2
      have hfit := sj_fit hH2
      have hpl := hfit.pend
      have H2 := Lib.hid hH2
      have HBA := Lib.hid hba
      have hk8 : kd.tmod 8 = kd % 8 := Int.tmod_eq_emod_of_nonneg y0
      clear hH2 hal2 hba hfit HH
      go_upto_region 17 with fail
      rw [← HBA.out]
      generalize wr.alloc (.cells #[.int .u8 kd, .int .i8 q] 64) = wb at *
      clear HBA
      by_cases e3 : kd % 8 = 3
      · rw [e3] at hk8
        obtain ⟨Z, hZ⟩ : ∃ Z, j.commit Jnl.nm d = Z := ⟨_, rfl⟩
        have hst := Jnl.st_commit HS.out h40
        have hcw := commit_wt (n := Jnl.nm) (j := j) hok
        have hcr := commit_recs (n := Jnl.nm) (j := j) (d := d)
        rw [hZ] at hst hcw hcr
        obtain ⟨n, e, j2, d2⟩ := Z
        simp only at hst hcw hcr
        have HP := Lib.hid (sj_commit HG2.out H2.out (by omega) (by omega) hZ)
        clear hZ hok H2 e3
        go_wp2_with fail
        refine HP.out.mono ?_
        rintro x w6 ⟨rfl, h6⟩
        rcases hst with ⟨rfl, hn, hs⟩ | ⟨he, hs⟩
        · obtain ⟨v7, w7, hrun, h7⟩ := sj_join h6 (by omega)
          obtain ⟨a7, c7, hv7, -, -, -⟩ := h7.snd.snd.quiet fun _ hS => hS.shape
          subst hv7
          have hDl : (dur ++ pend).length ≤ 1000 := by rw [List.length_append]; omega
          generalize dur ++ pend = D at *
          obtain ⟨N, hN⟩ : ∃ N, N = D.length := ⟨_, rfl⟩
          rw [← hN] at h7 hn hDl hrun
          have hb0 : (0 : Int) ≤ (first : Int) + (N : Int) ∧ (first : Int) + (N : Int) ≤ 100000 := by omega
          obtain ⟨A, hA⟩ : ∃ A : Int, (first : Int) + (N : Int) = A := ⟨_, rfl⟩
          obtain ⟨B, hB⟩ : ∃ B : Int, A - 1 = B := ⟨_, rfl⟩
          rw [hA] at hn hb0
          rw [hB] at hn
          subst hn
          have hb1 : (-1 : Int) ≤ n ∧ n ≤ 100000 := by omega
          have hne : (n != n) = false := by simp
          have hw2 : wrap64 n = n := IntWalk.wrap64_in _ (by omega)
          have hw1 : wrap64 A = A := IntWalk.wrap64_in _ (by omega)
          clear hb0 hb1
          have H7 := Lib.hid h7
          have HS2 := Lib.hid hs
          have HNN := Lib.hid hN
          clear hs h6 h7 HP HS hN
          go_wp2_with fail
          clear hw1 hw2 hA hB
          go_roundw
          case rel => exact ⟨k + 1, first, D, [], _, _, rfl, rfl, by omega, by omega, by go_num, rfl, j2, d2, H7.out, HS2.out, by omega, by omega⟩
          case measure => simp [intOf]; omega
        · have hne : (e != 0) = true := by simp [he]
          have H6 := Lib.hid h6
          have HS2 := Lib.hid hs
          clear hs h6 HP HS he
          go_wp2_with fail
          go_roundw
          case rel => exact ⟨k + 1, first, dur, pend, _, _, rfl, rfl, by omega, by omega, by go_num, rfl, j2, d2, H6.out, HS2.out, by omega, by omega⟩
          case measure => simp [intOf]; omega
      have k3 : (kd % 8 == 3) = false := by simp [e3]
      by_cases e4 : kd % 8 = 4
      · rw [e4] at hk8
        have hst := Jnl.st_discard HS.out h40
        have hrd := recs_discard j
        have HP := Lib.hid (sj_discard H2.out)
        obtain ⟨Z, hZ⟩ : ∃ Z, j.discard = Z := ⟨_, rfl⟩
        rw [hZ] at hst hrd HP
        obtain ⟨e, j2⟩ := Z
        simp only at hst hrd HP
        clear hZ hok H2 e3 e4 k3
        go_wp2_with fail
        refine HP.out.mono ?_
        rintro x w6 ⟨rfl, h6⟩
        rcases hst with ⟨rfl, hs⟩ | ⟨he, hs⟩
        · have H6 := Lib.hid (sj_drop h6)
          have HS2 := Lib.hid hs
          clear hs h6 HP HS
          go_wp2_with fail
          go_roundw
          case rel => exact ⟨k + 1, first, dur, [], _, _, rfl, rfl, by omega, by omega, by go_num, rfl, j2, d, H6.out, HS2.out, by omega, by rw [hrd]; omega⟩
          case measure => simp [intOf]; omega
        · have hne : (e == 0) = false := by simp [he]
          have H6 := Lib.hid h6
          have HS2 := Lib.hid hs
          clear hs h6 HP HS he
          go_wp2_with fail
          go_roundw
          case rel => exact ⟨k + 1, first, dur, pend, _, _, rfl, rfl, by omega, by omega, by go_num, rfl, j2, d, H6.out, HS2.out, by omega, by rw [hrd]; omega⟩
          case measure => simp [intOf]; omega
      have k4 : (kd % 8 == 4) = false := by simp [e4]
      by_cases e5 : kd % 8 = 5
      · rw [e5] at hk8
        obtain ⟨t, ht⟩ : ∃ t : Nat, (t : Int) = (q % 256) % 4 := ⟨((q % 256) % 4).toNat, by omega⟩
        have ht4 : t ≤ 3 := by omega
        have hq4 : (q % 256).tmod 4 = (t : Int) := by rw [Int.tmod_eq_emod_of_nonneg (by omega), ht]
        obtain ⟨T, hT⟩ : ∃ T : Nat, T = first + t := ⟨_, rfl⟩
        have hft : (first : Int) + (t : Int) = (T : Int) := by omega
        have hTb : (T : Int) ≤ 100000 := by omega
        obtain ⟨U, hU⟩ : ∃ U : Int, (first : Int) + (dur.length : Int) = U := ⟨_, rfl⟩
        have hUb : (0 : Int) ≤ U ∧ U ≤ 100000 := by omega
        have htf : (T : Int) - (first : Int) = (t : Int) := by omega
        by_cases hc : pend = [] ∧ t ≤ dur.length
        · obtain ⟨rfl, htl⟩ := hc
          have hle : ((T : Int) ≤ U) = True := by simp; omega
          obtain ⟨Z, hZ⟩ : ∃ Z, j.cut Jnl.nm d (T : Int) = Z := ⟨_, rfl⟩
          have hst := Jnl.st_cut HS.out h40 (show first ≤ T by omega) (show T ≤ first + dur.length by omega)
          have hcw := cut_wt (n := Jnl.nm) (j := j) hok (T : Int)
          have hcr := cut_recs (n := Jnl.nm) (j := j) (d := d) (by decide) (T : Int)
          rw [hZ] at hst hcw hcr
          obtain ⟨e, j2, d2⟩ := Z
          simp only at hst hcw hcr
          have HP := Lib.hid (sj_cut HG2.out H2.out (by omega) (by omega) (by omega) hZ)
          have hTt : T - first = t := by omega
          have ht0 : (0 : Int) ≤ (t : Int) := by omega
          have ht1 : (t : Int) ≤ (dur.length : Int) := by omega
          rw [hTt] at hst
          have HTT := Lib.hid (And.intro hft (And.intro hT hU))
          clear hZ hok H2 e3 e4 e5 k3 k4 ht hT
          simp only [List.length_nil] at *
          go_wp2_with fail
          refine HP.out.mono ?_
          rintro x w6 ⟨rfl, h6⟩
          rcases hst with ⟨rfl, hdn, hs⟩ | ⟨rfl, hdn, hlv⟩ | ⟨rfl, hdn, hs⟩
          · have hd := dr_down h6 hdn
            have H6 := Lib.hid (sj_slice htl h6)
            have HS2 := Lib.hid hs
            have HD := Lib.hid hd
            clear hs h6 HP HS hd
            go_wp2_with fail
            refine HD.out.mono ?_
            rintro x w7 ⟨rfl, hw7⟩
            subst hw7
            clear HD
            go_wp2_with fail
            go_roundw
            case rel => exact ⟨k + 1, T, dur.drop t, [], _, _, rfl, rfl, by omega, by omega, by go_num, rfl, j2, d2, by simpa using H6.out, HS2.out, by omega, by omega⟩
            case measure => simp [intOf]; omega
          · have hd := dr_down h6 hdn
            have x0 := HK0.out _ h6.below
            have x1 := HK1.out _ h6.below
            have HSV := Lib.hid (survives_any (lim := lim) (ao := ao) (c := c) (sc := sc) (vp := .slice none 0 0) (pend := []) (Nice.star (nice_jrn _ _ _ _) nice_vp) HG2.out h6 (fun wx h => ⟨off_reads h.snd, (off_nil wx).reads⟩) HKS.out hlv (by omega) (by omega) (by simp only [List.length_nil]; omega) (by omega))
            have HD := Lib.hid hd
            clear hlv h6 HP HS hd
            go_wp2_with fail
            refine HD.out.mono ?_
            rintro x w7 ⟨rfl, hw7⟩
            subst hw7
            clear HD
            go_wp2_with fail
            refine HSV.out.mono ?_
            rintro e w8 ⟨rfl, h8⟩
            have HB := Lib.hid (HKB.out _ h8)
            clear h8 HSV
            go_wp2_with fail
            go_ret
            exact ⟨rfl, HB.out⟩
          · have hd := dr_down h6 hdn
            have H6 := Lib.hid h6
            have HS2 := Lib.hid hs
            have HD := Lib.hid hd
            clear hs h6 HP HS hd
            go_wp2_with fail
            refine HD.out.mono ?_
            rintro x w7 ⟨rfl, hw7⟩
            subst hw7
            clear HD
            go_wp2_with fail
            go_roundw
            case rel => exact ⟨k + 1, first, dur, [], _, _, rfl, rfl, by omega, by omega, by go_num, rfl, j2, d2, by simpa using H6.out, HS2.out, by omega, by omega⟩
            case measure => simp [intOf]; omega
        · have hno : ((pend.length : Int) == 0) = false ∨ (((pend.length : Int) == 0) = true ∧ ((T : Int) ≤ U) = False) := by
            by_cases h : pend = []
            · right
              subst h
              refine ⟨by simp, ?_⟩
              have : ¬ t ≤ dur.length := fun h => hc ⟨rfl, h⟩
              simp
              omega
            · left
              have := List.length_pos_iff.2 h
              simp [h]
          have hN := HS.out.next h40
          have HS2 := Lib.hid hN
          clear hok e3 e4 e5 k3 k4 ht hT hc hN HS
          rcases hno with c1 | ⟨c1, c2⟩
          all_goals
            go_wp2_with fail
            go_roundw
            case rel => exact ⟨k + 1, first, dur, pend, _, _, rfl, rfl, by omega, by omega, by go_num, rfl, j, d, H2.out, HS2.out, by omega, by omega⟩
            case measure => simp [intOf]; omega
      have k5 : (kd % 8 == 5) = false := by simp [e5]
      by_cases hL0 : NL = 0
      · subst hL0
        have hN := HS.out.next h40
        have HS2 := Lib.hid hN
        clear hok e3 e4 e5 hN HS
        go_wp2_with fail
        go_roundw
        case rel => exact ⟨k + 1, first, dur, pend, _, _, rfl, rfl, by omega, by omega, by go_num, rfl, j, d, H2.out, HS2.out, by omega, by omega⟩
        case measure => simp [intOf]; omega
      obtain ⟨t, ht⟩ : ∃ t : Nat, (t : Int) = (q % 256) % (NL : Int) := ⟨((q % 256) % (NL : Int)).toNat, by have := Int.emod_nonneg (q % 256) (show (NL : Int) ≠ 0 by omega); omega⟩
      have htl : t < NL := by have := Int.emod_lt_of_pos (q % 256) (show (0 : Int) < (NL : Int) by omega); omega
      have hq4 : (q % 256).tmod (NL : Int) = (t : Int) := by rw [Int.tmod_eq_emod_of_nonneg (by omega), ht]
      have c1 : ((0 : Int) < (NL : Int)) = True := eq_true (by omega)
      have hnz : ((NL : Int) == 0) = false := beq_eq_false_iff_ne.2 (by omega)
      have ht0 : (0 : Int) ≤ (t : Int) := by omega
      have ht1 : (t : Int) < (NL : Int) := by omega
      obtain ⟨lb, loff, rfl, hlb, hcells⟩ := HL.out.1 (by omega)
      have xl := (H2.out.below.cell (p := ⟨lb, loff + t, none⟩) hlb).trans (hcells t htl)
      obtain ⟨sx, hsx⟩ : ∃ sx : ByteArray, (⟨(L.getD t []).toArray⟩ : ByteArray) = sx := ⟨_, rfl⟩
      have hsd : sx.data.toList = L.getD t [] := by rw [← hsx]
      unfold strV at xl
      rw [hsx] at xl
      have hsl : sx.data.toList.length ≤ 100 := by
        rw [hsd, List.getD_eq_getElem?_getD, List.getElem?_eq_getElem (by rw [← HL.out.2.2]; exact htl)]
        exact HL.out.2.1 _ (List.getElem_mem _)
      have hst := Jnl.st_append HS.out h40 hsl
      have hra := recs_append j sx.data.toList
      have HP := Lib.hid (sj_append H2.out sx)
      obtain ⟨Z, hZ⟩ : ∃ Z, j.append sx.data.toList = Z := ⟨_, rfl⟩
      rw [hZ] at hst hra HP
      obtain ⟨n, e, j2⟩ := Z
      simp only at hst hra HP
      clear hZ hok H2 e3 e4 e5 ht hL0 hcells hsx hsd hsl
      go_wp2_with fail
      refine HP.out.mono ?_
      rintro x w6 ⟨rfl, h6⟩
      rcases hst with ⟨rfl, hs⟩ | ⟨he, hs⟩
      · obtain ⟨v7, w7, hrun, h7⟩ := sj_more sx h6 (by omega)
        have H7 := Lib.hid h7
        have HS2 := Lib.hid hs
        clear hs h6 h7 HP HS
        go_wp2_with fail
        go_roundw
        case rel => exact ⟨k + 1, first, dur, pend ++ [sx.data.toList], _, _, rfl, rfl, by omega, by omega, by go_num, rfl, j2, d, H7.out, HS2.out, by omega, by rw [hra]; omega⟩
        case measure => simp [intOf]; omega
      · have hne : (e == 0) = false := by simp [he]
        have H6 := Lib.hid h6
        have HS2 := Lib.hid hs
        clear hs h6 HP HS he
        go_wp2_with fail
        go_roundw
        case rel => exact ⟨k + 1, first, dur, pend, _, _, rfl, rfl, by omega, by omega, by go_num, rfl, j2, d, H6.out, HS2.out, by omega, by rw [hra]; omega⟩
        case measure => simp [intOf]; omega
    · have hstop : ((k : Int) < (acts.length : Int)) = False ∨ (((k : Int) < (acts.length : Int)) = True ∧ ((k : Int) < 40) = False) := by
        by_cases h : k < acts.length
        · exact .inr ⟨by simp; omega, by simp; omega⟩
        · exact .inl (by simp; omega)
      have x0 := HK0.out _ hH.below
      have x1 := HK1.out _ hH.below
      have HP := Lib.hid (survives_any (lim := lim) (ao := ao) (c := c) (sc := sc) (Nice.star (nice_jrn _ _ _ _) nice_vp) HG2.out hH (fun _ h => ⟨off_reads h.snd, off_reads h.snd.snd⟩) HKS.out HS.out.lives (by omega) (by omega) (by omega) (by omega))
      clear hH hgo hk
      rcases hstop with c1 | ⟨c1, c2⟩
      all_goals
        go_wp2_with fail
        refine HP.out.mono ?_
        rintro e w6 ⟨rfl, h6⟩
        have HB := Lib.hid (HKB.out _ h6)
        clear h6 HP
        go_wp2_with fail
        go_ret
        exact ⟨rfl, HB.out⟩
end Go.Proofs.YtlhnjdoicolkkaaGreatDoor
