/- JournalFull: the walk. -/
import Derived.Test.YtlhnjdoicolkkaaGreatDoorJStart
import Derived.Test.YtlhnjdoicolkkaaGreatDoorFullPure
import Derived.Test.YtlhnjdoicolkkaaGreatDoorJEnds
import Derived.Deep.OwnRows
import Derived.Deep.RegionHeld3
import Derived.Deep.RegionHeldLaw
import Derived.Deep.RegionLaw
set_option maxRecDepth 100000
namespace Go.Proofs.YtlhnjdoicolkkaaGreatDoor
open Go.RowKit Go.Dsk Go.Maps Go.WideMaps
set_option maxHeartbeats 16000000
open Jnl (J)

/-- A row of bytes as a string, by another name: a region's walk does not open it, so that an equation on it fits. -/
def convX (v : Value) := convert 30 9 v
theorem convX_is (v : Value) : convert 30 9 v = convX v := rfl
attribute [local go_sem ↓] convX_is
theorem infoByte' : (Tryz.prog.info? 5).map (fun i => (i.zero, i.size, i.bytes)) = some (some (.int .u8 0), 1, 1) := by kernel_rfl
theorem make_long (w : World) : (Instr.makeSlice 30 (.int .i64 4097) (.int .i64 4097)).run Tryz.prog w = .ok (.slice (some ⟨w.heap.size, 0, none⟩) 4097 4097) (w.alloc (.cells (madeCells #[.int .u8 0] 4097) 5)) :=
  run_make_row' 30 5 (.int .u8 0) 1 Tryz.underlying30 infoByte' rfl .i64 .i64 4097 (by decide) (by decide) w
/-- A row of 4097 bytes, of which the first q are c. -/
def FillP (bl : Nat) (c : Int) (q : Nat) : SP := fun S w => (∀ i, S i ↔ i = bl) ∧ ∃ cur, w.heap[bl]? = some (.cells cur 5 (0, 0)) ∧ cur.size = 4097 ∧ ∀ j, j < 4097 → cur[j]? = some (.int .u8 (if j < q then c else 0))
theorem nice_fill (bl : Nat) (c : Int) (q : Nat) : Nice (FillP bl c q) where
  lt h i hi := by
    obtain ⟨h0, cur, h1, _⟩ := h
    rw [(h0 i).1 hi]; exact lt_of_block h1
  keep h hf hd := by
    obtain ⟨h0, cur, h1, h2⟩ := h
    exact ⟨h0, cur, (hf.block bl (lt_of_block h1) (.inl (hd bl ((h0 bl).2 rfl)))).trans h1, h2⟩
theorem fill_new (w : World) (c : Int) : FillP w.heap.size c 0 (fun i => i = w.heap.size) (w.alloc (.cells (madeCells #[.int .u8 0] 4097) 5)) := by
  obtain ⟨cur, hb, hs, hc⟩ := World.rowIs_made w (.int .u8 0) 4097 5
  exact ⟨fun _ => Iff.rfl, cur, hb, hs, fun j hj => by rw [hc j hj, if_neg (Nat.not_lt_zero j)]⟩
theorem fill_set {bl q : Nat} {c : Int} {S : Nat → Prop} {w : World} (h : FillP bl c q S w) (hq : q < 4097) : Does S w (FillP bl c (q + 1)) (w.setCell ⟨bl, q, none⟩ (.int .u8 c)) := by
  obtain ⟨h0, cur, h1, h2, h3⟩ := h
  have nb : ¬ IsBox w bl := by
    rintro ⟨s, hs⟩
    rw [h1] at hs
    simp only [Option.some.injEq, Obj.cells.injEq] at hs
    obtain ⟨rfl, _⟩ := hs
    simp at h2
  refine ⟨S, fun _ => .inl, ⟨h0, _, block_set h1 q _, by simpa using h2, fun j hj => ?_⟩, ((Fr.refl S w).setCell (p := ⟨bl, q, none⟩) (.inl ((h0 bl).2 rfl)) nb _)⟩
  rw [Array.getElem?_setIfInBounds]
  by_cases e : q = j
  · subst e
    rw [if_pos rfl, if_pos (by omega), if_pos (by omega)]
  · rw [if_neg e, h3 j hj]
    by_cases e2 : j < q
    · rw [if_pos e2, if_pos (by omega)]
    · rw [if_neg e2, if_neg (by omega)]
theorem fill_at {bl q : Nat} {c : Int} {S : Nat → Prop} {w : World} (h : FillP bl c q S w) {j : Nat} (hj : j < 4097) : w.cell? ⟨bl, j, none⟩ = some (.int .u8 (if j < q then c else 0)) ∧ w.frozen? ⟨bl, j, none⟩ = false := by
  obtain ⟨_, cur, h1, _, h3⟩ := h
  exact ⟨(block_cell h1 j).trans (h3 j hj), block_free h1 j⟩
theorem fill_string {bl : Nat} {cb : UInt8} {S : Nat → Prop} {w : World} (h : FillP bl (cb.toNat : Int) 4097 S w) (o n : Nat) (ho : o + n = 4097) (W : World) (hW : W.heap[bl]? = w.heap[bl]?) : (convert 30 9 (.slice (some ⟨bl, o, none⟩) n n)).run Tryz.prog W = .ok (.string ⟨(List.replicate n cb).toArray⟩) W := by
  have := run_convert_bytes_back (P := Tryz.prog) W 30 9 5 ⟨bl, o, none⟩ n (List.replicate n cb) Tryz.underlying30 Tryz.underlying5 Tryz.underlying9 (fun j hj => by
    have hj' : j < n := by simpa using hj
    rw [add_plain2, World.cell?_of_block (a := ⟨bl, o + j, none⟩) hW, (fill_at h (by omega : o + j < 4097)).1, if_pos (by omega)]
    simp)
  simpa using this
theorem pair_c0 {w0 w : World} {bp bj bm bd bo : Nat} {d m : M} {j k : J} {R : SP} (h : Duo R w0 w bp bj bm bd bo d m j k) : w.cell? ⟨bp, 0, none⟩ = some (pj bj) := by
  obtain ⟨_, _, _, _, _, _, _, _, _, _, _, _, _, _, _, _, _, _, _, _, _, _, _, _, _, _, _, h, _⟩ := h
  have := block_cell h.2 0
  simpa using this
theorem nice_beside {bp bj bm bd bo : Nat} {d m : M} {k : J} {R : SP} (hR : Nice R) : Nice (Star (DiskP bd d) (Star (DiskP bo m) (Star (MdlP bm bo logB k) (Star (PairP bp bj bm bd) R)))) :=
  Nice.star (nice_disk _ _) (Nice.star (nice_disk _ _) (Nice.star (nice_mdl _ _ _ _) (Nice.star (nice_pair _ _ _ _) hR)))
theorem duo_in {w0 w : World} {F : SP} {bp bj bm bd bo : Nat} {d m : M} {j k : J} (h : Has w0 w (Star F (Star (DiskP bd d) (Star (JrnP bj bd logB j) (Star (DiskP bo m) (Star (MdlP bm bo logB k) (Star (PairP bp bj bm bd) Nil))))))) : Duo (Star F Nil) w0 w bp bj bm bd bo d m j k :=
  h.left.imp fun _ h => h.inner fun _ h => h.left.inner fun _ h => h.left.inner fun _ h => h.left.inner fun _ h => h.left
theorem duo_out {w0 w : World} {F : SP} {bp bj bm bd bo : Nat} {d m : M} {j k : J} (h : Duo (Star F Nil) w0 w bp bj bm bd bo d m j k) : Has w0 w (Star F (Star (DiskP bd d) (Star (JrnP bj bd logB j) (Star (DiskP bo m) (Star (MdlP bm bo logB k) (Star (PairP bp bj bm bd) Nil)))))) :=
  (h.imp fun _ h => h.inner fun _ h => (h.inner fun _ h => (h.inner fun _ h => (h.inner fun _ h => h.left).left).left).left).left
theorem nice_rest {bp bj bm bd bo : Nat} {m : M} {k : J} {R : SP} (hR : Nice R) : Nice (Star (DiskP bo m) (Star (MdlP bm bo logB k) (Star (PairP bp bj bm bd) R))) :=
  Nice.star (nice_disk _ _) (Nice.star (nice_mdl _ _ _ _) (Nice.star (nice_pair _ _ _ _) hR))
theorem app_ok {p : List Bs} {r : Bs} (hp : p.length < 64) (hr : r.length ≤ 4096) : (Jnl.jn p).append r = ((p.length : Int) + 1, 0, Jnl.jn (p ++ [r])) := by
  unfold Jnl.J.append
  rw [if_neg (by simp [Jnl.jn]), if_neg (by omega), if_neg (by show ¬ 64 ≤ p.length; omega)]
  simp [Jnl.jn, Jnl.J.last]
theorem app_full {p : List Bs} {r : Bs} (hp : 64 ≤ p.length) (hr : r.length ≤ 4096) : (Jnl.jn p).append r = (0, 6, Jnl.jn p) := by
  unfold Jnl.J.append
  rw [if_neg (by simp [Jnl.jn]), if_neg (by omega), if_pos (by show 64 ≤ p.length; omega)]
theorem app_long {p : List Bs} {r : Bs} (hr : 4096 < r.length) : (Jnl.jn p).append r = (0, 5, Jnl.jn p) := by
  unfold Jnl.J.append
  rw [if_neg (by simp [Jnl.jn]), if_pos hr]
theorem said_JournalFull {w : World} (hg : Glob w) (n : Int) (hn : (Lit.int .u8 n).wf = true) (c : Int) (hc : (Lit.int .u8 c).wf = true) :
    Calls Tryz.prog 6 #[.int .u8 n, .int .u8 c] w fun e w' => e = .returned (.bool true) ∧ Below w.heap.size w w' := by
  have hn' : 0 ≤ n ∧ n ≤ 255 := by
    simp [Lit.wf, IntKind.min, IntKind.max, IntKind.signed, IntKind.bits] at hn
    omega
  have hc' : 0 ≤ c ∧ c ≤ 255 := by
    simp [Lit.wf, IntKind.min, IntKind.max, IntKind.signed, IntKind.bits] at hc
    omega
  obtain ⟨cb, hcb⟩ : ∃ cb : UInt8, (cb.toNat : Int) = c := ⟨UInt8.ofNat c.toNat, by rw [UInt8.toNat_ofNat']; omega⟩
  obtain ⟨k, hk⟩ : ∃ k : Nat, k = (n.tmod 70).toNat := ⟨_, rfl⟩
  have hkm : n.tmod 70 = (k : Int) := by rw [hk, Int.tmod_eq_emod_of_nonneg (by omega)]; omega
  have hk70 : k < 70 := by rw [hk, Int.tmod_eq_emod_of_nonneg (by omega)]; omega
  have hsb : UInt8.ofNat c.toNat = cb := by rw [← UInt8.toNat_inj, UInt8.toNat_ofNat']; omega
  obtain ⟨sb, hsb2⟩ : ∃ sb : ByteArray, (⟨#[cb]⟩ : ByteArray) = sb := ⟨_, rfl⟩
  have hsd : sb.data.toList = [cb] := by rw [← hsb2]
  have hcvt : ∀ (W : World) (b : Nat), W.heap[b]? = some (.cells #[.int .u8 c] 5 (0, 0)) → (convX (.slice (some ⟨b, 0, none⟩) 1 1)).run Tryz.prog W = .ok (.string sb) W := fun W b h => by
    rw [← convX_is, convert_byte W b c h, hsb, hsb2]
  obtain ⟨m64, hm64⟩ : ∃ m64 : Nat, m64 = min k 64 := ⟨_, rfl⟩
  have hmin : min (k : Int) 64 = (m64 : Int) := by omega
  have hm1 : m64 ≤ 64 := by omega
  have HM := Lib.hid hm64
  have HG := Lib.hid hg
  have HSD := Lib.hid hsd
  have HCV := Lib.hid hcvt
  have HCB := Lib.hid hcb
  clear hg hk hn hc hsb hsb2 hsd hcvt hcb hm64
  go_enter Tryz.func6, Tryz.ntmps6
  go_wp2_with fail
  refine (jknown_any HG.out).mono ?_
  rintro e w1 ⟨rfl, hb1⟩
  have HB1 := Lib.hid hb1
  clear hb1
  go_wp2_with fail
  refine (start_any (HG.out.below HB1.out) 300000 (by omega) (by omega)).mono ?_
  rintro e w2 ⟨bp, bj, bm, bd, bo, m, rfl, -, -, h2⟩
  have H2 := Lib.hid h2
  clear h2
  go_wp2_with fail
  go_loopw [7] (fun i wr => ∃ q : Nat, q ≤ k ∧ i = .int .i64 q ∧ Duo Nil w1 wr bp bj bm bd bo (M.new 300000) m (Jnl.jn (List.replicate (min q 64) [cb])) Jnl.J.new) (fun i _ => k - (intOf i).toNat)
  case atStart => exact ⟨0, Nat.zero_le _, rfl, H2.out⟩
  case round =>
    obtain ⟨q, hq, rfl, hD⟩ := hrel
    have HD := Lib.hid hD
    have pc0 := pair_c0 hD
    clear hD H2
    by_cases hlt : q < k
    · have hq0 : ((q : Int) < (k : Int)) = True := by simp; omega
      have hal : Below wr.heap.size wr (wr.alloc (.cells #[.int .u8 c] 5)) := (Below.refl _ wr).alloc (Nat.le_refl _) _
      have HW := Lib.hid (HD.out.moved (nice_duo Nice.nil) hal.drew)
      have hcv1 := fun W : World => HCV.out (W.alloc (.cells #[.int .u8 c] 5)).drew W.heap.size (heap_alloc_new W _)
      have hcv2 := fun W : World => HCV.out (W.alloc (.cells #[.int .u8 c] 5)) W.heap.size (heap_alloc_new W _)
      have hcv3 := fun W : World => HCV.out (W.drew.alloc (.cells #[.int .u8 c] 5)) W.heap.size (heap_alloc_new W.drew _)
      have pc0a : (wr.alloc (.cells #[.int .u8 c] 5)).cell? ⟨bp, 0, none⟩ = some (pj bj) := by
        have h := pair_c0 HW.out
        exact h
      clear hal
      by_cases h64 : q < 64
      · have hq64 : ((q : Int) < 64) = True := by simp; omega
        have ha : (Jnl.jn (List.replicate (min q 64) [cb])).append sb.data.toList = ((q : Int) + 1, 0, Jnl.jn (List.replicate (min (q + 1) 64) [cb])) := by
          rw [Nat.min_eq_left (by omega), Nat.min_eq_left (by omega), HSD.out, app_ok (by simp; omega) (by simp), List.length_replicate, ← List.replicate_succ']
        have hap := JAppend_jr (nice_beside Nice.nil) HW.out.left sb
        rw [ha] at hap
        have HAP := Lib.hid hap
        clear ha hap
        go_upto_region 10 with fail
        go_region_law
          (first
            | (go_simp
               go_at_call 22
               refine HAP.out.mono ?_
               rintro e wa ⟨rfl, ha⟩
               dsimp only
               have HA := Lib.hid ha.left
               clear ha))
        all_goals
          go_wp2_with fail
          go_roundw
          case rel => exact ⟨q + 1, by omega, by go_num, HA.out⟩
          case measure => simp [intOf]; omega
      · have hq64 : ((q : Int) < 64) = False := by simp; omega
        have hq64' : ((64 : Int) ≤ (q : Int)) = True := by simp; omega
        have ha : (Jnl.jn (List.replicate (min q 64) [cb])).append sb.data.toList = (0, 6, Jnl.jn (List.replicate (min (q + 1) 64) [cb])) := by
          rw [Nat.min_eq_right (by omega), Nat.min_eq_right (by omega), HSD.out, app_full (by simp) (by simp)]
        have hap := JAppend_jr (nice_beside Nice.nil) HW.out.left sb
        rw [ha] at hap
        have HAP := Lib.hid hap
        clear ha hap
        go_upto_region 10 with fail
        go_region_law
          (first
            | (go_simp
               go_at_call 22
               refine HAP.out.mono ?_
               rintro e wa ⟨rfl, ha⟩
               dsimp only
               have HA := Lib.hid ha.left
               clear ha))
        all_goals
          go_wp2_with fail
          go_roundw
          case rel => exact ⟨q + 1, by omega, by go_num, HA.out⟩
          case measure => simp [intOf]; omega
    · obtain rfl : q = k := by omega
      have hmk := make_long wr
      have hfl := duo_in (HD.out.new (nice_duo Nice.nil) ((Below.refl _ wr).alloc (Nat.le_refl _) (.cells (madeCells #[.int .u8 0] 4097) 5)) (P := FillP wr.heap.size c 0) (S := fun i => i = wr.heap.size) (fun i hi => by rw [hi]; exact Nat.le_refl _) (fill_new wr c))
      have HFL := Lib.hid hfl
      clear hfl pc0 HD
      go_upto_region 14 with fail
      clear hmk
      generalize wr.alloc (.cells (madeCells #[.int .u8 0] 4097) 5) = wl at *
      generalize wr.heap.size = bl at *
      obtain ⟨P, hP⟩ : ∃ P : List Bs, List.replicate (min q 64) [cb] = P := ⟨_, rfl⟩
      have hPl : P.length = m64 := by rw [← hP, List.length_replicate, HM.out]
      rw [hP] at HFL
      clear hP
      go_wp2_with fail
      go_loopw [11] (fun i wr2 => ∃ p : Nat, p ≤ 4097 ∧ i = .int .i64 p ∧ Duo (Star (FillP bl c p) Nil) w1 wr2 bp bj bm bd bo (M.new 300000) m (Jnl.jn P) Jnl.J.new) (fun i _ => 4097 - (intOf i).toNat)
      case atStart => exact ⟨0, Nat.zero_le _, rfl, HFL.out⟩
      case round =>
        obtain ⟨p, hp, rfl, hE⟩ := hrel
        have HE := Lib.hid (duo_out hE)
        clear hE HFL
        by_cases hlt2 : p < 4097
        · obtain ⟨x0, z0⟩ := HE.out.quiet fun S hS => fill_at hS hlt2
          have hp0 : (0 : Int) ≤ (p : Int) := by omega
          have hp1 : (p : Int) < 4097 := by omega
          have hst := duo_in (HE.out.turn (nice_duo Nice.nil) fun S hS => fill_set hS hlt2)
          have HST := Lib.hid hst
          clear hst
          go_wp2_with fail
          go_roundw
          case rel => exact ⟨p + 1, by omega, by go_num, HST.out⟩
          case measure => simp [intOf]; omega
        · obtain rfl : p = 4097 := by omega
          have hp1 : ((4097 : Int) < 4097) = False := by simp
          have pc0 := pair_c0 (duo_in HE.out)
          obtain ⟨lb, hlb⟩ : ∃ lb : ByteArray, (⟨(List.replicate 4097 cb).toArray⟩ : ByteArray) = lb := ⟨_, rfl⟩
          have hll : lb.data.toList = List.replicate 4097 cb := by rw [← hlb]
          have hcv : ∀ W : World, W.heap[bl]? = wr.heap[bl]? → (convX (.slice (some ⟨bl, 0, none⟩) 4097 4097)).run Tryz.prog W = .ok (.string lb) W := fun W hW => HE.out.quiet fun S hS => by
            rw [← HCB.out] at hS
            rw [← convX_is, fill_string hS 0 4097 rfl W hW, hlb]
          have hcva := hcv wr rfl
          have hcvb := hcv wr.drew rfl
          have hW := (duo_in HE.out).moved (nice_duo (Nice.star (nice_fill _ _ _) Nice.nil)) (Below.refl _ wr).drew
          have hap := JAppend_jr (nice_beside (Nice.star (nice_fill _ _ _) Nice.nil)) hW.left lb
          rw [app_long (by rw [hll, List.length_replicate]; decide)] at hap
          have HAP := Lib.hid hap
          clear hcv hlb hll hW hap
          go_upto_region 18 with fail
          go_region_law
            (first
              | (go_simp
                 go_at_call 22
                 refine HAP.out.mono ?_
                 rintro e wa ⟨rfl, ha⟩
                 dsimp only
                 have HA := Lib.hid ha.left
                 clear ha))
          all_goals
            clear hcva hcvb pc0 HAP
            have pc1 := pair_c0 HA.out
            obtain ⟨vr, vp, hsee⟩ := jr_see HA.out.left
            have hpend := Pending_any hsee
            have hpv : (if (Jnl.jn P).broken then (0 : Int) else ((Jnl.jn P).pend.length : Int)) = (m64 : Int) := by show ((P.length : Nat) : Int) = _; rw [hPl]
            rw [hpv] at hpend
            have HPD := Lib.hid hpend
            clear hsee hpend hpv
            go_wp2_with fail
            refine HPD.out.mono ?_
            rintro e wb ⟨rfl, hwb⟩
            obtain rfl := hwb.symm
            by_cases h64 : q < 64
            · have hq64 : ((q : Int) < 64) = True := by simp; omega
              have hPq : P.length = q := by rw [hPl, HM.out]; omega
              obtain ⟨lb2, hlb2⟩ : ∃ lb2 : ByteArray, (⟨(List.replicate 4096 cb).toArray⟩ : ByteArray) = lb2 := ⟨_, rfl⟩
              have hll : lb2.data.toList = List.replicate 4096 cb := by rw [← hlb2]
              have hcv : ∀ W : World, W.heap[bl]? = wa.heap[bl]? → (convX (.slice (some ⟨bl, 1, none⟩) 4096 4096)).run Tryz.prog W = .ok (.string lb2) W := fun W hW => (duo_out HA.out).quiet fun S hS => by
                rw [← HCB.out] at hS
                rw [← convX_is, fill_string hS 1 4096 rfl W hW, hlb2]
              have hcva := hcv wa rfl
              have hcvb := hcv wa.drew rfl
              have hW := HA.out.moved (nice_duo (Nice.star (nice_fill _ _ _) Nice.nil)) (Below.refl _ wa).drew
              have hap := JAppend_jr (nice_beside (Nice.star (nice_fill _ _ _) Nice.nil)) hW.left lb2
              have hrl : lb2.data.toList.length ≤ 4096 := by rw [hll, List.length_replicate]; exact Nat.le_refl _
              rw [app_ok (by omega) hrl] at hap
              have HAP := Lib.hid hap
              clear hcv hlb2 hll hW hap
              go_upto_region 22 with fail
              go_region_law
                (first
                  | (go_simp
                     go_at_call 22
                     refine HAP.out.mono ?_
                     rintro e wc ⟨rfl, ha⟩
                     dsimp only
                     have HC := Lib.hid ha.left
                     clear ha))
              all_goals
                clear hcva hcvb HAP HA pc1
                have pc2 := pair_c0 HC.out
                obtain ⟨P2, hP2⟩ : ∃ P2 : List Bs, P ++ [lb2.data.toList] = P2 := ⟨_, rfl⟩
                have hP2l : P2.length = q + 1 := by rw [← hP2, List.length_append, hPq]; rfl
                have hmin2 : min ((q : Int) + 1) 64 = (q : Int) + 1 := by omega
                have hcq : ((P2.length : Nat) : Int) = (q : Int) + 1 := by rw [hP2l]; omega
                rw [hP2] at HC
                clear hP2
                obtain ⟨X, hX⟩ := Jnl.commit_new (n := logB.data.toList) (p := P2) (c := 300000) (by decide) (by intro e; rw [e] at hcq; simp at hcq; try omega) (by
                  have hfit := (jr_see HC.out.left).elim fun _ h => h.elim fun _ h => h.fit
                  have h1 := frames_len (l := P2) hfit.lenP
                  have h2 : P2.length ≤ 64 := hfit.pend
                  have h3 := itoa_small (n := 1) (by decide)
                  have h4 := Nat.mul_le_mul_right 4104 h2
                  show ((((Jnl.frame (Lib.itoa 1) ++ Jnl.frames P2 : Bs)).length : Nat) : Int) ≤ 300000
                  rw [List.length_append, Jnl.frame_length]
                  have h5 : (Lib.itoa 1).length ≤ 21 := h3
                  omega)
                have hcm := Commit_any (nice_rest (Nice.star (nice_fill _ _ _) Nice.nil)) (HG.out.below HB1.out) HC.out (by decide) (by simp [M.wt, M.new]) (by simp [Jnl.jn])
                rw [hX, hcq] at hcm
                have HCM := Lib.hid hcm
                clear hX hcm
                go_wp2_with fail
                refine HCM.out.mono ?_
                rintro e wd ⟨rfl, hd⟩
                have pc3 := pair_c0 hd
                obtain ⟨vr2, vp2, hsee2⟩ := jr_see hd.left
                have hpend2 := Pending_any hsee2
                have hpv2 : (if (⟨1, P2, [], true, false⟩ : J).broken then (0 : Int) else (((⟨1, P2, [], true, false⟩ : J).pend.length : Nat) : Int)) = 0 := rfl
                rw [hpv2] at hpend2
                have HPD2 := Lib.hid hpend2
                have HD2 := Lib.hid hd
                clear hsee2 hpend2 hpv2 hd
                go_wp2_with fail
                refine HPD2.out.mono ?_
                rintro e we ⟨rfl, hwe⟩
                obtain rfl := hwe.symm
                go_wp2_with fail
                go_ret
                exact ⟨rfl, HB1.out.trans (HD2.out.below.mono HB1.out.size)⟩
            · have hq64 : ((q : Int) < 64) = False := by simp; omega
              have hm : m64 = 64 := by rw [HM.out]; omega
              subst hm
              have pc2 := pc1
              have hcq : ((P.length : Nat) : Int) = 64 := by rw [hPl]; rfl
              obtain ⟨X, hX⟩ := Jnl.commit_new (n := logB.data.toList) (p := P) (c := 300000) (by decide) (by intro e; rw [e] at hcq; simp at hcq; try omega) (by
                have hfit := (jr_see HA.out.left).elim fun _ h => h.elim fun _ h => h.fit
                have h1 := frames_len (l := P) hfit.lenP
                have h2 : P.length ≤ 64 := hfit.pend
                have h3 := itoa_small (n := 1) (by decide)
                have h4 := Nat.mul_le_mul_right 4104 h2
                show ((((Jnl.frame (Lib.itoa 1) ++ Jnl.frames P : Bs)).length : Nat) : Int) ≤ 300000
                rw [List.length_append, Jnl.frame_length]
                have h5 : (Lib.itoa 1).length ≤ 21 := h3
                omega)
              have hcm := Commit_any (nice_rest (Nice.star (nice_fill _ _ _) Nice.nil)) (HG.out.below HB1.out) HA.out (by decide) (by simp [M.wt, M.new]) (by simp [Jnl.jn])
              rw [hX, hcq] at hcm
              have HCM := Lib.hid hcm
              clear hX hcm
              go_wp2_with fail
              refine HCM.out.mono ?_
              rintro e wd ⟨rfl, hd⟩
              have pc3 := pair_c0 hd
              obtain ⟨vr2, vp2, hsee2⟩ := jr_see hd.left
              have hpend2 := Pending_any hsee2
              have hpv2 : (if (⟨1, P, [], true, false⟩ : J).broken then (0 : Int) else (((⟨1, P, [], true, false⟩ : J).pend.length : Nat) : Int)) = 0 := rfl
              rw [hpv2] at hpend2
              have HPD2 := Lib.hid hpend2
              have HD2 := Lib.hid hd
              clear hsee2 hpend2 hpv2 hd
              go_wp2_with fail
              refine HPD2.out.mono ?_
              rintro e we ⟨rfl, hwe⟩
              obtain rfl := hwe.symm
              go_wp2_with fail
              go_ret
              exact ⟨rfl, HB1.out.trans (HD2.out.below.mono HB1.out.size)⟩
end Go.Proofs.YtlhnjdoicolkkaaGreatDoor
