/- JournalEnds: the walk. -/
import Derived.Test.YtlhnjdoicolkkaaGreatDoorJLaws
import Derived.Test.YtlhnjdoicolkkaaGreatDoorJShort
import Derived.Test.YtlhnjdoicolkkaaGreatDoorPlain
import Derived.BigRegion
import Derived.Laws.Concat
set_option maxRecDepth 100000
namespace Go.Proofs.YtlhnjdoicolkkaaGreatDoor
open Go.RowKit Go.Dsk Go.Maps Go.WideMaps
set_option maxHeartbeats 16000000

theorem content_size {f : Nat} {l : List Bs} (hf : f ≤ 1099511627776) (hl : l.length ≤ 10) (hr : ∀ r ∈ l, r.length ≤ 100) : (Jnl.content f l).length ≤ 41069 := by
  have h1 := itoa_small hf
  have h2 := frames_len (l := l) (fun r h => Nat.le_trans (hr r h) (by decide))
  unfold Jnl.content
  rw [List.length_append, Jnl.frame_length]
  have := Nat.mul_le_mul_right 4104 hl
  omega
/-- What the last two lines of the law need to know of some bytes. -/
theorem ends_know {f : Nat} {l : List Bs} {s : Bs} (h1 : 1 ≤ f) (h2 : f ≤ 1099511627776) (hr : ∀ r ∈ l, r.length ≤ 100) (h : Jnl.Near s (Jnl.content f l)) :
    ((Jnl.scan s).1 = f ∨ (Jnl.scan s).2.1.length = 0) ∧ decide ((Jnl.scan s).2.1.length ≤ l.length ∧ (Jnl.scan s).2.1 = l.take (Jnl.scan s).2.1.length) = true := by
  obtain ⟨h3, m, h4⟩ := Jnl.scan_near h1 h2 (fun r h => Nat.le_trans (hr r h) (by decide)) h
  refine ⟨h3.imp id fun e => by rw [e]; rfl, ?_⟩
  rw [decide_eq_true_iff, h4, List.length_take]
  refine ⟨by omega, ?_⟩
  rcases Nat.le_total m l.length with h | h
  · rw [Nat.min_eq_left h]
  · rw [Nat.min_eq_right h, List.take_length, List.take_of_length_le h]
theorem convert_byte (W : World) (b : Nat) (a0 : Int) (h : W.heap[b]? = some (.cells #[.int .u8 a0] 5 (0, 0))) : (convert 30 9 (.slice (some ⟨b, 0, none⟩) 1 1)).run Tryz.prog W = .ok (.string ⟨#[UInt8.ofNat a0.toNat]⟩) W := by
  rw [run_convert_bytes_string W 30 9 5 _ _ _ Tryz.underlying30 Tryz.underlying5 Tryz.underlying9]
  have h0 := block_cell h 0
  simp at h0
  rw [run_bytesToString W ⟨b, 0, none⟩ 1 1 [a0] (by simp [loadCells, h0, go_sem])]
  rfl
theorem said_JournalEnds {w : World} (hg : Glob w) (a : Int) (hw : (Lit.int .u64 a).wf = true) {va : Value} {l : List Bs} (hv : StrsIn w va l) {x y : Nat} (hx : x ≤ 65535) (_hy : y ≤ 65535) :
    Calls Tryz.prog 4 #[.int .u64 a, va, .agg #[.int .u16 x, .int .u16 y]] w fun e w' => e = .returned (.bool true) ∧ Below w.heap.size w w' := by
  have ha : 0 ≤ a ∧ a ≤ 18446744073709551615 := by
    simp [Lit.wf, IntKind.min, IntKind.max, IntKind.signed, IntKind.bits] at hw
    omega
  obtain ⟨n, rfl⟩ : ∃ n : Nat, a = n := ⟨a.toNat, by omega⟩
  obtain ⟨g, hg0⟩ : ∃ g : Nat, g = n % 1099511627776 := ⟨_, rfl⟩
  have hrem : (n : Int).tmod 1099511627776 = (g : Int) := by rw [Int.tmod_eq_emod_of_nonneg (by omega)]; omega
  have hg1 : g < 1099511627776 := by omega
  obtain ⟨f, hf⟩ : ∃ f : Nat, f = g + 1 := ⟨_, rfl⟩
  have hf0 : 1 ≤ f := by omega
  have hf1 : f ≤ 1099511627776 := by omega
  have hfg : (1 : Int) + (g : Int) = (f : Int) := by omega
  have hw0 : wrap64 (g : Int) = (g : Int) := IntWalk.wrap64_in _ (by omega)
  clear hg0 hf
  have HV := Lib.hid hv
  have HG := Lib.hid hg
  clear hv hg hw
  obtain ⟨bx, hbx⟩ : ∃ bx, bx = w.heap.size := ⟨_, rfl⟩
  have hcell0 : (w.alloc (.cells #[.int .u16 x, .int .u16 y] 27)).cell? ⟨bx, 0, none⟩ = some (.int .u16 x) := by rw [hbx]; simp
  have hcell1 : (w.alloc (.cells #[.int .u16 x, .int .u16 y] 27)).cell? ⟨bx, 1, none⟩ = some (.int .u16 y) := by rw [hbx]; simp
  have hlt : bx < (w.alloc (.cells #[.int .u16 x, .int .u16 y] 27)).heap.size := by rw [hbx]; simp
  have HB0 := Lib.hid ((Below.refl _ w).alloc (Nat.le_refl _) (.cells #[.int .u16 x, .int .u16 y] 27))
  have HC := Lib.hid (And.intro hcell0 (And.intro hcell1 hlt))
  have HBX := Lib.hid hbx
  clear hcell0 hcell1 hlt hbx
  go_enter Tryz.func4, Tryz.ntmps4
  go_upto_region 1 with fail
  rw [← HBX.out]
  generalize w.alloc (.cells #[.int .u16 x, .int .u16 y] 27) = wa at *
  go_wp2_with fail
  refine (jknown_any (HG.out.below HB0.out)).mono ?_
  rintro e w1 ⟨rfl, hb1⟩
  have HB1 := Lib.hid hb1
  clear hb1
  go_wp2_with fail
  refine (short_any ((HV.out.below HB0.out).below HB1.out)).mono ?_
  rintro e w2 ⟨v2, rfl, hr2, hb2⟩
  have hB02 := HB0.out.trans ((HB1.out.trans (hb2.mono HB1.out.size)).mono HB0.out.size)
  have hba2 := HB1.out.trans (hb2.mono HB1.out.size)
  have HSH := Lib.hid (And.intro (short_len l) (short_lens l))
  generalize shortOf l = L at *
  have HR2 := Lib.hid hr2.reads
  have HB2 := Lib.hid hB02
  have HA2 := Lib.hid hba2
  clear hr2 hb2 HV HB1 hB02 hba2
  go_wp2_with fail
  refine (jbytes_any (HG.out.below HB2.out) hf1 HR2.out (fun r hr => Nat.le_trans (HSH.out.2 r hr) (by decide)) (Nat.le_trans HSH.out.1 (by decide))).mono ?_
  rintro e w3 ⟨rfl, hb3⟩
  have HB3 := Lib.hid (HB2.out.trans (hb3.mono HB2.out.size))
  have HA3 := Lib.hid (HA2.out.trans (hb3.mono HA2.out.size))
  have HR3 := Lib.hid (HR2.out.below hb3)
  have hcs := content_size hf1 HSH.out.1 HSH.out.2
  obtain ⟨z, hz⟩ : ∃ z : ByteArray, (⟨(Jnl.content f L).toArray⟩ : ByteArray) = z := ⟨_, rfl⟩
  have hzd : z.data.toList = Jnl.content f L := by rw [← hz]
  have hzs : z.size ≤ 41069 := by
    have h : z.data.toList.length = z.size := rfl
    rw [hzd] at h
    omega
  rw [hz]
  have HZ := Lib.hid hzd
  have c0 := (HA3.out.cell (p := ⟨bx, 0, none⟩) HC.out.2.2).trans HC.out.1
  clear hb3 HB2 HA2 HR2 hcs hz hzd
  go_wp2_with fail
  refine (scans_any z (by omega) (HG.out.below HB3.out)).mono ?_
  rintro e w4 ⟨rfl, hb4⟩
  have HB4 := Lib.hid (HB3.out.trans (hb4.mono HB3.out.size))
  have HA4 := Lib.hid (HA3.out.trans (hb4.mono HA3.out.size))
  have HR4 := Lib.hid (HR3.out.below hb4)
  have c0 := (HA4.out.cell (p := ⟨bx, 0, none⟩) HC.out.2.2).trans HC.out.1
  have c1 := (HA4.out.cell (p := ⟨bx, 1, none⟩) HC.out.2.2).trans HC.out.2.1
  clear hb4 HB3 HA3 HR3
  obtain ⟨r, hr⟩ : ∃ r : Nat, r = x % (z.size + 1) := ⟨_, rfl⟩
  have hrl : r ≤ z.size := by rw [hr]; exact Nat.lt_succ_iff.1 (Nat.mod_lt x (Nat.succ_pos _))
  have hr1 : (x : Int).tmod ((z.size : Int) + 1) = (r : Int) := by rw [Int.tmod_eq_emod_of_nonneg (by omega), hr]; rfl
  have hnz : ((z.size : Int) + 1 == 0) = false := by
    have : ((z.size : Int) + 1) ≠ 0 := by omega
    simpa using this
  obtain ⟨c, hc⟩ : ∃ c : Nat, c = y % 256 := ⟨_, rfl⟩
  have hc1 : (y : Int) % 256 = (c : Int) := by omega
  have hc2 : c < 256 := by omega
  obtain ⟨z1, hz1⟩ : ∃ z1, z.extract 0 (z.size - r) = z1 := ⟨_, rfl⟩
  have hn1 : Jnl.Near z1.data.toList (Jnl.content f L) := by
    rw [← hz1, ba_take, HZ.out]
    exact Jnl.near_take _ _
  have hz1s : z1.size ≤ 41069 := by rw [← hz1, ByteArray.size_extract]; omega
  have HN1 := Lib.hid hn1
  clear hr hc hn1
  by_cases h0 : c = 0
  · subst h0
    have HN := HN1
    have hsc := Scan_any z1 (by omega) (w := w4) (HG.out.below HB4.out)
    have know := ends_know hf0 hf1 HSH.out.2 HN.out
    generalize Jnl.scan z1.data.toList = P at hsc know
    obtain ⟨A, B, C⟩ := P
    simp only at hsc know
    have KNOW := Lib.hid know
    clear know
    go_wp2_with fail
    refine hsc.mono ?_
    rintro e w5 ⟨v5, rfl, hr5, hb5⟩
    obtain ⟨ao5, c5, rfl, -⟩ := hr5.reads
    have HB5 := Lib.hid (HB4.out.trans (hb5.mono HB4.out.size))
    have HS5 := Lib.hid hr5.reads
    have HR5 := Lib.hid (HR4.out.below hb5)
    clear hr5 hb5 hsc
    go_wp2_with fail
    refine (scans_any z1 (by omega) (HG.out.below HB5.out)).mono ?_
    rintro e w6 ⟨rfl, hb6⟩
    have hbg := begins_any (HS5.out.below hb6) (HR5.out.below hb6)
    rw [KNOW.out.2] at hbg
    have HBG := Lib.hid hbg
    have HB6 := Lib.hid (HB5.out.trans (hb6.mono HB5.out.size))
    clear hb6 hbg HB5 HS5 HR5
    by_cases hA : A = f
    · subst hA
      have e1 : ((A : Int) == (A : Int)) = true := by simp
      go_wp2_with fail
      refine HBG.out.mono ?_
      rintro e w7 ⟨rfl, q, rfl⟩
      go_wp2_with fail
      go_ret
      exact ⟨rfl, HB6.out.trans ((below_drawn w6 q).mono HB6.out.size)⟩
    · have e1 : ((A : Int) == (f : Int)) = false := by simp; omega
      have e2 := KNOW.out.1.resolve_left hA
      rw [e2] at HBG
      rw [e2]
      go_wp2_with fail
      refine HBG.out.mono ?_
      rintro e w7 ⟨rfl, q, rfl⟩
      go_wp2_with fail
      go_ret
      exact ⟨rfl, HB6.out.trans ((below_drawn w6 q).mono HB6.out.size)⟩
  · have h0' : ((c : Int) != 0) = true := by
      have : (c : Int) ≠ 0 := by omega
      simpa using this
    by_cases hs0 : z1.size = 0
    · have hs0' : ((0 : Int) < (z1.size : Int)) = False := by simp [hs0]
      have HN := HN1
      have hsc := Scan_any z1 (by omega) (w := w4) (HG.out.below HB4.out)
      have know := ends_know hf0 hf1 HSH.out.2 HN.out
      generalize Jnl.scan z1.data.toList = P at hsc know
      obtain ⟨A, B, C⟩ := P
      simp only at hsc know
      have KNOW := Lib.hid know
      clear know
      go_wp2_with fail
      refine hsc.mono ?_
      rintro e w5 ⟨v5, rfl, hr5, hb5⟩
      obtain ⟨ao5, c5, rfl, -⟩ := hr5.reads
      have HB5 := Lib.hid (HB4.out.trans (hb5.mono HB4.out.size))
      have HS5 := Lib.hid hr5.reads
      have HR5 := Lib.hid (HR4.out.below hb5)
      clear hr5 hb5 hsc
      go_wp2_with fail
      refine (scans_any z1 (by omega) (HG.out.below HB5.out)).mono ?_
      rintro e w6 ⟨rfl, hb6⟩
      have hbg := begins_any (HS5.out.below hb6) (HR5.out.below hb6)
      rw [KNOW.out.2] at hbg
      have HBG := Lib.hid hbg
      have HB6 := Lib.hid (HB5.out.trans (hb6.mono HB5.out.size))
      clear hb6 hbg HB5 HS5 HR5
      by_cases hA : A = f
      · subst hA
        have e1 : ((A : Int) == (A : Int)) = true := by simp
        go_wp2_with fail
        refine HBG.out.mono ?_
        rintro e w7 ⟨rfl, q, rfl⟩
        go_wp2_with fail
        go_ret
        exact ⟨rfl, HB6.out.trans ((below_drawn w6 q).mono HB6.out.size)⟩
      · have e1 : ((A : Int) == (f : Int)) = false := by simp; omega
        have e2 := KNOW.out.1.resolve_left hA
        rw [e2] at HBG
        rw [e2]
        go_wp2_with fail
        refine HBG.out.mono ?_
        rintro e w7 ⟨rfl, q, rfl⟩
        go_wp2_with fail
        go_ret
        exact ⟨rfl, HB6.out.trans ((below_drawn w6 q).mono HB6.out.size)⟩
    · obtain ⟨u, hu⟩ : ∃ u : Nat, z1.size = u + 1 := ⟨z1.size - 1, by omega⟩
      have hu1 : u < z1.size := by omega
      have hu2 : IntKind.i64.wrap ((z1.size : Int) - 1) = (u : Int) := (IntWalk.i64_in _ (by omega)).trans (by omega)
      have hu3 : wrap64 ((z1.size : Int) - 1) = (u : Int) := (IntWalk.wrap64_in _ (by omega)).trans (by omega)
      have hq0 : (0 : Int) ≤ (u : Int) := by omega
      have hq1 : (u : Int) < (z1.size : Int) := by omega
      have hq2 : (u : Int) ≤ (z1.size : Int) := by omega
      have hs1 : ((0 : Int) < (z1.size : Int)) = True := by simp; omega
      obtain ⟨q, hx⟩ : ∃ q : Int, bits .xor .u8 (z1[u].toNat : Int) ((y : Int) % 256) = q := ⟨_, rfl⟩
      have hx2 : bits .xor .u8 (z1[u].toNat : Int) (c : Int) = q := by rw [← hc1]; exact hx
      have hcv := convert_byte (w4.alloc (.cells #[.int .u8 q] 5)).drew w4.heap.size q (heap_alloc_new w4 _)
      obtain ⟨z2, hz2⟩ : ∃ z2, z1.extract 0 u ++ ⟨#[UInt8.ofNat q.toNat]⟩ = z2 := ⟨_, rfl⟩
      have hes : ((z1.extract 0 u).size : Int) ≤ 8388608 := by rw [ByteArray.size_extract]; omega
      have hadd : ∀ W : World, (Op.stringOp .add (z1.extract 0 u) ⟨#[UInt8.ofNat q.toNat]⟩).run Tryz.prog W = .ok (.string z2) W := fun W => by
        rw [run_string_add W _ _ hes (by show ((1 : Nat) : Int) ≤ _; decide), hz2]
      have hz2s : z2.size ≤ 41069 := by
        rw [← hz2, ByteArray.size_append, ByteArray.size_extract]
        show _ + 1 ≤ _
        omega
      have hn2 : Jnl.Near z2.data.toList (Jnl.content f L) := by
        have h := Jnl.near_other HN1.out (show 0 < z1.data.toList.length from by show 0 < z1.size; omega) (UInt8.ofNat q.toNat)
        have e : z2.data.toList = z1.data.toList.take (z1.data.toList.length - 1) ++ [UInt8.ofNat q.toNat] := by
          rw [← hz2, ByteArray.data_append, Array.toList_append, ba_take]
          have : z1.data.toList.length - 1 = u := by show z1.size - 1 = u; omega
          rw [this]
        rw [e]
        exact h
      have HN := Lib.hid hn2
      clear hu hes hz2 hn2
      go_upto_region 11 with fail
      go_region
      all_goals
        have hbw : Below w4.heap.size w4 (w4.alloc (.cells #[.int .u8 q] 5)).drew := ((Below.refl _ w4).alloc (Nat.le_refl _) _).drew
        have HB4' := Lib.hid (HB4.out.trans (hbw.mono HB4.out.size))
        have HR4' := Lib.hid (HR4.out.below hbw)
        clear hcv hbw
        generalize (w4.alloc (.cells #[.int .u8 q] 5)).drew = w5' at *
        have hsc := Scan_any z2 (by omega) (w := w5') (HG.out.below HB4'.out)
        have know := ends_know hf0 hf1 HSH.out.2 HN.out
        generalize Jnl.scan z2.data.toList = P at hsc know
        obtain ⟨A, B, C⟩ := P
        simp only at hsc know
        have KNOW := Lib.hid know
        clear know
        go_wp2_with fail
        refine hsc.mono ?_
        rintro e w5 ⟨v5, rfl, hr5, hb5⟩
        obtain ⟨ao5, c5, rfl, -⟩ := hr5.reads
        have HB5 := Lib.hid (HB4'.out.trans (hb5.mono HB4'.out.size))
        have HS5 := Lib.hid hr5.reads
        have HR5 := Lib.hid (HR4'.out.below hb5)
        clear hr5 hb5 hsc
        go_wp2_with fail
        refine (scans_any z2 (by omega) (HG.out.below HB5.out)).mono ?_
        rintro e w6 ⟨rfl, hb6⟩
        have hbg := begins_any (HS5.out.below hb6) (HR5.out.below hb6)
        rw [KNOW.out.2] at hbg
        have HBG := Lib.hid hbg
        have HB6 := Lib.hid (HB5.out.trans (hb6.mono HB5.out.size))
        clear hb6 hbg HB5 HS5 HR5
        by_cases hA : A = f
        · subst hA
          have e1 : ((A : Int) == (A : Int)) = true := by simp
          go_wp2_with fail
          refine HBG.out.mono ?_
          rintro e w7 ⟨rfl, q, rfl⟩
          go_wp2_with fail
          go_ret
          exact ⟨rfl, HB6.out.trans ((below_drawn w6 q).mono HB6.out.size)⟩
        · have e1 : ((A : Int) == (f : Int)) = false := by simp; omega
          have e2 := KNOW.out.1.resolve_left hA
          rw [e2] at HBG
          rw [e2]
          go_wp2_with fail
          refine HBG.out.mono ?_
          rintro e w7 ⟨rfl, q, rfl⟩
          go_wp2_with fail
          go_ret
          exact ⟨rfl, HB6.out.trans ((below_drawn w6 q).mono HB6.out.size)⟩
end Go.Proofs.YtlhnjdoicolkkaaGreatDoor
