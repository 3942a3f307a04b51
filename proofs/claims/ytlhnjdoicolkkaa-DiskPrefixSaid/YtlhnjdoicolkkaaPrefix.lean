/- What is there of a file behind a failure is a beginning of it: the walk. -/
import Derived.Test.YtlhnjdoicolkkaaKnown
import Derived.Test.YtlhnjdoicolkkaaPrefixPure
import Derived.Test.YtlhnjdoicolkkaaInAt
import Derived.WalkSmall
set_option maxRecDepth 100000
namespace Go.Proofs.Ytlhnjdoicolkkaa
open Go.RowKit Go.Dsk Go.Maps Go.WideMaps
set_option maxHeartbeats 1000000

theorem prefix_small {w : World} {ao : Option Addr} {c : Nat} {ss : List ByteArray} {sy : Int} {ai : Option Addr} {ci : Nat} {sc : List Int} (hsl : ss.length ≤ 10) (hs : sc.length ≤ 12) (h0 : 0 ≤ sy) (h1 : sy ≤ 255) (hb : StrsBody w ao c ss) (hss : ∀ s ∈ ss, s.size ≤ maxLen) (hi : IntsBody w ai ci sc) :
    Calls Try.prog 3 #[.slice ao ss.length c, .int .u8 sy, .slice ai sc.length ci] w fun e w' => e = .returned (.bool true) ∧ Below w.heap.size w w' := by
  have HB := Lib.hid hb
  have HI := Lib.hid hi
  have HSS := Lib.hid hss
  clear hb hi hss
  go_enter Try.func3, Try.ntmps3
  go_wp2_with fail
  refine (known_any _).mono ?_
  rintro e v0 ⟨rfl, hb0⟩
  have HB0 := Lib.hid hb0
  clear hb0
  go_wp2_with fail
  refine (New_dk 600 (by omega) (by omega) HB0.out).mono ?_
  rintro e v1 ⟨bd, rfl, h⟩
  have D0 := Lib.hid h
  clear h
  go_wp2_with fail
  refine (D0.out.append ⟨#[97]⟩ ⟨#[]⟩ (by decide) (by decide) (show _ = ((0 : Int), Pn 600 [] 0) from p_new 600 [] (by simp)) (by simp [M.wt, Pn])).mono ?_
  rintro e v2 ⟨rfl, h⟩
  have D1 := Lib.hid h
  clear h
  go_wp2_with fail
  refine (D1.out.publish (show _ = ((0 : Int), Pf 600 [] 0) from p_publish 600 [] 0) (by simp [M.wt, Pf])).mono ?_
  rintro e v3 ⟨rfl, h⟩
  have D2 := Lib.hid h
  clear h
  go_wp2_with fail
  go_loopw [9, 10, 11] (fun al du i wr => ∃ (k : Nat) (a : ByteArray) (d : Nat), k ≤ ss.length ∧ i = .int .i64 k ∧ al = .string a ∧ du = .int .i64 d ∧ a.size ≤ 50 * k ∧ d ≤ a.size ∧ Dk w wr bd (Pf 600 a.data.toList d)) (fun _ _ i _ => ss.length - (intOf i).toNat)
  case atStart => exact ⟨0, ⟨#[]⟩, 0, Nat.zero_le _, rfl, rfl, rfl, by simp [ByteArray.size], Nat.zero_le _, D2.out⟩
  case round =>
    obtain ⟨k, a, d, hk, rfl, rfl, rfl, ha, hd, hD⟩ := hrel
    have DD := Lib.hid hD
    clear hD
    by_cases hlt : k < ss.length
    · obtain ⟨b, off, rfl, hbl, hcs⟩ : ∃ b off, ao = some ⟨b, off, none⟩ ∧ b < w.heap.size ∧ ∀ j, j < ss.length → w.cell? ⟨b, off + j, none⟩ = some (.string (ss.getD j ByteArray.empty)) := by
        rcases HB.out with ⟨_, _, rfl⟩ | ⟨_, _, rfl⟩ | h
        · simp at hlt
        · simp at hlt
        · exact h
      have hcell := (DD.out.below.cell (p := ⟨b, off + k, none⟩) hbl).trans (hcs k hlt)
      have hsm : (ss.getD k ByteArray.empty).size ≤ maxLen := HSS.out _ (by rw [List.getD_eq_getElem?_getD, List.getElem?_eq_getElem hlt]; exact List.getElem_mem hlt)
      generalize ss.getD k ByteArray.empty = s at hcell hsm
      clear hcs
      by_cases h50 : 50 < s.size
      · go_wp2_with fail
        go_ret
        exact ⟨rfl, DD.out.below⟩
      · go_wp2_with fail
        refine (DD.out.append ⟨#[97]⟩ s (by decide) (by omega) (show _ = ((0 : Int), Pf 600 (a.data.toList ++ s.data.toList) d) from p_append 600 _ _ _ (by simp; omega)) (by simp [M.wt, Pf])).mono ?_
        rintro e v4 ⟨rfl, h⟩
        have D3 := Lib.hid h
        clear h
        have hcell4 := (D3.out.below.cell (p := ⟨b, off + k, none⟩) hbl).trans ((DD.out.below.cell (p := ⟨b, off + k, none⟩) hbl).symm.trans hcell)
        clear hcell
        by_cases hsy : (k : Int) < sy % 11
        · go_wp2_with fail
          refine (D3.out.sync ⟨#[97]⟩ (by decide) (show _ = ((0 : Int), Pf 600 (a.data.toList ++ s.data.toList) (a.data.toList ++ s.data.toList).length) from p_sync 600 _ _) (by simp [M.wt, Pf])).mono ?_
          rintro e v5 ⟨rfl, h⟩
          have D4 := Lib.hid h
          clear h
          go_wp2_with fail
          exact ⟨⟨k + 1, a ++ s, (a ++ s).size, by omega, by simp, rfl, by simp [ByteArray.size_append], by rw [ByteArray.size_append]; omega, Nat.le_refl _, by simpa [ByteArray.size_append] using D4.out⟩, by simp [intOf]; omega⟩
        · go_wp2_with fail
          exact ⟨⟨k + 1, a ++ s, d, by omega, by simp, rfl, rfl, by rw [ByteArray.size_append]; omega, by rw [ByteArray.size_append]; omega, by simpa using D3.out⟩, by simp [intOf]; omega⟩
    · go_wp2_with fail
      refine (DD.out.crash).mono ?_
      rintro e vc ⟨rfl, h⟩
      have DC := Lib.hid h
      clear h
      go_wp2_with fail
      refine (DC.out.start ai sc.length ci sc (HI.out.at (by omega) DC.out.below)).mono ?_
      rintro e vs ⟨rfl, h⟩
      have DS := Lib.hid h
      clear h
      obtain ⟨s, hrd, hbg⟩ := p_read 600 a.data.toList d (by simp; omega) sc
      have HRD := Lib.hid hrd
      have HBG := Lib.hid hbg
      clear hrd hbg
      go_wp2_with fail
      refine (DS.out.read ⟨#[97]⟩ (by decide) HRD.out).mono ?_
      rintro e vr ⟨rfl, rfl⟩
      obtain ⟨sb, hsb⟩ : ∃ sb : ByteArray, sb = ⟨s.toArray⟩ := ⟨_, rfl⟩
      have hsz : sb.size = s.length := by rw [hsb, size_mk]
      have hb1 : d ≤ sb.size := by rw [hsz]; exact HBG.out.1
      have hb2 : sb.size ≤ a.size := by rw [hsz]; simpa using HBG.out.2.1
      rw [← hsb]
      have HSB := Lib.hid hsb
      have HSZ := Lib.hid hsz
      clear hsb hsz
      have ha2 : a.size ≤ 500 := by omega
      have hz : sb.size ≤ 500 := by omega
      obtain ⟨n, hn, hn1, hn2⟩ : ∃ n : Nat, max (d : Int) ((sb.size : Int) - 1) = (n : Int) ∧ n ≤ sb.size ∧ n = max d (s.length - 1) := ⟨max d (sb.size - 1), by omega, by omega, by rw [HSZ.out]⟩
      have he : sb.extract 0 n = a.extract 0 n := by
        have h3 := HBG.out.2.2.1
        rw [← hn2] at h3
        rw [HSB.out, extract_take, h3, ← extract_take, mk_toList]
      have hlast : sb.size ≠ n → ∃ (h1 : n < sb.size) (h2 : n < a.size), sb[n] = a[n] ∨ (sb[n].toNat : Int) = 255 - (a[n].toNat : Int) := by
        intro hne
        have h1 : n < sb.size := by omega
        have h2 : n < a.size := by omega
        refine ⟨h1, h2, ?_⟩
        have h4 := HBG.out.2.2.2 n hn2 (by rw [← HSZ.out]; omega)
        have e1 : s.getD n 0 = sb[n] := by
          have := HSB.out
          subst this
          rw [List.getD_eq_getElem?_getD, List.getElem?_eq_getElem (by rw [← HSZ.out]; exact h1)]
          rfl
        have e2 : a.data.toList.getD n 0 = a[n] := by
          rw [List.getD_eq_getElem?_getD, List.getElem?_eq_getElem (by simpa using h2)]
          simp [ByteArray.getElem_eq_getElem_data]
        rw [e1, e2] at h4
        rcases h4 with h4 | h4
        · exact .inl h4
        · have : a[n].toNat < 256 := a[n].toNat_lt
          exact .inr (by omega)
      have HN2 := Lib.hid hn2
      clear hn2
      go_wp2_with fail
      clear hn
      have hn3 : n ≤ a.size := by omega
      by_cases hds : sb.size = n
      · clear hlast
        have t1 : ((sb.size : Int) == (n : Int)) = true := by simp [hds]
        go_quiet (fail)
        go_wp2_with fail
        go_ret
        exact ⟨rfl, below_drewN DS.out.below nq⟩
      · obtain ⟨h1, h2, h3⟩ := hlast hds
        clear hlast
        have t1 : ((sb.size : Int) == (n : Int)) = false := by simp; omega
        have hi0 : (0 : Int) ≤ (n : Int) := by omega
        have hi1 : (n : Int) < (sb.size : Int) := by omega
        have hi2 : (n : Int) < (a.size : Int) := by omega
        by_cases h4 : sb[n] = a[n]
        · have t2 : ((sb[n].toNat : Int) == (a[n].toNat : Int)) = true := by simp [h4]
          go_quiet (fail)
          go_wp2_with fail
          go_ret
          exact ⟨rfl, below_drewN DS.out.below nq⟩
        · have h5 := h3.resolve_left h4
          have h6 : a[n].toNat < 256 := a[n].toNat_lt
          have t2 : (255 - (a[n].toNat : Int) == (a[n].toNat : Int)) = false := by
            rw [← h5]
            simp
            intro h
            exact h4 (UInt8.toNat_inj.1 (by omega))
          have hw : IntKind.u8.wrap (255 - (a[n].toNat : Int)) = 255 - (a[n].toNat : Int) := by
            simp [IntKind.wrap, IntKind.bits, IntKind.signed]
            omega
          go_quiet (fail)
          go_wp2_with fail
          go_ret
          exact ⟨rfl, below_drewN DS.out.below nq⟩
theorem prefix_great {w : World} {ao : Option Addr} {c : Nat} {ss : List ByteArray} {sy : Int} {ai : Option Addr} {ci : Nat} {sc : List Int} (hsl : ss.length ≤ maxLen) (hs : sc.length ≤ maxLen) (hg : ¬ (ss.length ≤ 10 ∧ sc.length ≤ 12)) :
    Calls Try.prog 3 #[.slice ao ss.length c, .int .u8 sy, .slice ai sc.length ci] w fun e w' => e = .returned (.bool true) ∧ Below w.heap.size w w' := by
  unfold maxLen at hsl hs
  by_cases g1 : ss.length ≤ 10
  · have g2 : ¬ sc.length ≤ 12 := fun h => hg ⟨g1, h⟩
    clear hg
    go_enter Try.func3, Try.ntmps3
    go_wp2_with fail
    refine (known_any _).mono ?_
    rintro e v0 ⟨rfl, hb0⟩
    have HB0 := Lib.hid hb0
    clear hb0
    go_wp2_with fail
    refine (known_any _).mono ?_
    rintro e v1 ⟨rfl, hb1⟩
    have HB1 := Lib.hid hb1
    clear hb1
    go_wp2_with fail
    go_ret
    exact ⟨rfl, HB0.out.trans (HB1.out.mono HB0.out.size)⟩
  · clear hg
    go_enter Try.func3, Try.ntmps3
    go_wp2_with fail
    refine (known_any _).mono ?_
    rintro e v0 ⟨rfl, hb0⟩
    have HB0 := Lib.hid hb0
    clear hb0
    go_wp2_with fail
    refine (known_any _).mono ?_
    rintro e v1 ⟨rfl, hb1⟩
    have HB1 := Lib.hid hb1
    clear hb1
    go_wp2_with fail
    go_ret
    exact ⟨rfl, HB0.out.trans (HB1.out.mono HB0.out.size)⟩
theorem said_DiskPrefix (w : World) (ao : Option Addr) (c : Nat) (ss : List ByteArray) (hb : StrsBody w ao c ss) (hsl : ss.length ≤ maxLen) (hss : ∀ s ∈ ss, s.size ≤ maxLen) (sy : Int) (hy : (Lit.int .u8 sy).wf = true) (ai : Option Addr) (ci : Nat) (sc : List Int) (hi : IntsBody w ai ci sc) (hs : sc.length ≤ maxLen) :
    Calls Try.prog 3 #[.slice ao ss.length c, .int .u8 sy, .slice ai sc.length ci] w fun e w' => e = .returned (.bool true) ∧ Below w.heap.size w w' := by
  by_cases h : ss.length ≤ 10 ∧ sc.length ≤ 12
  · exact prefix_small h.1 h.2 (in_u8 hy).1 (in_u8 hy).2 hb hss hi
  · exact prefix_great hsl hs h
end Go.Proofs.Ytlhnjdoicolkkaa
