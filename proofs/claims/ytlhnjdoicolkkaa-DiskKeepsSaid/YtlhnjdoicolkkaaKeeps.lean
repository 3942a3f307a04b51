/- A file that no act concerns stays: the walk. -/
import Derived.Test.YtlhnjdoicolkkaaKnown
import Derived.Test.YtlhnjdoicolkkaaAct
set_option maxRecDepth 100000
namespace Go.Proofs.Ytlhnjdoicolkkaa
open Go.RowKit Go.Dsk Go.Maps Go.WideMaps
set_option maxHeartbeats 1000000

theorem keeps_small {w : World} {data : ByteArray} {ao : Option Addr} {c : Nat} {l : List ActV} (hd : data.size ≤ 50) (hl : l.length ≤ 20) (hb : ActsBody w ao c l) (hf : fewB l = true) :
    Calls Try.prog 6 #[.string data, .slice ao l.length c] w fun e w' => e = .returned (.bool true) ∧ Below w.heap.size w w' := by
  have HB := Lib.hid hb
  have HF := Lib.hid hf
  clear hb hf
  go_enter Try.func6, Try.ntmps6
  go_wp2_with fail
  refine (known_any _).mono ?_
  rintro e v0 ⟨rfl, hb0⟩
  have HB0 := Lib.hid hb0
  clear hb0
  have hfew := few_any (HB.out.below HB0.out) (by unfold maxLen; omega)
  rw [HF.out] at hfew
  go_wp2_with fail
  refine hfew.mono ?_
  rintro e w' ⟨rfl, rfl⟩
  clear hfew
  go_wp2_with fail
  refine (New_dk 1000 (by omega) (by omega) HB0.out).mono ?_
  rintro e v1 ⟨bd, rfl, h⟩
  have D0 := Lib.hid h
  clear h
  go_wp2_with fail
  refine (D0.out.append ⟨#[107, 101, 112, 116]⟩ data (by decide) (by omega) (show _ = ((0 : Int), Kn data.data.toList 0) from k_new _ (by rw [len_toList]; exact hd)) (by simp [M.wt, Kn])).mono ?_
  rintro e v2 ⟨rfl, h⟩
  have D1 := Lib.hid h
  clear h
  go_wp2_with fail
  refine (D1.out.sync ⟨#[107, 101, 112, 116]⟩ (by decide) (show _ = ((0 : Int), Kn data.data.toList data.data.toList.length) from k_sync _) (by simp [M.wt, Kn])).mono ?_
  rintro e v3 ⟨rfl, h⟩
  have D2 := Lib.hid h
  clear h
  go_wp2_with fail
  refine (D2.out.publish (show _ = ((0 : Int), Kf data.data.toList) from k_publish _) (by simp [M.wt, Kf])).mono ?_
  rintro e v4 ⟨rfl, h⟩
  have D3 := Lib.hid h
  clear h
  go_wp2_with fail
  go_loopw [7] (fun i wr => ∃ (k : Nat) (m : M), k ≤ l.length ∧ i = .int .i64 k ∧ m.wt ≤ k + 1 ∧ Kept kept 0 data.data.toList m ∧ Dk w wr bd m) (fun i _ => l.length - (intOf i).toNat)
  case atStart => exact ⟨0, _, Nat.zero_le _, rfl, by simp [M.wt, Kf], k_kept _, D3.out⟩
  case round =>
    obtain ⟨k, m, hk, rfl, hwt, hkp, hD⟩ := hrel
    have DD := Lib.hid hD
    have KP := Lib.hid hkp
    clear hD hkp
    by_cases hlt : k < l.length
    · obtain ⟨b, off, rfl, hbl, hcs⟩ : ∃ b off, ao = some ⟨b, off, none⟩ ∧ b < w.heap.size ∧ ∀ j, j < l.length → (l.getD j ActV.none).At w b (off + j * 5) ∧ (l.getD j ActV.none).Fits w := by
        rcases HB.out with ⟨_, _, rfl⟩ | ⟨_, _, rfl⟩ | h
        · simp at hlt
        · simp at hlt
        · exact h
      obtain ⟨hat, hft⟩ := hcs k hlt
      have hsm := fewB_at HF.out hlt
      clear hcs
      generalize l.getD k ActV.none = x at hat hft hsm
      have hat := hat.below hbl DD.out.below
      have FT := Lib.hid (hft.below DD.out.below)
      obtain ⟨s1, s2, s3, _⟩ := hsm
      have SM : x.small = true := by simp [ActV.small, s1, s2, s3]
      have HSM := Lib.hid SM
      clear hft SM s3
      obtain ⟨kind, name, dst, number, ao2, cap, sc⟩ := x
      obtain ⟨x0, x1, x2, x3, x4⟩ := hat
      simp only at x0 x1 x2 x3 x4 s1 s2
      go_wp2_with fail
      · exact ⟨⟨k + 1, m, by omega, by simp, by omega, KP.out, DD.out⟩, by simp [intOf]; omega⟩
      · exact ⟨⟨k + 1, m, by omega, by simp, by omega, KP.out, DD.out⟩, by simp [intOf]; omega⟩
      have hnt : (name.toList == [107, 101, 112, 116]) = false ∧ (dst.toList == [107, 101, 112, 116]) = false := by assumption
      have hn1 : name.data.toList ≠ kept := fun e => by
        rw [ByteArray.toList_eq, e] at hnt
        exact absurd hnt.1 (by decide)
      have ht1 : dst.data.toList ≠ kept := fun e => by
        rw [ByteArray.toList_eq dst, e] at hnt
        exact absurd hnt.2 (by decide)
      have hk2 := KP.out.actOn DD.out.ok hn1 ht1 kind number sc
      have hw2 := actOn_wt DD.out.ok kind name.data.toList dst.data.toList number sc
      generalize hre : m.actOn kind name.data.toList dst.data.toList number sc = rm at hk2 hw2
      obtain ⟨r, m2⟩ := rm
      simp only at hk2 hw2
      have KP2 := Lib.hid hk2
      have HRE := Lib.hid hre
      clear hk2 hre hn1 ht1
      refine (act_dk DD.out ⟨kind, name, dst, number, ao2, cap, sc⟩ FT.out HSM.out (by omega) HRE.out).mono ?_
      rintro e v5 ⟨rfl, h⟩
      have D5 := Lib.hid h
      clear h
      cases hdn : m2.down with
      | true =>
        have hdc := D5.out.down hdn
        clear hdn
        go_wp2_with fail
        refine hdc.mono ?_
        rintro e w' ⟨rfl, rfl⟩
        clear hdc
        go_wp2_with fail
        exact ⟨⟨k + 1, m2, by omega, by simp, by omega, KP2.out, D5.out⟩, by simp [intOf]; omega⟩
      | false =>
        have hdc := D5.out.down hdn
        have hrd := D5.out.read ⟨#[107, 101, 112, 116]⟩ (by decide) (KP2.out.read D5.out.ok hdn)
        rw [mk_toList] at hrd
        clear hdn
        go_wp2_with fail
        refine hdc.mono ?_
        rintro e w' ⟨rfl, rfl⟩
        clear hdc
        go_wp2_with fail
        refine hrd.mono ?_
        rintro e w' ⟨rfl, rfl⟩
        clear hrd
        go_wp2_with fail
        exact ⟨⟨k + 1, m2, by omega, by simp, by omega, KP2.out, D5.out⟩, by simp [intOf]; omega⟩
    · go_wp2_with fail
      refine (DD.out.crash).mono ?_
      rintro e vc ⟨rfl, h⟩
      have DC := Lib.hid h
      clear h
      go_wp2_with fail
      refine (DC.out.start none 0 0 [] ⟨by simp, .inl ⟨rfl, rfl⟩⟩).mono ?_
      rintro e vs ⟨rfl, h⟩
      have DS := Lib.hid h
      clear h
      have hrd := (KP.out.crash.start []).read DS.out.ok (start_down _ _)
      have HRD := Lib.hid hrd
      clear hrd
      go_wp2_with fail
      refine (DS.out.read ⟨#[107, 101, 112, 116]⟩ (by decide) HRD.out).mono ?_
      rintro e vr ⟨rfl, rfl⟩
      simp only [mk_toList]
      go_wp2_with fail
      go_ret
      exact ⟨rfl, DS.out.below⟩
theorem keeps_great {w : World} {data : ByteArray} {ao : Option Addr} {c : Nat} {l : List ActV} (hd : data.size ≤ maxLen) (hl : l.length ≤ maxLen) (hb : ActsBody w ao c l) (hg : ¬ (fewB l = true ∧ l.length ≤ 20 ∧ data.size ≤ 50)) :
    Calls Try.prog 6 #[.string data, .slice ao l.length c] w fun e w' => e = .returned (.bool true) ∧ Below w.heap.size w w' := by
  have HB := Lib.hid hb
  have HL := Lib.hid hl
  clear hb
  unfold maxLen at hd hl
  go_enter Try.func6, Try.ntmps6
  go_wp2_with fail
  refine (known_any _).mono ?_
  rintro e v0 ⟨rfl, hb0⟩
  have HB0 := Lib.hid hb0
  clear hb0
  have hfew := few_any (HB.out.below HB0.out) HL.out
  cases hf : fewB l with
  | false =>
    rw [hf] at hfew
    clear hg hf
    go_wp2_with fail
    refine hfew.mono ?_
    rintro e w' ⟨rfl, rfl⟩
    clear hfew
    go_wp2_with fail
    refine (known_any _).mono ?_
    rintro e v1 ⟨rfl, hb1⟩
    have HB1 := Lib.hid hb1
    clear hb1
    go_wp2_with fail
    go_ret
    exact ⟨rfl, HB0.out.trans (HB1.out.mono HB0.out.size)⟩
  | true =>
    rw [hf] at hfew
    have hg2 : ¬ (l.length ≤ 20 ∧ data.size ≤ 50) := fun h => hg ⟨hf, h⟩
    clear hg hf
    by_cases g1 : l.length ≤ 20
    · have g2 : ¬ data.size ≤ 50 := fun h => hg2 ⟨g1, h⟩
      clear hg2
      go_wp2_with fail
      refine hfew.mono ?_
      rintro e w' ⟨rfl, rfl⟩
      clear hfew
      go_wp2_with fail
      refine (known_any _).mono ?_
      rintro e v1 ⟨rfl, hb1⟩
      have HB1 := Lib.hid hb1
      clear hb1
      go_wp2_with fail
      go_ret
      exact ⟨rfl, HB0.out.trans (HB1.out.mono HB0.out.size)⟩
    · clear hg2
      go_wp2_with fail
      refine hfew.mono ?_
      rintro e w' ⟨rfl, rfl⟩
      clear hfew
      go_wp2_with fail
      refine (known_any _).mono ?_
      rintro e v1 ⟨rfl, hb1⟩
      have HB1 := Lib.hid hb1
      clear hb1
      go_wp2_with fail
      go_ret
      exact ⟨rfl, HB0.out.trans (HB1.out.mono HB0.out.size)⟩
theorem said_DiskKeeps (w : World) (data : ByteArray) (hd : data.size ≤ maxLen) (ao : Option Addr) (c : Nat) (l : List ActV) (hb : ActsBody w ao c l) (hl : l.length ≤ maxLen) :
    Calls Try.prog 6 #[.string data, .slice ao l.length c] w fun e w' => e = .returned (.bool true) ∧ Below w.heap.size w w' := by
  by_cases h : fewB l = true ∧ l.length ≤ 20 ∧ data.size ≤ 50
  · exact keeps_small h.2.2 h.2.1 hb h.1
  · exact keeps_great hd hl hb h
end Go.Proofs.Ytlhnjdoicolkkaa
