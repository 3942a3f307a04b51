/- The document's model of Scan; both answer alike: the walks. -/
import Derived.Test.YtlhnjdoicolkkaaGreatDoorScan
set_option maxRecDepth 100000
namespace Go.Proofs.YtlhnjdoicolkkaaGreatDoor
open Go.RowKit Go.Dsk Go.Maps Go.WideMaps
set_option maxHeartbeats 2000000

theorem ba_drop (s : ByteArray) (a : Nat) : (s.extract a s.size).data.toList = s.data.toList.drop a := by
  rw [ba_ext]
  exact List.take_of_length_le (by rw [List.length_drop]; exact Nat.le_refl _)
theorem ba_drop2 (s : ByteArray) (a k : Nat) : ((s.extract a s.size).extract k (s.extract a s.size).size).data.toList = (s.extract (a + k) s.size).data.toList := by
  rw [ba_drop, ba_drop, ba_drop, List.drop_drop]
theorem drop_len (s : ByteArray) {a : Nat} (h : a ≤ s.size) : (s.extract a s.size).size = s.size - a := by rw [ByteArray.size_extract]; omega
theorem ls_num {a k n m : Nat} (hs : n ≤ 1099511627776) (ha : a ≤ n) (hl : m ≤ a) (hk : k ≤ n - a) (h8 : 8 ≤ k) : m + 1 ≤ maxLen ∧ (m + 1) * 16 ≤ 140737488355328 ∧ a + k ≤ n ∧ m + 1 ≤ a + k ∧ n - (a + k) < n - a ∧ wrap64 ((a : Int) + (k : Int)) = (a : Int) + (k : Int) := by
  refine ⟨by unfold maxLen; omega, by omega, by omega, by omega, by omega, IntWalk.wrap64_in _ (by omega)⟩
theorem lscan_any (s : ByteArray) (hs : s.size ≤ 1099511627776) {w : World} (hg : Glob w) :
    Calls Tryz.prog 41 #[.string s] w fun e w' => ∃ v, e = .returned (.tuple #[.int .i64 (Jnl.scan s.data.toList).1, v, .int .i64 (Jnl.scan s.data.toList).2.2]) ∧ StrRow w.heap.size w' v (Jnl.scan s.data.toList).2.1 ∧ Below w.heap.size w w' := by
  have HG := Lib.hid hg
  obtain ⟨x, k0, ok, hok, hk0, hpart, hcall⟩ := lnext_any s hs w
  have hsl : s.data.toList.length = s.size := rfl
  cases ok with
  | false =>
    have e : Jnl.scan s.data.toList = (1, [], 0) := by
      unfold Jnl.scan
      rw [if_neg (fun h => by rw [← hok] at h; exact absurd h.1 (by simp))]
    rw [e]
    clear hpart hok e
    go_enter Tryz.func41, Tryz.ntmps41
    go_wp2_with fail
    refine hcall.mono ?_
    rintro e w1 ⟨rfl, hb1⟩
    go_wp2_with fail
    go_ret3
    exact ⟨_, rfl, strRow_nil _ _, hb1⟩
  | true =>
    obtain ⟨hx, hy, hk8⟩ := hpart rfl
    have hxl : x.data.toList.length = x.size := rfl
    have hx' : x.size ≤ 1099511627776 := by
      have h1 := Jnl.cut_head_length s.data.toList
      rw [← hx, hsl, hxl] at h1
      omega
    have hlh := fun w1 (h : Below w.heap.size w w1) => lhead_any x hx' (hg.below h)
    by_cases hz : Jnl.headOf x.data.toList = 0
    · have e : Jnl.scan s.data.toList = (1, [], 0) := by
        unfold Jnl.scan
        rw [if_neg (fun h => h.2 (by rw [← hx]; exact hz))]
      rw [e]
      rw [hz] at hlh
      clear hok e hx hy
      go_enter Tryz.func41, Tryz.ntmps41
      go_wp2_with fail
      refine hcall.mono ?_
      rintro e w1 ⟨rfl, hb1⟩
      go_wp2_with fail
      refine (hlh _ hb1).mono ?_
      rintro e w2 ⟨rfl, hb2⟩
      go_wp2_with fail
      go_ret3
      exact ⟨_, rfl, strRow_nil _ _, hb1.trans (hb2.mono hb1.size)⟩
    · have e : Jnl.scan s.data.toList = (Jnl.headOf x.data.toList, (Jnl.recs (s.extract k0 s.size).data.toList).1, s.size - (Jnl.recs (s.extract k0 s.size).data.toList).2.length) := by
        unfold Jnl.scan
        rw [if_pos ⟨hok.symm, by rw [← hx]; exact hz⟩, ← hx, hy, hsl]
      rw [e]
      obtain ⟨f, hf⟩ : ∃ f, Jnl.headOf x.data.toList = f := ⟨_, rfl⟩
      rw [hf] at hlh hz ⊢
      obtain ⟨R, hR⟩ : ∃ R, Jnl.recs (s.extract k0 s.size).data.toList = R := ⟨_, rfl⟩
      rw [hR]
      have hf0 : ((f : Int) == 0) = false := by simpa using hz
      obtain ⟨i0, hi, hz0, hz1, hz2⟩ := info_parts infoStr
      have HINF := Lib.hid (And.intro hi (And.intro hz0 (And.intro hz1 hz2)))
      have HR := Lib.hid hR
      clear hok e hx hy hf hi hz0 hz1 hz2 hR hz
      go_enter Tryz.func41, Tryz.ntmps41
      go_wp2_with fail
      refine hcall.mono ?_
      rintro e w1 ⟨rfl, hb1⟩
      go_wp2_with fail
      refine (hlh _ hb1).mono ?_
      rintro e w2 ⟨rfl, hb2⟩
      have HB2 := Lib.hid (hb1.trans (hb2.mono hb1.size))
      clear hb1 hb2
      go_wp2_with fail
      go_loopw [6, 9] (fun aa vv wr => ∃ (v : Value) (a : Nat) (l : List Bs), v = vv ∧ aa = .int .i64 a ∧ a ≤ s.size ∧ l.length ≤ a ∧ R = (l ++ (Jnl.recs (s.extract a s.size).data.toList).1, (Jnl.recs (s.extract a s.size).data.toList).2) ∧ StrRow w.heap.size wr v l ∧ Below w.heap.size w wr) (fun aa _ _ => s.size - (intOf aa).toNat)
      case atStart => exact ⟨_, k0, [], rfl, rfl, hk0, Nat.zero_le _, HR.out.symm, strRow_nil _ _, HB2.out⟩
      case round =>
        obtain ⟨v3, a, l, rfl, rfl, ha, hla, hrec, hrow, hb⟩ := hrel
        have hrs := drop_len s ha
        obtain ⟨x2, k2, ok2, hok2, hk2, hpart2, hcall2⟩ := lnext_any (s.extract a s.size) (by omega) wr
        have hba := ba_drop2 s a k2
        have HROW := Lib.hid hrow
        have HB := Lib.hid hb
        have HREC := Lib.hid hrec
        have HP := Lib.hid (And.intro hok2 (And.intro hpart2 hba))
        have ha0 : (0 : Int) ≤ (a : Int) := by omega
        have ha1 : (a : Int) ≤ (s.size : Int) := by omega
        rw [hrs] at hk2
        have HRS := Lib.hid hrs
        clear hrow hb HB2 hrec hok2 hpart2 hba hcall hrs hsl hxl
        go_wp2_with fail
        refine hcall2.mono ?_
        rintro e w4 ⟨rfl, hb4⟩
        have HB4 := Lib.hid hb4
        clear hb4 hcall2
        cases ok2 with
        | false =>
          have hst : Jnl.recs (s.extract a s.size).data.toList = ([], (s.extract a s.size).data.toList) := Jnl.recs_stop HP.out.1.symm
          have hrec := HREC.out
          rw [hst, List.append_nil] at hrec
          have hv3 : ∃ ao c, v3 = .slice ao l.length c := by
            obtain ⟨⟨_, ⟨rfl, h2⟩ | ⟨g, cap, cur, rfl, _⟩⟩, _⟩ := HROW.out
            · exact ⟨none, 0, by rw [h2]⟩
            · exact ⟨_, _, rfl⟩
          have HREC2 := Lib.hid hrec
          clear hrec hst HREC
          go_wp2_with fail
          go_ret3
          rw [HREC2.out]
          have hlen : (s.extract a s.size).data.toList.length = s.size - a := HRS.out
          have e2 : s.size - (s.size - a) = a := by omega
          simp only [hlen, e2]
          exact ⟨v3, rfl, ⟨row_same HROW.out.1 fun j hj => HB4.out.block j (HROW.out.1.lt j hj).2, HROW.out.2⟩, HB.out.trans (HB4.out.mono HB.out.size)⟩
        | true =>
          obtain ⟨hx2, hy2, hk28⟩ := HP.out.2.1 rfl
          have hst := Jnl.recs_step HP.out.1.symm
          rw [← hx2, ← hy2, HP.out.2.2] at hst
          have hrec := HREC.out
          rw [hst] at hrec
          simp only at hrec
          have HREC2 := Lib.hid hrec
          obtain ⟨n1, n2, n3, n4, n5, hw⟩ := ls_num hs ha hla hk2 hk28
          have hrow4 : w4.ownsRow w.heap.size 9 1 v3 l.length (l.map strV) := row_same HROW.out.1 fun j hj => HB4.out.block j (HROW.out.1.lt j hj).2
          have hB4 := HB.out.trans (HB4.out.mono HB.out.size)
          have HROW4 := Lib.hid hrow4
          have HBB := Lib.hid hB4
          clear hrow4 hB4 HB4 HROW HB hst hrec HREC hx2 hy2
          go_wp2_with (at_builtin; refine wpList_append_lies _ rfl _ _ 25 rfl w.heap.size 9 i0 _ 1 16 Tryz.underlying25 HINF.out.1 HINF.out.2.1 HINF.out.2.2.1 HINF.out.2.2.2 rfl (by decide) _ _ _ rfl (HROW4.out.alloc _) ⟨w4.heap.size, 0, none⟩ 1 1 [.string x2] rfl rfl ?c1 ?c2 (by decide) ?c3 ?c4 ?c5 _ rfl ?_)
          case c1 => exact World.news_of_block (heap_alloc_new w4 _)
          case c2 => simp [Value.oneCell']
          case c3 => exact n1
          case c4 => exact n2
          case c5 => exact Nat.le_trans HBB.out.size (by simp)
          intro g cap w6 hown hgrow hat hlt
          have hB6 := (HBB.out.alloc HBB.out.size (.cells #[.string x2] 9)).grown hgrow (Nat.le_trans HBB.out.size (by simp)) (fun q e => (HROW4.out.lt q e).1)
          have HX6 := Lib.hid (And.intro hown hB6)
          clear hown hgrow hat hlt hB6
          go_wp2_with fail
          go_roundw
          case rel =>
            refine ⟨_, a + k2, l ++ [x2.data.toList], rfl, by go_num, n3, by rw [List.length_append]; exact n4, by rw [HREC2.out]; simp, ⟨?_, by simp⟩, HX6.out.2⟩
            have := HX6.out.1
            rw [List.length_append, List.map_append]
            have e : strV x2.data.toList = .string x2 := congrArg Value.string (ba_self x2)
            simpa [e] using this
          case measure =>
            have e : ((a : Int) + (k2 : Int)).toNat = a + k2 := by omega
            simpa [intOf, e] using n5
theorem scans_any (s : ByteArray) (hs : s.size ≤ 1099511627776) {w : World} (hg : Glob w) :
    Calls Tryz.prog 12 #[.string s] w fun e w' => e = .returned (.bool true) ∧ Below w.heap.size w w' := by
  have HG := Lib.hid hg
  have hsc := fun w1 (h : Glob w1) => Scan_any s hs (w := w1) h
  have hlc := fun w1 (h : Glob w1) => lscan_any s hs (w := w1) h
  generalize Jnl.scan s.data.toList = p at hsc hlc
  obtain ⟨f, l, n⟩ := p
  have e1 : ((f : Int) == (f : Int)) = true := by simp
  have e2 : ((n : Int) == (n : Int)) = true := by simp
  simp only at hsc hlc
  clear hg
  go_enter Tryz.func12, Tryz.ntmps12
  go_wp2_with fail
  refine (hsc _ HG.out).mono ?_
  rintro e w1 ⟨v1, rfl, hr1, hb1⟩
  have HR1 := Lib.hid hr1
  have HB1 := Lib.hid hb1
  clear hr1 hb1
  go_wp2_with fail
  refine (hlc _ (HG.out.below HB1.out)).mono ?_
  rintro e w2 ⟨v2, rfl, hr2, hb2⟩
  have HS1 := Lib.hid (HR1.out.reads.below hb2)
  have HS2 := Lib.hid hr2.reads
  have HB2 := Lib.hid (HB1.out.trans (hb2.mono HB1.out.size))
  clear hr2 hb2 HB1 HR1
  go_wp2_with fail
  have hsame := same_any HS1.out HS2.out
  rw [decide_eq_true rfl] at hsame
  refine hsame.mono ?_
  rintro e w3 ⟨rfl, q, rfl⟩
  go_wp2_with fail
  go_ret
  exact ⟨rfl, HB2.out.trans ((below_drawn _ q).mono HB2.out.size)⟩
end Go.Proofs.YtlhnjdoicolkkaaGreatDoor
