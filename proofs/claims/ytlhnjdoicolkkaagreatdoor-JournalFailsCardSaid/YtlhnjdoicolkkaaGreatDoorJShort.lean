/- The document's model: short records, the bytes of a journal, beginnings of lists. -/
import Derived.Test.YtlhnjdoicolkkaaGreatDoorJCommit2
import Derived.Test.YtlhnjdoicolkkaaGreatDoorJName
set_option maxRecDepth 100000
namespace Go.Proofs.YtlhnjdoicolkkaaGreatDoor
open Go.RowKit Go.Dsk Go.Maps Go.WideMaps
set_option maxHeartbeats 2000000
attribute [local go_sem ↓] appX_is

def shortOf (l : List Bs) : List Bs := (l.take 10).map fun x => x.take 100
theorem short_step {l : List Bs} {k : Nat} (h : k < l.length) (h10 : k < 10) : shortOf (l.take (k + 1)) = shortOf (l.take k) ++ [(l.getD k []).take 100] := by
  unfold shortOf
  rw [List.take_take, List.take_take, Nat.min_eq_right (by omega), Nat.min_eq_right (by omega), List.take_succ_eq_append_getElem h, List.map_append, List.getD_eq_getElem?_getD, List.getElem?_eq_getElem h]
  rfl
theorem short_len (l : List Bs) : (shortOf l).length ≤ 10 := by unfold shortOf; simp; omega
theorem short_lens (l : List Bs) : ∀ r ∈ shortOf l, r.length ≤ 100 := by
  unfold shortOf
  intro r hr
  obtain ⟨x, _, rfl⟩ := List.mem_map.1 hr
  simp
  omega
theorem ba_take (s : ByteArray) (m : Nat) : (s.extract 0 m).data.toList = s.data.toList.take m := by rw [ba_ext, List.drop_zero, Nat.sub_zero]
theorem short_any {w : World} {va : Value} {l : List Bs} (ha : StrsIn w va l) :
    Calls Tryz.prog 13 #[va] w fun e w' => ∃ v, e = .returned v ∧ StrRow w.heap.size w' v (shortOf l) ∧ Below w.heap.size w w' := by
  obtain ⟨ao, c, rfl, hc1, hc2, hcell⟩ := ha
  have HC := Lib.hid hcell
  obtain ⟨i0, hi, hz0, hz1, hz2⟩ := info_parts infoStr
  have HINF := Lib.hid (And.intro hi (And.intro hz0 (And.intro hz1 hz2)))
  unfold maxLen at hc2
  clear hcell hi hz0 hz1 hz2
  go_enter Tryz.func13, Tryz.ntmps13
  go_wp2_with fail
  go_loopw [3, 4] (fun vv i wr => ∃ (v : Value) (k : Nat), v = vv ∧ k ≤ l.length ∧ k ≤ 10 ∧ i = .int .i64 k ∧ StrRow w.heap.size wr v (shortOf (l.take k)) ∧ Below w.heap.size w wr) (fun _ i _ => 10 - (intOf i).toNat)
  case atStart => exact ⟨_, 0, rfl, Nat.zero_le _, Nat.zero_le _, rfl, strRow_nil _ _, Below.refl _ _⟩
  case round =>
    obtain ⟨v, k, rfl, hk, hk10, rfl, hrow, hb⟩ := hrel
    have HROW := Lib.hid hrow
    have HB := Lib.hid hb
    clear hrow hb
    by_cases hlt : k < l.length
    · by_cases h10 : k < 10
      · obtain ⟨b, off, rfl, hbl, hcell⟩ := HC.out (Nat.lt_of_le_of_lt (Nat.zero_le _) hlt)
        have x0 := (HB.out.cell (p := ⟨b, off + k, none⟩) hbl).trans (hcell k hlt)
        have hst := short_step hlt h10
        obtain ⟨s, hs⟩ : ∃ s : ByteArray, (⟨(l.getD k []).toArray⟩ : ByteArray) = s := ⟨_, rfl⟩
        have hsd : s.data.toList = l.getD k [] := by rw [← hs]
        unfold strV at x0
        rw [hs] at x0
        rw [← hsd] at hst
        obtain ⟨m, hm⟩ : ∃ m : Nat, m = min s.size 100 := ⟨_, rfl⟩
        have hmi : min (s.size : Int) 100 = (m : Int) := by omega
        have hm2 : (m : Int) ≤ (s.size : Int) := by omega
        have hm0 : (0 : Int) ≤ (m : Int) := by omega
        have hk0 : (0 : Int) ≤ (k : Int) := by omega
        have hk1 : (k : Int) < (l.length : Int) := by omega
        have hk10' : (k : Int) < 10 := by omega
        have hx : (s.extract 0 m).data.toList = s.data.toList.take 100 := by
          rw [ba_take, hm]
          rcases Nat.le_total s.size 100 with h | h
          · rw [Nat.min_eq_left h]
            exact (List.take_of_length_le (Nat.le_refl s.data.toList.length)).trans (List.take_of_length_le h).symm
          · rw [Nat.min_eq_right h]
        obtain ⟨x, hxe⟩ : ∃ x, s.extract 0 m = x := ⟨_, rfl⟩
        rw [hxe] at hx
        obtain ⟨g, cap, w2, hrun, hown, hgrow, hat, hlt2⟩ := run_append_lies (P := Tryz.prog) (wr.alloc (.cells #[.string x] 9)).drew 25 25 w.heap.size 9 i0 _ 1 16 Tryz.underlying25 HINF.out.1 HINF.out.2.1 HINF.out.2.2.1 HINF.out.2.2.2 rfl (by decide) v (shortOf (l.take k)).length _ (HROW.out.1.alloc _).drew ⟨wr.heap.size, 0, none⟩ 1 1 [.string x] rfl (World.news_of_block (heap_alloc_new wr _)) (by simp [Value.oneCell']) (by decide) (by have := short_len (l.take k); unfold maxLen; omega) (by have := short_len (l.take k); omega) (Nat.le_trans HB.out.size (by simp)) _ rfl
        rw [appX_is] at hrun
        have HX := Lib.hid (And.intro hown (And.intro hgrow (And.intro hst hx)))
        clear hcell hown hgrow hat hlt2 hst hx hs hsd hm
        go_upto_region 5 with fail
        go_region
        all_goals
          go_wp2_with fail
          go_roundw
          case rel =>
            refine ⟨_, k + 1, rfl, by omega, by omega, by go_num, ⟨?_, ?_⟩, ?_⟩
            · have := HX.out.1
              rw [HX.out.2.2.1, List.length_append, List.map_append]
              have e : strV (s.data.toList.take 100) = .string x := by rw [← HX.out.2.2.2]; exact congrArg Value.string (ba_self x)
              simpa [e] using this
            · intro e
              rw [HX.out.2.2.1] at e
              simp at e
            · exact ((HB.out.alloc HB.out.size (.cells #[.string x] 9)).drew).grown HX.out.2.1 (Nat.le_trans HB.out.size (by simp)) (fun q e => (HROW.out.1.lt q e).1)
          case measure => simp [intOf]; omega
      · obtain rfl : k = 10 := by omega
        have e : shortOf (l.take 10) = shortOf l := by unfold shortOf; rw [List.take_take]; rfl
        have HE := Lib.hid e
        clear e
        go_wp2_with fail
        go_ret
        exact ⟨v, rfl, by rw [← HE.out]; exact HROW.out, HB.out⟩
    · obtain rfl : k = l.length := by omega
      have e : shortOf (l.take l.length) = shortOf l := by rw [List.take_length]
      have HE := Lib.hid e
      clear e
      go_wp2_with fail
      go_ret
      exact ⟨v, rfl, by rw [← HE.out]; exact HROW.out, HB.out⟩
theorem begins_any {w : World} {va vb : Value} {la lb : List Bs} (ha : StrsIn w va la) (hb : StrsIn w vb lb) :
    Calls Tryz.prog 16 #[va, vb] w fun e w' => e = .returned (.bool (decide (la.length ≤ lb.length ∧ la = lb.take la.length))) ∧ ∃ n, w' = w.drewN n := by
  have HA := Lib.hid ha
  have HB := Lib.hid hb
  obtain ⟨ao, ca, rfl, ha1, ha2, -⟩ := ha
  obtain ⟨bo, cb, rfl, hb1, hb2, hbc⟩ := hb
  have HBC := Lib.hid hbc
  unfold maxLen at ha2 hb2
  clear hbc
  by_cases hl : la.length ≤ lb.length
  · have hl' : ((la.length : Int) ≤ (lb.length : Int)) = True := by simp; omega
    have hq0 : (0 : Int) ≤ (la.length : Int) := by omega
    have hq1 : (la.length : Int) ≤ (cb : Int) := by omega
    have hsub : StrsIn w (.slice bo la.length cb) (lb.take la.length) := by
      have e : (lb.take la.length).length = la.length := by rw [List.length_take]; omega
      refine ⟨bo, cb, by rw [e], by rw [e]; omega, by unfold maxLen; omega, fun h0 => ?_⟩
      rw [e] at h0 ⊢
      obtain ⟨b, off, rfl, hlt, hc⟩ := HBC.out (by omega)
      refine ⟨b, off, rfl, hlt, fun j hj => ?_⟩
      rw [hc j (by omega), List.getD_eq_getElem?_getD, List.getD_eq_getElem?_getD, List.getElem?_take_of_lt hj]
    have hd : decide (la.length ≤ lb.length ∧ la = lb.take la.length) = decide (la = lb.take la.length) := by simp [hl]
    rw [hd]
    have hsame := same_any HA.out hsub
    have HSAME := Lib.hid hsame
    clear hsub hd hsame
    cases bo with
    | none =>
      go_enter Tryz.func16, Tryz.ntmps16
      go_wp2_with fail
      refine HSAME.out.mono ?_
      rintro e w1 ⟨rfl, q, rfl⟩
      go_wp2_with fail
      go_ret
      exact ⟨rfl, q, rfl⟩
    | some a =>
      go_enter Tryz.func16, Tryz.ntmps16
      go_wp2_with fail
      refine HSAME.out.mono ?_
      rintro e w1 ⟨rfl, q, rfl⟩
      go_wp2_with fail
      go_ret
      exact ⟨rfl, q, rfl⟩
  · have hl' : ((la.length : Int) ≤ (lb.length : Int)) = False := by simp; omega
    have hd : decide (la.length ≤ lb.length ∧ la = lb.take la.length) = false := by simp [hl]
    rw [hd]
    go_enter Tryz.func16, Tryz.ntmps16
    go_wp2_with fail
    go_ret
    exact ⟨rfl, 0, rfl⟩
theorem jbytes_any {w : World} {first : Nat} {v : Value} {rs : List Bs} (hg : Glob w) (hf : first ≤ 1099511627776) (hv : StrsIn w v rs) (hr : ∀ r ∈ rs, r.length ≤ 4096) (hl : rs.length ≤ 1048576) :
    Calls Tryz.prog 14 #[.int .i64 first, v] w fun e w' => e = .returned (.string ⟨(Jnl.content first rs).toArray⟩) ∧ Below w.heap.size w w' := by
  obtain ⟨ao, c, rfl, hc1, hc2, hcell⟩ := hv
  have HG := Lib.hid hg
  have HC := Lib.hid hcell
  have HR := Lib.hid hr
  have hil := itoa_small hf
  obtain ⟨ib, hib⟩ : ∃ ib : ByteArray, (⟨(Lib.itoa (first : Int)).toArray⟩ : ByteArray) = ib := ⟨_, rfl⟩
  have hibs : ib.data.toList = Lib.itoa (first : Int) := by rw [← hib]
  have hibl : ib.size ≤ 21 := by
    have : ib.data.toList.length = ib.size := rfl
    rw [hibs] at this
    omega
  have HIB := Lib.hid hibs
  have hf1 : (-9223372036854775808 : Int) ≤ (first : Int) := by omega
  have hf2 : (first : Int) ≤ 9223372036854775807 := by omega
  have HIT := Lib.hid (And.intro hf1 (And.intro hf2 hib))
  unfold maxLen at hc2
  clear hg hcell hr hib hibs hf1 hf2
  go_enter Tryz.func14, Tryz.ntmps14
  go_wp2_with fail
  refine (Itoa_any HIT.out.1 HIT.out.2.1 HG.out).mono ?_
  rintro e w1 ⟨rfl, hb1⟩
  rw [HIT.out.2.2]
  have HB1 := Lib.hid hb1
  clear hb1
  go_wp2_with fail
  refine (lframe_any ib (by omega) _).mono ?_
  rintro e w2 ⟨rfl, hb2⟩
  have HB2 := Lib.hid (HB1.out.trans (hb2.mono HB1.out.size))
  clear hb2 HB1
  obtain ⟨pre, hpre⟩ : ∃ pre, Jnl.frame ib.data.toList = pre := ⟨_, rfl⟩
  rw [hpre]
  have hpl : pre.length ≤ 29 := by
    rw [← hpre, Jnl.frame_length]
    have : ib.data.toList.length = ib.size := rfl
    omega
  have HPRE := Lib.hid hpre
  clear hpre HIT
  go_wp2_with fail
  go_loopw [5, 6] (fun ss i wr => ∃ (s : ByteArray) (k : Nat), ss = .string s ∧ k ≤ rs.length ∧ i = .int .i64 k ∧ s.data.toList = pre ++ Jnl.frames (rs.take k) ∧ Below w.heap.size w wr) (fun _ i _ => rs.length - (intOf i).toNat)
  case atStart => exact ⟨_, 0, rfl, Nat.zero_le _, rfl, by simp [Jnl.frames], HB2.out⟩
  case round =>
    obtain ⟨s, k, rfl, hk, rfl, hs, hB⟩ := hrel
    have HB := Lib.hid hB
    have HS := Lib.hid hs
    clear hB HB2 hs
    by_cases hlt : k < rs.length
    · obtain ⟨b, off, rfl, hbl, hcell⟩ := HC.out (Nat.lt_of_le_of_lt (Nat.zero_le _) hlt)
      have x0 := (HB.out.cell (p := ⟨b, off + k, none⟩) hbl).trans (hcell k hlt)
      have hln := getD_len HR.out k
      have hft := frames_take hlt
      obtain ⟨sx, hsx⟩ : ∃ sx : ByteArray, (⟨(rs.getD k []).toArray⟩ : ByteArray) = sx := ⟨_, rfl⟩
      have hsd : sx.data.toList = rs.getD k [] := by rw [← hsx]
      have hss : sx.size ≤ 4096 := by
        have : sx.data.toList.length = sx.size := rfl
        rw [hsd] at this
        omega
      unfold strV at x0
      rw [hsx] at x0
      rw [← hsd] at hft
      have hk0 : (0 : Int) ≤ (k : Int) := by omega
      have hk1 : (k : Int) < (rs.length : Int) := by omega
      have hfz := frame_sz sx
      have hbig : s.size ≤ 5000000000 := by
        have h1 : s.data.toList.length = s.size := rfl
        have h2 := frames_len (l := rs.take k) (fun r hr => HR.out r (List.mem_of_mem_take hr))
        have h3 : (rs.take k).length * 4104 ≤ 1048576 * 4104 := Nat.mul_le_mul_right _ (by rw [List.length_take]; omega)
        rw [HS.out, List.length_append] at h1
        omega
      have HS2 := Lib.hid hft
      clear hcell hln hft hsx hsd
      go_wp2_with fail
      refine (lframe_any sx (by omega) _).mono ?_
      rintro e w4 ⟨rfl, hb4⟩
      have HB4 := Lib.hid (HB.out.trans (hb4.mono HB.out.size))
      clear hb4 HB
      go_wp2_with fail
      go_roundw
      case rel =>
        refine ⟨_, k + 1, rfl, by omega, by go_num, ?_, HB4.out⟩
        rw [HS2.out, ← List.append_assoc, ← HS.out]
        simp [ByteArray.data_append]
      case measure => simp [intOf]; omega
    · obtain rfl : k = rs.length := by omega
      have hs := HS.out
      rw [List.take_length] at hs
      have hfin : s = ⟨(Jnl.content first rs).toArray⟩ := by
        have e : Jnl.content first rs = s.data.toList := by
          unfold Jnl.content
          rw [hs, ← HPRE.out, HIB.out]
        exact (ba_self s).symm.trans (by rw [e])
      have HF := Lib.hid hfin
      clear hfin hs
      go_wp2_with fail
      go_ret
      exact ⟨congrArg (fun x => Ending.returned (Value.string x)) HF.out, HB.out⟩
end Go.Proofs.YtlhnjdoicolkkaaGreatDoor
