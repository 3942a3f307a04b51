/- The methods of a disk that is not there, and of one that is down: the walk. -/
import Derived.Test.YtlhnjdoicolkkaaKnown
import Derived.Test.YtlhnjdoicolkkaaAct
set_option maxRecDepth 100000
namespace Go.Proofs.Ytlhnjdoicolkkaa
open Go.RowKit Go.Dsk Go.Maps Go.WideMaps
set_option maxHeartbeats 1000000

theorem unready (w : World) : Calls Try.prog 37 #[.pointer none] w fun e w' => e = .returned (.int .i64 1) ∧ w = w' := by
  go_enter Try.func37, Try.ntmps37
  go_wp2_with fail
  go_ret
  exact ⟨rfl, rfl⟩
theorem Crash_nil (w : World) : Calls Try.prog 16 #[.pointer none] w fun e w' => e = .returned (.tuple #[]) ∧ w = w' := by
  go_enter Try.func16, Try.ntmps16
  go_wp2_with fail
  go_end0
  exact ⟨rfl, rfl⟩
theorem Start_nil (w : World) (ao : Option Addr) (n c : Nat) : Calls Try.prog 17 #[.pointer none, .slice ao n c] w fun e w' => e = .returned (.tuple #[]) ∧ Below w.heap.size w w' := by
  go_enter Try.func17, Try.ntmps17
  go_wp2
  refine bodyPost_ret (v := .tuple #[]) (by simp [results, Try.results17, go_sem]) rfl ⟨rfl, (Below.refl _ _).alloc (Nat.le_refl _) _⟩
theorem Read_nil (w : World) (s : ByteArray) : Calls Try.prog 18 #[.pointer none, .string s] w fun e w' => e = .returned (.tuple #[.string ByteArray.empty, .int .i64 1]) ∧ w = w' := by
  go_enter Try.func18, Try.ntmps18
  go_wp2_with (go_at_call 37; refine (unready _).mono ?_; rintro e w' ⟨rfl, rfl⟩)
  go_ret2
  exact ⟨rfl, rfl⟩
theorem Size_nil (w : World) (s : ByteArray) : Calls Try.prog 33 #[.pointer none, .string s] w fun e w' => e = .returned (.tuple #[.int .i64 0, .int .i64 1]) ∧ w = w' := by
  go_enter Try.func33, Try.ntmps33
  go_wp2_with (go_at_call 18; refine (Read_nil _ _).mono ?_; rintro e w' ⟨rfl, rfl⟩)
  go_ret2
  exact ⟨rfl, rfl⟩
theorem Append_nil (w : World) (s t : ByteArray) : Calls Try.prog 13 #[.pointer none, .string s, .string t] w fun e w' => e = .returned (.int .i64 1) ∧ w = w' := by
  go_enter Try.func13, Try.ntmps13
  go_wp2_with (go_at_call 37; refine (unready _).mono ?_; rintro e w' ⟨rfl, rfl⟩)
  go_ret
  exact ⟨rfl, rfl⟩
theorem Sync_nil (w : World) (s : ByteArray) : Calls Try.prog 15 #[.pointer none, .string s] w fun e w' => e = .returned (.int .i64 1) ∧ w = w' := by
  go_enter Try.func15, Try.ntmps15
  go_wp2_with (go_at_call 37; refine (unready _).mono ?_; rintro e w' ⟨rfl, rfl⟩)
  go_ret
  exact ⟨rfl, rfl⟩
theorem Rename_nil (w : World) (s t : ByteArray) : Calls Try.prog 23 #[.pointer none, .string s, .string t] w fun e w' => e = .returned (.int .i64 1) ∧ w = w' := by
  go_enter Try.func23, Try.ntmps23
  go_wp2_with (go_at_call 37; refine (unready _).mono ?_; rintro e w' ⟨rfl, rfl⟩)
  go_ret
  exact ⟨rfl, rfl⟩
theorem Remove_nil (w : World) (s : ByteArray) : Calls Try.prog 31 #[.pointer none, .string s] w fun e w' => e = .returned (.int .i64 1) ∧ w = w' := by
  go_enter Try.func31, Try.ntmps31
  go_wp2_with (go_at_call 37; refine (unready _).mono ?_; rintro e w' ⟨rfl, rfl⟩)
  go_ret
  exact ⟨rfl, rfl⟩
theorem Publish_nil (w : World) : Calls Try.prog 14 #[.pointer none] w fun e w' => e = .returned (.int .i64 1) ∧ w = w' := by
  go_enter Try.func14, Try.ntmps14
  go_wp2_with (go_at_call 37; refine (unready _).mono ?_; rintro e w' ⟨rfl, rfl⟩)
  go_ret
  exact ⟨rfl, rfl⟩
theorem Limit_nil (w : World) (n : Int) : Calls Try.prog 22 #[.pointer none, .int .i64 n] w fun e w' => e = .returned (.int .i64 1) ∧ w = w' := by
  go_enter Try.func22, Try.ntmps22
  go_wp2_with (go_at_call 37; refine (unready _).mono ?_; rintro e w' ⟨rfl, rfl⟩)
  go_ret
  exact ⟨rfl, rfl⟩
theorem Names_nil (w : World) : Calls Try.prog 20 #[.pointer none] w fun e w' => e = .returned (.slice none 0 0) ∧ w = w' := by
  go_enter Try.func20, Try.ntmps20
  go_wp2_with (go_at_call 37; refine (unready _).mono ?_; rintro e w' ⟨rfl, rfl⟩)
  go_ret
  exact ⟨rfl, rfl⟩
theorem Free_nil (w : World) : Calls Try.prog 19 #[.pointer none] w fun e w' => e = .returned (.int .i64 0) ∧ w = w' := by
  go_enter Try.func19, Try.ntmps19
  go_wp2_with (go_at_call 37; refine (unready _).mono ?_; rintro e w' ⟨rfl, rfl⟩)
  go_ret
  exact ⟨rfl, rfl⟩
theorem Down_nil (w : World) : Calls Try.prog 21 #[.pointer none] w fun e w' => e = .returned (.bool false) ∧ w = w' := by
  go_enter Try.func21, Try.ntmps21
  go_wp2_with fail
  go_ret
  exact ⟨rfl, rfl⟩
theorem Clone_nil (w : World) : Calls Try.prog 36 #[.pointer none] w fun e w' => e = .returned (.pointer none) ∧ w = w' := by
  go_enter Try.func36, Try.ntmps36
  go_wp2_with fail
  go_ret
  exact ⟨rfl, rfl⟩

theorem dn_append {m : M} (h : m.down = true) (a d : Bs) : m.append a d = (18, m) := by simp [M.append, h]
theorem dn_sync {m : M} (h : m.down = true) (a : Bs) : m.sync a = (18, m) := by simp [M.sync, h]
theorem dn_rename {m : M} (h : m.down = true) (a b : Bs) : m.rename a b = (18, m) := by simp [M.rename, h]
theorem dn_remove {m : M} (h : m.down = true) (a : Bs) : m.remove a = (18, m) := by simp [M.remove, h]
theorem dn_publish {m : M} (h : m.down = true) : m.publish = (18, m) := by simp [M.publish, h]
theorem dn_limit {m : M} (h : m.down = true) (n : Int) : m.setLimit n = (18, m) := by simp [M.setLimit, h]
theorem dn_read {m : M} (h : m.down = true) (a : Bs) : m.read a = ([], 18) := by simp [M.read, h]
theorem dn_free {m : M} (h : m.down = true) : m.free = 0 := by simp [M.free, h]
theorem dn_list {m : M} (h : m.down = true) : m.list = [] := by simp [M.list, h]

/-- The parameter a, which lies in a box of its own. -/
theorem act_box {w v : World} {x : ActV} (hb : Below (w.alloc (.cells #[.int .u8 x.kind, .string x.name, .string x.to, .int .i8 x.number, .slice x.ao x.sc.length x.cap] 48)).heap.size (w.alloc (.cells #[.int .u8 x.kind, .string x.name, .string x.to, .int .i8 x.number, .slice x.ao x.sc.length x.cap] 48)) v) : x.At v w.heap.size 0 := by
  refine ⟨?_, ?_, ?_, ?_, ?_⟩
  · exact (hb.cell (p := ⟨w.heap.size, 0, none⟩) (by simp)).trans (by simp only [World.cell?, heap_alloc_new]; rfl)
  · exact (hb.cell (p := ⟨w.heap.size, 1, none⟩) (by simp)).trans (by simp only [World.cell?, heap_alloc_new]; rfl)
  · exact (hb.cell (p := ⟨w.heap.size, 2, none⟩) (by simp)).trans (by simp only [World.cell?, heap_alloc_new]; rfl)
  · exact (hb.cell (p := ⟨w.heap.size, 3, none⟩) (by simp)).trans (by simp only [World.cell?, heap_alloc_new]; rfl)
  · exact (hb.cell (p := ⟨w.heap.size, 4, none⟩) (by simp)).trans (by simp only [World.cell?, heap_alloc_new]; rfl)
theorem acts_one {v : World} {x : ActV} (hx : x.Fits v) : ActsBody (v.alloc (.cells #[.int .u8 x.kind, .string x.name, .string x.to, .int .i8 x.number, .slice x.ao x.sc.length x.cap] 48)) (some ⟨v.heap.size, 0, none⟩) 1 [x] := by
  refine .inr (.inr ⟨v.heap.size, 0, rfl, by simp, fun j hj => ?_⟩)
  obtain rfl : j = 0 := by simpa using hj
  exact ⟨act_box (Below.refl _ _), hx.below ((Below.refl _ _).alloc (Nat.le_refl _) _)⟩

theorem nil_great (w : World) (x : ActV) (hf : x.Fits w) (hsm : x.small = false) :
    Calls Try.prog 10 #[x.value] w fun e w' => e = .returned (.bool true) ∧ Below w.heap.size w w' := by
  obtain ⟨kind, name, dst, number, ao, cap, sc⟩ := x
  have HF := Lib.hid hf
  have HS := Lib.hid hsm
  clear hf hsm
  simp only [ActV.value]
  go_enter Try.func10, Try.ntmps10
  go_wp2_with fail
  refine (known_any _).mono ?_
  rintro e v0 ⟨rfl, hb0⟩
  have HB0 := Lib.hid hb0
  clear hb0
  obtain ⟨x0, x1, x2, x3, x4⟩ := act_box (x := ⟨kind, name, dst, number, ao, cap, sc⟩) HB0.out
  simp only [Nat.zero_add] at x0 x1 x2 x3 x4
  have hfew := few_any (acts_one (HF.out.below (below_box HB0.out))) (by simp [maxLen])
  have e1 : fewB [(⟨kind, name, dst, number, ao, cap, sc⟩ : ActV)] = false := by simp [fewB, HS.out]
  rw [e1] at hfew
  clear e1
  go_wp2_with fail
  refine hfew.mono ?_
  rintro e w' ⟨rfl, rfl⟩
  clear hfew
  go_wp2_with fail
  refine (known_any _).mono ?_
  rintro e v1 ⟨rfl, hb1⟩
  have HB1 := Lib.hid hb1
  clear hb1
  go_wp2_with fail
  go_ret
  exact ⟨rfl, below_box ((HB0.out.alloc (by have := HB0.out.size; omega) _).trans (HB1.out.mono (by have := HB0.out.size; simp at this ⊢; omega)))⟩
theorem nil_small (w : World) (x : ActV) (hf : x.Fits w) (hsm : x.small = true) :
    Calls Try.prog 10 #[x.value] w fun e w' => e = .returned (.bool true) ∧ Below w.heap.size w w' := by
  obtain ⟨kind, name, dst, number, ao, cap, sc⟩ := x
  have HF := Lib.hid hf
  have HS := Lib.hid hsm
  have hz := small_at hsm
  simp only at hz
  obtain ⟨hz1, hz2, hz3⟩ := hz
  clear hf hsm
  simp only [ActV.value]
  go_enter Try.func10, Try.ntmps10
  go_wp2_with fail
  refine (known_any _).mono ?_
  rintro e v0 ⟨rfl, hb0⟩
  have HB0 := Lib.hid hb0
  clear hb0
  obtain ⟨x0, x1, x2, x3, x4⟩ := act_box (x := ⟨kind, name, dst, number, ao, cap, sc⟩) HB0.out
  simp only [Nat.zero_add] at x0 x1 x2 x3 x4
  have hfew := few_any (acts_one (HF.out.below (below_box HB0.out))) (by simp [maxLen])
  have e1 : fewB [(⟨kind, name, dst, number, ao, cap, sc⟩ : ActV)] = true := by simp [fewB, HS.out]
  rw [e1] at hfew
  clear e1
  go_wp2_with fail
  refine hfew.mono ?_
  rintro e w' ⟨rfl, rfl⟩
  clear hfew x0 x1 x2 x3 x4
  have hb1 := HB0.out.alloc (by have := HB0.out.size; omega) (.cells #[.int .u8 kind, .string name, .string dst, .int .i8 number, .slice ao sc.length cap] 48)
  generalize v0.alloc (.cells #[.int .u8 kind, .string name, .string dst, .int .i8 number, .slice ao sc.length cap] 48) = v1 at hb1
  have HB1 := Lib.hid hb1
  clear hb1
  obtain ⟨x0, x1, x2, x3, x4⟩ := act_box (x := ⟨kind, name, dst, number, ao, cap, sc⟩) HB1.out
  simp only [Nat.zero_add] at x0 x1 x2 x3 x4
  go_wp2_with (first | (go_at_call 16; refine (Crash_nil _).mono ?_; rintro e w' ⟨rfl, rfl⟩))
  refine (Start_nil _ _ _ _).mono ?_
  rintro e v2 ⟨rfl, hb2⟩
  have HB2 := Lib.hid (HB1.out.trans (hb2.mono HB1.out.size))
  clear hb2 x0 x1 x2 x3 x4
  obtain ⟨x0, x1, x2, x3, x4⟩ := act_box (x := ⟨kind, name, dst, number, ao, cap, sc⟩) HB2.out
  simp only [Nat.zero_add] at x0 x1 x2 x3 x4
  go_upto_region 10 with (first
    | (go_at_call 18; refine (Read_nil _ _).mono ?_; rintro e w' ⟨rfl, rfl⟩)
    | (go_at_call 33; refine (Size_nil _ _).mono ?_; rintro e w' ⟨rfl, rfl⟩)
    | (go_at_call 13; refine (Append_nil _ _ _).mono ?_; rintro e w' ⟨rfl, rfl⟩)
    | (go_at_call 15; refine (Sync_nil _ _).mono ?_; rintro e w' ⟨rfl, rfl⟩)
    | (go_at_call 23; refine (Rename_nil _ _ _).mono ?_; rintro e w' ⟨rfl, rfl⟩)
    | (go_at_call 31; refine (Remove_nil _ _).mono ?_; rintro e w' ⟨rfl, rfl⟩)
    | (go_at_call 14; refine (Publish_nil _).mono ?_; rintro e w' ⟨rfl, rfl⟩)
    | (go_at_call 22; refine (Limit_nil _ _).mono ?_; rintro e w' ⟨rfl, rfl⟩)
    | (go_at_call 20; refine (Names_nil _).mono ?_; rintro e w' ⟨rfl, rfl⟩)
    | (go_at_call 19; refine (Free_nil _).mono ?_; rintro e w' ⟨rfl, rfl⟩)
    | (go_at_call 21; refine (Down_nil _).mono ?_; rintro e w' ⟨rfl, rfl⟩)
    | (go_at_call 36; refine (Clone_nil _).mono ?_; rintro e w' ⟨rfl, rfl⟩))
  go_wp2_with fail
  refine (New_dk 9 (by omega) (by omega) HB2.out).mono ?_
  rintro e v3 ⟨bd, rfl, h⟩
  have D0 := Lib.hid h
  clear h x0 x1 x2 x3 x4
  go_wp2_with fail
  refine (D0.out.append ⟨#[97]⟩ ⟨#[120]⟩ (by decide) (by decide) (show _ = ((0 : Int), Pn 9 [120] 0) from p_new 9 [120] (by simp)) (by simp [M.wt, Pn])).mono ?_
  rintro e v4 ⟨rfl, h⟩
  have D1 := Lib.hid h
  clear h
  go_wp2_with fail
  refine (D1.out.crash).mono ?_
  rintro e v5 ⟨rfl, h⟩
  have D2 := Lib.hid h
  clear h
  have hdn : (Pn 9 [120] 0).crash.down = true := rfl
  have hwt : (Pn 9 [120] 0).crash.wt < 1073741823 := by simp [M.wt, Pn, M.crash]
  obtain ⟨m, hm⟩ : ∃ m, m = (Pn 9 [120] 0).crash := ⟨_, rfl⟩
  rw [← hm] at D2 hdn hwt
  have DN := Lib.hid hdn
  have WT := Lib.hid hwt
  clear hdn hwt hm
  obtain ⟨x0, x1, x2, x3, x4⟩ := act_box (x := ⟨kind, name, dst, number, ao, cap, sc⟩) D2.out.below
  simp only [Nat.zero_add] at x0 x1 x2 x3 x4
  go_wp2_with fail
  refine (D2.out.read ⟨#[97]⟩ (by decide) (dn_read DN.out _)).mono ?_
  rintro e w' ⟨rfl, rfl⟩
  go_wp2_with fail
  refine (D2.out.size ⟨#[97]⟩ (by decide) (dn_read DN.out _)).mono ?_
  rintro e w' ⟨rfl, rfl⟩
  go_wp2_with fail
  refine (D2.out.append name dst (by omega) (by omega) (dn_append DN.out _ _) WT.out).mono ?_
  rintro e v6 ⟨rfl, h⟩
  have D3 := Lib.hid h
  clear h x0 x1 x2 x3 x4
  go_wp2_with fail
  refine (D3.out.sync ⟨#[97]⟩ (by decide) (dn_sync DN.out _) WT.out).mono ?_
  rintro e v7 ⟨rfl, h⟩
  have D4 := Lib.hid h
  clear h
  go_wp2_with fail
  refine (D4.out.rename ⟨#[97]⟩ ⟨#[98]⟩ (by decide) (by decide) (dn_rename DN.out _ _) WT.out).mono ?_
  rintro e v8 ⟨rfl, h⟩
  have D5 := Lib.hid h
  clear h
  go_wp2_with fail
  refine (D5.out.remove ⟨#[97]⟩ (by decide) (dn_remove DN.out _) WT.out).mono ?_
  rintro e v9 ⟨rfl, h⟩
  have D6 := Lib.hid h
  clear h
  go_wp2_with fail
  refine (D6.out.publish (dn_publish DN.out) WT.out).mono ?_
  rintro e v10 ⟨rfl, h⟩
  have D7 := Lib.hid h
  clear h
  go_wp2_with fail
  refine (D7.out.limit 3 (by omega) (dn_limit DN.out 3) WT.out).mono ?_
  rintro e v11 ⟨rfl, h⟩
  have D8 := Lib.hid h
  clear h
  go_wp2_with fail
  refine (D8.out.names).mono ?_
  rintro e v12 ⟨ao3, cp, rfl, _, _, h⟩
  rw [dn_list DN.out]
  have D9 := Lib.hid (D8.out.moved h)
  clear h
  go_wp2_with fail
  refine (D9.out.free (dn_free DN.out)).mono ?_
  rintro e v13 ⟨rfl, h⟩
  have D10 := Lib.hid h
  clear h
  go_wp2_with fail
  refine (D10.out.down DN.out).mono ?_
  rintro e w' ⟨rfl, rfl⟩
  go_wp2_with fail
  go_ret
  exact ⟨rfl, below_box D10.out.below⟩
theorem said_DiskNil (w : World) (x : ActV) (hf : x.Fits w) :
    Calls Try.prog 10 #[x.value] w fun e w' => e = .returned (.bool true) ∧ Below w.heap.size w w' := by
  cases h : x.small with
  | false => exact nil_great w x hf h
  | true => exact nil_small w x hf h
end Go.Proofs.Ytlhnjdoicolkkaa
