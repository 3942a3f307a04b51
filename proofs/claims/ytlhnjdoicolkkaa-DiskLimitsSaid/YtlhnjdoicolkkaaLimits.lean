/- The limits of a disk: the walk. -/
import Derived.Test.YtlhnjdoicolkkaaKnown
import Derived.Test.YtlhnjdoicolkkaaLimPure
import Derived.Test.YtlhnjdoicolkkaaInAt
import Derived.Deep.OwnRows
import Derived.WalkSmall
set_option maxRecDepth 100000
namespace Go.Proofs.Ytlhnjdoicolkkaa
open Go.RowKit Go.Dsk Go.Maps Go.WideMaps Go.Deep
set_option maxHeartbeats 1000000

theorem New_out (c : Int) (h : c < 0 ∨ 16777216 < c) (w : World) : Calls Try.prog 12 #[.int .i64 c] w fun e w' => e = .returned (.tuple #[.pointer none, .int .i64 2]) ∧ w = w' := by
  rcases h with h | h
  · go_enter Try.func12, Try.ntmps12
    go_wp2_with fail
    go_ret2
    exact ⟨rfl, rfl⟩
  · have h0 : 0 ≤ c := by omega
    go_enter Try.func12, Try.ntmps12
    go_wp2_with fail
    go_ret2
    exact ⟨rfl, rfl⟩

theorem byte_info : ∃ i, Try.prog.info? 5 = some i ∧ i.zero = some (.int .u8 0) ∧ i.size = 1 ∧ i.bytes = 1 := ⟨(Try.prog.info? 5).get (by kernel_rfl), by kernel_rfl, by kernel_rfl, by kernel_rfl, by kernel_rfl⟩
/-- make([]byte, n) -/
theorem make_bytes (n : Nat) (hn : n ≤ 255) (w : World) : (Instr.makeSlice 38 (.int .i64 (n : Int)) (.int .i64 (n : Int))).run Try.prog w = .ok (.slice (some ⟨w.heap.size, 0, none⟩) n n) (w.alloc (.cells (madeCells #[.int .u8 0] n) 5)) := by
  obtain ⟨i, h1, h2, h3, h4⟩ := byte_info
  exact run_make_row 38 5 i (.int .u8 0) Try.underlying38 h1 h2 h3 rfl .i64 .i64 n (by rw [h4]; omega) (by omega) w
theorem made_cells (n : Nat) (w : World) (j : Nat) (hj : j < n) : (w.alloc (.cells (madeCells #[.int .u8 0] n) 5)).cell? ⟨w.heap.size, j, none⟩ = some (.int .u8 0) := by
  obtain ⟨c, hb, _, hc⟩ := World.rowIs_made w (.int .u8 0) n 5
  simp only [World.cell?]
  rw [hb]
  exact hc j hj
/-- string(make([]byte, n)) -/
theorem zeros_string (n : Nat) (W : World) (b : Nat) (h : ∀ j, j < n → W.cell? ⟨b, j, none⟩ = some (.int .u8 0)) : (convert 38 9 (.slice (some ⟨b, 0, none⟩) n n)).run Try.prog W = .ok (.string ⟨(List.replicate n (0 : UInt8)).toArray⟩) W := by
  have := run_convert_bytes_back (P := Try.prog) W 38 9 5 ⟨b, 0, none⟩ n (List.replicate n (0 : UInt8)) Try.underlying38 Try.underlying5 Try.underlying9 (fun j hj => by
    have hj' : j < n := by simpa using hj
    rw [show (⟨b, 0, none⟩ : Addr).add j = ⟨b, j, none⟩ by unfold Addr.add; split <;> simp_all]
    rw [h j hj']
    simp)
  simpa using this
/-- string([]byte{x, y, z}) -/
theorem three_string (W : World) (b : Nat) (x y z : UInt8) (h : W.heap[b]? = some (.cells #[.int .u8 x.toNat, .int .u8 y.toNat, .int .u8 z.toNat] 5 (0, 0))) : (convert 38 9 (.slice (some ⟨b, 0, none⟩) 3 3)).run Try.prog W = .ok (.string ⟨#[x, y, z]⟩) W := by
  have := run_convert_bytes_back (P := Try.prog) W 38 9 5 ⟨b, 0, none⟩ 3 [x, y, z] Try.underlying38 Try.underlying5 Try.underlying9 (fun j hj => by
    have hj' : j < 3 := by simpa using hj
    rw [show (⟨b, 0, none⟩ : Addr).add j = ⟨b, j, none⟩ by unfold Addr.add; split <;> simp_all]
    simp only [World.cell?]
    rw [h]
    rcases (show j = 0 ∨ j = 1 ∨ j = 2 by omega) with rfl | rfl | rfl <;> rfl)
  simpa using this

theorem name_string (wr : World) (k : Nat) (hk : k < 63) : (convert 38 9 (.slice (some ⟨wr.heap.size, 0, none⟩) 3 3)).run Try.prog (wr.alloc (.cells #[.int .u8 98, .int .u8 (48 + ((k : Int) + 1) / 10), .int .u8 (48 + ((k : Int) + 1) % 10)] 5)) = .ok (.string ⟨(nm (k + 1)).toArray⟩) (wr.alloc (.cells #[.int .u8 98, .int .u8 (48 + ((k : Int) + 1) / 10), .int .u8 (48 + ((k : Int) + 1) % 10)] 5)) := by
  have e1 : ((UInt8.ofNat (48 + (k + 1) / 10)).toNat : Int) = 48 + ((k : Int) + 1) / 10 := by
    rw [UInt8.toNat_ofNat', Nat.mod_eq_of_lt (by omega)]
    omega
  have e2 : ((UInt8.ofNat (48 + (k + 1) % 10)).toNat : Int) = 48 + ((k : Int) + 1) % 10 := by
    rw [UInt8.toNat_ofNat', Nat.mod_eq_of_lt (by omega)]
    omega
  refine three_string _ _ 98 (UInt8.ofNat (48 + (k + 1) / 10)) (UInt8.ofNat (48 + (k + 1) % 10)) ?_
  rw [heap_alloc_new, e1, e2]
  rfl

theorem limits_low {w : World} {c : Int} {n : Nat} (hc : c < 0) (hn : n ≤ 255) :
    Calls Try.prog 4 #[.int .i64 c, .int .u8 n] w fun e w' => e = .returned (.bool true) ∧ Below w.heap.size w w' := by
  go_enter Try.func4, Try.ntmps4
  go_wp2_with fail
  refine (New_out c (.inl hc) _).mono ?_
  rintro e w' ⟨rfl, rfl⟩
  go_wp2_with fail
  refine (known_any _).mono ?_
  rintro e v0 ⟨rfl, hb0⟩
  have HB0 := Lib.hid hb0
  clear hb0
  have hmkv := make_bytes n hn
  obtain ⟨z, hz⟩ : ∃ z : Bs, z = List.replicate n 0 := ⟨_, rfl⟩
  have hzl : z.length = n := by rw [hz]; simp
  have HZL := Lib.hid hzl
  have HZ := Lib.hid hz
  clear hz hzl
  go_wp2_with fail
  refine (New_dk n (by omega) (by omega) HB0.out).mono ?_
  rintro e v1 ⟨bd, rfl, h⟩
  have D0 := Lib.hid h
  clear h
  have hmk := hmkv v1
  clear hmkv
  have hcv := zeros_string n _ _ (made_cells n v1)
  rw [← HZ.out] at hcv
  go_wp2_with fail
  have hds : (⟨z.toArray⟩ : ByteArray).size ≤ 1073741824 := by rw [size_mk, HZL.out]; omega
  have hap := (D0.out.alloc (.cells (madeCells #[.int .u8 0] n) 5)).append ⟨#[97]⟩ ⟨z.toArray⟩ (by decide) hds (show _ = ((0 : Int), L z 0) by rw [← HZL.out]; exact l_new z) (by rw [l_wt]; omega)
  clear hds hmk hcv
  refine hap.mono ?_
  clear hap
  rintro e v2 ⟨rfl, h⟩
  have D1 := Lib.hid h
  clear h
  go_wp2_with fail
  refine (D1.out.free (l_free z)).mono ?_
  rintro e v3 ⟨rfl, h⟩
  have D2 := Lib.hid h
  clear h
  go_wp2_with fail
  refine (D2.out.append ⟨#[97]⟩ ⟨#[120]⟩ (by decide) (by decide) (show _ = ((33 : Int), L z 0) from l_full z) (by rw [l_wt]; omega)).mono ?_
  rintro e v4 ⟨rfl, h⟩
  have D3 := Lib.hid h
  clear h
  go_wp2_with fail
  refine (D3.out.append ⟨#[97]⟩ ⟨#[]⟩ (by decide) (by decide) (show _ = ((0 : Int), L z 0) from l_more z 0) (by rw [l_wt]; omega)).mono ?_
  rintro e v5 ⟨rfl, h⟩
  have D4 := Lib.hid h
  clear h
  go_wp2_with fail
  go_loopw [11] (fun i wr => ∃ k : Nat, k ≤ 63 ∧ i = .int .i64 ((k : Int) + 1) ∧ Dk w wr bd (L z k)) (fun i _ => 64 - (intOf i).toNat)
  case atStart => exact ⟨0, Nat.zero_le _, rfl, D4.out⟩
  case round =>
    obtain ⟨k, hk, rfl, hD⟩ := hrel
    have DD := Lib.hid hD
    clear hD
    by_cases hlt : k < 63
    · have hcv := name_string wr k hlt
      have hap := (DD.out.alloc (.cells #[.int .u8 98, .int .u8 (48 + ((k : Int) + 1) / 10), .int .u8 (48 + ((k : Int) + 1) % 10)] 5)).append ⟨(nm (k + 1)).toArray⟩ ⟨#[]⟩ (by rw [size_mk]; simp [nm]) (by decide) (show _ = ((0 : Int), L z (k + 1)) from l_next z k hlt) (by rw [l_wt]; omega)
      generalize hnm : (⟨(nm (k + 1)).toArray⟩ : ByteArray) = nb at hcv hap
      clear hnm
      go_wp2_with fail
      refine hap.mono ?_
      clear hap hcv
      rintro e v6 ⟨rfl, h⟩
      have D6 := Lib.hid h
      clear h
      go_wp2_with fail
      exact ⟨⟨k + 1, by omega, by simp, D6.out⟩, by simp [intOf]; omega⟩
    · obtain rfl : k = 63 := by omega
      go_wp2_with fail
      refine (DD.out.append ⟨#[99]⟩ ⟨#[]⟩ (by decide) (by decide) (show _ = ((6 : Int), L z 63) from l_last z) (by rw [l_wt]; omega)).mono ?_
      rintro e v6 ⟨rfl, h⟩
      have D6 := Lib.hid h
      clear h
      go_wp2_with fail
      refine (D6.out.append ⟨#[97]⟩ ⟨#[]⟩ (by decide) (by decide) (show _ = ((0 : Int), L z 63) from l_more z 63) (by rw [l_wt]; omega)).mono ?_
      rintro e v7 ⟨rfl, h⟩
      have D7 := Lib.hid h
      clear h
      go_wp2_with fail
      refine (D7.out.names).mono ?_
      rintro e v8 ⟨ao3, cp, rfl, _, _, h⟩
      rw [l_list z]
      have D8 := Lib.hid (D7.out.moved h)
      clear h
      go_wp2_with fail
      go_ret
      exact ⟨rfl, D8.out.below⟩
theorem limits_high {w : World} {c : Int} {n : Nat} (h00 : 0 ≤ c) (hc : 16777216 < c) (hn : n ≤ 255) :
    Calls Try.prog 4 #[.int .i64 c, .int .u8 n] w fun e w' => e = .returned (.bool true) ∧ Below w.heap.size w w' := by
  go_enter Try.func4, Try.ntmps4
  go_wp2_with fail
  refine (New_out c (.inr hc) _).mono ?_
  rintro e w' ⟨rfl, rfl⟩
  go_wp2_with fail
  refine (known_any _).mono ?_
  rintro e v0 ⟨rfl, hb0⟩
  have HB0 := Lib.hid hb0
  clear hb0
  have hmkv := make_bytes n hn
  obtain ⟨z, hz⟩ : ∃ z : Bs, z = List.replicate n 0 := ⟨_, rfl⟩
  have hzl : z.length = n := by rw [hz]; simp
  have HZL := Lib.hid hzl
  have HZ := Lib.hid hz
  clear hz hzl
  go_wp2_with fail
  refine (New_dk n (by omega) (by omega) HB0.out).mono ?_
  rintro e v1 ⟨bd, rfl, h⟩
  have D0 := Lib.hid h
  clear h
  have hmk := hmkv v1
  clear hmkv
  have hcv := zeros_string n _ _ (made_cells n v1)
  rw [← HZ.out] at hcv
  go_wp2_with fail
  have hds : (⟨z.toArray⟩ : ByteArray).size ≤ 1073741824 := by rw [size_mk, HZL.out]; omega
  have hap := (D0.out.alloc (.cells (madeCells #[.int .u8 0] n) 5)).append ⟨#[97]⟩ ⟨z.toArray⟩ (by decide) hds (show _ = ((0 : Int), L z 0) by rw [← HZL.out]; exact l_new z) (by rw [l_wt]; omega)
  clear hds hmk hcv
  refine hap.mono ?_
  clear hap
  rintro e v2 ⟨rfl, h⟩
  have D1 := Lib.hid h
  clear h
  go_wp2_with fail
  refine (D1.out.free (l_free z)).mono ?_
  rintro e v3 ⟨rfl, h⟩
  have D2 := Lib.hid h
  clear h
  go_wp2_with fail
  refine (D2.out.append ⟨#[97]⟩ ⟨#[120]⟩ (by decide) (by decide) (show _ = ((33 : Int), L z 0) from l_full z) (by rw [l_wt]; omega)).mono ?_
  rintro e v4 ⟨rfl, h⟩
  have D3 := Lib.hid h
  clear h
  go_wp2_with fail
  refine (D3.out.append ⟨#[97]⟩ ⟨#[]⟩ (by decide) (by decide) (show _ = ((0 : Int), L z 0) from l_more z 0) (by rw [l_wt]; omega)).mono ?_
  rintro e v5 ⟨rfl, h⟩
  have D4 := Lib.hid h
  clear h
  go_wp2_with fail
  go_loopw [11] (fun i wr => ∃ k : Nat, k ≤ 63 ∧ i = .int .i64 ((k : Int) + 1) ∧ Dk w wr bd (L z k)) (fun i _ => 64 - (intOf i).toNat)
  case atStart => exact ⟨0, Nat.zero_le _, rfl, D4.out⟩
  case round =>
    obtain ⟨k, hk, rfl, hD⟩ := hrel
    have DD := Lib.hid hD
    clear hD
    by_cases hlt : k < 63
    · have hcv := name_string wr k hlt
      have hap := (DD.out.alloc (.cells #[.int .u8 98, .int .u8 (48 + ((k : Int) + 1) / 10), .int .u8 (48 + ((k : Int) + 1) % 10)] 5)).append ⟨(nm (k + 1)).toArray⟩ ⟨#[]⟩ (by rw [size_mk]; simp [nm]) (by decide) (show _ = ((0 : Int), L z (k + 1)) from l_next z k hlt) (by rw [l_wt]; omega)
      generalize hnm : (⟨(nm (k + 1)).toArray⟩ : ByteArray) = nb at hcv hap
      clear hnm
      go_wp2_with fail
      refine hap.mono ?_
      clear hap hcv
      rintro e v6 ⟨rfl, h⟩
      have D6 := Lib.hid h
      clear h
      go_wp2_with fail
      exact ⟨⟨k + 1, by omega, by simp, D6.out⟩, by simp [intOf]; omega⟩
    · obtain rfl : k = 63 := by omega
      go_wp2_with fail
      refine (DD.out.append ⟨#[99]⟩ ⟨#[]⟩ (by decide) (by decide) (show _ = ((6 : Int), L z 63) from l_last z) (by rw [l_wt]; omega)).mono ?_
      rintro e v6 ⟨rfl, h⟩
      have D6 := Lib.hid h
      clear h
      go_wp2_with fail
      refine (D6.out.append ⟨#[97]⟩ ⟨#[]⟩ (by decide) (by decide) (show _ = ((0 : Int), L z 63) from l_more z 63) (by rw [l_wt]; omega)).mono ?_
      rintro e v7 ⟨rfl, h⟩
      have D7 := Lib.hid h
      clear h
      go_wp2_with fail
      refine (D7.out.names).mono ?_
      rintro e v8 ⟨ao3, cp, rfl, _, _, h⟩
      rw [l_list z]
      have D8 := Lib.hid (D7.out.moved h)
      clear h
      go_wp2_with fail
      go_ret
      exact ⟨rfl, D8.out.below⟩
theorem limits_in {w : World} {c : Int} {n : Nat} (h00 : 0 ≤ c) (hc : c ≤ 16777216) (hn : n ≤ 255) :
    Calls Try.prog 4 #[.int .i64 c, .int .u8 n] w fun e w' => e = .returned (.bool true) ∧ Below w.heap.size w w' := by
  go_enter Try.func4, Try.ntmps4
  go_wp2_with fail
  refine (New_dk c h00 hc (Below.refl _ _)).mono ?_
  rintro e u0 ⟨bd0, rfl, h⟩
  have E0 := Lib.hid h
  clear h
  go_wp2_with fail
  refine (known_any _).mono ?_
  rintro e u1 ⟨rfl, hb0⟩
  have E1 := Lib.hid (E0.out.moved hb0)
  clear hb0
  go_wp2_with fail
  refine (E1.out.free (r := c) (by simp [M.free, M.new, M.used]; omega)).mono ?_
  rintro e u2 ⟨rfl, h⟩
  have E2 := Lib.hid h
  clear h
  go_wp2_with fail
  refine (E2.out.names).mono ?_
  rintro e u3 ⟨ao0, cp0, rfl, _, _, h⟩
  rw [show (M.new c).list.length = 0 from rfl]
  have E3 := Lib.hid (E2.out.moved h)
  clear h
  go_wp2_with fail
  refine (E3.out.down (b := false) rfl).mono ?_
  rintro e v0 ⟨rfl, rfl⟩
  have HB0 := Lib.hid E3.out.below
  have hmkv := make_bytes n hn
  obtain ⟨z, hz⟩ : ∃ z : Bs, z = List.replicate n 0 := ⟨_, rfl⟩
  have hzl : z.length = n := by rw [hz]; simp
  have HZL := Lib.hid hzl
  have HZ := Lib.hid hz
  clear hz hzl
  go_wp2_with fail
  refine (New_dk n (by omega) (by omega) HB0.out).mono ?_
  rintro e v1 ⟨bd, rfl, h⟩
  have D0 := Lib.hid h
  clear h
  have hmk := hmkv v1
  clear hmkv
  have hcv := zeros_string n _ _ (made_cells n v1)
  rw [← HZ.out] at hcv
  go_wp2_with fail
  have hds : (⟨z.toArray⟩ : ByteArray).size ≤ 1073741824 := by rw [size_mk, HZL.out]; omega
  have hap := (D0.out.alloc (.cells (madeCells #[.int .u8 0] n) 5)).append ⟨#[97]⟩ ⟨z.toArray⟩ (by decide) hds (show _ = ((0 : Int), L z 0) by rw [← HZL.out]; exact l_new z) (by rw [l_wt]; omega)
  clear hds hmk hcv
  refine hap.mono ?_
  clear hap
  rintro e v2 ⟨rfl, h⟩
  have D1 := Lib.hid h
  clear h
  go_wp2_with fail
  refine (D1.out.free (l_free z)).mono ?_
  rintro e v3 ⟨rfl, h⟩
  have D2 := Lib.hid h
  clear h
  go_wp2_with fail
  refine (D2.out.append ⟨#[97]⟩ ⟨#[120]⟩ (by decide) (by decide) (show _ = ((33 : Int), L z 0) from l_full z) (by rw [l_wt]; omega)).mono ?_
  rintro e v4 ⟨rfl, h⟩
  have D3 := Lib.hid h
  clear h
  go_wp2_with fail
  refine (D3.out.append ⟨#[97]⟩ ⟨#[]⟩ (by decide) (by decide) (show _ = ((0 : Int), L z 0) from l_more z 0) (by rw [l_wt]; omega)).mono ?_
  rintro e v5 ⟨rfl, h⟩
  have D4 := Lib.hid h
  clear h
  go_wp2_with fail
  go_loopw [11] (fun i wr => ∃ k : Nat, k ≤ 63 ∧ i = .int .i64 ((k : Int) + 1) ∧ Dk w wr bd (L z k)) (fun i _ => 64 - (intOf i).toNat)
  case atStart => exact ⟨0, Nat.zero_le _, rfl, D4.out⟩
  case round =>
    obtain ⟨k, hk, rfl, hD⟩ := hrel
    have DD := Lib.hid hD
    clear hD
    by_cases hlt : k < 63
    · have hcv := name_string wr k hlt
      have hap := (DD.out.alloc (.cells #[.int .u8 98, .int .u8 (48 + ((k : Int) + 1) / 10), .int .u8 (48 + ((k : Int) + 1) % 10)] 5)).append ⟨(nm (k + 1)).toArray⟩ ⟨#[]⟩ (by rw [size_mk]; simp [nm]) (by decide) (show _ = ((0 : Int), L z (k + 1)) from l_next z k hlt) (by rw [l_wt]; omega)
      generalize hnm : (⟨(nm (k + 1)).toArray⟩ : ByteArray) = nb at hcv hap
      clear hnm
      go_wp2_with fail
      refine hap.mono ?_
      clear hap hcv
      rintro e v6 ⟨rfl, h⟩
      have D6 := Lib.hid h
      clear h
      go_wp2_with fail
      exact ⟨⟨k + 1, by omega, by simp, D6.out⟩, by simp [intOf]; omega⟩
    · obtain rfl : k = 63 := by omega
      go_wp2_with fail
      refine (DD.out.append ⟨#[99]⟩ ⟨#[]⟩ (by decide) (by decide) (show _ = ((6 : Int), L z 63) from l_last z) (by rw [l_wt]; omega)).mono ?_
      rintro e v6 ⟨rfl, h⟩
      have D6 := Lib.hid h
      clear h
      go_wp2_with fail
      refine (D6.out.append ⟨#[97]⟩ ⟨#[]⟩ (by decide) (by decide) (show _ = ((0 : Int), L z 63) from l_more z 63) (by rw [l_wt]; omega)).mono ?_
      rintro e v7 ⟨rfl, h⟩
      have D7 := Lib.hid h
      clear h
      go_wp2_with fail
      refine (D7.out.names).mono ?_
      rintro e v8 ⟨ao3, cp, rfl, _, _, h⟩
      rw [l_list z]
      have D8 := Lib.hid (D7.out.moved h)
      clear h
      go_wp2_with fail
      go_ret
      exact ⟨rfl, D8.out.below⟩
theorem said_DiskLimits (w : World) (c : Int) (hc : (Lit.int .i64 c).wf = true) (n : Int) (hn : (Lit.int .u8 n).wf = true) :
    Calls Try.prog 4 #[.int .i64 c, .int .u8 n] w fun e w' => e = .returned (.bool true) ∧ Below w.heap.size w w' := by
  obtain ⟨h0, h1⟩ := in_u8 hn
  obtain ⟨k, rfl⟩ : ∃ k : Nat, n = k := ⟨n.toNat, by omega⟩
  rcases (show c < 0 ∨ (0 ≤ c ∧ 16777216 < c) ∨ (0 ≤ c ∧ c ≤ 16777216) by omega) with h | ⟨h2, h⟩ | ⟨h2, h⟩
  · exact limits_low h (by omega)
  · exact limits_high h2 h (by omega)
  · exact limits_in h2 h (by omega)
end Go.Proofs.Ytlhnjdoicolkkaa
