/- The check of some bytes: the walks. -/
import Derived.Test.YtlhnjdoicolkkaaGreatDoorBld
import Derived.Test.YtlhnjdoicolkkaaGreatDoorOwn
import Derived.Test.YtlhnjdoicolkkaaGreatDoorPlain
import Derived.BigQuiet
set_option maxRecDepth 100000
namespace Go.Proofs.YtlhnjdoicolkkaaGreatDoor
open Go.RowKit Go.Dsk Go.Maps Go.WideMaps
set_option maxHeartbeats 1000000

theorem ck_next (s : ByteArray) {k : Nat} (hk : k < s.size) : Jnl.ck (s.data.toList.take (k + 1)) = Jnl.ckStep (Jnl.ck (s.data.toList.take k)) s[k] := by
  have hl : k < s.data.toList.length := hk
  rw [List.take_succ_eq_append_getElem hl, Jnl.ck_snoc]
  rfl
theorem ck_a {x c : Int} (hx : 0 ≤ x ∧ x < 65521) (hc : 0 ≤ c ∧ c < 256) : (wrap64 (x + wrap64 c)).tmod 65521 = (x + c) % 65521 := by
  rw [IntWalk.wrap64_in c (by omega), IntWalk.wrap64_in _ (by omega), Int.tmod_eq_emod_of_nonneg (by omega)]
theorem ck_b {x y : Int} (hx : 0 ≤ x ∧ x < 65521) (hy : 0 ≤ y ∧ y < 65521) : (wrap64 (x + y)).tmod 65521 = (x + y) % 65521 := by
  rw [IntWalk.wrap64_in _ (by omega), Int.tmod_eq_emod_of_nonneg (by omega)]
theorem take_all (s : ByteArray) : s.data.toList.take s.size = s.data.toList := List.take_of_length_le (Nat.le_refl _)
theorem ck_end (l : Bs) : wrap64 (wrap64 (((Jnl.ck l).2 : Int) * 65536) + (Jnl.ck l).1) = (Jnl.check l : Int) := by
  have h1 := Jnl.ck_lt l
  rw [IntWalk.wrap64_in (((Jnl.ck l).2 : Int) * 65536) (by omega), IntWalk.wrap64_in _ (by omega)]
  unfold Jnl.check
  omega
theorem Check_any (s : ByteArray) (hs : s.size ≤ 1099511627776) (w : World) :
    Calls Tryz.prog 18 #[.string s] w fun e w' => e = .returned (.int .i64 (Jnl.check s.data.toList)) ∧ w' = w := by
  go_enter Tryz.func18, Tryz.ntmps18
  go_wp2_with fail
  go_loopw [3, 4, 8] (fun a b i wr => ∃ k : Nat, k ≤ s.size ∧ i = .int .i64 k ∧ a = .int .i64 (Jnl.ck (s.data.toList.take k)).1 ∧ b = .int .i64 (Jnl.ck (s.data.toList.take k)).2 ∧ w = wr) (fun _ _ i _ => s.size - (intOf i).toNat)
  case atStart => exact ⟨0, Nat.zero_le _, rfl, rfl, rfl, rfl⟩
  case round =>
    obtain ⟨k, hk, rfl, rfl, rfl, rfl⟩ := hrel
    by_cases hlt : k < s.size
    · have hk0 : (0 : Int) ≤ (k : Int) := by omega
      have hk1 : (k : Int) < (s.size : Int) := by omega
      go_wp2_with fail
      have e := ck_next s hlt
      have h1 := Jnl.ck_lt (s.data.toList.take k)
      have hc := s[k].toNat_lt
      generalize s[k] = c at *
      generalize Jnl.ck (s.data.toList.take k) = p at *
      obtain ⟨p1, p2⟩ := p
      simp only at h1
      have ha := ck_a (x := p1) (c := c.toNat) (by omega) (by omega)
      refine ⟨⟨k + 1, by omega, by go_num, ?_, ?_, trivial⟩, by simp [intOf]; omega⟩
      · rw [e, ha]
        simp only [Jnl.ckStep]
        congr 1
      · rw [e, ha, ck_b (by omega) (by omega)]
        simp only [Jnl.ckStep]
        congr 1
    · obtain rfl : k = s.size := by omega
      have e := take_all s
      have hv := ck_end s.data.toList
      go_wp2_with fail
      go_ret
      rw [e, hv]
      exact ⟨rfl, rfl⟩
theorem lcheck_any (s : ByteArray) (hs : s.size ≤ 1099511627776) (w : World) :
    Calls Tryz.prog 19 #[.string s] w fun e w' => e = .returned (.int .i64 (Jnl.check s.data.toList)) ∧ w' = w := by
  go_enter Tryz.func19, Tryz.ntmps19
  go_wp2_with fail
  go_loopw [3, 4, 5] (fun a b i wr => ∃ k : Nat, k ≤ s.size ∧ i = .int .i64 k ∧ a = .int .i64 (Jnl.ck (s.data.toList.take k)).1 ∧ b = .int .i64 (Jnl.ck (s.data.toList.take k)).2 ∧ w = wr) (fun _ _ i _ => s.size - (intOf i).toNat)
  case atStart => exact ⟨0, Nat.zero_le _, rfl, rfl, rfl, rfl⟩
  case round =>
    obtain ⟨k, hk, rfl, rfl, rfl, rfl⟩ := hrel
    by_cases hlt : k < s.size
    · have hk0 : (0 : Int) ≤ (k : Int) := by omega
      have hk1 : (k : Int) < (s.size : Int) := by omega
      go_wp2_with fail
      have e := ck_next s hlt
      have h1 := Jnl.ck_lt (s.data.toList.take k)
      have hc := s[k].toNat_lt
      generalize s[k] = c at *
      generalize Jnl.ck (s.data.toList.take k) = p at *
      obtain ⟨p1, p2⟩ := p
      simp only at h1
      have ha := ck_a (x := p1) (c := c.toNat) (by omega) (by omega)
      refine ⟨⟨k + 1, by omega, by go_num, ?_, ?_, trivial⟩, by simp [intOf]; omega⟩
      · rw [e, ha]
        simp only [Jnl.ckStep]
        congr 1
      · rw [e, ha, ck_b (by omega) (by omega)]
        simp only [Jnl.ckStep]
        congr 1
    · obtain rfl : k = s.size := by omega
      have e := take_all s
      have hv := ck_end s.data.toList
      go_wp2_with fail
      go_ret
      rw [e, hv]
      exact ⟨rfl, rfl⟩
theorem convert_four (W : World) (b : Nat) (a0 a1 a2 a3 : Int) (h : W.heap[b]? = some (.cells #[.int .u8 a0, .int .u8 a1, .int .u8 a2, .int .u8 a3] 5 (0, 0))) : (convert 30 9 (.slice (some ⟨b, 0, none⟩) 4 4)).run Tryz.prog W = .ok (.string ⟨#[UInt8.ofNat a0.toNat, UInt8.ofNat a1.toNat, UInt8.ofNat a2.toNat, UInt8.ofNat a3.toNat]⟩) W := by
  rw [run_convert_bytes_string W 30 9 5 _ _ _ Tryz.underlying30 Tryz.underlying5 Tryz.underlying9]
  have h0 := block_cell h 0
  have h1 := block_cell h 1
  have h2 := block_cell h 2
  have h3 := block_cell h 3
  simp at h0 h1 h2 h3
  rw [run_bytesToString W ⟨b, 0, none⟩ 4 4 [a0, a1, a2, a3] (by simp [loadCells, h0, h1, h2, h3, go_sem])]
  rfl
theorem four_value (n : Nat) (hn : n < 4294967296) : (⟨#[UInt8.ofNat ((n : Int) / 16777216).toNat, UInt8.ofNat ((n : Int) / 65536 % 256).toNat, UInt8.ofNat ((n : Int) / 256 % 256).toNat, UInt8.ofNat ((n : Int) % 256).toNat]⟩ : ByteArray) = ⟨(Jnl.four n).toArray⟩ := by
  have key : ∀ x y : Nat, x % 256 = y % 256 → UInt8.ofNat x = UInt8.ofNat y := fun x y h => by
    rw [← UInt8.toNat_inj, UInt8.toNat_ofNat', UInt8.toNat_ofNat', h]
  rw [key ((n : Int) / 16777216).toNat (n / 16777216) (by omega), key ((n : Int) / 65536 % 256).toNat (n / 65536) (by omega), key ((n : Int) / 256 % 256).toNat (n / 256) (by omega), key ((n : Int) % 256).toNat n (by omega)]
  rfl
theorem four_any {n : Nat} (hn : n < 4294967296) (w : World) :
    Calls Tryz.prog 88 #[.int .i64 n] w fun e w' => e = .returned (.string ⟨(Jnl.four n).toArray⟩) ∧ Below w.heap.size w w' := by
  go_enter Tryz.func88, Tryz.ntmps88
  go_wp2_with fail
  rw [convert_four _ w.heap.size _ _ _ _ (heap_alloc_new w _)]
  simp only [Result.andThen]
  rw [Oper.upon_value]
  go_wp2_with fail
  go_ret
  exact ⟨by rw [← four_value n hn]; rfl, (Below.refl _ _).alloc (Nat.le_refl _) _⟩
theorem word_any {n : Nat} (hn : n < 4294967296) (w : World) :
    Calls Tryz.prog 47 #[.int .i64 n] w fun e w' => e = .returned (.string ⟨(Jnl.four n).toArray⟩) ∧ Below w.heap.size w w' := by
  go_enter Tryz.func47, Tryz.ntmps47
  go_wp2_with fail
  rw [convert_four _ w.heap.size _ _ _ _ (heap_alloc_new w _)]
  simp only [Result.andThen]
  rw [Oper.upon_value]
  go_wp2_with fail
  go_ret
  exact ⟨by rw [← four_value n hn]; rfl, (Below.refl _ _).alloc (Nat.le_refl _) _⟩
theorem ba_append (a b : Bs) : (⟨a.toArray⟩ : ByteArray) ++ ⟨b.toArray⟩ = ⟨(a ++ b).toArray⟩ := by
  apply ByteArray.ext
  simp [ByteArray.data_append]
theorem ba_self (s : ByteArray) : (⟨s.data.toList.toArray⟩ : ByteArray) = s := by simp
theorem ba_frame (s : ByteArray) : (⟨(Jnl.frame s.data.toList).toArray⟩ : ByteArray) = ⟨(Jnl.four s.size).toArray⟩ ++ ⟨(Jnl.four (Jnl.check s.data.toList)).toArray⟩ ++ s := by
  have : s = ⟨s.data.toList.toArray⟩ := (ba_self s).symm
  conv => rhs; rhs; rw [this]
  rw [ba_append, ba_append]
  unfold Jnl.frame
  rw [List.append_assoc]
  rfl
theorem jframe_any (s : ByteArray) (hs : s.size ≤ 1099511627) (w : World) :
    Calls Tryz.prog 46 #[.string s] w fun e w' => e = .returned (.string ⟨(Jnl.frame s.data.toList).toArray⟩) ∧ Below w.heap.size w w' := by
  go_enter Tryz.func46, Tryz.ntmps46
  go_wp2_with fail
  refine (four_any (by omega : s.size < 4294967296) w).mono ?_
  rintro e w1 ⟨rfl, hb1⟩
  go_wp2_with fail
  refine (Check_any s (by omega) _).mono ?_
  rintro e w' ⟨rfl, rfl⟩
  go_wp2_with fail
  refine (four_any (Jnl.check_lt _) _).mono ?_
  rintro e w2 ⟨rfl, hb2⟩
  have z1 : (⟨(Jnl.four s.size).toArray⟩ : ByteArray).size = 4 := rfl
  have z2 : (⟨(Jnl.four (Jnl.check s.data.toList)).toArray⟩ : ByteArray).size = 4 := rfl
  go_wp2_with fail
  go_ret
  exact ⟨by rw [ba_frame]; rfl, hb1.trans (hb2.mono hb1.size)⟩
theorem lframe_any (s : ByteArray) (hs : s.size ≤ 1099511627) (w : World) :
    Calls Tryz.prog 20 #[.string s] w fun e w' => e = .returned (.string ⟨(Jnl.frame s.data.toList).toArray⟩) ∧ Below w.heap.size w w' := by
  go_enter Tryz.func20, Tryz.ntmps20
  go_wp2_with fail
  refine (word_any (by omega : s.size < 4294967296) w).mono ?_
  rintro e w1 ⟨rfl, hb1⟩
  go_wp2_with fail
  refine (lcheck_any s (by omega) _).mono ?_
  rintro e w' ⟨rfl, rfl⟩
  go_wp2_with fail
  refine (word_any (Jnl.check_lt _) _).mono ?_
  rintro e w2 ⟨rfl, hb2⟩
  have z1 : (⟨(Jnl.four s.size).toArray⟩ : ByteArray).size = 4 := rfl
  have z2 : (⟨(Jnl.four (Jnl.check s.data.toList)).toArray⟩ : ByteArray).size = 4 := rfl
  go_wp2_with fail
  go_ret
  exact ⟨by rw [ba_frame]; rfl, hb1.trans (hb2.mono hb1.size)⟩
theorem frame_sz (s : ByteArray) : (⟨(Jnl.frame s.data.toList).toArray⟩ : ByteArray).size = 8 + s.size := Jnl.frame_length _
theorem Frame_any (s : ByteArray) (hs : s.size ≤ 1099511627) (w : World) :
    Calls Tryz.prog 17 #[.string s] w fun e w' => e = .returned (if 4096 < s.size then .tuple #[.string ⟨#[]⟩, .int .i64 5] else .tuple #[.string ⟨(Jnl.frame s.data.toList).toArray⟩, .int .i64 0]) ∧ Below w.heap.size w w' := by
  by_cases hl : 4096 < s.size
  · have hl' : ((4096 : Int) < (s.size : Int)) = True := by simp; omega
    rw [if_pos hl]
    go_enter Tryz.func17, Tryz.ntmps17
    go_wp2_with fail
    go_ret2
    exact ⟨rfl, Below.refl _ _⟩
  · have hl' : ((4096 : Int) < (s.size : Int)) = False := by simp; omega
    rw [if_neg hl]
    go_enter Tryz.func17, Tryz.ntmps17
    go_wp2_with fail
    refine (jframe_any s hs _).mono ?_
    rintro e w1 ⟨rfl, hb1⟩
    go_wp2_with fail
    go_ret2
    exact ⟨rfl, hb1⟩
end Go.Proofs.YtlhnjdoicolkkaaGreatDoor

/- A record at the beginning of some bytes: the walks. -/
set_option maxRecDepth 100000
namespace Go.Proofs.YtlhnjdoicolkkaaGreatDoor
open Go.RowKit Go.Dsk Go.Maps Go.WideMaps
set_option maxHeartbeats 1000000

theorem num_value (a b c d : Nat) (ha : a < 256) (hb : b < 256) (hc : c < 256) (hd : d < 256) :
    wrap64 (wrap64 (wrap64 (wrap64 (wrap64 (a : Int) * 16777216) + wrap64 (wrap64 (b : Int) * 65536)) + wrap64 (wrap64 (c : Int) * 256)) + wrap64 (d : Int)) = ((a * 16777216 + b * 65536 + c * 256 + d : Nat) : Int) := by
  have e1 : wrap64 (a : Int) = a := IntWalk.wrap64_in _ (by omega)
  have e2 : wrap64 (b : Int) = b := IntWalk.wrap64_in _ (by omega)
  have e3 : wrap64 (c : Int) = c := IntWalk.wrap64_in _ (by omega)
  have e4 : wrap64 (d : Int) = d := IntWalk.wrap64_in _ (by omega)
  have f1 : wrap64 ((a : Int) * 16777216) = a * 16777216 := IntWalk.wrap64_in _ (by omega)
  have f2 : wrap64 ((b : Int) * 65536) = b * 65536 := IntWalk.wrap64_in _ (by omega)
  have f3 : wrap64 ((c : Int) * 256) = c * 256 := IntWalk.wrap64_in _ (by omega)
  have g1 : wrap64 ((a : Int) * 16777216 + b * 65536) = a * 16777216 + b * 65536 := IntWalk.wrap64_in _ (by omega)
  have g2 : wrap64 ((a : Int) * 16777216 + b * 65536 + c * 256) = a * 16777216 + b * 65536 + c * 256 := IntWalk.wrap64_in _ (by omega)
  have g3 : wrap64 ((a : Int) * 16777216 + b * 65536 + c * 256 + d) = a * 16777216 + b * 65536 + c * 256 + d := IntWalk.wrap64_in _ (by omega)
  rw [e1, e2, e3, e4, f1, f2, f3, g1, g2, g3]
  omega
theorem getD_at (s : ByteArray) {k : Nat} (hk : k < s.size) : s.data.toList.getD k 0 = s[k] := by
  have hl : k < s.data.toList.length := hk
  rw [List.getD_eq_getElem?_getD, List.getElem?_eq_getElem hl]
  rfl
theorem number_bytes (s : ByteArray) (h0 : 0 < s.size) (h1 : 1 < s.size) (h2 : 2 < s.size) (h3 : 3 < s.size) : Jnl.number s.data.toList = s[0].toNat * 16777216 + s[1].toNat * 65536 + s[2].toNat * 256 + s[3].toNat := by
  unfold Jnl.number
  rw [getD_at s h0, getD_at s h1, getD_at s h2, getD_at s h3]
theorem ba_ext (s : ByteArray) (i j : Nat) : (s.extract i j).data.toList = (s.data.toList.drop i).take (j - i) := by
  rw [ByteArray.data_extract, Array.toList_extract, List.extract_eq_take_drop]
theorem ba_of {s : ByteArray} {l : Bs} (h : s.data.toList = l) : (⟨l.toArray⟩ : ByteArray) = s := by subst h; exact ba_self s
theorem number_any (s : ByteArray) (hs : s.size ≤ 1099511627776) (h4 : 4 ≤ s.size) (w : World) :
    Calls Tryz.prog 84 #[.string s] w fun e w' => e = .returned (.int .i64 (Jnl.number s.data.toList)) ∧ ∃ n, w' = w.drewN n := by
  have h0 : 0 < s.size := by omega
  have h1 : (1 : Int) < (s.size : Int) := by omega
  have h2 : (2 : Int) < (s.size : Int) := by omega
  have h3 : (3 : Int) < (s.size : Int) := by omega
  go_enter Tryz.func84, Tryz.ntmps84
  go_upto_region 1 with fail
  go_quiet (fail)
  go_wp2_with fail
  have e := num_value s[0].toNat s[1].toNat s[2].toNat s[3].toNat s[0].toNat_lt s[1].toNat_lt s[2].toNat_lt s[3].toNat_lt
  go_ret
  rw [number_bytes s h0 (by omega) (by omega) (by omega), e]
  exact ⟨rfl, nq, rfl⟩
theorem cut_short {s : ByteArray} (h : s.size < 8) : Jnl.cut s.data.toList = ([], s.data.toList, false) := by
  unfold Jnl.cut
  rw [if_pos (show s.data.toList.length < 8 from h)]
theorem cut_big {s : ByteArray} (h : ¬ s.size < 8) (h2 : 4096 < Jnl.number s.data.toList ∨ s.size - 8 < Jnl.number s.data.toList) : Jnl.cut s.data.toList = ([], s.data.toList, false) := by
  unfold Jnl.cut
  rw [if_neg (show ¬ s.data.toList.length < 8 from h), if_pos (show 4096 < _ ∨ s.data.toList.length - 8 < _ from h2)]
theorem cut_fits {s : ByteArray} (h : ¬ s.size < 8) (h2 : ¬ (4096 < Jnl.number s.data.toList ∨ s.size - 8 < Jnl.number s.data.toList)) :
    Jnl.cut s.data.toList = ((s.extract 8 (8 + Jnl.number s.data.toList)).data.toList, (s.extract (8 + Jnl.number s.data.toList) s.size).data.toList, decide (Jnl.number (s.extract 4 s.size).data.toList = Jnl.check (s.extract 8 (8 + Jnl.number s.data.toList)).data.toList)) := by
  unfold Jnl.cut
  rw [if_neg (show ¬ s.data.toList.length < 8 from h), if_neg (show ¬ (4096 < _ ∨ s.data.toList.length - 8 < _) from h2), ba_ext, ba_ext, ba_ext]
  have e1 : 8 + Jnl.number s.data.toList - 8 = Jnl.number s.data.toList := by omega
  have hl : s.data.toList.length = s.size := rfl
  have e2 : (s.data.toList.drop (8 + Jnl.number s.data.toList)).take (s.size - (8 + Jnl.number s.data.toList)) = s.data.toList.drop (8 + Jnl.number s.data.toList) := List.take_of_length_le (by rw [List.length_drop, hl]; exact Nat.le_refl _)
  have e3 : (s.data.toList.drop 4).take (s.size - 4) = s.data.toList.drop 4 := List.take_of_length_le (by rw [List.length_drop, hl]; exact Nat.le_refl _)
  rw [e1, e2, e3]
theorem jcut_short {s : ByteArray} (h8 : s.size < 8) (w : World) : Calls Tryz.prog 43 #[.string s] w fun e w' => e = .returned (.tuple #[.string ⟨#[]⟩, .string s, .bool false]) ∧ Below w.heap.size w w' := by
  have h8' : ((s.size : Int) < 8) = True := by simp; omega
  go_enter Tryz.func43, Tryz.ntmps43
  go_wp2_with fail
  go_ret3
  exact ⟨rfl, Below.refl _ _⟩
theorem jcut_long {s : ByteArray} {n : Nat} (hnn : ∀ w, Calls Tryz.prog 84 #[.string s] w fun e w' => e = .returned (.int .i64 n) ∧ ∃ k, w' = w.drewN k) (h8 : ¬ s.size < 8) (hn : 4096 < n) (w : World) : Calls Tryz.prog 43 #[.string s] w fun e w' => e = .returned (.tuple #[.string ⟨#[]⟩, .string s, .bool false]) ∧ Below w.heap.size w w' := by
  have h8' : ((s.size : Int) < 8) = False := by simp; omega
  have hn' : ((4096 : Int) < (n : Int)) = True := by simp; omega
  go_enter Tryz.func43, Tryz.ntmps43
  go_wp2_with fail
  refine (hnn w).mono ?_
  rintro e w1 ⟨rfl, nq, rfl⟩
  go_wp2_with fail
  go_ret3
  exact ⟨rfl, below_drawn w nq⟩
theorem jcut_over {s : ByteArray} {n : Nat} (hnn : ∀ w, Calls Tryz.prog 84 #[.string s] w fun e w' => e = .returned (.int .i64 n) ∧ ∃ k, w' = w.drewN k) (h8 : ¬ s.size < 8) (hn : ¬ 4096 < n) (h : s.size - 8 < n) (w : World) : Calls Tryz.prog 43 #[.string s] w fun e w' => e = .returned (.tuple #[.string ⟨#[]⟩, .string s, .bool false]) ∧ Below w.heap.size w w' := by
  have h8' : ((s.size : Int) < 8) = False := by simp; omega
  have hn' : ((4096 : Int) < (n : Int)) = False := by simp; omega
  have hw : wrap64 ((s.size : Int) - 8) = (s.size : Int) - 8 := IntWalk.wrap64_in _ (by omega)
  have hn2 : ((s.size : Int) - 8 < (n : Int)) = True := by simp; omega
  go_enter Tryz.func43, Tryz.ntmps43
  go_wp2_with fail
  refine (hnn w).mono ?_
  rintro e w1 ⟨rfl, nq, rfl⟩
  go_wp2_with fail
  go_ret3
  exact ⟨rfl, below_drawn w nq⟩
theorem jcut_fits {s x : ByteArray} {n m c : Nat} (hx : s.extract 8 (8 + n) = x) (hs : s.size ≤ 1099511627776) (hnn : ∀ w, Calls Tryz.prog 84 #[.string s] w fun e w' => e = .returned (.int .i64 n) ∧ ∃ k, w' = w.drewN k) (hn4 : ∀ w, Calls Tryz.prog 84 #[.string (s.extract 4 s.size)] w fun e w' => e = .returned (.int .i64 m) ∧ ∃ k, w' = w.drewN k)
    (hck : ∀ w, Calls Tryz.prog 18 #[.string x] w fun e w' => e = .returned (.int .i64 c) ∧ w' = w) (h8 : ¬ s.size < 8) (hn : ¬ 4096 < n) (h : ¬ s.size - 8 < n) (w : World) :
    Calls Tryz.prog 43 #[.string s] w fun e w' => e = .returned (.tuple #[.string x, .string (s.extract (8 + n) s.size), .bool (decide (m = c))]) ∧ Below w.heap.size w w' := by
  have h8' : ((s.size : Int) < 8) = False := by simp; omega
  have hn' : ((4096 : Int) < (n : Int)) = False := by simp; omega
  have hw : wrap64 ((s.size : Int) - 8) = (s.size : Int) - 8 := IntWalk.wrap64_in _ (by omega)
  have hn2 : ((s.size : Int) - 8 < (n : Int)) = False := by simp; omega
  have hw2 : wrap64 (8 + (n : Int)) = 8 + (n : Int) := IntWalk.wrap64_in _ (by omega)
  go_enter Tryz.func43, Tryz.ntmps43
  go_wp2_with fail
  refine (hnn w).mono ?_
  rintro e w1 ⟨rfl, nq1, rfl⟩
  go_upto_region 6 with fail
  go_quiet (fail)
  rw [hx]
  go_wp2_with fail
  refine (hn4 _).mono ?_
  rintro e w1 ⟨rfl, nq2, rfl⟩
  go_wp2_with fail
  refine (hck _).mono ?_
  rintro e w1 ⟨rfl, rfl⟩
  have e : ((m : Int) == (c : Int)) = decide (m = c) := by
    by_cases hmc : m = c
    · subst hmc; simp
    · have : ¬ (m : Int) = c := by omega
      simp [hmc, this]
  go_wp2_with fail
  go_ret3
  exact ⟨rfl, below_drawn w _⟩
theorem jcut_any (s : ByteArray) (hs : s.size ≤ 1099511627776) (w : World) : ∃ x y : ByteArray, ∃ ok : Bool, Jnl.cut s.data.toList = (x.data.toList, y.data.toList, ok) ∧
    Calls Tryz.prog 43 #[.string s] w fun e w' => e = .returned (.tuple #[.string x, .string y, .bool ok]) ∧ Below w.heap.size w w' := by
  by_cases h8 : s.size < 8
  · exact ⟨⟨#[]⟩, s, false, cut_short h8, jcut_short h8 w⟩
  · have hnn := number_any s hs (by omega)
    by_cases hn : 4096 < Jnl.number s.data.toList
    · exact ⟨⟨#[]⟩, s, false, cut_big h8 (.inl hn), jcut_long hnn h8 hn w⟩
    · by_cases hn2 : s.size - 8 < Jnl.number s.data.toList
      · exact ⟨⟨#[]⟩, s, false, cut_big h8 (.inr hn2), jcut_over hnn h8 hn hn2 w⟩
      · have e4 : (s.extract 4 s.size).size = s.size - 4 := by rw [ByteArray.size_extract]; omega
        have e8 : (s.extract 8 (8 + Jnl.number s.data.toList)).size = Jnl.number s.data.toList := by rw [ByteArray.size_extract]; omega
        exact ⟨_, _, _, cut_fits h8 (fun h => h.elim hn hn2), jcut_fits rfl hs hnn (number_any _ (by omega) (by omega)) (Check_any _ (by omega)) h8 hn hn2 w⟩
end Go.Proofs.YtlhnjdoicolkkaaGreatDoor
