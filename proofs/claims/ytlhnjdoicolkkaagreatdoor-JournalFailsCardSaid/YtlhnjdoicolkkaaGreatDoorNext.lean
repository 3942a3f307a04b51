/- The document's model: the record at the beginning of some bytes. -/
import Derived.Test.YtlhnjdoicolkkaaGreatDoorCk
import Derived.Deep.RegionHeld3
import Derived.Test.YtlhnjdoicolkkaaGreatDoorShelfJ
set_option maxRecDepth 100000
namespace Go.Proofs.YtlhnjdoicolkkaaGreatDoor
open Go.RowKit Go.Dsk Go.Maps Go.WideMaps
set_option maxHeartbeats 1000000

theorem ofInt_i64 (a : Nat) (ha : a < 18446744073709551616) : (BitVec.ofInt 64 (a : Int)).toNat = a := by
  rw [BitVec.ofInt_natCast, BitVec.toNat_ofNat]; exact Nat.mod_eq_of_lt (by omega)
theorem i64_or_nat (a b : Nat) (ha : a < 4294967296) (hb : b < 4294967296) : bits .or .i64 (a : Int) (b : Int) = ((a ||| b : Nat) : Int) := by
  have hx : a ||| b < 2 ^ 32 := Nat.or_lt_two_pow (by omega) (by omega)
  show IntKind.i64.wrap ((BitVec.ofInt 64 (a : Int) ||| BitVec.ofInt 64 (b : Int)).toNat : Int) = _
  rw [BitVec.toNat_or, ofInt_i64 a (by omega), ofInt_i64 b (by omega)]
  generalize a ||| b = c at *
  exact IntWalk.i64_in _ (by omega)
theorem or_add {a b c : Nat} (k : Nat) (hb : b < 2 ^ k) (h : c = 2 ^ k * a) : c ||| b = c + b := by
  subst h
  exact (Nat.two_pow_add_eq_or_of_lt hb a).symm
theorem or_value (a b c d : Nat) (ha : a < 256) (hb : b < 256) (hc : c < 256) (hd : d < 256) :
    bits .or .i64 (bits .or .i64 (bits .or .i64 (wrap64 (wrap64 (a : Int) * 16777216)) (wrap64 (wrap64 (b : Int) * 65536))) (wrap64 (wrap64 (c : Int) * 256))) (wrap64 (d : Int)) = ((a * 16777216 + b * 65536 + c * 256 + d : Nat) : Int) := by
  have e1 : wrap64 (a : Int) = a := IntWalk.wrap64_in _ (by omega)
  have e2 : wrap64 (b : Int) = b := IntWalk.wrap64_in _ (by omega)
  have e3 : wrap64 (c : Int) = c := IntWalk.wrap64_in _ (by omega)
  have e4 : wrap64 (d : Int) = d := IntWalk.wrap64_in _ (by omega)
  have f1 : wrap64 ((a : Int) * 16777216) = ((a * 16777216 : Nat) : Int) := (IntWalk.wrap64_in _ (by omega)).trans (by omega)
  have f2 : wrap64 ((b : Int) * 65536) = ((b * 65536 : Nat) : Int) := (IntWalk.wrap64_in _ (by omega)).trans (by omega)
  have f3 : wrap64 ((c : Int) * 256) = ((c * 256 : Nat) : Int) := (IntWalk.wrap64_in _ (by omega)).trans (by omega)
  rw [e1, e2, e3, e4, f1, f2, f3]
  rw [i64_or_nat _ _ (by omega) (by omega), or_add (a := a) (c := a * 16777216) (b := b * 65536) 24 (by omega) (by omega)]
  rw [i64_or_nat _ _ (by omega) (by omega), or_add (a := a * 256 + b) (c := a * 16777216 + b * 65536) (b := c * 256) 16 (by omega) (by omega)]
  rw [i64_or_nat _ _ (by omega) (by omega), or_add (a := a * 65536 + b * 256 + c) (c := a * 16777216 + b * 65536 + c * 256) (b := d) 8 (by omega) (by omega)]
theorem lnext_short {s : ByteArray} (h8 : s.size < 8) (w : World) : Calls Tryz.prog 81 #[.string s] w fun e w' => e = .returned (.tuple #[.string ⟨#[]⟩, .int .i64 0, .bool false]) ∧ Below w.heap.size w w' := by
  have h8' : ((s.size : Int) < 8) = True := by simp; omega
  go_enter Tryz.func81, Tryz.ntmps81
  go_wp2_with fail
  go_ret3
  exact ⟨rfl, Below.refl _ _⟩
theorem lnext_long {s : ByteArray} {n : Nat} (hn0 : Jnl.number s.data.toList = n) (h8 : ¬ s.size < 8) (hn : 4096 < n) (w : World) : Calls Tryz.prog 81 #[.string s] w fun e w' => e = .returned (.tuple #[.string ⟨#[]⟩, .int .i64 0, .bool false]) ∧ Below w.heap.size w w' := by
  have h8' : ((s.size : Int) < 8) = False := by simp; omega
  have hn' : ((4096 : Int) < (n : Int)) = True := by simp; omega
  have h0 : 0 < s.size := by omega
  have h1 : (1 : Int) < (s.size : Int) := by omega
  have h2 : (2 : Int) < (s.size : Int) := by omega
  have h3 : (3 : Int) < (s.size : Int) := by omega
  have e := or_value s[0].toNat s[1].toNat s[2].toNat s[3].toNat s[0].toNat_lt s[1].toNat_lt s[2].toNat_lt s[3].toNat_lt
  rw [← number_bytes s h0 (by omega) (by omega) (by omega), hn0] at e
  go_enter Tryz.func81, Tryz.ntmps81
  go_upto_region 3 with fail
  go_quiet (fail)
  go_wp2_with fail
  go_ret3
  exact ⟨rfl, below_drawn w nq⟩
theorem lnext_over {s : ByteArray} {n : Nat} (hn0 : Jnl.number s.data.toList = n) (h8 : ¬ s.size < 8) (hn : ¬ 4096 < n) (hs : s.size ≤ 1099511627776) (h : s.size < 8 + n) (w : World) : Calls Tryz.prog 81 #[.string s] w fun e w' => e = .returned (.tuple #[.string ⟨#[]⟩, .int .i64 0, .bool false]) ∧ Below w.heap.size w w' := by
  have h8' : ((s.size : Int) < 8) = False := by simp; omega
  have hn' : ((4096 : Int) < (n : Int)) = False := by simp; omega
  have hw2 : wrap64 (8 + (n : Int)) = 8 + (n : Int) := IntWalk.wrap64_in _ (by omega)
  have hn2 : ((s.size : Int) < 8 + (n : Int)) = True := by simp; omega
  have h0 : 0 < s.size := by omega
  have h1 : (1 : Int) < (s.size : Int) := by omega
  have h2 : (2 : Int) < (s.size : Int) := by omega
  have h3 : (3 : Int) < (s.size : Int) := by omega
  have e := or_value s[0].toNat s[1].toNat s[2].toNat s[3].toNat s[0].toNat_lt s[1].toNat_lt s[2].toNat_lt s[3].toNat_lt
  rw [← number_bytes s h0 (by omega) (by omega) (by omega), hn0] at e
  go_enter Tryz.func81, Tryz.ntmps81
  go_upto_region 3 with fail
  go_quiet (fail)
  go_wp2_with fail
  go_ret3
  exact ⟨rfl, below_drawn w nq⟩
theorem lnext_fits {s x z : ByteArray} {n : Nat} (hx : s.extract 8 (8 + n) = x) (hz : ∀ w : World, Calls Tryz.prog 20 #[.string x] w fun e w' => e = .returned (.string z) ∧ Below w.heap.size w w') (hn0 : Jnl.number s.data.toList = n) (h8 : ¬ s.size < 8) (hn : ¬ 4096 < n) (hs : s.size ≤ 1099511627776) (h : ¬ s.size < 8 + n) (w : World) :
    Calls Tryz.prog 81 #[.string s] w fun e w' => e = .returned (.tuple #[.string x, .int .i64 (8 + n), .bool ((s.extract 0 (8 + n)).toList == z.toList)]) ∧ Below w.heap.size w w' := by
  have h8' : ((s.size : Int) < 8) = False := by simp; omega
  have hn' : ((4096 : Int) < (n : Int)) = False := by simp; omega
  have hw2 : wrap64 (8 + (n : Int)) = 8 + (n : Int) := IntWalk.wrap64_in _ (by omega)
  have hn2 : ((s.size : Int) < 8 + (n : Int)) = False := by simp; omega
  have h0 : 0 < s.size := by omega
  have h1 : (1 : Int) < (s.size : Int) := by omega
  have h2 : (2 : Int) < (s.size : Int) := by omega
  have h3 : (3 : Int) < (s.size : Int) := by omega
  have e := or_value s[0].toNat s[1].toNat s[2].toNat s[3].toNat s[0].toNat_lt s[1].toNat_lt s[2].toNat_lt s[3].toNat_lt
  rw [← number_bytes s h0 (by omega) (by omega) (by omega), hn0] at e
  have hq1 : 8 + (n : Int) ≤ (s.size : Int) := by omega
  have hq3 : (0 : Int) ≤ 8 + (n : Int) := by omega
  have hw3 : IntKind.i64.wrap (8 + (n : Int)) = 8 + (n : Int) := IntWalk.i64_in _ (by omega)
  go_enter Tryz.func81, Tryz.ntmps81
  go_upto_region 3 with fail
  go_quiet (fail)
  go_upto_region 7 with fail
  rw [hx]
  generalize hwq : w.drewN nq = wq
  go_region_with (go_at_call 20; refine (hz _).mono ?_; rintro e w1 ⟨rfl, hb1⟩; have HB1 := Lib.hid hb1; clear hb1)
  all_goals
    go_wp2_with fail
    go_ret3
    subst hwq
    exact ⟨rfl, ((below_drawn w nq).drew).trans HB1.out⟩
theorem next_ok {s : ByteArray} {n : Nat} (hn0 : Jnl.number s.data.toList = n) (h8 : ¬ s.size < 8) (hn2 : ¬ s.size < 8 + n) : ((s.extract 0 (8 + n)).toList == (⟨(Jnl.frame (s.extract 8 (8 + n)).data.toList).toArray⟩ : ByteArray).toList) = decide (Jnl.number (s.extract 4 s.size).data.toList = Jnl.check (s.extract 8 (8 + n)).data.toList) := by
  have hl : s.data.toList.length = s.size := rfl
  have ht := Jnl.take_cut (d := s.data.toList) (by rw [hl]; omega) (by rw [hl, hn0]; omega)
  rw [hn0] at ht
  have e0 : 8 + n - 8 = n := by omega
  have e1 : (s.extract 8 (8 + n)).data.toList = (s.data.toList.drop 8).take n := by rw [ba_ext, e0]
  have e2 : (s.extract 4 s.size).data.toList = s.data.toList.drop 4 := by
    rw [ba_ext]
    exact List.take_of_length_le (by rw [List.length_drop]; exact Nat.le_refl _)
  have e3 : (s.extract 0 (8 + n)).data.toList = s.data.toList.take (8 + n) := by rw [ba_ext, List.drop_zero, Nat.sub_zero]
  rw [ByteArray.toList_eq, ByteArray.toList_eq, e1, e2, e3]
  by_cases h : s.data.toList.take (8 + n) = Jnl.frame ((s.data.toList.drop 8).take n)
  · have h2 := ht.1 h
    simp [h, h2]
  · have h2 : ¬ Jnl.number (s.data.toList.drop 4) = Jnl.check ((s.data.toList.drop 8).take n) := fun e => h (ht.2 e)
    simp [h, h2]
theorem lnext_fit {s : ByteArray} {n : Nat} (hn0 : Jnl.number s.data.toList = n) (h8 : ¬ s.size < 8) (hn : ¬ 4096 < n) (hs : s.size ≤ 1099511627776) (hn2 : ¬ s.size < 8 + n) (w : World) :
    Calls Tryz.prog 81 #[.string s] w fun e w' => e = .returned (.tuple #[.string (s.extract 8 (8 + n)), .int .i64 (8 + n), .bool (decide (Jnl.number (s.extract 4 s.size).data.toList = Jnl.check (s.extract 8 (8 + n)).data.toList))]) ∧ Below w.heap.size w w' := by
  have e8 : (s.extract 8 (8 + n)).size = n := by rw [ByteArray.size_extract]; omega
  have h := lnext_fits rfl (lframe_any (s.extract 8 (8 + n)) (by omega)) hn0 h8 hn hs hn2 w
  rw [next_ok hn0 h8 hn2] at h
  exact h
/-- What the model's next returns of some bytes. -/
theorem lnext_any (s : ByteArray) (hs : s.size ≤ 1099511627776) (w : World) : ∃ (x : ByteArray) (k : Nat) (ok : Bool), ok = (Jnl.cut s.data.toList).2.2 ∧ k ≤ s.size ∧ (ok = true → x.data.toList = (Jnl.cut s.data.toList).1 ∧ (s.extract k s.size).data.toList = (Jnl.cut s.data.toList).2.1 ∧ 8 ≤ k) ∧
    Calls Tryz.prog 81 #[.string s] w fun e w' => e = .returned (.tuple #[.string x, .int .i64 k, .bool ok]) ∧ Below w.heap.size w w' := by
  by_cases h8 : s.size < 8
  · exact ⟨⟨#[]⟩, 0, false, by rw [cut_short h8], Nat.zero_le _, by simp, lnext_short h8 w⟩
  · obtain ⟨n, hn0⟩ : ∃ n, Jnl.number s.data.toList = n := ⟨_, rfl⟩
    by_cases hn : 4096 < n
    · exact ⟨⟨#[]⟩, 0, false, by rw [cut_big h8 (.inl (by rw [hn0]; exact hn))], Nat.zero_le _, by simp, lnext_long hn0 h8 hn w⟩
    · by_cases hn2 : s.size < 8 + n
      · exact ⟨⟨#[]⟩, 0, false, by rw [cut_big h8 (.inr (by rw [hn0]; omega))], Nat.zero_le _, by simp, lnext_over hn0 h8 hn hs hn2 w⟩
      · have hc := cut_fits h8 (by rw [hn0]; omega)
        rw [hn0] at hc
        refine ⟨_, 8 + n, _, ?_, by omega, fun _ => ?_, lnext_fit hn0 h8 hn hs hn2 w⟩
        · rw [hc]
        · rw [hc]
          exact ⟨rfl, rfl, by omega⟩
end Go.Proofs.YtlhnjdoicolkkaaGreatDoor

/- Numbers as text, and the package's variables that they need. -/
set_option maxRecDepth 100000
namespace Go.Proofs.YtlhnjdoicolkkaaGreatDoor
open Go.RowKit Go.Dsk Go.Maps Go.WideMaps
set_option maxHeartbeats 1000000

/-- The package's variables that a walk reads. -/
structure Glob (w : World) : Prop where
  tab : Lib.TabIs Tryz.prog w "internal/strconv.uint64pow10" .u64 Lib.pow10Tab
  e0 : ∃ ev, w.cell? ⟨0, 0, none⟩ = some ev ∧ (ev = .nilIface ∨ ∃ te pe, ev = .iface te pe)
  e1 : ∃ ev, w.cell? ⟨1, 0, none⟩ = some ev ∧ (ev = .nilIface ∨ ∃ te pe, ev = .iface te pe)
theorem Glob.below {w w' : World} (h : Glob w) (hb : Below w.heap.size w w') : Glob w' := by
  have ht := h.tab
  have key : ∀ {i : Nat} {v : Value}, w.cell? ⟨i, 0, none⟩ = some v → w'.cell? ⟨i, 0, none⟩ = some v := fun {i v} hc => by
    have hi : i < w.heap.size := by
      rcases Nat.lt_or_ge i w.heap.size with h | h
      · exact h
      · simp [World.cell?, Array.getElem?_eq_none h] at hc
    exact (hb.cell (p := ⟨i, 0, none⟩) hi).trans hc
  refine ⟨?_, ?_, ?_⟩
  · unfold Lib.TabIs World.var? at *
    cases hg : Tryz.prog.globalNamed "internal/strconv.uint64pow10" with
    | none => rw [hg] at ht; cases ht
    | some g =>
      rw [hg] at ht
      simp only [Option.bind_some] at ht ⊢
      have hi : g < w.heap.size := by
        rcases Nat.lt_or_ge g w.heap.size with h | h
        · exact h
        · rw [Array.getElem?_eq_none h] at ht; cases ht
      rw [hb.block g hi]
      exact ht
  · obtain ⟨ev, h1, h2⟩ := h.e0
    exact ⟨ev, key h1, h2⟩
  · obtain ⟨ev, h1, h2⟩ := h.e1
    exact ⟨ev, key h1, h2⟩
theorem Glob.has {w0 w : World} {P : SP} (h : Glob w0) (hb : Has w0 w P) : Glob w := h.below hb.below
theorem below_bytes (w : World) (e : TypeId) (s : ByteArray) : Below w.heap.size w (Lib.bytesWorld w e s) :=
  ⟨rfl, rfl, rfl, by rw [Lib.bytesWorld_size]; omega, fun j hj => Lib.bytesWorld_at_old w e s j hj⟩
theorem below_grow (w : World) (n : Nat) (os : Array Obj) : Below w.heap.size w (Sort.grow (w.drewN n) os) :=
  ⟨rfl, rfl, rfl, by simp [Sort.grow], fun j hj => by simp only [Sort.grow]; exact Array.getElem?_append_left hj⟩
theorem Itoa_any {n : Int} (h0 : -9223372036854775808 ≤ n) (h1 : n ≤ 9223372036854775807) {w : World} (hg : Glob w) :
    Calls Tryz.prog 42 #[.int .i64 n] w fun e w' => e = .returned (.string ⟨(Lib.itoa n).toArray⟩) ∧ Below w.heap.size w w' :=
  (Tryz.strconv_Itoa n h0 h1 w hg.tab).mono fun _ _ ⟨a, k, os, b⟩ => ⟨a, b ▸ below_grow w k os⟩
theorem Atoi_ok (s : ByteArray) (hs : s.size ≤ 1099511627776) {v : Int} (h : Lib.atoiAll s.data.toList = .ok v) (w : World) :
    Calls Tryz.prog 44 #[.string s] w fun e w' => e = .returned (.tuple #[.int .i64 v, .nilIface]) ∧ Below w.heap.size w w' :=
  (Tryz.strconv_Atoi_ok s (by omega) v h w).mono fun _ _ ⟨a, b⟩ => ⟨a, by
    rcases b with rfl | ⟨t, rfl⟩
    · exact Below.refl _ _
    · exact below_bytes w _ t⟩
theorem Atoi_bad (s : ByteArray) (hs : s.size ≤ 1099511627776) (h : ∀ v, Lib.atoiAll s.data.toList ≠ .ok v) {w : World} (hg : Glob w) :
    Calls Tryz.prog 44 #[.string s] w fun e w' => ∃ n t p, e = .returned (.tuple #[.int .i64 n, .iface t p]) ∧ Below w.heap.size w w' := by
  obtain ⟨ev0, c0, k0⟩ := hg.e0
  obtain ⟨ev1, c1, k1⟩ := hg.e1
  cases hh : Lib.atoiAll s.data.toList
  · exact absurd hh (h _)
  · exact (Any.strconv_Atoi_syntax Tryz.laysC172 s (by omega) hh ev0 w c0 k0).mono fun _ _ ⟨N, a, _, _, b⟩ => ⟨_, _, _, a, b⟩
  · exact (Any.strconv_Atoi_range Tryz.laysC172 s (by omega) hh ev1 w c1 k1).mono fun _ _ ⟨N, a, _, _, b⟩ => ⟨_, _, _, a, b⟩
theorem Glob.start {w : World} {B : Nat} (h : Glob w) (w' : World) (hb : Below B w w') (hB : w.heap.size ≤ B) : Glob w' := h.below ⟨hb.os, hb.tape, hb.output, hb.size, fun i hi => hb.block i (by omega)⟩
/-- What the document's model makes of a head. -/
theorem headOf_ok {s : Bs} {v : Int} (h : Lib.atoiAll s = .ok v) : Jnl.headOf s = if 1 ≤ v ∧ v ≤ 1099511627776 ∧ Lib.itoa v = s then v.toNat else 0 := by unfold Jnl.headOf; rw [h]
theorem headOf_bad {s : Bs} (h : ∀ v, Lib.atoiAll s ≠ .ok v) : Jnl.headOf s = 0 := by
  unfold Jnl.headOf
  cases hh : Lib.atoiAll s with
  | ok v => exact absurd hh (h v)
  | _ => rfl
theorem lhead_any (s : ByteArray) (hs : s.size ≤ 1099511627776) {w : World} (hg : Glob w) :
    Calls Tryz.prog 82 #[.string s] w fun e w' => e = .returned (.int .i64 (Jnl.headOf s.data.toList)) ∧ Below w.heap.size w w' := by
  have HG := Lib.hid hg
  by_cases hok : ∃ v, Lib.atoiAll s.data.toList = .ok v
  · obtain ⟨v, hv⟩ := hok
    rw [headOf_ok hv]
    have hvb := Lib.atoiAll_bounds hv
    by_cases h1 : v < 1
    · have h1' : (v < 1) = True := by simp; omega
      rw [if_neg (fun h => by omega)]
      go_enter Tryz.func82, Tryz.ntmps82
      go_wp2_with fail
      refine (Atoi_ok s hs hv w).mono ?_
      rintro e w1 ⟨rfl, hb1⟩
      go_wp2_with fail
      go_ret
      exact ⟨rfl, hb1⟩
    · have h1' : (v < 1) = False := by simp; omega
      by_cases h2 : 1099511627776 < v
      · have h2' : (1099511627776 < v) = True := by simp; omega
        rw [if_neg (fun h => by omega)]
        go_enter Tryz.func82, Tryz.ntmps82
        go_wp2_with fail
        refine (Atoi_ok s hs hv w).mono ?_
        rintro e w1 ⟨rfl, hb1⟩
        go_wp2_with fail
        go_ret
        exact ⟨rfl, hb1⟩
      · have h2' : (1099511627776 < v) = False := by simp; omega
        by_cases h3 : Lib.itoa v = s.data.toList
        · have h3' : (!(Lib.itoa v == s.toList)) = false := by rw [ByteArray.toList_eq]; simp [h3]
          rw [if_pos ⟨by omega, by omega, h3⟩]
          have hvn : ((v.toNat : Nat) : Int) = v := by omega
          go_enter Tryz.func82, Tryz.ntmps82
          go_wp2_with fail
          refine (Atoi_ok s hs hv w).mono ?_
          rintro e w1 ⟨rfl, hb1⟩
          have HB1 := Lib.hid hb1
          clear hb1
          go_wp2_with fail
          refine (Itoa_any hvb.1 hvb.2 (HG.out.below HB1.out)).mono ?_
          rintro e w2 ⟨rfl, hb2⟩
          go_wp2_with fail
          go_ret
          rw [hvn]
          exact ⟨rfl, HB1.out.trans (hb2.mono HB1.out.size)⟩
        · have h3' : (!(Lib.itoa v == s.toList)) = true := by rw [ByteArray.toList_eq]; simp [h3]
          rw [if_neg (fun h => h3 h.2.2)]
          go_enter Tryz.func82, Tryz.ntmps82
          go_wp2_with fail
          refine (Atoi_ok s hs hv w).mono ?_
          rintro e w1 ⟨rfl, hb1⟩
          have HB1 := Lib.hid hb1
          clear hb1
          go_wp2_with fail
          refine (Itoa_any hvb.1 hvb.2 (HG.out.below HB1.out)).mono ?_
          rintro e w2 ⟨rfl, hb2⟩
          go_wp2_with fail
          go_ret
          exact ⟨rfl, HB1.out.trans (hb2.mono HB1.out.size)⟩
  · have hbad : ∀ v, Lib.atoiAll s.data.toList ≠ .ok v := fun v h => hok ⟨v, h⟩
    rw [headOf_bad hbad]
    go_enter Tryz.func82, Tryz.ntmps82
    go_wp2_with fail
    refine (Atoi_bad s hs hbad HG.out).mono ?_
    rintro e w1 ⟨n, t, p, rfl, hb1⟩
    go_wp2_with fail
    go_ret
    exact ⟨rfl, hb1⟩
end Go.Proofs.YtlhnjdoicolkkaaGreatDoor
