/- Rationals: Read, Reads. -/
import Derived.Test.YtgofihilkobenaaGreatDoorKG
import Derived.Test.YtgofihilkobenaaGreatDoorKD
import Derived.Maps.OwnSet
import Derived.WalkArith
import Derived.Deep.WholeRow
set_option maxRecDepth 100000
namespace Go.Proofs.YtgofihilkobenaaGreatDoor
open Go.RowKit Go.Num Go.Flow
set_option maxHeartbeats 4000000

theorem Read_any (s : ByteArray) (hs : s.size ≤ 4294967280) {w : World} (hg : Glob w) : Calls Tryz.prog 68 #[.string s] w (ReadPost w s.data.toList 65536) := by
 obtain ⟨wa, hwa⟩ : ∃ wa, wa = w.alloc (.cells #[.bool false, .slice none 0 0, .bool false, .slice none 0 0] 65) := ⟨_, rfl⟩
 obtain ⟨bc, hbc⟩ : ∃ b, b = w.heap.size := ⟨_, rfl⟩
 have hal : Below w.heap.size w wa := by rw [hwa]; exact (ZR _ w).alloc (Nat.le_refl _) _
 have hblk : wa.heap[bc]? = some (.cells #[.bool false, .slice none 0 0, .bool false, .slice none 0 0] 65 (0, 0)) := by rw [hwa, hbc]; exact ZW w _
 have HGbc := ZH (show w.heap.size ≤ bc by omega)
 have HR := ZH (read_any s hs 65536 (Nat.le_refl _) (hg.below hal))
 have HW := ZH (ZN hwa hbc)
 have HAL := ZH (ZN hal hblk)
 clear hal hblk hwa hbc hg
 go_enter Tryz.func68, Tryz.ntmps68
 go_upto_region 1 with fail
 rw [← HW.out.1, ← HW.out.2]
 clear HW
 go_wp2_with fail
 refine HR.out.mono ?_
 rintro e w1 ⟨v, rfl, hok, hno, hb1⟩
 have hB1 := HAL.out.1.trans (hb1.mono HAL.out.1.size)
 have hk1 := (hb1.block bc (ZL HAL.out.2)).trans HAL.out.2
 obtain ⟨E, hE⟩ : ∃ E, E = readErr s.data.toList 65536 := ⟨_, rfl⟩
 rw [← hE] at hok hno ⊢
 have hv : ∃ s1 a1 c1 l1 s2 a2 c2 l2, v = .agg #[.bool s1, .slice a1 c1 l1, .bool s2, .slice a2 c2 l2] := by
  by_cases h : E = 0
  ·exact rt_shape (hok h)
  ·exact ⟨_, _, _, _, _, _, _, _, hno h⟩
 obtain ⟨s1, a1, c1, l1, s2, a2, c2, l2, rfl⟩ := hv
 have z0 := ZI hk1 0
 have z1 := ZI hk1 1
 have z2 := ZI hk1 2
 have z3 := ZI hk1 3
 have f0 := ZF hk1 0
 have f1 := ZF hk1 1
 have f2 := ZF hk1 2
 have f3 := ZF hk1 3
 simp at z0 z1 z2 z3
 have hbf := (((hB1.setCell (p := ⟨bc, 0, none⟩) HGbc.out (.bool s1)).setCell (p := ⟨bc, 1, none⟩) HGbc.out (.slice a1 c1 l1)).setCell (p := ⟨bc, 2, none⟩) HGbc.out (.bool s2)).setCell (p := ⟨bc, 3, none⟩) HGbc.out (.slice a2 c2 l2)
 have HF := ZH (ZN hE (ZN hno hbf))
 have HI := ZH (show E = 0 → _ from fun h => (hok h).store4 hk1 (.bool s1) (.slice a1 c1 l1) (.bool s2) (.slice a2 c2 l2))
 clear hok hno hbf hE hk1 hB1 hb1
 go_wp2_with fail
 exact bodyPost_ret (v := .tuple #[.agg #[.bool s1, .slice a1 c1 l1, .bool s2, .slice a2 c2 l2], .int .i64 E]) (by simp [results, Tryz.results68, go_sem, z0, z1, z2, z3]) rfl ⟨_, by rw [HF.out.1], fun h => HI.out (HF.out.1.trans h), fun h => HF.out.2.1 (by rw [HF.out.1]; exact h), HF.out.2.2⟩
/-- No digit. -/
def NoDig (u : Value) : Prop := ∀ x, u ≠ .int .u32 x
/-- What is stored into a block without digits leaves all digits as they are. -/
theorem MagIn.keep {w : World} {g : Nat} {t : TypeId} {cs : Array Value} {v : Value} {l : List Nat} (h : MagIn w v l) (hb : w.heap[g]? = some (.cells cs t (0, 0))) (hn : ∀ (i : Nat) (u : Value), cs[i]? = some u → NoDig u) (i : Nat) (u : Value) : MagIn (w.setCell ⟨g, i, none⟩ u) v l := by
 obtain ⟨ao, c, e, h1, h2, h3, h4⟩ := h
 refine ⟨ao, c, e, h1, h2, h3, fun h0 => ?_⟩
 obtain ⟨b, off, e2, hlt, hc⟩ := h4 h0
 have hne : b ≠ g := by
  rintro rfl
  have h5 := hc 0 h0
  rw [ZI hb] at h5
  exact hn _ _ h5 _ rfl
 refine ⟨b, off, e2, by simpa [World.setCell] using hlt, fun j hj => ?_⟩
 rw [← hc j hj]
 exact World.cell?_of_block (a := ⟨b, off + j, none⟩) (Below.heap_setCell _ _ _ _ hne)
theorem RtIn.keep {w : World} {g : Nat} {t : TypeId} {cs : Array Value} {v : Value} {r : Rat} {k : Nat} (h : RtIn w v r k) (hb : w.heap[g]? = some (.cells cs t (0, 0))) (hn : ∀ (i : Nat) (u : Value), cs[i]? = some u → NoDig u) (i : Nat) (u : Value) : RtIn (w.setCell ⟨g, i, none⟩ u) v r k := by
 obtain ⟨q, ⟨n1, m1, n2, m2, e, ⟨a1, a2, a3, a4, a5, a6⟩, ⟨b1, b2, b3, b4, b5, b6⟩, h0⟩, h2⟩ := h
 exact ⟨q, ⟨n1, m1, n2, m2, e, ⟨a1, a2, a3, a4, a5.keep hb hn i u, a6⟩, ⟨b1, b2, b3, b4, b5.keep hb hn i u, b6⟩, h0⟩, h2⟩
theorem nodig_set {cs : Array Value} (hn : ∀ (i : Nat) (u : Value), cs[i]? = some u → NoDig u) (k : Nat) {v : Value} (hv : NoDig v) : ∀ (i : Nat) (u : Value), (cs.setIfInBounds k v)[i]? = some u → NoDig u := by
 intro i u h
 rw [Array.getElem?_setIfInBounds] at h
 split at h
 ·split at h
  ·obtain rfl := Option.some.inj h
   exact hv
  ·cases h
 ·exact hn i u h
/-- A row of the call's own with the rationals so far. -/
def RatRow (w : World) (g n : Nat) (rs : List Rat) (K : Nat) : Prop := ∃ cs : Array Value, w.heap[g]? = some (.cells cs 65 (0, 0)) ∧ cs.size = n * 4 ∧ (∀ (i : Nat) (u : Value), cs[i]? = some u → NoDig u) ∧ ∀ j, j < rs.length → ∃ c0 c1 c2 c3, cs[j * 4]? = some c0 ∧ cs[j * 4 + 1]? = some c1 ∧ cs[j * 4 + 2]? = some c2 ∧ cs[j * 4 + 3]? = some c3 ∧ RtIn w (.agg #[c0, c1, c2, c3]) (rs.getD j 0) K
theorem RatRow.below {w w' : World} {g n : Nat} {rs : List Rat} {K : Nat} (h : RatRow w g n rs K) (hb : Below w.heap.size w w') : RatRow w' g n rs K := by
 obtain ⟨cs, h1, h2, h3, h4⟩ := h
 refine ⟨cs, (hb.block g (ZL h1)).trans h1, h2, h3, fun j hj => ?_⟩
 obtain ⟨c0, c1, c2, c3, e0, e1, e2, e3, hr⟩ := h4 j hj
 exact ⟨c0, c1, c2, c3, e0, e1, e2, e3, hr.below hb⟩
theorem RatRow.push {w : World} {g n : Nat} {rs : List Rat} {K : Nat} {r : Rat} {s1 : Bool} {a1 : Option Addr} {c1 l1 : Nat} {s2 : Bool} {a2 : Option Addr} {c2 l2 : Nat} (h : RatRow w g n rs K) (hk : rs.length < n) (hr : RtIn w (.agg #[.bool s1, .slice a1 c1 l1, .bool s2, .slice a2 c2 l2]) r K) :
  RatRow ((((w.setCell ⟨g, rs.length * 4, none⟩ (.bool s1)).setCell ⟨g, rs.length * 4 + 1, none⟩ (.slice a1 c1 l1)).setCell ⟨g, rs.length * 4 + 2, none⟩ (.bool s2)).setCell ⟨g, rs.length * 4 + 3, none⟩ (.slice a2 c2 l2)) g n (rs ++ [r]) K := by
 obtain ⟨cs, h1, h2, h3, h4⟩ := h
 have k1 := heap_setCell_same w g (rs.length * 4) cs _ (.bool s1) h1
 have k2 := heap_setCell_same _ g (rs.length * 4 + 1) _ _ (.slice a1 c1 l1) k1
 have k3 := heap_setCell_same _ g (rs.length * 4 + 2) _ _ (.bool s2) k2
 have k4 := heap_setCell_same _ g (rs.length * 4 + 3) _ _ (.slice a2 c2 l2) k3
 have d1 := nodig_set h3 (rs.length * 4) (v := .bool s1) (fun _ h => by cases h)
 have d2 := nodig_set d1 (rs.length * 4 + 1) (v := .slice a1 c1 l1) (fun _ h => by cases h)
 have d3 := nodig_set d2 (rs.length * 4 + 2) (v := .bool s2) (fun _ h => by cases h)
 have d4 := nodig_set d3 (rs.length * 4 + 3) (v := .slice a2 c2 l2) (fun _ h => by cases h)
 have kp : ∀ {v : Value} {q : Rat}, RtIn w v q K → RtIn ((((w.setCell ⟨g, rs.length * 4, none⟩ (.bool s1)).setCell ⟨g, rs.length * 4 + 1, none⟩ (.slice a1 c1 l1)).setCell ⟨g, rs.length * 4 + 2, none⟩ (.bool s2)).setCell ⟨g, rs.length * 4 + 3, none⟩ (.slice a2 c2 l2)) v q K :=
  fun hq => (((hq.keep h1 h3 _ _).keep k1 d1 _ _).keep k2 d2 _ _).keep k3 d3 _ _
 refine ⟨_, k4, by simp only [Array.size_setIfInBounds]; exact h2, d4, fun j hj => ?_⟩
 rw [List.length_append, List.length_singleton] at hj
 simp only [Array.getElem?_setIfInBounds, Array.size_setIfInBounds, h2]
 by_cases hlt : j < rs.length
 ·obtain ⟨c0, c1', c2', c3, e0, e1, e2, e3, hq⟩ := h4 j hlt
  refine ⟨c0, c1', c2', c3, ?_, ?_, ?_, ?_, ?_⟩
  ·rw [if_neg (by omega), if_neg (by omega), if_neg (by omega), if_neg (by omega)]; exact e0
  ·rw [if_neg (by omega), if_neg (by omega), if_neg (by omega), if_neg (by omega)]; exact e1
  ·rw [if_neg (by omega), if_neg (by omega), if_neg (by omega), if_neg (by omega)]; exact e2
  ·rw [if_neg (by omega), if_neg (by omega), if_neg (by omega), if_neg (by omega)]; exact e3
  ·rw [show (rs ++ [r]).getD j 0 = rs.getD j 0 by rw [List.getD_eq_getElem?_getD, List.getD_eq_getElem?_getD, List.getElem?_append_left hlt]]
   exact kp hq
 ·obtain rfl : j = rs.length := by omega
  refine ⟨.bool s1, .slice a1 c1 l1, .bool s2, .slice a2 c2 l2, ?_, ?_, ?_, ?_, ?_⟩
  ·rw [if_neg (by omega), if_neg (by omega), if_neg (by omega), if_pos rfl, if_pos (by omega)]
  ·rw [if_neg (by omega), if_neg (by omega), if_pos rfl, if_pos (by omega)]
  ·rw [if_neg (by omega), if_pos rfl, if_pos (by omega)]
  ·rw [if_pos rfl, if_pos (by omega)]
  ·rw [show (rs ++ [r]).getD rs.length 0 = r by rw [List.getD_eq_getElem?_getD, List.getElem?_append_right (Nat.le_refl _)]; simp]
   exact kp hr
theorem ratrow_made (w : World) (n K : Nat) : RatRow (w.alloc (.cells (madeCells #[.bool false, .slice none 0 0, .bool false, .slice none 0 0] (n * 4)) 65)) w.heap.size n [] K := by
 refine ⟨_, ZW w _, by unfold madeCells; simp, fun i u h => ?_, fun j hj => absurd hj (by simp)⟩
 unfold madeCells at h
 rw [Array.getElem?_map] at h
 obtain ⟨a, ha, hu⟩ := Option.map_eq_some_iff.1 h
 have h4 : a % 4 = 0 ∨ a % 4 = 1 ∨ a % 4 = 2 ∨ a % 4 = 3 := by omega
 intro x hx
 rw [← hu] at hx
 simp only [List.size_toArray, List.length_cons, List.length_nil] at hx
 rcases h4 with h | h | h | h <;> (rw [show 0 + 1 + 1 + 1 + 1 = 4 from rfl, h] at hx; cases hx)
/-- The first error of a list of texts. -/
def readsErr : List ByteArray → Int
 | [] => 0
 | s :: r => if readErr s.data.toList 65536 = 0 then readsErr r else readErr s.data.toList 65536
def readsVal (l : List ByteArray) : List Rat := l.map fun s => readVal s.data.toList
theorem reads_err : ∀ (l : List ByteArray) (k : Nat), k < l.length → (∀ j, j < k → readErr (l.getD j ⟨#[]⟩).data.toList 65536 = 0) → readErr (l.getD k ⟨#[]⟩).data.toList 65536 ≠ 0 → readsErr l = readErr (l.getD k ⟨#[]⟩).data.toList 65536 := by
 intro l
 induction l with
 | nil => intro k hk; simp at hk
 | cons s r ih =>
  intro k hk h1 h2
  cases k with
  | zero =>
   unfold readsErr
   rw [if_neg (by simpa using h2)]
   rfl
  | succ k =>
   unfold readsErr
   rw [if_pos (by simpa using h1 0 (by omega))]
   exact ih k (by simpa using hk) (fun j hj => by simpa using h1 (j + 1) (by omega)) (by simpa using h2)
theorem reads_ok : ∀ (l : List ByteArray), (∀ j, j < l.length → readErr (l.getD j ⟨#[]⟩).data.toList 65536 = 0) → readsErr l = 0 := by
 intro l
 induction l with
 | nil => intro _; rfl
 | cons s r ih =>
  intro h
  unfold readsErr
  rw [if_pos (by simpa using h 0 (by simp))]
  exact ih (fun j hj => by simpa using h (j + 1) (by simpa using hj))
theorem reads_take (l : List ByteArray) {k : Nat} (hk : k < l.length) : readsVal (l.take (k + 1)) = readsVal (l.take k) ++ [readVal (l.getD k ⟨#[]⟩).data.toList] := by
 unfold readsVal
 rw [List.take_add_one, List.getElem?_eq_getElem hk, List.map_append, List.getD_eq_getElem?_getD, List.getElem?_eq_getElem hk]
 rfl
/-- A slice of texts. -/
def TxtIn (w : World) (v : Value) (l : List ByteArray) : Prop := ∃ ao c, v = .slice ao l.length c ∧ l.length ≤ c ∧ c ≤ maxLen ∧ (0 < l.length → ∃ b off, ao = some ⟨b, off, none⟩ ∧ b < w.heap.size ∧ ∀ j, j < l.length → w.cell? ⟨b, off + j, none⟩ = some (.string (l.getD j ⟨#[]⟩)))
theorem infoRat : (Tryz.prog.info? 65).map (fun i => (i.zero, i.size, i.bytes)) = some (some (.agg #[.bool false, .slice none 0 0, .bool false, .slice none 0 0]), 4, 64) := by kernel_rfl
theorem run_make_rat (n : Nat) (hn : n ≤ 16777216) (w : World) : (Instr.makeSlice 48 (.int .i64 (n : Int)) (.int .i64 (n : Int))).run Tryz.prog w = .ok (.slice (some ⟨w.heap.size, 0, none⟩) n n) (w.alloc (.cells (madeCells #[.bool false, .slice none 0 0, .bool false, .slice none 0 0] (n * 4)) 65)) := by
 obtain ⟨i, hi, hz, hs, hb⟩ : ∃ i, Tryz.prog.info? 65 = some i ∧ i.zero = some (.agg #[.bool false, .slice none 0 0, .bool false, .slice none 0 0]) ∧ i.size = 4 ∧ i.bytes = 64 := by
  have h := infoRat
  cases hq : Tryz.prog.info? 65 with
  | none => rw [hq] at h; cases h
  | some i =>
   rw [hq] at h
   simp only [Option.map_some, Option.some.injEq, Prod.mk.injEq] at h
   exact ⟨i, rfl, h⟩
 have hr := run_make (P := Tryz.prog) w 48 65 i _ Tryz.underlying48 hi hz .i64 .i64 n n (by omega) (by omega) (by rw [hb]; omega) (by omega)
 simp only [Int.toNat_natCast, hs] at hr
 exact hr
/-- A slice of rationals. -/
def RatsIn (w : World) (v : Value) (rs : List Rat) (K : Nat) : Prop := ∃ g n, v = .slice (some ⟨g, 0, none⟩) n n ∧ n = rs.length ∧ RatRow w g n rs K
/-- What Reads hands back. -/
def ReadsPost (w : World) (l : List ByteArray) (M : Nat) (e : Ending) (w' : World) : Prop := ∃ v, e = .returned (.tuple #[v, .int .i64 (readsErr l)]) ∧ (readsErr l = 0 → RatsIn w' v (readsVal l) (M + 2)) ∧ (readsErr l ≠ 0 → v = .slice none 0 0) ∧ Below w.heap.size w w'
theorem all_any (l : List ByteArray) (hl : l.length ≤ 100000) {w : World} (hg : Glob w) {ao : Option Addr} {c : Nat} (hc : l.length ≤ c) (hin : TxtIn w (.slice ao l.length c) l) {M : Nat} (hM2 : M ≤ 4294967280) (hM : ∀ s, s ∈ l → s.size ≤ M) : Calls Tryz.prog 67 #[.slice ao l.length c, .func (.func 68) #[] #[]] w (ReadsPost w l M) := by
 obtain ⟨ao', c', he, -, -, hin⟩ := hin
 simp only [Value.slice.injEq, true_and] at he
 obtain ⟨rfl, rfl⟩ := he
 obtain ⟨n, hn⟩ : ∃ n, n = l.length := ⟨_, rfl⟩
 rw [← hn] at hin hc hl ⊢
 have hmk := run_make_rat n (by omega)
 have HN := ZH hn
 clear hn
 go_enter Tryz.func67, Tryz.ntmps67
 go_upto_region 2 with fail
 obtain ⟨g, hgb⟩ : ∃ g, g = w.heap.size := ⟨_, rfl⟩
 have hrow := ratrow_made w n (M + 2)
 have hal : Below w.heap.size w (w.alloc (.cells (madeCells #[.bool false, .slice none 0 0, .bool false, .slice none 0 0] (n * 4)) 65)) := (ZR _ w).alloc (Nat.le_refl _) _
 rw [← hgb] at hrow
 rw [← hgb]
 have HGE := ZH (show w.heap.size ≤ g by omega)
 have H0 := ZH (ZN hal hrow)
 generalize w.alloc (.cells (madeCells #[.bool false, .slice none 0 0, .bool false, .slice none 0 0] (n * 4)) 65) = wa at *
 have HIN := ZH hin
 have HG := ZH hg
 have HM := ZH (ZN hM hM2)
 clear hmk hgb hal hrow hin hg hM hM2
 go_wp2_with fail
 go_loopw [15] (fun i wr => ∃ k : Nat, k ≤ n ∧ i = .int .i64 k ∧ Hid (RatRow wr g n (readsVal (l.take k)) (M + 2) ∧ (∀ j, j < k → readErr (l.getD j ⟨#[]⟩).data.toList 65536 = 0)) ∧ Hid (Below w.heap.size w wr)) (fun i _ => n - (intOf i).toNat)
 case atStart => exact ⟨0, Nat.zero_le _, rfl, ZH ⟨H0.out.2, fun j hj => absurd hj (by omega)⟩, ZH H0.out.1⟩
 case round =>
  obtain ⟨k, hkn, rfl, hr, hbw⟩ := hrel
  by_cases hlt : k < n
  ·have e1 : ((k : Int) < (n : Int)) = True := eq_true (by omega)
   obtain ⟨ba, offa, rfl, hlta, hcella⟩ := HIN.out (by omega)
   have x0 := (hbw.out.cell (p := ⟨ba, offa + k, none⟩) hlta).trans (hcella k hlt)
   obtain ⟨S, hS⟩ : ∃ S, S = l.getD k ⟨#[]⟩ := ⟨_, rfl⟩
   rw [← hS] at x0
   have hSM : S.size ≤ M := by
    refine HM.out.1 S ?_
    rw [hS, List.getD_eq_getElem?_getD, List.getElem?_eq_getElem (by rw [← HN.out]; exact hlt)]
    exact List.getElem_mem _
   have hi0 : (0 : Int) ≤ (k : Int) := by omega
   have hi1 : (k : Int) < (n : Int) := by omega
   have HRD := ZH (Read_any S (by have := HM.out.2; omega) (HG.out.below hbw.out))
   have HS := ZH (ZN hS hSM)
   clear hcella hS hSM
   go_upto_region 6 with fail
   go_wp2_with fail
   refine HRD.out.mono ?_
   rintro e w1 ⟨v, rfl, hok, hno, hb1⟩
   have hr1 := hr.out.1.below hb1
   have hB1 := hbw.out.trans (hb1.mono hbw.out.size)
   obtain ⟨E, hE⟩ : ∃ E, E = readErr S.data.toList 65536 := ⟨_, rfl⟩
   rw [← hE] at hok hno ⊢
   have hv : ∃ s1 a1 c1 l1 s2 a2 c2 l2, v = .agg #[.bool s1, .slice a1 c1 l1, .bool s2, .slice a2 c2 l2] := by
    by_cases h : E = 0
    ·exact rt_shape (hok h)
    ·exact ⟨_, _, _, _, _, _, _, _, hno h⟩
   obtain ⟨s1, a1, c1, l1, s2, a2, c2, l2, rfl⟩ := hv
   obtain ⟨cs, hk1, hcz, hnd, -⟩ := id hr1
   have z0 := ZI hk1 (k * 4)
   have z1 := ZI hk1 (k * 4 + 1)
   have z2 := ZI hk1 (k * 4 + 2)
   have z3 := ZI hk1 (k * 4 + 3)
   rw [Array.getElem?_eq_getElem (by omega)] at z0 z1 z2 z3
   have f0 := ZF hk1 (k * 4)
   have f1 := ZF hk1 (k * 4 + 1)
   have f2 := ZF hk1 (k * 4 + 2)
   have f3 := ZF hk1 (k * 4 + 3)
   generalize cs[k * 4]'_ = q0 at z0
   generalize cs[k * 4 + 1]'_ = q1 at z1
   generalize cs[k * 4 + 2]'_ = q2 at z2
   generalize cs[k * 4 + 3]'_ = q3 at z3
   have H1 := ZH (ZN hE (ZN hok (ZN hr1 hB1)))
   clear hok hno hr1 hB1 hE hk1 hcz hnd hb1
   by_cases hz : E = 0
   ·have e2 : (E == 0) = true := by rw [hz]; rfl
    have hrs : (readsVal (l.take k)).length = k := by unfold readsVal; rw [List.length_map, List.length_take]; have := HN.out; omega
    have hrv := (H1.out.2.1 hz).more (show S.data.toList.length + 2 ≤ M + 2 by rw [size_list]; have := HS.out.2; omega)
    have hrow := H1.out.2.2.1.push (by rw [hrs]; exact hlt) hrv
    rw [hrs, show readVal S.data.toList = readVal (l.getD k ⟨#[]⟩).data.toList by rw [← HS.out.1], ← reads_take l (by rw [← HN.out]; exact hlt)] at hrow
    have hnx := (((H1.out.2.2.2.setCell (p := ⟨g, k * 4, none⟩) HGE.out (.bool s1)).setCell (p := ⟨g, k * 4 + 1, none⟩) HGE.out (.slice a1 c1 l1)).setCell (p := ⟨g, k * 4 + 2, none⟩) HGE.out (.bool s2)).setCell (p := ⟨g, k * 4 + 3, none⟩) HGE.out (.slice a2 c2 l2)
    have HX := ZH (ZN hrow hnx)
    clear hrs hrv hrow hnx
    go_wp2_with fail
    refine ⟨⟨k + 1, hlt, by congr 1, ZH ⟨HX.out.1, fun j hj => ?_⟩, ZH HX.out.2⟩, by simp [intOf]; omega⟩
    by_cases h : j < k
    ·exact hr.out.2 j h
    ·obtain rfl : j = k := by omega
     rw [← HS.out.1, ← H1.out.1]
     exact hz
   ·have e2 : (E == 0) = false := by rw [ZQ]; exact hz
    have her : readsErr l = E := by
     rw [H1.out.1, HS.out.1]
     exact reads_err l k (by rw [← HN.out]; exact hlt) hr.out.2 (by rw [← HS.out.1, ← H1.out.1]; exact hz)
    have hnx := (((H1.out.2.2.2.setCell (p := ⟨g, k * 4, none⟩) HGE.out (.bool s1)).setCell (p := ⟨g, k * 4 + 1, none⟩) HGE.out (.slice a1 c1 l1)).setCell (p := ⟨g, k * 4 + 2, none⟩) HGE.out (.bool s2)).setCell (p := ⟨g, k * 4 + 3, none⟩) HGE.out (.slice a2 c2 l2)
    have HX := ZH (ZN her hnx)
    clear her hnx
    go_wp2_with fail
    go_ret2
    exact ⟨_, by rw [HX.out.1]; rfl, fun h => absurd (HX.out.1.symm.trans h) hz, fun _ => rfl, HX.out.2⟩
  ·have e1 : ((k : Int) < (n : Int)) = False := eq_false (by omega)
   obtain rfl : k = n := by omega
   have hrr := hr.out.1
   rw [List.take_of_length_le (by rw [← HN.out]; exact Nat.le_refl _)] at hrr
   have he0 := reads_ok l (fun j hj => hr.out.2 j (by rw [HN.out]; exact hj))
   have HF := ZH (ZN hrr (ZN he0 hbw.out))
   clear hrr he0
   go_wp2_with fail
   go_ret2
   exact ⟨_, by rw [HF.out.2.1]; rfl, fun _ => ⟨g, k, rfl, by unfold readsVal; rw [List.length_map]; exact HN.out, HF.out.1⟩, fun h => absurd HF.out.2.1 h, HF.out.2.2⟩
theorem Reads_any (l : List ByteArray) (hl : l.length ≤ 100000) {w : World} (hg : Glob w) {v : Value} (hin : TxtIn w v l) {M : Nat} (hM2 : M ≤ 4294967280) (hM : ∀ s, s ∈ l → s.size ≤ M) : Calls Tryz.prog 22 #[v] w (ReadsPost w l M) := by
 obtain ⟨ao, c, rfl, hc, -⟩ := id hin
 have HA := ZH (all_any l hl hg hc hin hM2 hM)
 obtain ⟨n, hn⟩ : ∃ n, n = l.length := ⟨_, rfl⟩
 rw [← hn] at HA ⊢
 clear hn hin hM hl hc
 go_enter Tryz.func22, Tryz.ntmps22
 go_wp2_with fail
 refine HA.out.mono ?_
 rintro e w1 ⟨v, rfl, h1, h2, h3⟩
 have HF := ZH (ZN h1 (ZN h2 h3))
 clear h1 h2 h3
 go_wp2_with fail
 go_ret2
 exact ⟨_, rfl, HF.out⟩
end Go.Proofs.YtgofihilkobenaaGreatDoor
/- Maps from integers to rationals that a call makes. -/
set_option maxRecDepth 100000
namespace Go.Proofs.YtgofihilkobenaaGreatDoor
open Go.RowKit Go.Num Go.Flow Go.Maps Go.WideMaps
set_option maxHeartbeats 4000000

/-- An element as it is. -/
def asIs (v : Value) : Option (DataW Value × List MemPlace) := some (.held v, [])
def zeroRat : Value := .agg #[.bool false, .slice none 0 0, .bool false, .slice none 0 0]
theorem zeroRat_run (w : World) : (zeroValue 65).run Tryz.prog w = .ok zeroRat w := (zero_of_info (n := 4) (show (Tryz.prog.info? 65).map (fun i => (i.zero, i.size)) = some (some zeroRat, 4) by kernel_rfl)).1 w
theorem zero_rt (w : World) (K : Nat) : RtIn w zeroRat 0 K := rt_int ⟨_, _, _, _, rfl, int_nil _ _, int_nil _ _, by decide⟩
/-- The map in block b gives each key its rational. -/
def RMapIn (w : World) (b n : Nat) (K : Nat) (m : Int → Option Rat) : Prop := ∃ D : DataW Value, w.ownsMap Tryz.prog 3 asIs b n D ∧ ∀ i : Int, match m i with
 | none => Maps.has D (.int .i64 i) = false
 | some r => Maps.has D (.int .i64 i) = true ∧ ∃ v, (∀ z, D.atKey (.int .i64 i) z = .held v) ∧ RtIn w v r K
theorem rmap_made (w : World) (K : Nat) : RMapIn (w.alloc (.map #[] 0)) w.heap.size 0 K fun _ => none :=
 ⟨.map [], World.ownsMap_made _ _ _ _, fun _ => rfl⟩
theorem RMapIn.below {w w' : World} {b n K : Nat} {m : Int → Option Rat} (h : RMapIn w b n K m) (hb : Below w.heap.size w w') : RMapIn w' b n K m := by
 obtain ⟨D, ⟨es, clock, h1, h2⟩, h3⟩ := h
 have hlt : b < w.heap.size := by
  rcases Nat.lt_or_ge b w.heap.size with h | h
  ·exact h
  ·rw [Array.getElem?_eq_none h] at h1; cases h1
 refine ⟨D, ⟨es, clock, (hb.block b hlt).trans h1, h2⟩, fun i => ?_⟩
 have h4 := h3 i
 cases hm : m i with
 | none => rw [hm] at h4; exact h4
 | some r =>
  rw [hm] at h4
  obtain ⟨h5, v, h6, h7⟩ := h4
  exact ⟨h5, v, h6, h7.below hb⟩
theorem key_int {i : Int} (h0 : -9223372036854775808 ≤ i) (h1 : i ≤ 9223372036854775807) : keyOf Tryz.prog 3 (.int .i64 i) = some (.int .i64 i) := keyOf_int_mk Tryz.underlying3 (WalkArith.wf_i64 ⟨h0, h1⟩)
theorem RMapIn.put {w w' : World} {b n K : Nat} {m : Int → Option Rat} (h : RMapIn w b n K m) {i : Int} {v : Value} {r : Rat} (hr : RtIn w' v r K) (hk : WideAt.IsKeyLit (.int .i64 i)) (hm : ∀ j s, m j = some s → ∀ u, RtIn w u s K → RtIn w' u s K)
  (hD : ∀ D : DataW Value, w.ownsMap Tryz.prog 3 asIs b n D → w'.ownsMap Tryz.prog 3 asIs b (n + 1) (D.put (.int .i64 i) (.held v))) : RMapIn w' b (n + 1) K fun j => if j = i then some r else m j := by
 obtain ⟨D, h1, h2⟩ := h
 have hmap := World.ownsMap.isMap h1
 refine ⟨D.put (.int .i64 i) (.held v), hD D h1, fun j => ?_⟩
 by_cases hj : j = i
 ·subst hj
  simp only [if_pos]
  exact ⟨Maps.has_put_same hmap hk _, v, fun z => Maps.atKey_put_same hmap hk _ z, hr⟩
 ·simp only [if_neg hj]
  have hne : (Lit.int .i64 j) ≠ .int .i64 i := fun h => hj (by cases h; rfl)
  have h3 := h2 j
  cases hmj : m j with
  | none =>
   rw [hmj] at h3
   exact (Maps.has_put_other hne _).trans h3
  | some s =>
   rw [hmj] at h3
   obtain ⟨h4, u, h5, h6⟩ := h3
   exact ⟨(Maps.has_put_other hne _).trans h4, u, fun z => (Maps.atKey_put_other hne _ z).trans (h5 z), hm j s hmj u h6⟩
end Go.Proofs.YtgofihilkobenaaGreatDoor
