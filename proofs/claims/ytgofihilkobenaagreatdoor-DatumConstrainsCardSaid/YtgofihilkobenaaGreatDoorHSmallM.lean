/- Small functions that DatumHolds calls: ContainsFunc and Clone at numbers, Range. -/
import Derived.Test.YtgofihilkobenaaGreatDoorDHoldsM
import Derived.Test.YtgofihilkobenaaGreatDoorKQ
import Derived.Lib.SliceRun
import Derived.Laws.Cover3
set_option maxRecDepth 100000
namespace Go.Proofs.YtgofihilkobenaaGreatDoor
open Go.RowKit Go.Num Go.Flow Go.Dtm
set_option maxHeartbeats 8000000
set_option linter.unusedVariables false

theorem sIndexN_any {w : World} {ao : Option Addr} {c : Nat} {l : List ByteArray} (h : TxtIn w (.slice ao l.length c) l) (hsm : l.length ≤ 1000000) {k : Nat} {caps : Array Value} (he : ∀ (args : Array Value) (W : World), (callFunc k args).run Tryz.prog W = .ok (.enter k args) W) (p : Nat → Bool)
  (hp : ∀ (W : World) (j : Nat), j < l.length → Below w.heap.size w W → Calls Tryz.prog k (#[.string (l.getD j ⟨#[]⟩)] ++ caps) W fun e w' => e = .returned (.bool (p j)) ∧ Below W.heap.size W w') :
  Calls Tryz.prog 62 #[.slice ao l.length c, .func (.func k) #[] caps] w fun e w' => e = .returned (.int .i64 (pos p l.length 0)) ∧ Below w.heap.size w w' := by
 obtain ⟨ao', c', e', h1, h2, h3⟩ := h
 simp only [Value.slice.injEq, true_and] at e'
 obtain ⟨rfl, rfl⟩ := e'
 obtain ⟨n, hn⟩ : ∃ n, n = l.length := ⟨_, rfl⟩
 rw [← hn] at h1 h3 hsm hp ⊢
 unfold maxLen at h2
 have H3 := Lib.hid h3
 have HP := Lib.hid hp
 clear h3 hp hn
 go_enter Tryz.func62, Tryz.ntmps62
 go_wp2_with fail
 go_loopw [8] (fun i wr => ∃ m : Nat, m ≤ n ∧ i = .int .i64 m ∧ Hid (∀ j, j < m → p j = false) ∧ Hid (Below w.heap.size w wr)) (fun i _ => n - (intOf i).toNat)
 case atStart => exact ⟨0, Nat.zero_le _, rfl, Lib.hid (fun j hj => absurd hj (by omega)), Lib.hid (Below.refl _ _)⟩
 case round =>
  obtain ⟨m, hmn, rfl, hno, hbw⟩ := hrel
  by_cases hlt : m < n
  ·have e1 : ((m : Int) < (n : Int)) = True := eq_true (by omega)
   obtain ⟨b, o, rfl, hl, hc⟩ := H3.out (by omega)
   have x0 := cell_below hbw.out (hc m hlt)
   have hi0 : (0 : Int) ≤ (m : Int) := by omega
   have hi1 : (m : Int) < (n : Int) := by omega
   have HC := Lib.hid (HP.out wr m hlt hbw.out)
   clear hc
   generalize l.getD m ⟨#[]⟩ = x at *
   go_upto_region 4 with fail
   go_wp2_with fail
   refine HC.out.mono ?_
   rintro e w1 ⟨rfl, hb1⟩
   have hB1 := hbw.out.trans (hb1.mono hbw.out.size)
   have HB1 := Lib.hid hB1
   clear hB1 hb1
   cases hpm : p m with
   | true =>
    have HN := Lib.hid (pos_some (p := p) (n := n) (k := 0) (i := m) (Nat.zero_le _) (by omega) (fun j _ h => hno.out j h) hpm)
    go_wp2_with fail
    go_ret
    exact ⟨by rw [HN.out]; rfl, HB1.out⟩
   | false =>
    go_wp2_with fail
    refine ⟨⟨m + 1, hlt, by congr 1, Lib.hid fun j hj => ?_, Lib.hid HB1.out⟩, by simp [intOf]; omega⟩
    by_cases h : j < m
    ·exact hno.out j h
    ·obtain rfl : j = m := by omega
     exact hpm
  ·have e1 : ((m : Int) < (n : Int)) = False := eq_false (by omega)
   obtain rfl : m = n := by omega
   have HN := Lib.hid (pos_none (p := p) (n := m) (k := 0) (fun j _ h => hno.out j (by omega)))
   go_wp2_with fail
   go_ret
   exact ⟨by rw [HN.out]; rfl, hbw.out⟩
theorem sContainsN_any {w : World} {ao : Option Addr} {c : Nat} {l : List ByteArray} (h : TxtIn w (.slice ao l.length c) l) (hsm : l.length ≤ 1000000) {k : Nat} {caps : Array Value} (he : ∀ (args : Array Value) (W : World), (callFunc k args).run Tryz.prog W = .ok (.enter k args) W) (q : ByteArray → Bool)
  (hp : ∀ (W : World) (j : Nat), j < l.length → Below w.heap.size w W → Calls Tryz.prog k (#[.string (l.getD j ⟨#[]⟩)] ++ caps) W fun e w' => e = .returned (.bool (q (l.getD j ⟨#[]⟩))) ∧ Below W.heap.size W w') :
  Calls Tryz.prog 17 #[.slice ao l.length c, .func (.func k) #[] caps] w fun e w' => e = .returned (.bool (l.any q)) ∧ Below w.heap.size w w' := by
 have HI := Lib.hid (sIndexN_any h hsm he (fun j => q (l.getD j ⟨#[]⟩)) hp)
 have HA := Lib.hid (pos_any q ⟨#[]⟩ l)
 generalize pos (fun j => q (l.getD j ⟨#[]⟩)) l.length 0 = r at *
 generalize l.length = n at *
 clear h hsm hp
 go_enter Tryz.func17, Tryz.ntmps17
 go_wp2_with fail
 refine HI.out.mono ?_
 rintro e w1 ⟨rfl, hb1⟩
 go_wp2_with fail
 go_ret
 exact ⟨by rw [← HA.out]; rfl, hb1⟩
theorem enters_holds1 (args : Array Value) (w : World) : (callFunc 18 args).run Tryz.prog w = .ok (.enter 18 args) w := by
 exact enters_of Tryz.func18 (by kernel_rfl) rfl args w
def longText (s : ByteArray) : Bool := decide (20 < s.size)
theorem holds1_any {W : World} (s : ByteArray) : Calls Tryz.prog 18 (#[.string s] ++ #[]) W fun e w' => e = .returned (.bool (longText s)) ∧ Below W.heap.size W w' := by
 show Calls Tryz.prog 18 #[_] W _
 by_cases h : 20 < s.size
 ·have e1 : ((20 : Int) < (s.size : Int)) = True := eq_true (by omega)
  have HE := Lib.hid (show longText s = true from decide_eq_true h)
  clear h
  go_enter Tryz.func18, Tryz.ntmps18
  go_wp2_with fail
  go_ret
  exact ⟨by rw [HE.out]; rfl, Below.refl _ _⟩
 ·have e1 : ((20 : Int) < (s.size : Int)) = False := eq_false (by omega)
  have HE := Lib.hid (show longText s = false from decide_eq_false h)
  clear h
  go_enter Tryz.func18, Tryz.ntmps18
  go_wp2_with fail
  go_ret
  exact ⟨by rw [HE.out]; rfl, Below.refl _ _⟩
theorem anyLong_any {w : World} {ao : Option Addr} {c : Nat} {l : List ByteArray} (h : TxtIn w (.slice ao l.length c) l) (hsm : l.length ≤ 1000000) :
  Calls Tryz.prog 17 #[.slice ao l.length c, .func (.func 18) #[] #[]] w fun e w' => e = .returned (.bool (l.any longText)) ∧ Below w.heap.size w w' :=
 sContainsN_any h hsm enters_holds1 longText (fun W j hj hb => holds1_any _)
theorem infoNumber : (Tryz.prog.info? 40).map (fun i => (i.zero, i.size, i.bytes)) = some (some (.string ⟨#[]⟩), 1, 16) := by kernel_rfl
theorem txt_row {w : World} {B : Nat} {v : Value} {l : List ByteArray} (h : w.ownsRow B 40 1 v l.length (l.map Value.string)) : ∃ ao c, v = .slice ao l.length c ∧ TxtIn w (.slice ao l.length c) l := by
 obtain ⟨ao, c, e, h1, h2, h3⟩ := row_cells h
 refine ⟨ao, c, e, ao, c, rfl, h1, h2, fun h0 => ?_⟩
 obtain ⟨g, rfl, hg, hc⟩ := h3 h0
 refine ⟨g, 0, rfl, hg, fun j hj => ?_⟩
 rw [Nat.zero_add]
 refine hc j _ ?_
 rw [List.getElem?_map, List.getElem?_eq_getElem hj, List.getD_eq_getElem?_getD, List.getElem?_eq_getElem hj]
 rfl
theorem sCloneN_any {w : World} {ao : Option Addr} {c : Nat} {l : List ByteArray} (h : TxtIn w (.slice ao l.length c) l) (hsm : l.length ≤ 1000000) :
  Calls Tryz.prog 20 #[.slice ao l.length c] w fun e w' => ∃ ao' c', e = .returned (.slice ao' l.length c') ∧ TxtIn w' (.slice ao' l.length c') l ∧ Below w.heap.size w w' := by
 obtain ⟨ao', c', e', h1, h2, h3⟩ := h
 simp only [Value.slice.injEq, true_and] at e'
 obtain ⟨rfl, rfl⟩ := e'
 obtain ⟨i0, hi, hz0, hz1, hz2⟩ := info_parts infoNumber
 have HI := Lib.hid (And.intro hi (And.intro hz0 (And.intro hz1 hz2)))
 cases ao with
 | none =>
  have hl : l = [] := by
   rcases Nat.eq_zero_or_pos l.length with h0 | h0
   ·exact List.length_eq_zero_iff.1 h0
   ·obtain ⟨b, o, e, -⟩ := h3 h0
    cases e
  subst hl
  clear h1 h2 h3
  have hnil : ∀ W, (binOp .eql 37 (.slice none 0 c) (.slice none 0 0)).run Tryz.prog W = .ok (.bool true) W := fun W => Lib.run_eql_slice_nil W _ _ _ _ _ _ _ Tryz.underlying37
  go_enter Tryz.func20, Tryz.ntmps20
  go_wp2_with fail
  go_ret
  exact ⟨none, 0, rfl, ⟨none, 0, rfl, Nat.le_refl _, by unfold maxLen; omega, fun h => absurd h (by simp)⟩, Below.refl _ _⟩
 | some a =>
  have hown : (w.alloc (.cells #[] 40)).ownsRow w.heap.size 40 1 (.slice (some ⟨w.heap.size, 0, none⟩) 0 0) 0 [] := ⟨rfl, .inr ⟨w.heap.size, 0, #[], rfl, Nat.le_refl _, heap_alloc_new w _, Nat.le_refl _, by unfold maxLen; omega, rfl, rfl⟩⟩
  have HOWN := Lib.hid hown
  have hb1 : Below w.heap.size w (w.alloc (.cells #[] 40)) := (Below.refl _ w).alloc (Nat.le_refl _) _
  have HB1 := Lib.hid hb1
  have hcell : ∀ j u, (l.map Value.string)[j]? = some u → (w.alloc (.cells #[] 40)).cell? (a.add j) = some u := fun j u hu => by
   rw [List.getElem?_map] at hu
   rcases Nat.lt_or_ge j l.length with hj | hj
   ·obtain ⟨b, o, e, hl, hc⟩ := h3 (by omega)
    obtain rfl : a = ⟨b, o, none⟩ := Option.some.inj e
    rw [List.getElem?_eq_getElem hj] at hu
    have := cell_below hb1 (hc j hj)
    rw [List.getD_eq_getElem?_getD, List.getElem?_eq_getElem hj] at this
    rw [show (⟨b, o, none⟩ : Addr).add j = ⟨b, o + j, none⟩ by unfold Addr.add; split <;> simp_all]
    rw [this]
    exact hu
   ·rw [List.getElem?_eq_none hj] at hu
    cases hu
  have HCELL := Lib.hid hcell
  obtain ⟨n, hn⟩ : ∃ n, n = l.length := ⟨_, rfl⟩
  have HN := Lib.hid hn
  rw [← hn] at hsm ⊢
  clear hcell hb1 hown h1 h2 h3 hn hi hz0 hz1 hz2
  have hnil : ∀ W, (binOp .eql 37 (.slice (some a) n c) (.slice none 0 0)).run Tryz.prog W = .ok (.bool false) W := fun W => Lib.run_eql_slice_nil W _ _ _ _ _ _ _ Tryz.underlying37
  go_enter Tryz.func20, Tryz.ntmps20
  go_wp2_with (at_builtin; refine wpList_append_own _ rfl _ _ 37 rfl w.heap.size 40 i0 _ 1 16 Tryz.underlying37 HI.out.1 HI.out.2.1 HI.out.2.2.1 HI.out.2.2.2 rfl (by decide) _ _ _ rfl HOWN.out a n _ (l.map Value.string) rfl ?c0 ?c1 ?c2 ?c3 ?c4 ?c5 ?_)
  case c0 => rw [List.length_map, ← HN.out, Nat.mul_one]
  case c1 => exact HCELL.out
  case c2 => intro u hu; obtain ⟨s, -, rfl⟩ := List.mem_map.1 hu; rfl
  case c3 => unfold maxLen; omega
  case c4 => omega
  case c5 => simp
  intro v2 w2 hown2 hg2 _
  have hb2 : Below w.heap.size w w2 := HB1.out.grown hg2 (by simp) (fun q e => by simp [Value.ownBlock] at e; omega)
  rw [HN.out] at hown2
  obtain ⟨a2, c2, hv, ht⟩ := txt_row hown2
  rw [← HN.out] at hv ht
  subst hv
  have HT := Lib.hid (And.intro ht hb2)
  clear hown2 hg2 ht hb2
  go_wp2_with fail
  go_ret
  exact ⟨a2, c2, rfl, HT.out.1, HT.out.2⟩
theorem mRange_any {W : World} (d : Dm) (h1 : -1000000000 ≤ d.nominal ∧ d.nominal ≤ 1000000000) (h2 : -1000000000 ≤ d.lower ∧ d.lower ≤ 1000000000) (h3 : -1000000000 ≤ d.upper ∧ d.upper ≤ 1000000000) :
  Calls Tryz.prog 71 #[dmV d] W fun e w' => e = .returned (.tuple #[.int .i64 (d.nominal + d.lower), .int .i64 (d.nominal + d.upper)]) ∧ Below W.heap.size W w' := by
 unfold dmV
 obtain ⟨wa, hwa⟩ : ∃ x, x = W.alloc (.cells #[.string d.name, .int .i64 d.nominal, .int .i64 d.lower, .int .i64 d.upper] 60) := ⟨_, rfl⟩
 obtain ⟨ba, hba⟩ : ∃ x, x = W.heap.size := ⟨_, rfl⟩
 have hal : Below W.heap.size W wa := by rw [hwa]; exact (Below.refl _ W).alloc (Nat.le_refl _) _
 have k0 : wa.heap[ba]? = some (.cells #[.string d.name, .int .i64 d.nominal, .int .i64 d.lower, .int .i64 d.upper] 60 (0, 0)) := by rw [hwa, hba]; exact heap_alloc_new W _
 have s1 := block_cell k0 1
 have s2 := block_cell k0 2
 have s3 := block_cell k0 3
 simp at s1 s2 s3
 have HAL := Lib.hid hal
 have HW := Lib.hid (And.intro hwa hba)
 have w1 : IntKind.i64.wrap (d.nominal + d.lower) = d.nominal + d.lower := IntWalk.i64_in _ (by omega)
 have w2 : IntKind.i64.wrap (d.nominal + d.upper) = d.nominal + d.upper := IntWalk.i64_in _ (by omega)
 clear hal hwa hba k0 h1 h2 h3
 go_enter Tryz.func71, Tryz.ntmps71
 go_upto_region 1 with fail
 rw [← HW.out.1, ← HW.out.2]
 clear HW
 go_quiet (fail)
 go_wp2_with fail
 go_ret2
 exact ⟨rfl, HAL.out.trans ((below_drawn wa _).mono HAL.out.size)⟩
end Go.Proofs.YtgofihilkobenaaGreatDoor
