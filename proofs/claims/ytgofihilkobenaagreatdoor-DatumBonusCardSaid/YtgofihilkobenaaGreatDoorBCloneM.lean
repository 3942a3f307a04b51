/- DatumBonus: slices.Clone at zones, and the store of a bonus into the copy. -/
import Derived.Test.YtgofihilkobenaaGreatDoorKQ
import Derived.Test.YtgofihilkobenaaGreatDoorKM
import Derived.Lib.SliceRun
import Derived.Laws.Cover3
import Derived.Laws.OwnMore
set_option maxRecDepth 100000
namespace Go.Proofs.YtgofihilkobenaaGreatDoor
open Go.RowKit Go.Num Go.Flow Go.Dtm
set_option maxHeartbeats 8000000
set_option linter.unusedVariables false

def znCells (z : Zn) : List Value := [.int .i64 z.kind, .int .i64 z.feature, .int .i64 z.lower, .int .i64 z.upper, .bool z.bonus]
def zsCells (l : List Zn) : List Value := l.flatMap znCells
theorem zsCells_len (l : List Zn) : (zsCells l).length = l.length * 5 := by
 unfold zsCells
 induction l with
 | nil => rfl
 | cons z l ih => rw [List.flatMap_cons, List.length_append, ih, List.length_cons, show (znCells z).length = 5 from rfl]; omega
theorem zs_at (l : List Zn) (j : Nat) (hj : j < l.length) (r : Nat) (hr : r < 5) : (zsCells l)[j * 5 + r]? = (znCells (l.getD j Zn.none))[r]? := by
 have k := flat_at znCells 5 (fun _ => rfl) l j hj r hr
 have e1 : l.getD j Zn.none = l[j] := by rw [List.getD_eq_getElem?_getD, List.getElem?_eq_getElem hj]; rfl
 rw [e1]
 exact k
theorem zrow_read {w : World} {B : Nat} {v : Value} {l : List Zn} (h : w.ownsRow B 30 5 v l.length (zsCells l)) : ∃ ao c, v = .slice ao l.length c ∧ ZonesIn w ao c l := by
 obtain ⟨ao, c, e, h1, h2, h3⟩ := row_cells h
 refine ⟨ao, c, e, h1, h2, fun h0 => ?_⟩
 obtain ⟨g, rfl, hg, hc⟩ := h3 h0
 refine ⟨g, 0, rfl, hg, fun j hj => ?_⟩
 have k := zs_at l j hj
 rw [Nat.zero_add]
 exact ⟨hc _ _ (k 0 (by omega)), hc _ _ (k 1 (by omega)), hc _ _ (k 2 (by omega)), hc _ _ (k 3 (by omega)), hc _ _ (k 4 (by omega))⟩
theorem set_cells (l : List Zn) (j : Nat) (hj : j < l.length) (b : Bool) : (zsCells l).set (j * 5 + 4) (.bool b) = zsCells (l.set j { l.getD j Zn.none with bonus := b }) := by
 refine List.ext_getElem? fun i => ?_
 rcases Nat.lt_or_ge i (l.length * 5) with hi | hi
 ·obtain ⟨q, hq⟩ : ∃ q, q = i / 5 := ⟨_, rfl⟩
  obtain ⟨r, hr⟩ : ∃ r, r = i % 5 := ⟨_, rfl⟩
  obtain rfl : i = q * 5 + r := by omega
  have hq' : q < l.length := by omega
  have hr' : r < 5 := by omega
  have e2 := zs_at (l.set j { l.getD j Zn.none with bonus := b }) q (by rw [List.length_set]; exact hq') r hr'
  rw [e2]
  by_cases e : j * 5 + 4 = q * 5 + r
  ·obtain rfl : j = q := by omega
   obtain rfl : r = 4 := by omega
   rw [List.getElem?_set_self (by rw [zsCells_len]; omega), List.getD_eq_getElem?_getD, List.getElem?_set_self hq']
   rfl
  ·rw [List.getElem?_set_ne e, zs_at l q hq' r hr']
   by_cases e3 : j = q
   ·subst e3
    rw [List.getD_eq_getElem?_getD (l := l.set _ _), List.getElem?_set_self hq']
    have hr4 : r < 4 := by omega
    match r, hr4 with
    | 0, _ => rfl
    | 1, _ => rfl
    | 2, _ => rfl
    | 3, _ => rfl
   ·rw [List.getD_eq_getElem?_getD (l := l.set _ _), List.getElem?_set_ne e3, ← List.getD_eq_getElem?_getD]
 ·rw [List.getElem?_eq_none (by rw [List.length_set, zsCells_len]; exact hi), List.getElem?_eq_none (by rw [zsCells_len, List.length_set]; exact hi)]
theorem zrow_setNe {w : World} {B : Nat} {t : TypeId} {k n : Nat} {v : Value} {l : List Value} (h : w.ownsRow B t k v n l) {b : Nat} (hb : ∀ g, v.ownBlock = some g → g ≠ b) (i : Nat) (u : Value) : (w.setCell ⟨b, i, none⟩ u).ownsRow B t k v n l := by
 rcases h.2 with h1 | ⟨g, cap, cur, h1, h2, h3, h4⟩
 ·exact ⟨h.1, .inl h1⟩
 ·exact ⟨h.1, .inr ⟨g, cap, cur, h1, h2, (Below.heap_setCell _ _ _ _ (hb g (by rw [h1]; rfl))).trans h3, h4⟩⟩
theorem infoZn : (Tryz.prog.info? 30).map (fun i => (i.zero, i.size, i.bytes)) = some (some (.agg #[.int .i64 0, .int .i64 0, .int .i64 0, .int .i64 0, .bool false]), 5, 40) := by kernel_rfl
theorem sCloneZ_any {w : World} {ao : Option Addr} {c : Nat} {l : List Zn} (h : ZonesIn w ao c l) (hsm : l.length ≤ 1000000) (h0 : 0 < l.length) :
  Calls Tryz.prog 24 #[.slice ao l.length c] w fun e w' => ∃ v, e = .returned v ∧ w'.ownsRow w.heap.size 30 5 v l.length (zsCells l) ∧ Below w.heap.size w w' := by
 obtain ⟨h1, h2, h3⟩ := h
 obtain ⟨i0, hi, hz0, hz1, hz2⟩ := info_parts infoZn
 have HI := Lib.hid (And.intro hi (And.intro hz0 (And.intro hz1 hz2)))
 obtain ⟨b, o, rfl, hl, hc⟩ := h3 h0
 have hown : (w.alloc (.cells #[] 30)).ownsRow w.heap.size 30 5 (.slice (some ⟨w.heap.size, 0, none⟩) 0 0) 0 [] := ⟨rfl, .inr ⟨w.heap.size, 0, #[], rfl, Nat.le_refl _, heap_alloc_new w _, Nat.le_refl _, by unfold maxLen; omega, rfl, rfl⟩⟩
 have HOWN := Lib.hid hown
 have hb1 : Below w.heap.size w (w.alloc (.cells #[] 30)) := (Below.refl _ w).alloc (Nat.le_refl _) _
 have HB1 := Lib.hid hb1
 have hcell : ∀ j u, (zsCells l)[j]? = some u → (w.alloc (.cells #[] 30)).cell? ((⟨b, o, none⟩ : Addr).add j) = some u := fun j u hu => by
  rw [show (⟨b, o, none⟩ : Addr).add j = ⟨b, o + j, none⟩ by unfold Addr.add; split <;> simp_all]
  rcases Nat.lt_or_ge j (l.length * 5) with hj | hj
  ·obtain ⟨q, hq⟩ : ∃ q, q = j / 5 := ⟨_, rfl⟩
   obtain ⟨r, hr⟩ : ∃ r, r = j % 5 := ⟨_, rfl⟩
   obtain rfl : j = q * 5 + r := by omega
   have hq' : q < l.length := by omega
   have hr' : r < 5 := by omega
   rw [zs_at l q hq' r hr'] at hu
   have hx := (hc q hq').below hb1
   rw [show o + (q * 5 + r) = o + q * 5 + r by omega]
   match r, hr' with
   | 0, _ => exact hx.1.trans hu
   | 1, _ => exact hx.2.1.trans hu
   | 2, _ => exact hx.2.2.1.trans hu
   | 3, _ => exact hx.2.2.2.1.trans hu
   | 4, _ => exact hx.2.2.2.2.trans hu
  ·rw [List.getElem?_eq_none (by rw [zsCells_len]; exact hj)] at hu
   cases hu
 have HCELL := Lib.hid hcell
 obtain ⟨n, hn⟩ : ∃ n, n = l.length := ⟨_, rfl⟩
 have HN := Lib.hid hn
 rw [← hn] at hsm ⊢
 clear hcell hb1 hown h1 h2 h3 hn hi hz0 hz1 hz2 h0 hc hl
 have hnil : ∀ W, (binOp .eql 24 (.slice (some ⟨b, o, none⟩) n c) (.slice none 0 0)).run Tryz.prog W = .ok (.bool false) W := fun W => Lib.run_eql_slice_nil W _ _ _ _ _ _ _ Tryz.underlying24
 go_enter Tryz.func24, Tryz.ntmps24
 go_wp2_with (at_builtin; refine wpList_append_own _ rfl _ _ 24 rfl w.heap.size 30 i0 _ 5 40 Tryz.underlying24 HI.out.1 HI.out.2.1 HI.out.2.2.1 HI.out.2.2.2 rfl (by decide) _ _ _ rfl HOWN.out ⟨b, o, none⟩ n _ (zsCells l) rfl ?c0 ?c1 ?c2 ?c3 ?c4 ?c5 ?_)
 case c0 => rw [zsCells_len, ← HN.out]
 case c1 => exact HCELL.out
 case c2 =>
  intro u hu
  unfold zsCells at hu
  rw [List.mem_flatMap] at hu
  obtain ⟨z, -, hz⟩ := hu
  unfold znCells at hz
  simp only [List.mem_cons, List.not_mem_nil, or_false] at hz
  rcases hz with rfl | rfl | rfl | rfl | rfl <;> rfl
 case c3 => unfold maxLen; omega
 case c4 => omega
 case c5 => simp
 intro v2 w2 hown2 hg2 _
 have hb2 : Below w.heap.size w w2 := HB1.out.grown hg2 (by simp) (fun q e => by simp [Value.ownBlock] at e; omega)
 have HT := Lib.hid (And.intro hown2 hb2)
 clear hown2 hg2 hb2
 go_wp2_with fail
 go_ret
 exact ⟨_, rfl, by simpa using HT.out.1, HT.out.2⟩
end Go.Proofs.YtgofihilkobenaaGreatDoor
