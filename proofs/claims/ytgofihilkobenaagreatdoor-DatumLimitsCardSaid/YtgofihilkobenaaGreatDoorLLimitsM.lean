/- DatumLimits: the walk. -/
import Derived.Test.YtgofihilkobenaaGreatDoorKQ
import Derived.Test.YtgofihilkobenaaGreatDoorKT
import Derived.Test.YtgofihilkobenaaGreatDoorQSameM
import Derived.Test.YtgofihilkobenaaGreatDoorQAddM
import Derived.Laws.Runes
set_option maxRecDepth 100000
namespace Go.Proofs.YtgofihilkobenaaGreatDoor
open Go.RowKit Go.Num Go.Flow Go.Dtm
set_option maxHeartbeats 8000000
set_option linter.unusedVariables false

def limFeat (i : Nat) : Feat := ⟨(⟨#[102]⟩ : ByteArray) ++ Utf8.encode (97 + (i : Int)), 2, 0, (i : Int) - 1, 0, 1⟩
def limZone (i : Nat) : Zn := ⟨1 + (i % 2 : Nat), (i / 2 : Nat), 0, 0, false⟩
def limFeats (k : Nat) : List Feat := (List.range k).map limFeat
def limZones (k : Nat) : List Zn := (List.range k).map limZone
theorem limFeats_succ (k : Nat) : limFeats (k + 1) = limFeats k ++ [limFeat k] := by unfold limFeats; rw [List.range_succ, List.map_append]; rfl
theorem limZones_succ (k : Nat) : limZones (k + 1) = limZones k ++ [limZone k] := by unfold limZones; rw [List.range_succ, List.map_append]; rfl
theorem limFeats_len (k : Nat) : (limFeats k).length = k := by unfold limFeats; rw [List.length_map, List.length_range]
theorem limZones_len (k : Nat) : (limZones k).length = k := by unfold limZones; rw [List.length_map, List.length_range]
def featCells (l : List Feat) : List Value := l.flatMap fun f => [.string f.name, .int .i64 f.kind, .int .i64 f.axis, .int .i64 f.datum, .int .i64 f.place, .int .i64 f.wide]
def zoneCells (l : List Zn) : List Value := l.flatMap fun z => [.int .i64 z.kind, .int .i64 z.feature, .int .i64 z.lower, .int .i64 z.upper, .bool z.bonus]
theorem featCells_snoc (l : List Feat) (f : Feat) : featCells (l ++ [f]) = featCells l ++ [.string f.name, .int .i64 f.kind, .int .i64 f.axis, .int .i64 f.datum, .int .i64 f.place, .int .i64 f.wide] := by unfold featCells; rw [List.flatMap_append]; rfl
theorem zoneCells_snoc (l : List Zn) (z : Zn) : zoneCells (l ++ [z]) = zoneCells l ++ [.int .i64 z.kind, .int .i64 z.feature, .int .i64 z.lower, .int .i64 z.upper, .bool z.bonus] := by unfold zoneCells; rw [List.flatMap_append]; rfl
theorem feats_read {w : World} {B : Nat} {v : Value} {l : List Feat} (h : w.ownsRow B 28 6 v l.length (featCells l)) : ∃ ao c, v = .slice ao l.length c ∧ FeatsIn w ao c l := by
 obtain ⟨ao, c, e, h1, h2, h3⟩ := row_cells h
 refine ⟨ao, c, e, h1, h2, fun h0 => ?_⟩
 obtain ⟨g, rfl, hg, hc⟩ := h3 h0
 refine ⟨g, 0, rfl, hg, fun j hj => ?_⟩
 have k := fun r (hr : r < 6) => flat_at (fun f : Feat => [.string f.name, .int .i64 f.kind, .int .i64 f.axis, .int .i64 f.datum, .int .i64 f.place, .int .i64 f.wide]) 6 (fun _ => rfl) l j hj r hr
 have e1 : l.getD j Feat.none = l[j] := by rw [List.getD_eq_getElem?_getD, List.getElem?_eq_getElem hj]; rfl
 rw [e1, Nat.zero_add]
 exact ⟨hc _ _ (k 0 (by omega)), hc _ _ (k 1 (by omega)), hc _ _ (k 2 (by omega)), hc _ _ (k 3 (by omega)), hc _ _ (k 4 (by omega)), hc _ _ (k 5 (by omega))⟩
theorem zones_read {w : World} {B : Nat} {v : Value} {l : List Zn} (h : w.ownsRow B 30 5 v l.length (zoneCells l)) : ∃ ao c, v = .slice ao l.length c ∧ ZonesIn w ao c l := by
 obtain ⟨ao, c, e, h1, h2, h3⟩ := row_cells h
 refine ⟨ao, c, e, h1, h2, fun h0 => ?_⟩
 obtain ⟨g, rfl, hg, hc⟩ := h3 h0
 refine ⟨g, 0, rfl, hg, fun j hj => ?_⟩
 have k := fun r (hr : r < 5) => flat_at (fun z : Zn => [.int .i64 z.kind, .int .i64 z.feature, .int .i64 z.lower, .int .i64 z.upper, .bool z.bonus]) 5 (fun _ => rfl) l j hj r hr
 have e1 : l.getD j Zn.none = l[j] := by rw [List.getD_eq_getElem?_getD, List.getElem?_eq_getElem hj]; rfl
 rw [e1, Nat.zero_add]
 exact ⟨hc _ _ (k 0 (by omega)), hc _ _ (k 1 (by omega)), hc _ _ (k 2 (by omega)), hc _ _ (k 3 (by omega)), hc _ _ (k 4 (by omega))⟩
theorem infoFeat : (Tryz.prog.info? 28).map (fun i => (i.zero, i.size, i.bytes)) = some (some (.agg #[.string ⟨#[]⟩, .int .i64 0, .int .i64 0, .int .i64 0, .int .i64 0, .int .i64 0]), 6, 56) := by kernel_rfl
theorem infoZone : (Tryz.prog.info? 30).map (fun i => (i.zero, i.size, i.bytes)) = some (some (.agg #[.int .i64 0, .int .i64 0, .int .i64 0, .int .i64 0, .bool false]), 5, 40) := by kernel_rfl
theorem lim_vars (n k : Nat) : ∀ m, m ≤ n → (varsTo (limFeats n) (limZones k) m).length = 2 * m
 | 0, _ => rfl
 | m + 1, h => by
  rw [varsTo, List.length_append, lim_vars n k m (by omega)]
  have e : (limFeats n).getD m Feat.none = limFeat m := by
   rw [List.getD_eq_getElem?_getD]
   unfold limFeats
   rw [List.getElem?_map, List.getElem?_range (by omega)]
   rfl
  have z2 : zoneAt (limZones k) (m : Int) 3 = -1 := pos_none fun j _ hj => by
   rw [limZones_len] at hj
   have e2 : (limZones k).getD j Zn.none = limZone j := by
    rw [List.getD_eq_getElem?_getD]
    unfold limZones
    rw [List.getElem?_map, List.getElem?_range (by omega)]
    rfl
   show isZone (m : Int) 3 ((limZones k).getD j Zn.none) = false
   rw [e2]
   unfold isZone limZone
   rw [Bool.and_eq_false_iff]
   right
   rw [decide_eq_false_iff_not]
   show ¬ (1 : Int) + ((j % 2 : Nat) : Int) = 3
   omega
  have z : ¬ 0 ≤ zoneAt (limZones k) (m : Int) 3 := by rw [z2]; decide
  unfold varsAt
  rw [e, if_pos (show (limFeat m).kind = 2 from rfl), if_neg z]
  simp
  omega
theorem lim_rune : ∀ k : Nat, k < 18 → IntKind.i32.wrap (97 + (k : Int)) = 97 + (k : Int) := by decide
theorem lim_size : ∀ k : Nat, k < 18 → (Utf8.encode (97 + (k : Int))).size ≤ 4 := by decide
theorem lim_w1 {j : Nat} (h : j ≤ 1) : wrap64 (1 + (j : Int)) = 1 + (j : Int) := IntWalk.wrap64_in _ (by omega)
theorem lim_w1' {j : Nat} (h : j ≤ 1) : IntKind.i64.wrap (1 + (j : Int)) = 1 + (j : Int) := IntWalk.i64_in _ (by omega)
theorem lim_w2 {j : Nat} (h : j ≤ 33) : wrap64 (j : Int) = (j : Int) := IntWalk.wrap64_in _ (by omega)
theorem lim_w2' {j : Nat} (h : j ≤ 33) : IntKind.i64.wrap (j : Int) = (j : Int) := IntWalk.i64_in _ (by omega)
theorem two_at1 {w : World} {b : Nat} {x y : Value} {t : TypeId} (h : w.heap[b]? = some (.cells #[x, y] t (0, 0))) (u : Value) : (w.setCell ⟨b, 1, none⟩ u).heap[b]? = some (.cells #[x, u] t (0, 0)) := by
 simp [World.setCell, Array.getElem?_modify, h]
theorem two_cells0 {w : World} {b : Nat} {x y : Value} {t : TypeId} (h : w.heap[b]? = some (.cells #[x, y] t (0, 0))) : w.cell? ⟨b, 0, none⟩ = some x := by
 rw [block_cell h]
 rfl
theorem two_cells1 {w : World} {b : Nat} {x y : Value} {t : TypeId} (h : w.heap[b]? = some (.cells #[x, y] t (0, 0))) : w.cell? ⟨b, 1, none⟩ = some y := by
 rw [block_cell h]
 rfl
theorem said_DatumLimits {w : World} (hg : Glob w) (a : Int) (ha0 : (Lit.int .u8 a).wf = true) (b : Int) (hb0 : (Lit.int .u8 b).wf = true) :
  Calls Tryz.prog 3 #[.int .u8 a, .int .u8 b] w fun e w' => e = .returned (.bool true) ∧ Below w.heap.size w w' := by
 have ha : 0 ≤ a ∧ a ≤ 255 := by
  simp [Lit.wf, IntKind.min, IntKind.max, IntKind.bits, IntKind.signed] at ha0
  omega
 have hb : 0 ≤ b ∧ b ≤ 255 := by
  simp [Lit.wf, IntKind.min, IntKind.max, IntKind.bits, IntKind.signed] at hb0
  omega
 clear ha0 hb0
 have HG := Lib.hid hg
 obtain ⟨i0, hi, hz0, hz1, hz2⟩ := info_parts infoFeat
 have HI := Lib.hid (And.intro hi (And.intro hz0 (And.intro hz1 hz2)))
 obtain ⟨i1, hj, hy0, hy1, hy2⟩ := info_parts infoZone
 have HJ := Lib.hid (And.intro hj (And.intro hy0 (And.intro hy1 hy2)))
 obtain ⟨nF, hnF⟩ : ∃ n : Nat, a.tmod 18 = (n : Int) := ⟨(a.tmod 18).toNat, by rw [IntWalk.rem_in _ _ ha.1]; omega⟩
 have hF17 : nF ≤ 17 := by rw [IntWalk.rem_in _ _ ha.1] at hnF; omega
 obtain ⟨rZ, hrZ⟩ : ∃ n : Nat, b.tmod 34 = (n : Int) := ⟨(b.tmod 34).toNat, by rw [IntWalk.rem_in _ _ hb.1]; omega⟩
 have hZ33 : rZ ≤ 33 := by rw [IntWalk.rem_in _ _ hb.1] at hrZ; omega
 have HB33 := Lib.hid (And.intro hF17 hZ33)
 have HREM := Lib.hid (And.intro hnF hrZ)
 clear hi hz0 hz1 hz2 hj hy0 hy1 hy2 hg hnF hrZ
 go_enter Tryz.func3, Tryz.ntmps3
 go_wp2_with fail
 refine (known_any HG.out).mono ?_
 rintro e w1 ⟨rfl, hb1⟩
 have HB1 := Lib.hid hb1
 clear hb1
 have hnF := HREM.out.1
 go_upto_region 4 with fail
 obtain ⟨ws, hws⟩ : ∃ x, x = w1.alloc (.cells #[.slice none 0 0, .slice none 0 0] 26) := ⟨_, rfl⟩
 obtain ⟨bs, hbs⟩ : ∃ b, b = w1.heap.size := ⟨_, rfl⟩
 rw [← hws, ← hbs]
 have hl1 : Below w1.heap.size w1 ws := by rw [hws]; exact (Below.refl _ w1).alloc (Nat.le_refl _) _
 have ks : ws.heap[bs]? = some (.cells #[.slice none 0 0, .slice none 0 0] 26 (0, 0)) := by rw [hws, hbs]; exact heap_alloc_new w1 _
 have HBS := Lib.hid (show w.heap.size ≤ bs by have := HB1.out.size; omega)
 have HBX := Lib.hid (HB1.out.trans (hl1.mono HB1.out.size))
 have HKS := Lib.hid ks
 clear hws hbs hl1 ks HB1
 go_wp2_with fail
 clear hnF
 go_loopg [16] nF (fun gk i wr => ∃ k : Nat, k + gk = nF ∧ i = .int .i64 k ∧ Hid (∃ v, wr.heap[bs]? = some (.cells #[v, .slice none 0 0] 26 (0, 0)) ∧ wr.ownsRow w.heap.size 28 6 v k (featCells (limFeats k))) ∧ Hid (Below w.heap.size w wr))
 case atStart => exact ⟨0, by omega, rfl, Lib.hid ⟨.slice none 0 0, HKS.out, World.ownsRow_nil _ _ _ _⟩, HBX⟩
 case round =>
  obtain ⟨k, hk, rfl, hrow, hbw⟩ := hrel
  obtain ⟨v, hks, hro⟩ := hrow.out
  by_cases hlt : k < nF
  ·have e1 : ((k : Int) < (nF : Int)) = True := eq_true (by omega)
   have HKS2 := Lib.hid hks
   have HRO := Lib.hid hro
   have HLT := Lib.hid (And.intro hlt HB33.out)
   have s0 := two_cells0 hks
   have w1 : wrap64 (97 + (k : Int)) = 97 + (k : Int) := IntWalk.wrap64_in _ (by have := HB33.out; omega)
   have w1' : IntKind.i64.wrap (97 + (k : Int)) = 97 + (k : Int) := IntWalk.i64_in _ (by have := HB33.out; omega)
   have w3' : IntKind.i64.wrap ((k : Int) - 1) = (k : Int) - 1 := IntWalk.i64_in _ (by have := HB33.out; omega)
   have w2 := lim_rune k (by have := HB33.out; omega)
   have w3 : wrap64 ((k : Int) - 1) = (k : Int) - 1 := IntWalk.wrap64_in _ (by have := HB33.out; omega)
   have hes := lim_size k (by have := HB33.out; omega)
   obtain ⟨E, hE⟩ : ∃ E, E = Utf8.encode (97 + (k : Int)) := ⟨_, rfl⟩
   rw [← hE] at hes
   have hE' : Utf8.encode (97 + (k : Int)) = E := hE.symm
   have HE := Lib.hid hE
   clear hks hro hlt hrow hE
   have e4 : (9223372036854775807 < 1 + E.size) = False := eq_false (by omega)
   go_wp2_with (at_builtin; refine wpList_append_own _ rfl _ _ 23 rfl w.heap.size 28 i0 _ 6 56 Tryz.underlying23 HI.out.1 HI.out.2.1 HI.out.2.2.1 HI.out.2.2.2 rfl (by decide) _ _ _ rfl (World.ownsRow.alloc HRO.out _) ⟨wr.heap.size, 0, none⟩ 1 1 [.string ((⟨#[102]⟩ : ByteArray) ++ E), .int .i64 2, .int .i64 0, .int .i64 ((k : Int) - 1), .int .i64 0, .int .i64 1] rfl rfl ?c1 ?c2 ?c3 ?c4 ?c5 ?_)
   case c1 => exact World.news_of_block (heap_alloc_new wr _)
   case c2 => simp [Value.oneCell']
   case c3 => have := HLT.out; unfold maxLen; omega
   case c4 => have := HLT.out; omega
   case c5 => have := hbw.out.size; simp; omega
   intro v2 w2 hown2 hg2 _
   obtain ⟨a2, c2, rfl, -, -⟩ := row_shape hown2
   obtain ⟨v2, hv2⟩ : ∃ x, x = Value.slice a2 (k + 1) c2 := ⟨_, rfl⟩
   rw [← hv2] at hown2
   obtain ⟨W1, hW1⟩ : ∃ x, x = wr.alloc (.cells #[.string ((⟨#[102]⟩ : ByteArray) ++ E), .int .i64 2, .int .i64 0, .int .i64 ((k : Int) - 1), .int .i64 0, .int .i64 1] 28) := ⟨_, rfl⟩
   have hl1 : Below wr.heap.size wr W1 := by rw [hW1]; exact (Below.refl _ wr).alloc (Nat.le_refl _) _
   rw [← hW1] at hg2
   have hbs := lt_of_block HKS2.out
   have ks2 : w2.heap[bs]? = some (.cells #[v, .slice none 0 0] 26 (0, 0)) := (hg2.block bs (Nat.lt_of_lt_of_le hbs hl1.size) (fun e => row_off HRO.out HKS2.out (by decide) bs e.symm rfl)).trans ((hl1.block bs hbs).trans HKS2.out)
   have hb2 : Below w.heap.size w w2 := (hbw.out.trans (hl1.mono hbw.out.size)).grown hg2 (by have h1 := hbw.out.size; have h2 := hl1.size; omega) (fun q e => (row_lt HRO.out q e).1)
   have t0 := block_cell ks2 0
   have f0 := block_free ks2 0
   simp at t0
   have F1 := two_at0 ks2 v2
   have F2 := row_setNe hown2 (row_off hown2 ks2 (by decide)) 0 v2
   have F3 := hb2.setCell (p := ⟨bs, 0, none⟩) HBS.out v2
   rw [hv2] at F1 F2 F3
   replace F1 := Lib.hid F1
   replace F2 := Lib.hid F2
   replace F3 := Lib.hid F3
   clear hv2 hown2 hW1 hl1 hg2 hbs ks2 hb2 s0 hbw
   go_wp2_with fail
   go_roundg (nF - (k + 1))
   case measure => have := HLT.out; omega
   case rel =>
    refine ⟨k + 1, by have := HLT.out; omega, by congr 1, Lib.hid ⟨_, F1.out, ?_⟩, F3⟩
    rw [limFeats_succ, featCells_snoc]
    unfold limFeat
    rw [← HE.out]
    exact F2.out
  ·have e1 : ((k : Int) < (nF : Int)) = False := eq_false (by omega)
   obtain rfl : k = nF := by omega
   have hl := limFeats_len k
   obtain ⟨af, cf, rfl, hfi⟩ := feats_read (l := limFeats k) (by rw [hl]; exact hro)
   rw [hl] at hks hro
   have HKS2 := Lib.hid hks
   have HRO := Lib.hid hro
   have s0 := two_cells0 hks
   have hrZ := HREM.out.2
   have w1 : wrap64 (2 * (k : Int)) = 2 * (k : Int) := IntWalk.wrap64_in _ (by have := HB33.out; omega)
   have w2 : wrap64 (2 * (k : Int) + 1) = 2 * (k : Int) + 1 := IntWalk.wrap64_in _ (by have := HB33.out; omega)
   obtain ⟨nZ, hnZ⟩ : ∃ n : Nat, min (rZ : Int) (2 * (k : Int) + 1) = (n : Int) := ⟨min rZ (2 * k + 1), by omega⟩
   have hnZ33 : nZ ≤ 33 := by have := HB33.out; omega
   have HZ33 := Lib.hid hnZ33
   clear hks hro hrow hl hfi hnZ33
   go_wp2_with fail
   clear hrZ w1 w2 hnZ s0 e1
   have HBW := Lib.hid hbw.out
   go_loopg [42] nZ (fun gk i wr => ∃ j : Nat, j + gk = nZ ∧ i = .int .i64 j ∧ Hid (∃ v, wr.heap[bs]? = some (.cells #[.slice af k cf, v] 26 (0, 0)) ∧ wr.ownsRow w.heap.size 28 6 (.slice af k cf) k (featCells (limFeats k)) ∧ wr.ownsRow w.heap.size 30 5 v j (zoneCells (limZones j))) ∧ Hid (Below w.heap.size w wr))
   case atStart => exact ⟨0, by omega, rfl, Lib.hid ⟨.slice none 0 0, HKS2.out, HRO.out, World.ownsRow_nil _ _ _ _⟩, HBW⟩
   case round =>
    clear hbw HKS2 HRO
    obtain ⟨j, hj, rfl, hrow, hbw⟩ := hrel
    obtain ⟨v, hks, hro, hrz⟩ := hrow.out
    by_cases hlt : j < nZ
    ·have e1 : ((j : Int) < (nZ : Int)) = True := eq_true (by omega)
     have HKS2 := Lib.hid hks
     have HRO := Lib.hid hro
     have HRZ := Lib.hid hrz
     have HLT := Lib.hid (And.intro hlt HZ33.out)
     have s1 := two_cells1 hks
     obtain ⟨jm, hjm⟩ : ∃ x : Nat, x = j % 2 := ⟨_, rfl⟩
     obtain ⟨jq, hjq⟩ : ∃ x : Nat, x = j / 2 := ⟨_, rfl⟩
     have hjm2 : jm ≤ 1 := by omega
     have hjq2 : jq ≤ 33 := by have := HLT.out; omega
     have q1 : (j : Int).tmod 2 = (jm : Int) := by rw [hjm]; rfl
     have q2 : (j : Int).tdiv 2 = (jq : Int) := by rw [hjq]; rfl
     have w1 := lim_w1 hjm2
     have w1' := lim_w1' hjm2
     have w2 := lim_w2 hjq2
     have w2' := lim_w2' hjq2
     have HJ2 := Lib.hid (And.intro hjm hjq)
     clear hks hro hrz hlt hrow hjm hjq hjm2 hjq2
     go_wp2_with (at_builtin; refine wpList_append_own _ rfl _ _ 24 rfl w.heap.size 30 i1 _ 5 40 Tryz.underlying24 HJ.out.1 HJ.out.2.1 HJ.out.2.2.1 HJ.out.2.2.2 rfl (by decide) _ _ _ rfl (World.ownsRow.alloc HRZ.out _) ⟨wr.heap.size, 0, none⟩ 1 1 [.int .i64 (1 + (jm : Int)), .int .i64 (jq : Int), .int .i64 0, .int .i64 0, .bool false] rfl rfl ?c1 ?c2 ?c3 ?c4 ?c5 ?_)
     case c1 => exact World.news_of_block (heap_alloc_new wr _)
     case c2 => simp [Value.oneCell']
     case c3 => have := HLT.out; unfold maxLen; omega
     case c4 => have := HLT.out; omega
     case c5 => have := hbw.out.size; simp; omega
     intro v2 w2 hown2 hg2 _
     obtain ⟨a2, c2, rfl, -, -⟩ := row_shape hown2
     obtain ⟨v2, hv2⟩ : ∃ x, x = Value.slice a2 (j + 1) c2 := ⟨_, rfl⟩
     rw [← hv2] at hown2
     obtain ⟨W1, hW1⟩ : ∃ x, x = wr.alloc (.cells #[.int .i64 (1 + (jm : Int)), .int .i64 (jq : Int), .int .i64 0, .int .i64 0, .bool false] 30) := ⟨_, rfl⟩
     have hl1 : Below wr.heap.size wr W1 := by rw [hW1]; exact (Below.refl _ wr).alloc (Nat.le_refl _) _
     rw [← hW1] at hg2
     have hbs := lt_of_block HKS2.out
     have ks2 : w2.heap[bs]? = some (.cells #[.slice af k cf, v] 26 (0, 0)) := (hg2.block bs (Nat.lt_of_lt_of_le hbs hl1.size) (fun e => row_off HRZ.out HKS2.out (by decide) bs e.symm rfl)).trans ((hl1.block bs hbs).trans HKS2.out)
     have hb2 : Below w.heap.size w w2 := (hbw.out.trans (hl1.mono hbw.out.size)).grown hg2 (by have h1 := hbw.out.size; have h2 := hl1.size; omega) (fun q e => (row_lt HRZ.out q e).1)
     have ro2 : w2.ownsRow w.heap.size 28 6 (.slice af k cf) k (featCells (limFeats k)) := row_turns (row_below HRO.out hl1) hg2 (row_below HRZ.out hl1) (by decide)
     have t1 := block_cell ks2 1
     have f1 := block_free ks2 1
     simp at t1
     have F1 := two_at1 ks2 v2
     have F2 := row_setNe hown2 (row_off hown2 ks2 (by decide)) 1 v2
     have F3 := hb2.setCell (p := ⟨bs, 1, none⟩) HBS.out v2
     have F4 := row_setNe ro2 (row_off ro2 ks2 (by decide)) 1 v2
     rw [hv2] at F1 F2 F3 F4
     replace F1 := Lib.hid F1
     replace F2 := Lib.hid F2
     replace F3 := Lib.hid F3
     replace F4 := Lib.hid F4
     clear hv2 hown2 hW1 hl1 hg2 hbs ks2 hb2 s1 hbw ro2
     go_wp2_with fail
     go_roundg (nZ - (j + 1))
     case measure => have := HLT.out; omega
     case rel =>
      refine ⟨j + 1, by have := HLT.out; omega, by congr 1; exact (IntWalk.wrap64_in _ (by have := HLT.out; omega)).trans (by omega), Lib.hid ⟨_, F1.out, F4.out, ?_⟩, F3⟩
      rw [limZones_succ, zoneCells_snoc]
      unfold limZone
      rw [← HJ2.out.1, ← HJ2.out.2]
      exact F2.out
    ·have e1 : ((j : Int) < (nZ : Int)) = False := eq_false (by omega)
     obtain rfl : j = nZ := by omega
     have hlz := limZones_len j
     have hlf := limFeats_len k
     obtain ⟨az, cz, rfl, hzi⟩ := zones_read (l := limZones j) (by rw [hlz]; exact hrz)
     obtain ⟨af', cf', he, hfi⟩ := feats_read (l := limFeats k) (by rw [hlf]; exact hro)
     rw [hlf] at he
     simp only [Value.slice.injEq, true_and] at he
     obtain ⟨rfl, rfl⟩ := he
     rw [hlz] at hks
     have hsi : SchemeIn wr af cf az cz (limFeats k) (limZones j) := ⟨hfi, hzi⟩
     obtain ⟨E, hE⟩ : ∃ x, x = check (limFeats k) (limZones j) := ⟨_, rfl⟩
     have hva := fun (W : World) (hW : SchemeIn W af cf az cz (limFeats k) (limZones j)) => Variables_any hW
     have hqc := fun (W : World) (hW : SchemeIn W af cf az cz (limFeats k) (limZones j)) => qcheck_any hW
     have hdc := fun (W : World) (hW : SchemeIn W af cf az cz (limFeats k) (limZones j)) => Check_any hW
     have hvl : (dimsTo (limFeats k) (limZones j)).length = 2 * k := by
      unfold dimsTo
      rw [List.length_map, hlf]
      exact lim_vars k j k (Nat.le_refl _)
     unfold VariablesPost at hva
     simp only [hlf, hlz, ← hE, hvl] at hva hqc hdc
     have HSI := Lib.hid hsi
     have HVA := Lib.hid hva
     have HQC := Lib.hid hqc
     have HDC := Lib.hid hdc
     have HKS2 := Lib.hid hks
     have s0 := two_cells0 hks
     have s1 := two_cells1 hks
     clear hks hro hrz hrow hlz hlf hzi hfi hsi hE hva hqc hdc hvl
     go_wp2_with fail
     refine (HVA.out wr HSI.out).mono ?_
     rintro e w3 ⟨v3, rfl, hok, hbad, hb3⟩
     have HB3 := Lib.hid (hbw.out.trans (hb3.mono hbw.out.size))
     have HSI3 := Lib.hid (HSI.out.below hb3)
     have s0 := cell_below hb3 (two_cells0 HKS2.out)
     have s1 := cell_below hb3 (two_cells1 HKS2.out)
     have HOK := Lib.hid (And.intro hok hbad)
     clear hok hbad hb3 hbw
     go_wp2_with fail
     refine (HQC.out w3 HSI3.out).mono ?_
     rintro e w4 ⟨rfl, hb4⟩
     have HB4 := Lib.hid (HB3.out.trans (hb4.mono HB3.out.size))
     have HSI4 := Lib.hid (HSI3.out.below hb4)
     have s0 := cell_below hb4 s0
     have s1 := cell_below hb4 s1
     have e0 : (E == E) = true := by simp
     clear hb4
     go_wp2_with fail
     refine (HDC.out w4 HSI4.out).mono ?_
     rintro e w5 ⟨rfl, hb5⟩
     have HB5 := Lib.hid (HB4.out.trans (hb5.mono HB4.out.size))
     have s0 := cell_below hb5 s0
     have s1 := cell_below hb5 s1
     clear hb5
     by_cases hz : E = 0
     ·have ez : (E == 0) = true := by rw [hz]; rfl
      have enz : (E != 0) = false := by rw [hz]; rfl
      obtain ⟨a3, c3, rfl, -, -⟩ := row_shape (HOK.out.1 hz)
      obtain ⟨n2, hn2⟩ : ∃ x, x = 2 * k := ⟨_, rfl⟩
      rw [← hn2]
      have w1 : wrap64 (2 * (k : Int)) = (n2 : Int) := (IntWalk.wrap64_in _ (by have := HB33.out; omega)).trans (by omega)
      have w1' : IntKind.i64.wrap (2 * (k : Int)) = (n2 : Int) := (IntWalk.i64_in _ (by have := HB33.out; omega)).trans (by omega)
      have e9 : ((n2 : Int) == (n2 : Int)) = true := by simp
      clear hn2
      go_wp2_with fail
      go_ret
      exact ⟨rfl, HB5.out⟩
     ·have ez : (E == 0) = false := beq_eq_false_iff_ne.2 hz
      have enz : (E != 0) = true := bne_iff_ne.2 hz
      go_wp2_with fail
      go_ret
      exact ⟨rfl, HB5.out⟩
end Go.Proofs.YtgofihilkobenaaGreatDoor
