/- Rows of rationals that are made whole, and stored into at any place; the grower's state while a statement draws its order. -/
import Derived.Test.YtdgimcmappmjdaaGreatDoorPGrM
import Derived.Test.YtdgimcmappmjdaaGreatDoorKH
import Derived.Test.YtdgimcmappmjdaaGreatDoorFlow3M
set_option linter.unusedSimpArgs false
set_option linter.unusedVariables false
set_option maxRecDepth 100000
namespace Go.Proofs.YtdgimcmappmjdaaGreatDoor
open Go.RowKit Go.Num Go.Flow
open Go.FlowX (setL)
set_option maxHeartbeats 4000000

theorem RatRow.put {w : World} {g n : Nat} {rs : List Rat} {K : Nat} {r : Rat} {s1 : Bool} {a1 : Option Addr} {c1 l1 : Nat} {s2 : Bool} {a2 : Option Addr} {c2 l2 : Nat} (h : RatRow w g n rs K) (hn : rs.length = n) {i : Nat} (hi : i < n) (hr : RtIn w (.agg #[.bool s1, .slice a1 c1 l1, .bool s2, .slice a2 c2 l2]) r K) :
  RatRow ((((w.setCell ⟨g, i * 4, none⟩ (.bool s1)).setCell ⟨g, i * 4 + 1, none⟩ (.slice a1 c1 l1)).setCell ⟨g, i * 4 + 2, none⟩ (.bool s2)).setCell ⟨g, i * 4 + 3, none⟩ (.slice a2 c2 l2)) g n (rs.set i r) K := by
 obtain ⟨cs, h1, h2, h3, h4⟩ := h
 have k1 := heap_setCell_same w g (i * 4) cs _ (.bool s1) h1
 have k2 := heap_setCell_same _ g (i * 4 + 1) _ _ (.slice a1 c1 l1) k1
 have k3 := heap_setCell_same _ g (i * 4 + 2) _ _ (.bool s2) k2
 have k4 := heap_setCell_same _ g (i * 4 + 3) _ _ (.slice a2 c2 l2) k3
 have d1 := nodig_set h3 (i * 4) (v := .bool s1) (fun _ h => by cases h)
 have d2 := nodig_set d1 (i * 4 + 1) (v := .slice a1 c1 l1) (fun _ h => by cases h)
 have d3 := nodig_set d2 (i * 4 + 2) (v := .bool s2) (fun _ h => by cases h)
 have d4 := nodig_set d3 (i * 4 + 3) (v := .slice a2 c2 l2) (fun _ h => by cases h)
 have kp : ∀ {v : Value} {q : Rat}, RtIn w v q K → RtIn ((((w.setCell ⟨g, i * 4, none⟩ (.bool s1)).setCell ⟨g, i * 4 + 1, none⟩ (.slice a1 c1 l1)).setCell ⟨g, i * 4 + 2, none⟩ (.bool s2)).setCell ⟨g, i * 4 + 3, none⟩ (.slice a2 c2 l2)) v q K :=
  fun hq => (((hq.keep h1 h3 _ _).keep k1 d1 _ _).keep k2 d2 _ _).keep k3 d3 _ _
 refine ⟨_, k4, by simp only [Array.size_setIfInBounds]; exact h2, d4, fun j hj => ?_⟩
 rw [List.length_set] at hj
 simp only [Array.getElem?_setIfInBounds, Array.size_setIfInBounds, h2]
 by_cases hlt : j = i
 ·subst hlt
  refine ⟨.bool s1, .slice a1 c1 l1, .bool s2, .slice a2 c2 l2, ?_, ?_, ?_, ?_, ?_⟩
  ·rw [if_neg (by omega), if_neg (by omega), if_neg (by omega), if_pos rfl, if_pos (by omega)]
  ·rw [if_neg (by omega), if_neg (by omega), if_pos rfl, if_pos (by omega)]
  ·rw [if_neg (by omega), if_pos rfl, if_pos (by omega)]
  ·rw [if_pos rfl, if_pos (by omega)]
  ·rw [show (rs.set j r).getD j 0 = r by rw [List.getD_eq_getElem?_getD, List.getElem?_set_self hj]; rfl]
   exact kp hr
 ·obtain ⟨c0, c1', c2', c3, e0, e1, e2, e3, hq⟩ := h4 j hj
  refine ⟨c0, c1', c2', c3, ?_, ?_, ?_, ?_, ?_⟩
  ·rw [if_neg (by omega), if_neg (by omega), if_neg (by omega), if_neg (by omega)]; exact e0
  ·rw [if_neg (by omega), if_neg (by omega), if_neg (by omega), if_neg (by omega)]; exact e1
  ·rw [if_neg (by omega), if_neg (by omega), if_neg (by omega), if_neg (by omega)]; exact e2
  ·rw [if_neg (by omega), if_neg (by omega), if_neg (by omega), if_neg (by omega)]; exact e3
  ·rw [show (rs.set i r).getD j 0 = rs.getD j 0 by rw [List.getD_eq_getElem?_getD, List.getD_eq_getElem?_getD, List.getElem?_set_ne (Ne.symm hlt)]]
   exact kp hq
theorem made_at (z : Array Value) (n i : Nat) (h : i < n) (u : Value) (hz : z[i % z.size]! = u) : (madeCells z n)[i]? = some u := by
 simp [madeCells, h, hz]
theorem ratrow_zeros (w : World) (n K : Nat) : RatRow (w.alloc (.cells (madeCells #[.bool false, .slice none 0 0, .bool false, .slice none 0 0] (n * 4)) 43)) w.heap.size n (List.replicate n 0) K := by
 obtain ⟨cs, h1, h2, h3, -⟩ := ratrow_made w n K
 refine ⟨cs, h1, h2, h3, fun j hj => ?_⟩
 rw [List.length_replicate] at hj
 have e : cs = madeCells #[.bool false, .slice none 0 0, .bool false, .slice none 0 0] (n * 4) := by
  have h := ZW w (.cells (madeCells #[.bool false, .slice none 0 0, .bool false, .slice none 0 0] (n * 4)) 43)
  have := h1.symm.trans h
  simpa using this
 subst e
 refine ⟨.bool false, .slice none 0 0, .bool false, .slice none 0 0, made_at _ _ _ (by omega) _ ?_, made_at _ _ _ (by omega) _ ?_, made_at _ _ _ (by omega) _ ?_, made_at _ _ _ (by omega) _ ?_, ?_⟩
 ·show (#[.bool false, .slice none 0 0, .bool false, .slice none 0 0] : Array Value)[j * 4 % 4]! = _
  rw [show j * 4 % 4 = 0 by omega]; rfl
 ·show (#[.bool false, .slice none 0 0, .bool false, .slice none 0 0] : Array Value)[(j * 4 + 1) % 4]! = _
  rw [show (j * 4 + 1) % 4 = 1 by omega]; rfl
 ·show (#[.bool false, .slice none 0 0, .bool false, .slice none 0 0] : Array Value)[(j * 4 + 2) % 4]! = _
  rw [show (j * 4 + 2) % 4 = 2 by omega]; rfl
 ·show (#[.bool false, .slice none 0 0, .bool false, .slice none 0 0] : Array Value)[(j * 4 + 3) % 4]! = _
  rw [show (j * 4 + 3) % 4 = 3 by omega]; rfl
 ·rw [show (List.replicate n (0 : Rat)).getD j 0 = 0 by rw [List.getD_eq_getElem?_getD, List.getElem?_replicate]; split <;> rfl]
  exact zero_rt _ _
theorem RatRow.at4 {w : World} {g n : Nat} {rs : List Rat} {K : Nat} (h : RatRow w g n rs K) {j : Nat} (hj : j < rs.length) : ∃ s1 a1 c1 l1 s2 a2 c2 l2, w.cell? ⟨g, j * 4, none⟩ = some (.bool s1) ∧ w.cell? ⟨g, j * 4 + 1, none⟩ = some (.slice a1 c1 l1) ∧ w.cell? ⟨g, j * 4 + 2, none⟩ = some (.bool s2) ∧ w.cell? ⟨g, j * 4 + 3, none⟩ = some (.slice a2 c2 l2) ∧ RtIn w (.agg #[.bool s1, .slice a1 c1 l1, .bool s2, .slice a2 c2 l2]) (rs.getD j 0) K := by
 obtain ⟨cs, h1, h2, h3, h4⟩ := h
 obtain ⟨c0, c1, c2, c3, e0, e1, e2, e3, hr⟩ := h4 j hj
 obtain ⟨s1, a1, d1, l1, s2, a2, d2, l2, e⟩ := rt_shape hr
 simp only [Value.agg.injEq] at e
 have e := congrArg Array.toList e
 simp only [List.cons.injEq, and_true] at e
 obtain ⟨rfl, rfl, rfl, rfl⟩ := e
 exact ⟨s1, a1, d1, l1, s2, a2, d2, l2, by rw [ZI h1]; exact e0, by rw [ZI h1]; exact e1, by rw [ZI h1]; exact e2, by rw [ZI h1]; exact e3, hr⟩
theorem RatRow.nobyte {w : World} {g n : Nat} {rs : List Rat} {K : Nat} (h : RatRow w g n rs K) (hn : rs.length = n) : NoByteAt w g := by
 intro i x e
 have hi : i < n * 4 := by
  obtain ⟨cs, h1, h2, -⟩ := h
  rw [ZI h1] at e
  rcases Nat.lt_or_ge i (n * 4) with h | h
  ·exact h
  ·rw [Array.getElem?_eq_none (by omega)] at e; cases e
 obtain ⟨s1, a1, c1, l1, s2, a2, c2, l2, e0, e1, e2, e3, -⟩ := h.at4 (j := i / 4) (by omega)
 rcases (show i = i / 4 * 4 ∨ i = i / 4 * 4 + 1 ∨ i = i / 4 * 4 + 2 ∨ i = i / 4 * 4 + 3 by omega) with h | h | h | h
 ·rw [← h, e] at e0; cases e0
 ·rw [← h, e] at e1; cases e1
 ·rw [← h, e] at e2; cases e2
 ·rw [← h, e] at e3; cases e3
theorem RatRow.nodig {w : World} {g n : Nat} {rs : List Rat} {K : Nat} (h : RatRow w g n rs K) : NoDigAt w g := by
 obtain ⟨cs, h1, h2, h3, -⟩ := h
 intro i x e
 rw [ZI h1] at e
 exact h3 _ _ e x rfl
theorem RatRow.lt {w : World} {g n : Nat} {rs : List Rat} {K : Nat} (h : RatRow w g n rs K) : g < w.heap.size := by
 obtain ⟨cs, h1, -⟩ := h
 exact ZL h1
theorem RatRow.but {w w' : World} {g n b : Nat} {rs : List Rat} {K : Nat} (h : RatRow w g n rs K) (hg : g ≠ b) (hn : NoDigAt w b) (hu : But b w w') : RatRow w' g n rs K := by
 obtain ⟨cs, h1, h2, h3, h4⟩ := h
 refine ⟨cs, (hu.block g hg (ZL h1)).trans h1, h2, h3, fun j hj => ?_⟩
 obtain ⟨c0, c1, c2, c3, e0, e1, e2, e3, hr⟩ := h4 j hj
 exact ⟨c0, c1, c2, c3, e0, e1, e2, e3, hr.but hn hu⟩
theorem RatRow.reads {w : World} {g n : Nat} {rs : List Rat} {K : Nat} (h : RatRow w g n rs K) (hn : rs.length = n) (hm : n ≤ maxLen) : RatsAt w (some ⟨g, 0, none⟩) n rs K := by
 refine ⟨by omega, hm, fun _ => ⟨g, 0, rfl, h.lt, fun j hj => ?_⟩⟩
 obtain ⟨s1, a1, c1, l1, s2, a2, c2, l2, e0, e1, e2, e3, hr⟩ := h.at4 hj
 rw [Nat.zero_add]
 exact ⟨s1, a1, c1, l1, s2, a2, c2, l2, e0, e1, e2, e3, hr⟩
/-- Globals stay when the grower turns. -/
theorem Glob.gr {w w' : World} (h : Glob w) {b : Nat} {l : List Int} {d c : Nat} (hk : GrIn w b l d c) (hg : Gb b w w') : Glob w' := by
 obtain ⟨ao, cv, hk, -⟩ := hk
 have ht := h.tab
 refine ⟨?_, ?_⟩
 ·unfold Lib.TabIs World.var? at *
  cases hn : Tryz.prog.globalNamed "internal/strconv.uint64pow10" with
  | none => rw [hn] at ht; cases ht
  | some g =>
   rw [hn] at ht
   simp only [Option.bind_some] at ht ⊢
   have hi : g < w.heap.size := by
    rcases Nat.lt_or_ge g w.heap.size with h | h
    ·exact h
    ·rw [Array.getElem?_eq_none h] at ht; cases ht
   have hgb : g ≠ b := by
    rintro rfl
    rw [hk] at ht
    simp only [Option.some.injEq] at ht
    have h0 := congrArg (·[0]?) ht
    simp at h0
    cases hz : Lib.pow10Tab[0]? with
    | none => rw [hz] at h0; simp at h0
    | some z => rw [hz] at h0; simp at h0
   rw [hg.block g hi (by simpa using hgb)]
   exact ht
 ·obtain ⟨m, hm⟩ := h.maxl
  have hgb : 0 ≠ b := by
   rintro rfl
   rw [ZI hk] at hm
   simp at hm
  refine ⟨m, cell_keep (hg.block _ ?_ (by simpa using hgb)) hm⟩
  unfold World.cell? at hm
  rcases Nat.lt_or_ge 0 w.heap.size with h1 | h1
  ·exact h1
  ·rw [Array.getElem?_eq_none h1] at hm
   cases hm
/-- The grower between two calls, p and q, of a statement that draws its order. -/
structure TwoGr (b d c p q : Nat) (l : List Int) (L : Nat → Bool) (w : World) : Prop where
 ord : L q = true → L p = true
 s0 : L p = false → GrIn w b l d c
 s1 : L p = true → L q = false → GrIn w b l.tail d c
 s2 : L q = true → GrIn w b l.tail.tail d c
section
variable {b d c p q : Nat} {l : List Int} {L L' : Nat → Bool} {w w' : World}
theorem TwoGr.init (h : GrIn w b l d c) : TwoGr b d c p q l (fun _ => false) w := ⟨fun e => by simp at e, fun _ => h, fun e => by simp at e, fun e => by simp at e⟩
theorem TwoGr.below (h : TwoGr b d c p q l L w) (hp : L' p = L p) (hq : L' q = L q) (hb : Below w.heap.size w w') : TwoGr b d c p q l L' w' := by
 refine ⟨fun e => ?_, fun e => ?_, fun e f => ?_, fun e => ?_⟩
 ·rw [hp]; rw [hq] at e; exact h.ord e
 ·rw [hp] at e; exact (h.s0 e).below hb
 ·rw [hp] at e; rw [hq] at f; exact (h.s1 e f).below hb
 ·rw [hq] at e; exact (h.s2 e).below hb
theorem TwoGr.make1 (h : TwoGr b d c p q l L w) (hpq : q ≠ p) (hL : L p = false) (hg : GrIn w' b l.tail d c) : TwoGr b d c p q l (setL L p) w' := by
 have ep : setL L p p = true := by unfold setL; simp
 have eq : setL L p q = false := by
  unfold setL
  cases hq : L q with
  | false => simp [hpq]
  | true => rw [h.ord hq] at hL; cases hL
 exact ⟨fun _ => ep, fun e => (by rw [ep] at e; cases e), fun _ _ => hg, fun e => (by rw [eq] at e; cases e)⟩
theorem TwoGr.make2 (h : TwoGr b d c p q l L w) (hpq : p ≠ q) (hp : L p = true) (hg : GrIn w' b l.tail.tail d c) : TwoGr b d c p q l (setL L q) w' := by
 have eq : setL L q q = true := by unfold setL; simp
 have ep : setL L q p = true := by unfold setL; simp [hp]
 have _ := h
 have _ := hpq
 exact ⟨fun _ => ep, fun e => (by rw [ep] at e; cases e), fun _ e => (by rw [eq] at e; cases e), fun _ => hg⟩
theorem TwoGr.any (h : TwoGr b d c p q l L w) : ∃ l', GrIn w b l' d c := by
 cases hp : L p with
 | false => exact ⟨_, h.s0 hp⟩
 | true =>
  cases hq : L q with
  | false => exact ⟨_, h.s1 hp hq⟩
  | true => exact ⟨_, h.s2 hq⟩
end
/-- The grower at one call, p. -/
structure OneGr (b d p : Nat) (l : List Int) (c : Nat) (l' : List Int) (c' : Nat) (L : Nat → Bool) (w : World) : Prop where
 s0 : L p = false → GrIn w b l d c
 s1 : L p = true → GrIn w b l' d c'
section
variable {b d p c c' : Nat} {l l' : List Int} {L L' : Nat → Bool} {w w' : World}
theorem OneGr.init (h : GrIn w b l d c) : OneGr b d p l c l' c' (fun _ => false) w := ⟨fun _ => h, fun e => by simp at e⟩
theorem OneGr.below (h : OneGr b d p l c l' c' L w) (hp : L' p = L p) (hb : Below w.heap.size w w') : OneGr b d p l c l' c' L' w' := by
 refine ⟨fun e => ?_, fun e => ?_⟩
 ·rw [hp] at e; exact (h.s0 e).below hb
 ·rw [hp] at e; exact (h.s1 e).below hb
theorem OneGr.make (hg : GrIn w' b l' d c') : OneGr b d p l c l' c' (setL L p) w' := by
 have ep : setL L p p = true := by unfold setL; simp
 exact ⟨fun e => (by rw [ep] at e; cases e), fun _ => hg⟩
end
/-- What may turn while the grower turns: what keeps its block free of digits. -/
def GrS (b : Nat) (w w' : World) : Prop := Gb b w w' ∧ (b < w.heap.size → NoDigAt w b → NoDigAt w' b)
theorem GrS.of {b : Nat} {w w' : World} (h : Below w.heap.size w w') : GrS b w w' := ⟨Gb.of h, fun hl hn i x e => hn i x (by
 have := World.cell?_of_block (a := ⟨b, i, none⟩) (h.block b hl)
 rw [← this]
 exact e)⟩
theorem GrS.gr {b : Nat} {w w' : World} {l : List Int} {d c : Nat} (h : Gb b w w') (hg : GrIn w' b l d c) : GrS b w w' := ⟨h, fun _ _ => gr_nodig hg⟩
theorem RtIn.grs {b : Nat} {w w' : World} {v : Value} {r : Rat} {k : Nat} (h : RtIn w v r k ∧ b < w.heap.size ∧ NoDigAt w b) (hs : GrS b w w') : RtIn w' v r k ∧ b < w'.heap.size ∧ NoDigAt w' b :=
 ⟨h.1.but h.2.2 hs.1.but, Nat.lt_of_lt_of_le h.2.1 hs.1.size, hs.2 h.2.1 h.2.2⟩
end Go.Proofs.YtdgimcmappmjdaaGreatDoor
