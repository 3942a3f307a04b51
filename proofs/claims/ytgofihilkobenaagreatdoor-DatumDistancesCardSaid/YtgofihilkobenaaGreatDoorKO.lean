/- Maps of two entries that are made inside a statement that draws its order. -/
import Derived.Test.YtgofihilkobenaaGreatDoorDVariablesM
import Derived.Test.YtgofihilkobenaaGreatDoorKL
import Derived.Test.YtgofihilkobenaaGreatDoorFlow3M
import Derived.Test.YtgofihilkobenaaGreatDoorKI
import Derived.Test.YtgofihilkobenaaGreatDoorKH
import Derived.Deep.LoopGhost
set_option maxRecDepth 100000
namespace Go.Proofs.YtgofihilkobenaaGreatDoor
open Go.RowKit Go.Num Go.Flow Go.Maps Go.WideMaps Go.Dtm
set_option maxHeartbeats 4000000
open FlowX (setL)

def cnt (a b : Bool) : Nat := a.toNat + b.toNat
/-- What a map of two entries holds when some of them are laid. -/
def mm (f g : Bool) (p : Int) (a : Rat) (q : Int) (b : Rat) : Int → Option Rat := fun j => if g = true ∧ j = q then some b else if f = true ∧ j = p then some a else none
structure Half (w : World) (B : Nat) (p q : Int) (a b : Rat) (m i j v : Nat) (L : Nat → Bool) (xs : Nat → Value) : Prop where
 map : L m = true → ∃ bl, xs m = .map (some bl) ∧ B ≤ bl ∧ RMapIn w bl (cnt (L i) (L j)) 2 (mm (L i) (L j) p a q b)
 move : L v = true → xs v = xs m ∧ L m = true ∧ L i = true ∧ L j = true
 one : L i = true → L m = true
 two : L j = true → L m = true
section
variable {w w' : World} {B : Nat} {p q : Int} {a b : Rat} {m i j v : Nat} {L L' : Nat → Bool} {xs xs' : Nat → Value}
theorem RMapIn.kept {bl c n K : Nat} {mp : Int → Option Rat} (h : RMapIn w bl n K mp) (hg : w.grownBy w' (some c)) (hs : Stays w w') (hne : bl ≠ c) : RMapIn w' bl n K mp := by
 obtain ⟨D, h1, h2⟩ := h
 refine ⟨D, h1.kept hg (by simpa using hne), fun k => ?_⟩
 have h3 := h2 k
 cases hm : mp k with
 | none => rw [hm] at h3; exact h3
 | some r =>
  rw [hm] at h3
  obtain ⟨h4, u, h5, h6⟩ := h3
  exact ⟨h4, u, h5, h6.stays hs⟩
theorem Half.agree (h : Half w B p q a b m i j v L xs) (hm : L' m = L m ∧ xs' m = xs m) (hi : L' i = L i) (hj : L' j = L j) (hv : L' v = L v ∧ xs' v = xs v) (hw : ∀ bl n mp, xs m = .map (some bl) → L m = true → RMapIn w bl n 2 mp → RMapIn w' bl n 2 mp) : Half w' B p q a b m i j v L' xs' := by
 refine ⟨fun e => ?_, fun e => ?_, fun e => ?_, fun e => ?_⟩
 ·rw [hm.1] at e
  obtain ⟨bl, e1, e2, e3⟩ := h.map e
  rw [hm.2, hi, hj]
  exact ⟨bl, e1, e2, hw bl _ _ e1 e e3⟩
 ·rw [hv.1] at e
  rw [hv.2, hm.2, hm.1, hi, hj]
  exact h.move e
 ·rw [hi] at e; rw [hm.1]; exact h.one e
 ·rw [hj] at e; rw [hm.1]; exact h.two e
theorem Half.init (xs : Nat → Value) : Half w B p q a b m i j v (fun _ => false) xs := ⟨fun e => (by cases e), fun e => (by cases e), fun e => (by cases e), fun e => (by cases e)⟩
theorem set_at (L : Nat → Bool) (k : Nat) : setL L k k = true := by simp [setL]
theorem set_ne (L : Nat → Bool) {k n : Nat} (h : n ≠ k) : setL L k n = L n := by simp [setL, h]
theorem upd_at (xs : Nat → Value) (k : Nat) (u : Value) : upd xs k u k = u := by simp [upd]
theorem upd_ne (xs : Nat → Value) {k n : Nat} (h : n ≠ k) (u : Value) : upd xs k u n = xs n := by simp [upd, h]
theorem Half.make (h : Half w B p q a b m i j v L xs) (hm : L m = false) (hB : B ≤ w.heap.size) (d : m ≠ i ∧ m ≠ j ∧ m ≠ v) : Half (w.alloc (.map #[] 0)) B p q a b m i j v (setL L m) (upd xs m (.map (some w.heap.size))) := by
 have hi : L i = false := by cases e : L i with
  | false => rfl
  | true => rw [h.one e] at hm; cases hm
 have hj : L j = false := by cases e : L j with
  | false => rfl
  | true => rw [h.two e] at hm; cases hm
 have hv : L v = false := by cases e : L v with
  | false => rfl
  | true => rw [(h.move e).2.1] at hm; cases hm
 refine ⟨fun _ => ⟨_, upd_at _ _ _, hB, ?_⟩, fun e => ?_, fun _ => set_at _ _, fun _ => set_at _ _⟩
 ·rw [set_ne L d.1.symm, set_ne L d.2.1.symm, hi, hj]
  have e : mm false false p a q b = fun _ => none := by funext k; simp [mm]
  rw [e]
  exact rmap_made w 2
 ·rw [set_ne L d.2.2.symm, hv] at e
  cases e
theorem Half.first (h : Half w B p q a b m i j v L xs) (hi : L i = false) (hpq : p ≠ q) {bl : Nat} (hb : xs m = .map (some bl)) (hm : L m = true) (d : m ≠ i ∧ i ≠ j ∧ i ≠ v) (u : Value)
  (e2 : B ≤ bl) (h4 : RMapIn w' bl (cnt (L i) (L j) + 1) 2 (fun k => if k = p then some a else mm (L i) (L j) p a q b k)) : Half w' B p q a b m i j v (setL L i) (upd xs i u) := by
 have hv : L v = false := by cases e : L v with
  | false => rfl
  | true => rw [(h.move e).2.2.1] at hi; cases hi
 refine ⟨fun _ => ⟨bl, by rw [upd_ne xs d.1]; exact hb, e2, ?_⟩, fun e => ?_, fun _ => by rw [set_ne L d.1]; exact hm, fun _ => by rw [set_ne L d.1]; exact hm⟩
 ·rw [set_at, set_ne L d.2.1.symm]
  rw [hi] at h4
  have e5 : (fun k => if k = p then some a else mm false (L j) p a q b k) = mm true (L j) p a q b := by
   funext k
   unfold mm
   by_cases hk : k = p
   ·subst hk
    simp [hpq]
   ·simp [hk]
  rw [e5] at h4
  exact h4.mono (by unfold cnt; cases L j <;> simp)
 ·rw [set_ne L d.2.2.symm, hv] at e
  cases e
theorem Half.second (h : Half w B p q a b m i j v L xs) (hj : L j = false) {bl : Nat} (hb : xs m = .map (some bl)) (hm : L m = true) (d : m ≠ j ∧ i ≠ j ∧ j ≠ v) (u : Value)
  (e2 : B ≤ bl) (h4 : RMapIn w' bl (cnt (L i) (L j) + 1) 2 (fun k => if k = q then some b else mm (L i) (L j) p a q b k)) : Half w' B p q a b m i j v (setL L j) (upd xs j u) := by
 have hv : L v = false := by cases e : L v with
  | false => rfl
  | true => rw [(h.move e).2.2.2] at hj; cases hj
 refine ⟨fun _ => ⟨bl, by rw [upd_ne xs d.1]; exact hb, e2, ?_⟩, fun e => ?_, fun _ => by rw [set_ne L d.1]; exact hm, fun _ => by rw [set_ne L d.1]; exact hm⟩
 ·rw [set_at, set_ne L d.2.1]
  rw [hj] at h4
  have e5 : (fun k => if k = q then some b else mm (L i) false p a q b k) = mm (L i) true p a q b := by
   funext k
   unfold mm
   by_cases hk : k = q
   ·simp [hk]
   ·simp [hk]
  rw [e5] at h4
  exact h4.mono (by unfold cnt; cases L i <;> simp)
 ·rw [set_ne L d.2.2.symm, hv] at e
  cases e
theorem Half.moved (h : Half w B p q a b m i j v L xs) (hm : L m = true) (hi : L i = true) (hj : L j = true) (d : m ≠ v ∧ i ≠ v ∧ j ≠ v) : Half w B p q a b m i j v (setL L v) (upd xs v (xs m)) := by
 refine ⟨fun _ => ?_, fun _ => ⟨?_, ?_, ?_, ?_⟩, fun _ => ?_, fun _ => ?_⟩
 ·rw [set_ne L d.2.1, set_ne L d.2.2, upd_ne xs d.1]
  exact h.map hm
 ·rw [upd_at, upd_ne xs d.1]
 ·rw [set_ne L d.1]; exact hm
 ·rw [set_ne L d.2.1]; exact hi
 ·rw [set_ne L d.2.2]; exact hj
 ·rw [set_ne L d.1]; exact hm
 ·rw [set_ne L d.1]; exact hm
end
/-- Two such maps. -/
structure ConX (p q : Int) (B : Nat) (L : Nat → Bool) (xs : Nat → Value) (w : World) : Prop where
 a : Half w B p q 1 (-1) 11 14 17 18 L xs
 b : Half w B p q (-1) (-1) 31 34 37 38 L xs
 ne : L 11 = true → L 31 = true → xs 31 ≠ xs 11
def conOps : List Nat := [11, 14, 17, 18, 31, 34, 37, 38]
theorem ConX.below {p q : Int} {B : Nat} {L L' : Nat → Bool} {xs xs' : Nat → Value} {w w' : World} (h : ConX p q B L xs w) (he : ∀ j, conOps.contains j = true → L' j = L j ∧ xs' j = xs j) (hb : Below w.heap.size w w') : ConX p q B L' xs' w' := by
 have k := fun j (hj : conOps.contains j = true) => he j hj
 refine ⟨h.a.agree (k 11 rfl) (k 14 rfl).1 (k 17 rfl).1 (k 18 rfl) fun _ _ _ _ _ e => e.below hb, h.b.agree (k 31 rfl) (k 34 rfl).1 (k 37 rfl).1 (k 38 rfl) fun _ _ _ _ _ e => e.below hb, fun e1 e2 => ?_⟩
 rw [(k 11 rfl).1] at e1
 rw [(k 31 rfl).1] at e2
 rw [(k 11 rfl).2, (k 31 rfl).2]
 exact h.ne e1 e2
section
variable {p q : Int} {B : Nat} {L : Nat → Bool} {xs : Nat → Value} {w w' : World}
theorem map_ne {x y : Nat} (h : x ≠ y) : Value.map (some x) ≠ .map (some y) := fun e => h (by injection e with e; injection e)
theorem ConX.make11 (h : ConX p q B L xs w) (hL : L 11 = false) (hB : B ≤ w.heap.size) : ConX p q B (setL L 11) (upd xs 11 (.map (some w.heap.size))) (w.alloc (.map #[] 0)) := by
 refine ⟨h.a.make hL hB (by decide), h.b.agree ⟨set_ne L (by decide), upd_ne xs (by decide) _⟩ (set_ne L (by decide)) (set_ne L (by decide)) ⟨set_ne L (by decide), upd_ne xs (by decide) _⟩ fun bl n mp _ _ e => e.below ((ZR _ w).alloc (Nat.le_refl _) _), fun _ e => ?_⟩
 rw [set_ne L (by decide)] at e
 obtain ⟨bl, e1, -, e3⟩ := h.b.map e
 rw [upd_at, upd_ne xs (by decide), e1]
 have := e3.lt
 exact map_ne (by omega)
theorem ConX.make31 (h : ConX p q B L xs w) (hL : L 31 = false) (hB : B ≤ w.heap.size) : ConX p q B (setL L 31) (upd xs 31 (.map (some w.heap.size))) (w.alloc (.map #[] 0)) := by
 refine ⟨h.a.agree ⟨set_ne L (by decide), upd_ne xs (by decide) _⟩ (set_ne L (by decide)) (set_ne L (by decide)) ⟨set_ne L (by decide), upd_ne xs (by decide) _⟩ fun bl n mp _ _ e => e.below ((ZR _ w).alloc (Nat.le_refl _) _), h.b.make hL hB (by decide), fun e _ => ?_⟩
 rw [set_ne L (by decide)] at e
 obtain ⟨bl, e1, -, e3⟩ := h.a.map e
 rw [upd_at, upd_ne xs (by decide), e1]
 have := e3.lt
 exact map_ne (by omega)
/-- The maps' blocks differ. -/
theorem ConX.apart (h : ConX p q B L xs w) {x y : Nat} (h1 : L 11 = true) (h3 : L 31 = true) (e1 : xs 11 = .map (some x)) (e3 : xs 31 = .map (some y)) : y ≠ x := by
 rintro rfl
 exact h.ne h1 h3 (e3.trans e1.symm)
theorem ConX.ins14 (h : ConX p q B L xs w) (hL : L 14 = false) (hpq : p ≠ q) {bl : Nat} (hb : xs 11 = .map (some bl)) (hm : L 11 = true) (e2 : B ≤ bl) (h4 : RMapIn w' bl (cnt (L 14) (L 17) + 1) 2 (fun k => if k = p then some 1 else mm (L 14) (L 17) p 1 q (-1) k)) (hg : w.grownBy w' (some bl)) (hs : Stays w w') (u : Value) : ConX p q B (setL L 14) (upd xs 14 u) w' := by
 refine ⟨h.a.first hL hpq hb hm (by decide) u e2 h4, h.b.agree ⟨set_ne L (by decide), upd_ne xs (by decide) _⟩ (set_ne L (by decide)) (set_ne L (by decide)) ⟨set_ne L (by decide), upd_ne xs (by decide) _⟩ fun b2 n mp e3 e4 e => e.kept hg hs (h.apart hm e4 hb e3), fun e3 e4 => ?_⟩
 rw [set_ne L (by decide)] at e3 e4
 rw [upd_ne xs (by decide), upd_ne xs (by decide)]
 exact h.ne e3 e4
theorem ConX.ins17 (h : ConX p q B L xs w) (hL : L 17 = false) {bl : Nat} (hb : xs 11 = .map (some bl)) (hm : L 11 = true) (e2 : B ≤ bl) (h4 : RMapIn w' bl (cnt (L 14) (L 17) + 1) 2 (fun k => if k = q then some (-1) else mm (L 14) (L 17) p 1 q (-1) k)) (hg : w.grownBy w' (some bl)) (hs : Stays w w') (u : Value) : ConX p q B (setL L 17) (upd xs 17 u) w' := by
 refine ⟨h.a.second hL hb hm (by decide) u e2 h4, h.b.agree ⟨set_ne L (by decide), upd_ne xs (by decide) _⟩ (set_ne L (by decide)) (set_ne L (by decide)) ⟨set_ne L (by decide), upd_ne xs (by decide) _⟩ fun b2 n mp e3 e4 e => e.kept hg hs (h.apart hm e4 hb e3), fun e3 e4 => ?_⟩
 rw [set_ne L (by decide)] at e3 e4
 rw [upd_ne xs (by decide), upd_ne xs (by decide)]
 exact h.ne e3 e4
theorem ConX.ins34 (h : ConX p q B L xs w) (hL : L 34 = false) (hpq : p ≠ q) {bl : Nat} (hb : xs 31 = .map (some bl)) (hm : L 31 = true) (e2 : B ≤ bl) (h4 : RMapIn w' bl (cnt (L 34) (L 37) + 1) 2 (fun k => if k = p then some (-1) else mm (L 34) (L 37) p (-1) q (-1) k)) (hg : w.grownBy w' (some bl)) (hs : Stays w w') (u : Value) : ConX p q B (setL L 34) (upd xs 34 u) w' := by
 refine ⟨h.a.agree ⟨set_ne L (by decide), upd_ne xs (by decide) _⟩ (set_ne L (by decide)) (set_ne L (by decide)) ⟨set_ne L (by decide), upd_ne xs (by decide) _⟩ fun b2 n mp e3 e4 e => e.kept hg hs (fun e9 => h.apart e4 hm e3 hb e9.symm), h.b.first hL hpq hb hm (by decide) u e2 h4, fun e3 e4 => ?_⟩
 rw [set_ne L (by decide)] at e3 e4
 rw [upd_ne xs (by decide), upd_ne xs (by decide)]
 exact h.ne e3 e4
theorem ConX.ins37 (h : ConX p q B L xs w) (hL : L 37 = false) {bl : Nat} (hb : xs 31 = .map (some bl)) (hm : L 31 = true) (e2 : B ≤ bl) (h4 : RMapIn w' bl (cnt (L 34) (L 37) + 1) 2 (fun k => if k = q then some (-1) else mm (L 34) (L 37) p (-1) q (-1) k)) (hg : w.grownBy w' (some bl)) (hs : Stays w w') (u : Value) : ConX p q B (setL L 37) (upd xs 37 u) w' := by
 refine ⟨h.a.agree ⟨set_ne L (by decide), upd_ne xs (by decide) _⟩ (set_ne L (by decide)) (set_ne L (by decide)) ⟨set_ne L (by decide), upd_ne xs (by decide) _⟩ fun b2 n mp e3 e4 e => e.kept hg hs (fun e9 => h.apart e4 hm e3 hb e9.symm), h.b.second hL hb hm (by decide) u e2 h4, fun e3 e4 => ?_⟩
 rw [set_ne L (by decide)] at e3 e4
 rw [upd_ne xs (by decide), upd_ne xs (by decide)]
 exact h.ne e3 e4
theorem ConX.move18 (h : ConX p q B L xs w) (hm : L 11 = true) (hi : L 14 = true) (hj : L 17 = true) : ConX p q B (setL L 18) (upd xs 18 (xs 11)) w := by
 refine ⟨h.a.moved hm hi hj (by decide), h.b.agree ⟨set_ne L (by decide), upd_ne xs (by decide) _⟩ (set_ne L (by decide)) (set_ne L (by decide)) ⟨set_ne L (by decide), upd_ne xs (by decide) _⟩ fun _ _ _ _ _ e => e, fun e3 e4 => ?_⟩
 rw [set_ne L (by decide)] at e3 e4
 rw [upd_ne xs (by decide), upd_ne xs (by decide)]
 exact h.ne e3 e4
theorem ConX.move38 (h : ConX p q B L xs w) (hm : L 31 = true) (hi : L 34 = true) (hj : L 37 = true) : ConX p q B (setL L 38) (upd xs 38 (xs 31)) w := by
 refine ⟨h.a.agree ⟨set_ne L (by decide), upd_ne xs (by decide) _⟩ (set_ne L (by decide)) (set_ne L (by decide)) ⟨set_ne L (by decide), upd_ne xs (by decide) _⟩ fun _ _ _ _ _ e => e, h.b.moved hm hi hj (by decide), fun e3 e4 => ?_⟩
 rw [set_ne L (by decide)] at e3 e4
 rw [upd_ne xs (by decide), upd_ne xs (by decide)]
 exact h.ne e3 e4
end
end Go.Proofs.YtgofihilkobenaaGreatDoor
/- Lists of rationals that can be read; Sum. -/
set_option maxRecDepth 100000
namespace Go.Proofs.YtgofihilkobenaaGreatDoor
open Go.RowKit Go.Num Go.Flow
set_option maxHeartbeats 8000000

def RatAt (w : World) (b o : Nat) (r : Rat) (K : Nat) : Prop := ∃ s1 a1 c1 l1 s2 a2 c2 l2, w.cell? ⟨b, o, none⟩ = some (.bool s1) ∧ w.cell? ⟨b, o + 1, none⟩ = some (.slice a1 c1 l1) ∧ w.cell? ⟨b, o + 2, none⟩ = some (.bool s2) ∧ w.cell? ⟨b, o + 3, none⟩ = some (.slice a2 c2 l2) ∧ RtIn w (.agg #[.bool s1, .slice a1 c1 l1, .bool s2, .slice a2 c2 l2]) r K
theorem RatAt.below {w w' : World} {b o : Nat} {r : Rat} {K : Nat} (h : RatAt w b o r K) (hb : Below w.heap.size w w') : RatAt w' b o r K := by
 obtain ⟨s1, a1, c1, l1, s2, a2, c2, l2, h0, h1, h2, h3, h4⟩ := h
 exact ⟨s1, a1, c1, l1, s2, a2, c2, l2, ZJ hb h0, ZJ hb h1, ZJ hb h2, ZJ hb h3, h4.below hb⟩
/-- A slice of rationals. -/
def RatsAt (w : World) (ao : Option Addr) (c : Nat) (rs : List Rat) (K : Nat) : Prop := rs.length ≤ c ∧ c ≤ maxLen ∧ (0 < rs.length → ∃ b off, ao = some ⟨b, off, none⟩ ∧ b < w.heap.size ∧ ∀ j, j < rs.length → RatAt w b (off + j * 4) (rs.getD j 0) K)
theorem RatsAt.below {w w' : World} {ao : Option Addr} {c : Nat} {rs : List Rat} {K : Nat} (h : RatsAt w ao c rs K) (hb : Below w.heap.size w w') : RatsAt w' ao c rs K := by
 refine ⟨h.1, h.2.1, fun h0 => ?_⟩
 obtain ⟨b, off, e, hl, hc⟩ := h.2.2 h0
 exact ⟨b, off, e, Nat.lt_of_lt_of_le hl hb.size, fun j hj => (hc j hj).below hb⟩
theorem RatsIn.at {w : World} {v : Value} {rs : List Rat} {K : Nat} (h : RatsIn w v rs K) (hl : rs.length ≤ 100000) : ∃ ao, v = .slice ao rs.length rs.length ∧ RatsAt w ao rs.length rs K := by
 obtain ⟨g, n, rfl, rfl, cs, hg, hsz, -, hc⟩ := h
 refine ⟨_, rfl, Nat.le_refl _, by unfold maxLen; omega, fun _ => ⟨g, 0, rfl, ZL hg, fun j hj => ?_⟩⟩
 obtain ⟨c0, c1, c2, c3, h0, h1, h2, h3, hr⟩ := hc j hj
 obtain ⟨s1, a1, d1, l1, s2, a2, d2, l2, e⟩ := rt_shape hr
 simp at e
 obtain ⟨rfl, rfl, rfl, rfl⟩ := e
 exact ⟨s1, a1, d1, l1, s2, a2, d2, l2, by rw [ZI hg, Nat.zero_add]; exact h0, by rw [ZI hg, Nat.zero_add]; exact h1, by rw [ZI hg, Nat.zero_add]; exact h2, by rw [ZI hg, Nat.zero_add]; exact h3, hr⟩
def sumQ (l : List Rat) : Rat := l.foldl (fun a b => a + b) 0
theorem sumQ_take {l : List Rat} {k : Nat} (h : k < l.length) : sumQ (l.take (k + 1)) = sumQ (l.take k) + l.getD k 0 := by
 unfold sumQ
 rw [List.take_add_one, List.getElem?_eq_getElem h, List.foldl_append, List.getD_eq_getElem?_getD, List.getElem?_eq_getElem h]
 rfl
theorem four_set {w : World} {b : Nat} {x0 x1 x2 x3 : Value} {t : TypeId} (h : w.heap[b]? = some (.cells #[x0, x1, x2, x3] t (0, 0))) (u0 u1 u2 u3 : Value) : ((((w.setCell ⟨b, 0, none⟩ u0).setCell ⟨b, 1, none⟩ u1).setCell ⟨b, 2, none⟩ u2).setCell ⟨b, 3, none⟩ u3).heap[b]? = some (.cells #[u0, u1, u2, u3] t (0, 0)) := by
 simp [World.setCell, Array.getElem?_modify, h]
/-- No digit lies in a block. -/
def NoDigAt (w : World) (b : Nat) : Prop := ∀ i x, w.cell? ⟨b, i, none⟩ ≠ some (.int .u32 x)
theorem nodig4 {w : World} {b : Nat} {s1 s2 : Bool} {a1 a2 : Option Addr} {c1 l1 c2 l2 : Nat} {t : TypeId} (h : w.heap[b]? = some (.cells #[.bool s1, .slice a1 c1 l1, .bool s2, .slice a2 c2 l2] t (0, 0))) : NoDigAt w b := fun i x => by
 rw [ZI h]
 match i with
 | 0 => simp
 | 1 => simp
 | 2 => simp
 | 3 => simp
 | i + 4 => simp
/-- All stands but block b. -/
structure But (b : Nat) (w w' : World) : Prop where
 size : w.heap.size ≤ w'.heap.size
 block : ∀ k, k ≠ b → k < w.heap.size → w'.heap[k]? = w.heap[k]?
theorem But.set {b : Nat} {w w' : World} (h : But b w w') (i : Nat) (u : Value) : But b w (w'.setCell ⟨b, i, none⟩ u) := ⟨by simpa [World.setCell] using h.size, fun k hk hl => (Below.heap_setCell _ _ _ _ hk).trans (h.block k hk hl)⟩
theorem But.refl (b : Nat) (w : World) : But b w w := ⟨Nat.le_refl _, fun _ _ _ => rfl⟩
theorem But.set4 {b : Nat} (w : World) (u0 u1 u2 u3 : Value) : But b w ((((w.setCell ⟨b, 0, none⟩ u0).setCell ⟨b, 1, none⟩ u1).setCell ⟨b, 2, none⟩ u2).setCell ⟨b, 3, none⟩ u3) := ((((But.refl b w).set 0 u0).set 1 u1).set 2 u2).set 3 u3
theorem MagIn.but {b : Nat} {w w' : World} {v : Value} {l : List Nat} (h : MagIn w v l) (hn : NoDigAt w b) (hu : But b w w') : MagIn w' v l := by
 obtain ⟨ao, c, e, h1, h2, h3, h4⟩ := h
 refine ⟨ao, c, e, h1, h2, h3, fun h0 => ?_⟩
 obtain ⟨g, off, e2, hlt, hc⟩ := h4 h0
 have hg : g ≠ b := by
  rintro rfl
  exact hn _ _ (hc 0 h0)
 exact ⟨g, off, e2, Nat.lt_of_lt_of_le hlt hu.size, fun j hj => (World.cell?_of_block (a := ⟨g, off + j, none⟩) (hu.block g hg hlt)).trans (hc j hj)⟩
theorem RtIn.but {b : Nat} {w w' : World} {v : Value} {r : Rat} {k : Nat} (h : RtIn w v r k) (hn : NoDigAt w b) (hu : But b w w') : RtIn w' v r k := by
 obtain ⟨q, ⟨n1, m1, n2, m2, e, ⟨g1, s1, l1, e1, p1, r1⟩, ⟨g2, s2, l2, e2, p2, r2⟩, h3⟩, h4⟩ := h
 exact ⟨q, ⟨n1, m1, n2, m2, e, ⟨g1, s1, l1, e1, p1.but hn hu, r1⟩, ⟨g2, s2, l2, e2, p2.but hn hu, r2⟩, h3⟩, h4⟩
theorem Sum_any {w : World} {ao : Option Addr} {c : Nat} {rs : List Rat} {K : Nat} (h : RatsAt w ao c rs K) (hK : 2 ≤ K) (hb : 2 + rs.length * (K + 1) ≤ 900000) :
  Calls Tryz.prog 74 #[.slice ao rs.length c] w fun e w' => ∃ v, e = .returned v ∧ RtIn w' v (sumQ rs) (2 + rs.length * (K + 1)) ∧ Below w.heap.size w w' := by
 obtain ⟨n, hn⟩ : ∃ n, n = rs.length := ⟨_, rfl⟩
 obtain ⟨wa, hwa⟩ : ∃ wa, wa = (w.alloc (.cells #[.bool false, .slice none 0 0, .bool false, .slice none 0 0] 65)).alloc (.cells #[.bool false, .slice none 0 0, .bool false, .slice none 0 0] 65) := ⟨_, rfl⟩
 obtain ⟨br, hbr⟩ : ∃ b, b = w.heap.size := ⟨_, rfl⟩
 obtain ⟨bs, hbs⟩ : ∃ b, b = w.heap.size + 1 := ⟨_, rfl⟩
 have hal : Below w.heap.size w wa := by rw [hwa]; exact ((ZR _ w).alloc (Nat.le_refl _) _).alloc (by simp) _
 obtain ⟨k0, k1⟩ := two_made w #[.bool false, .slice none 0 0, .bool false, .slice none 0 0] #[.bool false, .slice none 0 0, .bool false, .slice none 0 0] 65 65
 rw [← hwa, ← hbr] at k0
 rw [← hwa, ← hbs] at k1
 have hcap : n ≤ c ∧ c ≤ 9223372036854775807 := by rw [hn]; exact ⟨h.1, h.2.1⟩
 have HH := ZH h
 have HAL := ZH hal
 have HK0 := ZH k0
 have HK1 := ZH k1
 have HNE := ZH (show br ≠ bs ∧ w.heap.size ≤ br ∧ w.heap.size ≤ bs by omega)
 have HW := ZH (ZN hwa (ZN hbr hbs))
 rw [← hn] at hb ⊢
 have HB := ZH (ZN hn hb)
 have hn9 : n ≤ 900000 := by
  have : n ≤ n * (K + 1) := Nat.le_mul_of_pos_right n (by omega)
  omega
 clear hwa hbr hbs hal k0 k1 h hn hb
 go_enter Tryz.func74, Tryz.ntmps74
 go_upto_region 2 with fail
 rw [← HW.out.1, ← HW.out.2.2, ← HW.out.2.1]
 clear HW
 go_wp2_with fail
 go_loopg [8] n (fun gk x wr => ∃ k : Nat, k + gk = n ∧ x = .int .i64 k ∧ Hid (∃ s1 a1 c1 l1 s2 a2 c2 l2, wr.heap[bs]? = some (.cells #[.bool s1, .slice a1 c1 l1, .bool s2, .slice a2 c2 l2] 65 (0, 0)) ∧ RtIn wr (.agg #[.bool s1, .slice a1 c1 l1, .bool s2, .slice a2 c2 l2]) (sumQ (rs.take k)) (2 + k * (K + 1))) ∧ Hid (But bs wa wr) ∧ Hid (Below w.heap.size w wr))
 case atStart => exact ⟨0, by omega, rfl, ZH ⟨_, _, _, _, _, _, _, _, HK1.out, rt_int ⟨_, _, _, _, rfl, int_nil _ _, int_nil _ _, by decide⟩⟩, ZH (But.refl _ _), HAL⟩
 case round =>
  obtain ⟨k, hk, rfl, hacc, hbut, hbw⟩ := hrel
  obtain ⟨s1, a1, c1, l1, s2, a2, c2, l2, hkb, hacc⟩ := hacc.out
  by_cases hlt : k < n
  ·have e1 : ((k : Int) < (n : Int)) = True := eq_true (by omega)
   obtain ⟨b, off, rfl, -, hcc⟩ := HH.out.2.2 (by rw [← HB.out.1]; omega)
   obtain ⟨q, hq⟩ : ∃ q, q = rs.getD k 0 := ⟨_, rfl⟩
   have hx := hcc k (by rw [← HB.out.1]; exact hlt)
   rw [← hq] at hx
   obtain ⟨t1, b1, d1, m1, t2, b2, d2, m2, y0, y1, y2, y3, hrq⟩ := hx.below hbw.out
   have hk0 : (0 : Int) ≤ (k : Int) := by omega
   have hk1 : (k : Int) < (n : Int) := by omega
   have HLT := ZH (ZN hlt hq)
   have HACC := ZH hacc
   have HKB := ZH hkb
   have HRQ := ZH hrq
   clear hlt hq hacc hkb hrq hcc hx
   go_upto_region 5 with fail
   obtain ⟨w3, hw3⟩ : ∃ x, x = wr.alloc (.cells #[.bool t1, .slice b1 d1 m1, .bool t2, .slice b2 d2 m2] 65) := ⟨_, rfl⟩
   obtain ⟨bq, hbq⟩ : ∃ b, b = wr.heap.size := ⟨_, rfl⟩
   rw [← hw3, ← hbq]
   have hl3 : Below wr.heap.size wr w3 := by rw [hw3]; exact (ZR _ wr).alloc (Nat.le_refl _) _
   have kq : w3.heap[bq]? = some (.cells #[.bool t1, .slice b1 d1 m1, .bool t2, .slice b2 d2 m2] 65 (0, 0)) := by rw [hw3, hbq]; exact ZW wr _
   have kb3 := (hl3.block bs (ZL HKB.out)).trans HKB.out
   have z0 := ZI kb3 0
   have z1 := ZI kb3 1
   have z2 := ZI kb3 2
   have z3 := ZI kb3 3
   have x0 := ZI kq 0
   have x1 := ZI kq 1
   have x2 := ZI kq 2
   have x3 := ZI kq 3
   simp at z0 z1 z2 z3 x0 x1 x2 x3
   have HADD := ZH (ratAdd_any (HACC.out.below hl3) (HRQ.out.below hl3) (by omega) hK (by
    have h1 := HB.out.2
    have h2 : (k + 1) * (K + 1) ≤ n * (K + 1) := Nat.mul_le_mul_right _ HLT.out.1
    rw [Nat.add_mul, Nat.one_mul] at h2
    omega))
   have HKB3 := ZH kb3
   have HB3 := ZH (hbw.out.trans (hl3.mono hbw.out.size))
   have HBU3 := ZH (show But bs wa w3 from ⟨Nat.le_trans hbut.out.size hl3.size, fun j h1 h2 => (hl3.block j (Nat.lt_of_lt_of_le h2 hbut.out.size)).trans (hbut.out.block j h1 h2)⟩)
   clear hw3 hbq hl3 kq kb3 hbw hbut HACC HRQ HKB y0 y1 y2 y3
   go_wp2_with fail
   refine HADD.out.mono ?_
   rintro e w4 ⟨v4, rfl, hr4, hb4⟩
   obtain ⟨p1, g1, f1, n1, p2, g2, f2, n2, rfl⟩ := rt_shape hr4
   have kb4 := (hb4.block bs (ZL HKB3.out)).trans HKB3.out
   have z0 := ZI kb4 0
   have z1 := ZI kb4 1
   have z2 := ZI kb4 2
   have z3 := ZI kb4 3
   have o0 := ZF kb4 0
   have o1 := ZF kb4 1
   have o2 := ZF kb4 2
   have o3 := ZF kb4 3
   simp at z0 z1 z2 z3
   have hacc5 := hr4.but (nodig4 kb4) (But.set4 (b := bs) w4 (.bool p1) (.slice g1 f1 n1) (.bool p2) (.slice g2 f2 n2))
   have hk5 := four_set kb4 (.bool p1) (.slice g1 f1 n1) (.bool p2) (.slice g2 f2 n2)
   have hbu4 : But bs wa w4 := ⟨Nat.le_trans HBU3.out.size hb4.size, fun j h1 h2 => (hb4.block j (Nat.lt_of_lt_of_le h2 HBU3.out.size)).trans (HBU3.out.block j h1 h2)⟩
   have hbu5 := (((hbu4.set 0 (.bool p1)).set 1 (.slice g1 f1 n1)).set 2 (.bool p2)).set 3 (.slice g2 f2 n2)
   have hb5 := ((((HB3.out.trans (hb4.mono HB3.out.size)).setCell (p := ⟨bs, 0, none⟩) HNE.out.2.2 (.bool p1)).setCell (p := ⟨bs, 1, none⟩) HNE.out.2.2 (.slice g1 f1 n1)).setCell (p := ⟨bs, 2, none⟩) HNE.out.2.2 (.bool p2)).setCell (p := ⟨bs, 3, none⟩) HNE.out.2.2 (.slice g2 f2 n2)
   have HF := ZH (ZN hacc5 (ZN hk5 (ZN hbu5 hb5)))
   clear hacc5 hk5 hbu4 hbu5 hb5 kb4 hr4 hb4
   go_wp2_with fail
   go_roundg (n - (k + 1))
   case measure => have := HLT.out.1; omega
   case rel =>
    refine ⟨k + 1, by have := HLT.out.1; omega, by congr 1, ZH ⟨_, _, _, _, _, _, _, _, HF.out.2.1, ?_⟩, ZH HF.out.2.2.1, ZH HF.out.2.2.2⟩
    rw [sumQ_take (by rw [← HB.out.1]; exact HLT.out.1), ← HLT.out.2]
    have h1 := HF.out.1
    rw [show 2 + (k + 1) * (K + 1) = 2 + k * (K + 1) + K + 1 by rw [Nat.add_mul, Nat.one_mul]; omega]
    exact h1
  ·have e1 : ((k : Int) < (n : Int)) = False := eq_false (by omega)
   obtain rfl : k = n := by omega
   have z0 := ZI hkb 0
   have z1 := ZI hkb 1
   have z2 := ZI hkb 2
   have z3 := ZI hkb 3
   simp at z0 z1 z2 z3
   have kr := (hbut.out.block br HNE.out.1 (ZL HK0.out)).trans HK0.out
   have r0 := ZI kr 0
   have r1 := ZI kr 1
   have r2 := ZI kr 2
   have r3 := ZI kr 3
   have o0 := ZF kr 0
   have o1 := ZF kr 1
   have o2 := ZF kr 2
   have o3 := ZF kr 3
   simp at r0 r1 r2 r3
   have hres := hacc.but (nodig4 kr) (But.set4 (b := br) wr (.bool s1) (.slice a1 c1 l1) (.bool s2) (.slice a2 c2 l2))
   have hbf := (((hbw.out.setCell (p := ⟨br, 0, none⟩) HNE.out.2.1 (.bool s1)).setCell (p := ⟨br, 1, none⟩) HNE.out.2.1 (.slice a1 c1 l1)).setCell (p := ⟨br, 2, none⟩) HNE.out.2.1 (.bool s2)).setCell (p := ⟨br, 3, none⟩) HNE.out.2.1 (.slice a2 c2 l2)
   rw [show rs.take k = rs by rw [HB.out.1]; exact List.take_length] at hres
   have HF := ZH (ZN hres hbf)
   have HNN := ZH HNE.out.1
   clear hres hbf kr hacc hkb hbut hbw
   go_wp2_with fail
   exact bodyPost_ret (v := .agg #[.bool s1, .slice a1 c1 l1, .bool s2, .slice a2 c2 l2]) (by simp [results, Tryz.results74, go_sem, r0, r1, r2, r3]) rfl ⟨_, rfl, HF.out⟩
end Go.Proofs.YtgofihilkobenaaGreatDoor
/- keeps. -/
set_option maxRecDepth 100000
namespace Go.Proofs.YtgofihilkobenaaGreatDoor
open List renaming setIfInBounds_toArray → zLa, set_cons_zero → zLb, set_cons_succ → zLc
open FlowR renaming putSel → zFp
open Act renaming put → zAp
open Nat renaming zero_add → zNz
open Flow.Steps renaming cons → zSc, nil → zSn
open FlowR.Step renaming of → zSo
open Go.RowKit Go.Num Go.Flow Go.Dtm
set_option maxHeartbeats 8000000

def moreOf (fs : List Feat) (zs : List Zn) (V : List (Nat × Int)) (rs : List Rat) (z : Zn) : Rat := if z.bonus = true then rs.getD (varAt V z.feature 2).toNat 0 - (((fs.getD z.feature.toNat Feat.none).wide + (zoneOf zs z.feature 2).lower : Int) : Rat) else 0
def devOf (fs : List Feat) (V : List (Nat × Int)) (rs : List Rat) (z : Zn) : Rat := rs.getD (varAt V z.feature z.kind).toNat 0 - ((nominalOf fs z.feature.toNat z.kind : Int) : Rat)
/-- Whether values keep a zone. -/
def keepsZ (fs : List Feat) (zs : List Zn) (V : List (Nat × Int)) (rs : List Rat) (z : Zn) : Bool := decide (0 ≤ cmpQ (devOf fs V rs z) ((z.lower : Rat) - moreOf fs zs V rs z)) && decide (cmpQ (devOf fs V rs z) ((z.upper : Rat) + moreOf fs zs V rs z) ≤ 0)
theorem rat_made (w : World) : w.alloc (.cells #[.bool false, .slice none 0 0, .bool false, .slice none 0 0] 65) = w.alloc (.cells #[.bool false, .slice none 0 0, .bool false, .slice none 0 0] 65) := rfl
theorem nominal_bound {fs : List Feat} {zs : List Zn} (h : check fs zs = 0) {i : Nat} (hi : i < fs.length) (k : Int) : -268435456 ≤ nominalOf fs i k ∧ nominalOf fs i k ≤ 268435456 := by
 have h1 := feat_right h hi
 unfold nominalOf
 split
 ·exact h1.2.2.1
 ·split
  ·exact h1.2.2.2
  ·omega
theorem keeps_any {w : World} {af : Option Addr} {cf : Nat} {az : Option Addr} {cz : Nat} {fs : List Feat} {zs : List Zn} (h : SchemeIn w af cf az cz fs zs) (hck : check fs zs = 0) {ar : Option Addr} {cr : Nat} {rs : List Rat} {M : Nat} (hr : RatsAt w ar cr rs M) (hM : 2 ≤ M) (hM2 : M ≤ 100000) {z : Zn}
  (hzf : 0 ≤ z.feature ∧ z.feature < (fs.length : Int)) (hzl : -268435456 ≤ z.lower ∧ z.lower ≤ 268435456) (hzu : -268435456 ≤ z.upper ∧ z.upper ≤ 268435456)
  (hv1 : 0 ≤ varAt (varsTo fs zs fs.length) z.feature z.kind ∧ varAt (varsTo fs zs fs.length) z.feature z.kind < (rs.length : Int)) (hv2 : z.bonus = true → 0 ≤ varAt (varsTo fs zs fs.length) z.feature 2 ∧ varAt (varsTo fs zs fs.length) z.feature 2 < (rs.length : Int)) :
  Calls Tryz.prog 63 #[.agg #[.slice af fs.length cf, .slice az zs.length cz], zoneV z, .slice ar rs.length cr] w fun e w' => e = .returned (.bool (keepsZ fs zs (varsTo fs zs fs.length) rs z)) ∧ Below w.heap.size w w' := by
 obtain ⟨fb, fo, rfl, hfl, hfc⟩ := h.feats.2.2 (by omega)
 obtain ⟨V, hV⟩ : ∃ V, V = varsTo fs zs fs.length := ⟨_, rfl⟩
 have hix := fun (W : World) (hW : SchemeIn W (some ⟨fb, fo, none⟩) cf az cz fs zs) (i k : Int) => index_any hW (by have := (check_small hck).1; omega) (by have := (check_small hck).2; omega) i k
 rw [← hV] at hv1 hv2 ⊢
 simp only [← hV] at hix
 obtain ⟨kf, hkf⟩ : ∃ i : Nat, z.feature = (i : Int) := ⟨z.feature.toNat, by omega⟩
 obtain ⟨m1, hm1⟩ : ∃ i : Nat, varAt V z.feature z.kind = (i : Int) := ⟨(varAt V z.feature z.kind).toNat, by omega⟩
 have hkn : kf < fs.length := by omega
 have hnom := fun (W : World) (hW : SchemeIn W (some ⟨fb, fo, none⟩) cf az cz fs zs) => nominal_any hW hkn z.kind
 obtain ⟨nom, hnm⟩ : ∃ x, x = nominalOf fs kf z.kind := ⟨_, rfl⟩
 have hnb := nominal_bound hck hkn z.kind
 obtain ⟨mq, hmq⟩ : ∃ x, x = moreOf fs zs V rs z := ⟨_, rfl⟩
 obtain ⟨dq, hdq⟩ : ∃ x, x = rs.getD m1 0 - (nom : Rat) := ⟨_, rfl⟩
 have HKP := ZH (show keepsZ fs zs V rs z = (decide (0 ≤ cmpQ dq ((z.lower : Rat) - mq)) && decide (cmpQ dq ((z.upper : Rat) + mq) ≤ 0)) by
  unfold keepsZ devOf
  rw [← hmq, hm1, Int.toNat_natCast, hkf, Int.toNat_natCast, ← hnm, ← hdq])
 obtain ⟨n, hn⟩ : ∃ n, n = fs.length := ⟨_, rfl⟩
 obtain ⟨nz, hnz⟩ : ∃ n, n = zs.length := ⟨_, rfl⟩
 obtain ⟨nr, hnr⟩ : ∃ n, n = rs.length := ⟨_, rfl⟩
 rw [← hnm] at hnb
 simp only [← hnm, ← hn, ← hnz] at hnom
 simp only [← hn, ← hnz] at hix
 obtain ⟨wa, hwa⟩ : ∃ wa, wa = (w.alloc (.cells #[.slice (some ⟨fb, fo, none⟩) n cf, .slice az nz cz] 26)).alloc (.cells #[.int .i64 z.kind, .int .i64 (kf : Int), .int .i64 z.lower, .int .i64 z.upper, .bool z.bonus] 30) := ⟨_, rfl⟩
 obtain ⟨ba, hba⟩ : ∃ b, b = w.heap.size := ⟨_, rfl⟩
 obtain ⟨bz, hbz⟩ : ∃ b, b = w.heap.size + 1 := ⟨_, rfl⟩
 have hal : Below w.heap.size w wa := by rw [hwa]; exact ((ZR _ w).alloc (Nat.le_refl _) _).alloc (by simp) _
 obtain ⟨k0, k1⟩ := two_made w #[.slice (some ⟨fb, fo, none⟩) n cf, .slice az nz cz] #[.int .i64 z.kind, .int .i64 (kf : Int), .int .i64 z.lower, .int .i64 z.upper, .bool z.bonus] 26 30
 rw [← hwa, ← hba] at k0
 rw [← hwa, ← hbz] at k1
 obtain ⟨bb, hbb⟩ : ∃ b, b = z.bonus := ⟨_, rfl⟩
 rw [← hbb] at k1
 have HBN := ZH hbb
 clear hbb
 have HKA := ZH k0
 have HKZ := ZH k1
 have HS := ZH (h.below hal)
 have HRS := ZH (hr.below hal)
 have HAL := ZH hal
 have HIX := ZH hix
 have HNOM := ZH hnom
 have HCK := ZH hck
 have HN := ZH (ZN hn (ZN hnz hnr))
 have HM1 := ZH (show m1 < nr by rw [hnr]; omega)
 have HB := ZH (ZN hM hM2)
 have HNB := ZH hnb
 have HZB := ZH (ZN hzl hzu)
 have HKF := ZH (ZN hkf hkn)
 obtain ⟨wd, hwd⟩ : ∃ x, x = (fs.getD kf Feat.none).wide := ⟨_, rfl⟩
 have hx5 := ZJ hal (hfc kf hkn).2.2.2.2.2
 rw [← hwd] at hx5
 have hwb := (feat_right hck hkn).2.2.2
 rw [← hwd] at hwb
 have HX5 := ZH (ZN hx5 (ZN hwd hwb))
 clear hfl hfc hwd hx5 hwb
 have HV2 := ZH hv2
 have HMQ := ZH hmq
 have HDQ := ZH hdq
 have hcap : n ≤ cf ∧ cf ≤ 9223372036854775807 := by rw [hn]; exact ⟨h.feats.1, h.feats.2.1⟩
 have hcr : nr ≤ cr ∧ cr ≤ 9223372036854775807 := by rw [hnr]; exact ⟨hr.1, hr.2.1⟩
 rw [hkf] at hm1
 have HMI := ZH hm1
 have HW := ZH (ZN hwa (ZN hba hbz))
 unfold zoneV
 rw [← hn, ← hnz, ← hnr, hkf]
 clear hwa hba hbz hal k0 k1 h hr hix hnom hck hn hnz hnr hM hM2 hnb hzl hzu hkf hkn hv1 hv2 hmq hdq hm1 hzf hnm hV
 go_enter Tryz.func63, Tryz.ntmps63
 go_upto_region 1 with fail
 rw [← HW.out.1, ← HW.out.2.2, ← HW.out.2.1]
 clear HW
 have z0 := ZI HKZ.out 0
 have z1 := ZI HKZ.out 1
 simp at z0 z1
 go_upto_region 2 with fail
 clear z0 z1
 obtain ⟨w1, hw1⟩ : ∃ x, x = wa.alloc (.cells #[.int .i64 (kf : Int), .int .i64 z.kind] 120) := ⟨_, rfl⟩
 obtain ⟨bv, hbv⟩ : ∃ b, b = wa.heap.size := ⟨_, rfl⟩
 rw [← hw1, ← hbv]
 have hl1 : Below wa.heap.size wa w1 := by rw [hw1]; exact (ZR _ wa).alloc (Nat.le_refl _) _
 have kv : w1.heap[bv]? = some (.cells #[.int .i64 (kf : Int), .int .i64 z.kind] 120 (0, 0)) := by rw [hw1, hbv]; exact ZW wa _
 have HB1 := ZH hl1
 have HKV := ZH kv
 have HW1 := ZH (ZR w1.heap.size w1)
 have HKA1 := ZH ((hl1.block ba (ZL HKA.out)).trans HKA.out)
 have HKZ1 := ZH ((hl1.block bz (ZL HKZ.out)).trans HKZ.out)
 obtain ⟨rb, ro, rfl, hrl, hrc⟩ := HRS.out.2.2 (by have := HM1.out; have := HN.out.2.2; omega)
 have HRC := ZH hrc
 obtain ⟨q1, hq1⟩ : ∃ x, x = rs.getD m1 0 := ⟨_, rfl⟩
 have hx := (hrc m1 (by have := HM1.out; have := HN.out.2.2; omega)).below hl1
 rw [← hq1] at hx HDQ
 obtain ⟨s1, a1, c1, l1, s2, a2, c2, l2, y0, y1, y2, y3, hrt⟩ := hx
 have HY := ZH (ZN y0 (ZN y1 (ZN y2 y3)))
 have HRT := ZH hrt
 have hm0 : (0 : Int) ≤ (m1 : Int) := by omega
 have hm9 : (m1 : Int) < (nr : Int) := by have := HM1.out; omega
 have HMB := ZH (ZN hm0 hm9)
 clear hw1 hbv hl1 kv hrl hrc hq1 y0 y1 y2 y3 hrt hm0 hm9
 refine FlowR.wp_region_sel (fun a b => Below a.heap.size a b) (fun a => ZR _ a) (fun _ _ _ h k => h.trans (k.mono h.size)) [0, 1, 2, 3, 4, 5, 6, 7, 8, 9, 10, 11, 12, 13, 14] [false, false, false, false, false, false, false, false, false, false, false, false, false, false, false, false] [true, true, true, true, true, true, true, true, true, true, true, true, true, true, true, false] (fun i9 v w' => match i9 with
  | 0 => v = .slice (some ⟨rb, ro, none⟩) nr cr
  | 1 => v = .agg #[.slice (some ⟨fb, fo, none⟩) n cf, .slice az nz cz]
  | 2 => v = .pointer (some ⟨bv, 0, none⟩)
  | 3 => v = .int .i64 (kf : Int)
  | 4 => v = .pointer (some ⟨bv, 1, none⟩)
  | 5 => v = .int .i64 z.kind
  | 6 => v = .int .i64 (m1 : Int)
  | 7 => v = .pointer (some ⟨rb, ro + m1 * 4, none⟩)
  | 8 => v = .agg #[.bool s1, .slice a1 c1 l1, .bool s2, .slice a2 c2 l2]
  | 9 => v = .agg #[.slice (some ⟨fb, fo, none⟩) n cf, .slice az nz cz]
  | 10 => v = .agg #[.int .i64 (kf : Int), .int .i64 z.kind]
  | 11 => v = .int .i64 nom
  | 12 => RtIn w' v (nom : Rat) 2
  | 13 => RtIn w' v (q1 - (nom : Rat)) (M + 2 + 1)
  | _ => ∃ b, v = .pointer (some ⟨b, 0, none⟩) ∧ w'.heap[b]? = some (.cells #[.bool false, .slice none 0 0, .bool false, .slice none 0 0] 65 (0, 0)) ∧ w1.heap.size ≤ b) rfl rfl (by kernel_rfl) (by kernel_rfl) (by kernel_rfl) (by kernel_rfl) ?st ?steps ?fin
 case st =>
  intro i9 v u1 u2 h hb
  match i9 with
  | 0 | 1 | 2 | 3 | 4 | 5 | 6 | 7 | 8 | 9 | 10 | 11 => exact h
  | 12 => exact (show RtIn u1 v (nom : Rat) 2 from h).below hb
  | 13 => exact (show RtIn u1 v (q1 - (nom : Rat)) (M + 2 + 1) from h).below hb
  | 14 | _ + 15 => exact by obtain ⟨b, e, hk, hl⟩ := (show ∃ b, v = .pointer (some ⟨b, 0, none⟩) ∧ u1.heap[b]? = some (.cells #[.bool false, .slice none 0 0, .bool false, .slice none 0 0] 65 (0, 0)) ∧ w1.heap.size ≤ b from h); exact ⟨b, e, (hb.block b (ZL hk)).trans hk, hl⟩
 case steps =>
  refine zSc (zSo rfl ?s0) (zSc (zSo rfl ?s1) (zSc (zSo rfl ?s2) (zSc (zSo rfl ?s3) (zSc (zSo rfl ?s4) (zSc (zSo rfl ?s5) (zSc (zSo rfl ?s6) (zSc (zSo rfl ?s7) (zSc (zSo rfl ?s8) (zSc (zSo rfl ?s9) (zSc (zSo rfl ?s10) (zSc (zSo rfl ?s11) (zSc (zSo rfl ?s12) (zSc (zSo rfl ?s13) (zSc (zSo rfl ?s14) zSn))))))))))))))
  case s0 | s2 | s4 =>
   intro xs w' hb hT K9 hK9
   clear hT
   simp only [zFp, zAp, zLa, zLb, zLc, Nat.reduceAdd, zNz] at hK9 ⊢
   have hw := Flow.hwD HW1.out hb
   go_simp
   exact hK9 _ _ (ZR _ _) rfl
  case s1 | s9 =>
   intro xs w' hb hT K9 hK9
   clear hT
   simp only [zFp, zAp, zLa, zLb, zLc, Nat.reduceAdd, zNz] at hK9 ⊢
   have hw := Flow.hwD HW1.out hb
   have kb := (hw.block ba (ZL HKA1.out)).trans HKA1.out
   have y0 := ZI kb 0
   have y1 := ZI kb 1
   clear kb
   simp at y0 y1
   go_simp
   exact hK9 _ _ (ZR _ _) rfl
  case s3 =>
   intro xs w' hb hT K9 hK9
   have h2 : (xs 2) = .pointer (some ⟨bv, 0, none⟩) := hT 2 (by kernel_rfl)
   clear hT
   simp only [zFp, zAp, zLa, zLb, zLc, Nat.reduceAdd, zNz] at hK9 ⊢
   have hw := Flow.hwD HW1.out hb
   have kb := (hw.block bv (ZL HKV.out)).trans HKV.out
   have y0 := ZI kb 0
   clear kb
   simp at y0
   (try simp only [h2] at hK9)
   go_simp
   exact hK9 _ _ (ZR _ _) rfl
  case s5 =>
   intro xs w' hb hT K9 hK9
   have h4 : (xs 4) = .pointer (some ⟨bv, 1, none⟩) := hT 4 (by kernel_rfl)
   clear hT
   simp only [zFp, zAp, zLa, zLb, zLc, Nat.reduceAdd, zNz] at hK9 ⊢
   have hw := Flow.hwD HW1.out hb
   have kb := (hw.block bv (ZL HKV.out)).trans HKV.out
   have y0 := ZI kb 1
   clear kb
   simp at y0
   (try simp only [h4] at hK9)
   go_simp
   exact hK9 _ _ (ZR _ _) rfl
  case s6 =>
   intro xs w' hb hT K9 hK9
   have h1 : (xs 1) = .agg #[.slice (some ⟨fb, fo, none⟩) n cf, .slice az nz cz] := hT 1 (by kernel_rfl)
   have h3 : (xs 3) = .int .i64 (kf : Int) := hT 3 (by kernel_rfl)
   have h5 : (xs 5) = .int .i64 z.kind := hT 5 (by kernel_rfl)
   clear hT
   simp only [zFp, zAp, zLa, zLb, zLc, Nat.reduceAdd, zNz] at hK9 ⊢
   have hw := Flow.hwD HW1.out hb
   (try simp only [h1] at hK9)
   (try simp only [h3] at hK9)
   (try simp only [h5] at hK9)
   go_simp
   go_at_call 79
   refine (HIX.out _ (HS.out.below (HB1.out.trans (hw.mono HB1.out.size))) (kf : Int) z.kind).mono ?_
   rintro e w3 ⟨rfl, hb3⟩
   exact hK9 _ _ hb3 (by rw [HMI.out])
  case s7 =>
   intro xs w' hb hT K9 hK9
   have h0 : (xs 0) = .slice (some ⟨rb, ro, none⟩) nr cr := hT 0 (by kernel_rfl)
   have h6 : (xs 6) = .int .i64 (m1 : Int) := hT 6 (by kernel_rfl)
   clear hT
   simp only [zFp, zAp, zLa, zLb, zLc, Nat.reduceAdd, zNz] at hK9 ⊢
   have hw := Flow.hwD HW1.out hb
   (try simp only [h0] at hK9)
   (try simp only [h6] at hK9)
   have g0 := HMB.out.1
   have g1 := HMB.out.2
   go_simp
   exact hK9 _ _ (ZR _ _) rfl
  case s8 =>
   intro xs w' hb hT K9 hK9
   have h7 : (xs 7) = .pointer (some ⟨rb, ro + m1 * 4, none⟩) := hT 7 (by kernel_rfl)
   clear hT
   simp only [zFp, zAp, zLa, zLb, zLc, Nat.reduceAdd, zNz] at hK9 ⊢
   have hw := Flow.hwD HW1.out hb
   (try simp only [h7] at hK9)
   have y0 := ZJ hw HY.out.1
   have y1 := ZJ hw HY.out.2.1
   have y2 := ZJ hw HY.out.2.2.1
   have y3 := ZJ hw HY.out.2.2.2
   go_simp
   exact hK9 _ _ (ZR _ _) rfl
  case s10 =>
   intro xs w' hb hT K9 hK9
   clear hT
   simp only [zFp, zAp, zLa, zLb, zLc, Nat.reduceAdd, zNz] at hK9 ⊢
   have hw := Flow.hwD HW1.out hb
   have kb := (hw.block bv (ZL HKV.out)).trans HKV.out
   have y0 := ZI kb 0
   have y1 := ZI kb 1
   clear kb
   simp at y0 y1
   go_simp
   exact hK9 _ _ (ZR _ _) rfl
  case s11 =>
   intro xs w' hb hT K9 hK9
   have h9 : (xs 9) = .agg #[.slice (some ⟨fb, fo, none⟩) n cf, .slice az nz cz] := hT 9 (by kernel_rfl)
   have h10 : (xs 10) = .agg #[.int .i64 (kf : Int), .int .i64 z.kind] := hT 10 (by kernel_rfl)
   clear hT
   simp only [zFp, zAp, zLa, zLb, zLc, Nat.reduceAdd, zNz] at hK9 ⊢
   have hw := Flow.hwD HW1.out hb
   (try simp only [h9] at hK9)
   (try simp only [h10] at hK9)
   go_simp
   go_at_call 56
   refine (HNOM.out _ (HS.out.below (HB1.out.trans (hw.mono HB1.out.size)))).mono ?_
   rintro e w3 ⟨rfl, hb3⟩
   exact hK9 _ _ hb3 rfl
  case s12 =>
   intro xs w' hb hT K9 hK9
   have h11 : (xs 11) = .int .i64 nom := hT 11 (by kernel_rfl)
   clear hT
   simp only [zFp, zAp, zLa, zLb, zLc, Nat.reduceAdd, zNz] at hK9 ⊢
   have hw := Flow.hwD HW1.out hb
   (try simp only [h11] at hK9)
   go_simp
   go_at_call 26
   refine (ratFrom_any (by have := HNB.out; omega) (by have := HNB.out; omega)).mono ?_
   rintro e w3 ⟨v3, rfl, hi3, hb3⟩
   exact hK9 _ _ hb3 hi3
  case s13 =>
   intro xs w' hb hT K9 hK9
   have h8 : (xs 8) = .agg #[.bool s1, .slice a1 c1 l1, .bool s2, .slice a2 c2 l2] := hT 8 (by kernel_rfl)
   have h12 : RtIn w' (xs 12) (nom : Rat) 2 := hT 12 (by kernel_rfl)
   clear hT
   simp only [zFp, zAp, zLa, zLb, zLc, Nat.reduceAdd, zNz] at hK9 ⊢
   have hw := Flow.hwD HW1.out hb
   (try simp only [h8] at hK9)
   go_simp
   go_at_call 70
   refine (ratSub_any (HRT.out.below hw) h12 HB.out.1 (Nat.le_refl 2) (by have := HB.out.2; omega)).mono ?_
   rintro e w3 ⟨v3, rfl, hi3, hb3⟩
   exact hK9 _ _ hb3 hi3
  case s14 =>
   intro xs w' hb hT K9 hK9
   clear hT
   simp only [zFp, zAp, zLa, zLb, zLc, Nat.reduceAdd, zNz] at hK9 ⊢
   have hw := Flow.hwD HW1.out hb
   go_simp
   exact hK9 _ _ ((ZR _ _).alloc (Nat.le_refl _) _) ⟨_, rfl, ZW _ _, hw.size⟩
 case fin =>
  intro xs w' hb hT
  have hw := Flow.hwD HW1.out hb
  have h13 : RtIn w' (xs 13) (q1 - (nom : Rat)) (M + 2 + 1) := hT 13 (by rfl)
  have h14 : ∃ b, (xs 14) = .pointer (some ⟨b, 0, none⟩) ∧ w'.heap[b]? = some (.cells #[.bool false, .slice none 0 0, .bool false, .slice none 0 0] 65 (0, 0)) ∧ w1.heap.size ≤ b := hT 14 (by rfl)
  clear hT
  simp only [zFp, zAp, zLa, zLb, zLc, Nat.reduceAdd, zNz, FlowR.restL, FlowR.orM, Bool.false_or]
  obtain ⟨bd, e8, k8, hl8⟩ := h14
  obtain ⟨t1, b1, d1, o1, t2, b2, d2, o2, e9⟩ := rt_shape h13
  rw [e9] at h13
  simp only [e8, e9]
  clear e8 e9
  have x0 := ZI k8 0
  have x1 := ZI k8 1
  have x2 := ZI k8 2
  have x3 := ZI k8 3
  have f0 := ZF k8 0
  have f1 := ZF k8 1
  have f2 := ZF k8 2
  have f3 := ZF k8 3
  simp at x0 x1 x2 x3
  have hd := h13.but (nodig4 k8) (But.set4 (b := bd) w' (.bool t1) (.slice b1 d1 o1) (.bool t2) (.slice b2 d2 o2))
  rw [← HDQ.out] at hd
  have hkd := four_set k8 (.bool t1) (.slice b1 d1 o1) (.bool t2) (.slice b2 d2 o2)
  have hbd := ((((hw.setCell (p := ⟨bd, 0, none⟩) hl8 (.bool t1)).setCell (p := ⟨bd, 1, none⟩) hl8 (.slice b1 d1 o1)).setCell (p := ⟨bd, 2, none⟩) hl8 (.bool t2)).setCell (p := ⟨bd, 3, none⟩) hl8 (.slice b2 d2 o2))
  have HD := ZH (ZN hd (ZN hkd hbd))
  clear h13 k8 hd hkd hbd hl8 hw hb
  go_upto_region 3 with fail
  obtain ⟨w2, hw2⟩ : ∃ x, x = ((((w'.setCell ⟨bd, 0, none⟩ (.bool t1)).setCell ⟨bd, 1, none⟩ (.slice b1 d1 o1)).setCell ⟨bd, 2, none⟩ (.bool t2)).setCell ⟨bd, 3, none⟩ (.slice b2 d2 o2)) := ⟨_, rfl⟩
  rw [← hw2] at HD ⊢
  clear hw2 x0 x1 x2 x3 f0 f1 f2 f3
  generalize xs 13 = x13 at *
  generalize xs = xs0 at *
  go_upto_region 4 with fail
  obtain ⟨w3, hw3⟩ : ∃ x, x = w2.alloc (.cells #[.bool false, .slice none 0 0, .bool false, .slice none 0 0] 65) := ⟨_, rfl⟩
  obtain ⟨b9, hb9⟩ : ∃ b, b = w2.heap.size := ⟨_, rfl⟩
  rw [← hw3, ← hb9]
  have hl3 : Below w2.heap.size w2 w3 := by rw [hw3]; exact (ZR _ w2).alloc (Nat.le_refl _) _
  have k9 : w3.heap[b9]? = some (.cells #[.bool false, .slice none 0 0, .bool false, .slice none 0 0] 65 (0, 0)) := by rw [hw3, hb9]; exact ZW w2 _
  have HB3 := ZH (HD.out.2.2.trans (hl3.mono HD.out.2.2.size))
  have HD3 := ZH (ZN (HD.out.1.below hl3) ((hl3.block bd (ZL HD.out.2.1)).trans HD.out.2.1))
  have HK9 := ZH k9
  have HG9 := ZH (show w1.heap.size ≤ b9 ∧ bd ≠ b9 by
   have h1 := HD.out.2.2.size
   have h2 := ZL HD.out.2.1
   omega)
  have kz3 := (HB3.out.block bz (ZL HKZ1.out)).trans HKZ1.out
  have z4 := ZI kz3 4
  simp at z4
  clear hw3 hb9 hl3 k9 HD kz3
  go_upto_if 32 with fail
  go_cut [10, 11] from 32 to 58 (fun _ _ wx => (∃ p1 g1 i1 j1 p2 g2 i2 j2, wx.heap[b9]? = some (.cells #[.bool p1, .slice g1 i1 j1, .bool p2, .slice g2 i2 j2] 65 (0, 0)) ∧ RtIn wx (.agg #[.bool p1, .slice g1 i1 j1, .bool p2, .slice g2 i2 j2]) mq (M + 2 + 1)) ∧ (RtIn wx (.agg #[.bool t1, .slice b1 d1 o1, .bool t2, .slice b2 d2 o2]) dq (M + 2 + 1) ∧ wx.heap[bd]? = some (.cells #[.bool t1, .slice b1 d1 o1, .bool t2, .slice b2 d2 o2] 65 (0, 0))) ∧ Below w1.heap.size w1 wx)
  case first =>
   cases hbo : bb with
   | false =>
    go_wp2_with fail
    go_meet
    refine ⟨⟨_, _, _, _, _, _, _, _, HK9.out, ?_⟩, HD3.out, HB3.out⟩
    rw [HMQ.out, moreOf, ← HBN.out, hbo]
    exact zero_rt _ _
   | true =>
    have HBO := ZH (HBN.out.symm.trans hbo)
    obtain ⟨u0, u1⟩ := HV2.out HBO.out
    rw [HKF.out.1] at u0 u1
    obtain ⟨m2, hm2⟩ : ∃ i : Nat, varAt V (kf : Int) 2 = (i : Int) := ⟨(varAt V (kf : Int) 2).toNat, by omega⟩
    have HM2 := ZH (ZN hm2 (show m2 < nr by rw [HN.out.2.2]; omega))
    have hz2 := zone_any (HS.out.below (HB1.out.trans (HB3.out.mono HB1.out.size))) (by have := (check_small HCK.out).2; omega) (kf : Int) 2
    rw [← HN.out.1, ← HN.out.2.1] at hz2
    have HZ2 := ZH hz2
    have s0 := ZI ((HB3.out.block ba (ZL HKA1.out)).trans HKA1.out) 0
    have s1 := ZI ((HB3.out.block ba (ZL HKA1.out)).trans HKA1.out) 1
    have z1 := ZI ((HB3.out.block bz (ZL HKZ1.out)).trans HKZ1.out) 1
    simp at s0 s1 z1
    rw [hbo] at z4
    clear hbo u0 u1 hm2 hz2
    go_wp2_with fail
    refine HZ2.out.mono ?_
    rintro e w4 ⟨rfl, hb4⟩
    obtain ⟨y, hy⟩ : ∃ z, z = zoneOf zs (kf : Int) 2 := ⟨_, rfl⟩
    have hyb := zoneOf_bound HCK.out (kf : Int) 2
    rw [← hy] at hyb ⊢
    have HY2 := ZH (ZN hy hyb)
    unfold zoneV
    have HB4 := ZH (HB3.out.trans (hb4.mono HB3.out.size))
    have HD4 := ZH (ZN (HD3.out.1.below hb4) ((hb4.block bd (ZL HD3.out.2)).trans HD3.out.2))
    have HK94 := ZH ((hb4.block b9 (ZL HK9.out)).trans HK9.out)
    clear hy hyb hb4 s0 s1 z1 z4
    go_upto_region 6 with fail
    obtain ⟨w5, hw5⟩ : ∃ x, x = w4.alloc (.cells #[.int .i64 y.kind, .int .i64 y.feature, .int .i64 y.lower, .int .i64 y.upper, .bool y.bonus] 30) := ⟨_, rfl⟩
    obtain ⟨b5, hb5⟩ : ∃ b, b = w4.heap.size := ⟨_, rfl⟩
    rw [← hw5, ← hb5]
    have hl5 : Below w4.heap.size w4 w5 := by rw [hw5]; exact (ZR _ w4).alloc (Nat.le_refl _) _
    have ky : w5.heap[b5]? = some (.cells #[.int .i64 y.kind, .int .i64 y.feature, .int .i64 y.lower, .int .i64 y.upper, .bool y.bonus] 30 (0, 0)) := by rw [hw5, hb5]; exact ZW w4 _
    have HKY := ZH ky
    have HB5 := ZH (HB4.out.trans (hl5.mono HB4.out.size))
    have HD5 := ZH (ZN (HD4.out.1.below hl5) ((hl5.block bd (ZL HD4.out.2)).trans HD4.out.2))
    have HK95 := ZH ((hl5.block b9 (ZL HK94.out)).trans HK94.out)
    have HW5 := ZH (ZR w5.heap.size w5)
    have HKA5 := ZH ((HB5.out.block ba (ZL HKA1.out)).trans HKA1.out)
    have HKZ5 := ZH ((HB5.out.block bz (ZL HKZ1.out)).trans HKZ1.out)
    obtain ⟨q2, hq2⟩ : ∃ x, x = rs.getD m2 0 := ⟨_, rfl⟩
    have hx := (HRC.out m2 (by have := HM2.out.2; have := HN.out.2.2; omega)).below (HB1.out.trans (HB5.out.mono HB1.out.size))
    rw [← hq2] at hx
    obtain ⟨r1, e1, f1, g1, r2, e2, f2, g2, y0, y1, y2, y3, hrt2⟩ := hx
    have HYY := ZH (ZN y0 (ZN y1 (ZN y2 y3)))
    have HRT2 := ZH hrt2
    have HQ2 := ZH (show mq = q2 - ((wd + y.lower : Int) : Rat) by
     rw [HMQ.out, moreOf, if_pos HBO.out, HKF.out.1, HM2.out.1, Int.toNat_natCast, Int.toNat_natCast, hq2, HX5.out.2.1, HY2.out.1])
    have HMB2 := ZH (show (0 : Int) ≤ (m2 : Int) ∧ (m2 : Int) < (nr : Int) ∧ (0 : Int) ≤ (kf : Int) ∧ (kf : Int) < (n : Int) by have h1 := HM2.out.2; have h2 := HKF.out.2; have h3 := HN.out.1; omega)
    have HX55 := ZH (ZJ (HB1.out.trans (HB5.out.mono HB1.out.size)) HX5.out.1)
    clear hw5 hb5 hl5 ky hq2 y0 y1 y2 y3 hrt2 HD4 HK94
    refine FlowR.wp_region_sel (fun a b => Below a.heap.size a b) (fun a => ZR _ a) (fun _ _ _ h k => h.trans (k.mono h.size)) [0, 1, 2, 3, 4, 5, 6, 7, 8, 9, 10, 11, 12, 13, 14, 15, 16, 17, 18] [false, false, false, false, false, false, false, false, false, false, false, false, false, false, false, false, false, false, false, false] [true, true, true, true, true, true, true, true, true, true, true, true, true, true, true, true, true, true, true, false] (fun i9 v w' => match i9 with
     | 0 => v = .slice (some ⟨rb, ro, none⟩) nr cr
     | 1 => v = .agg #[.slice (some ⟨fb, fo, none⟩) n cf, .slice az nz cz]
     | 2 => v = .pointer (some ⟨bz, 1, none⟩)
     | 3 => v = .int .i64 (kf : Int)
     | 4 => v = .int .i64 (m2 : Int)
     | 5 => v = .pointer (some ⟨rb, ro + m2 * 4, none⟩)
     | 6 => v = .agg #[.bool r1, .slice e1 f1 g1, .bool r2, .slice e2 f2 g2]
     | 7 => v = .pointer (some ⟨ba, 0, none⟩)
     | 8 => v = .slice (some ⟨fb, fo, none⟩) n cf
     | 9 => v = .pointer (some ⟨bz, 1, none⟩)
     | 10 => v = .int .i64 (kf : Int)
     | 11 => v = .pointer (some ⟨fb, fo + kf * 6, none⟩)
     | 12 => v = .pointer (some ⟨fb, fo + kf * 6 + 5, none⟩)
     | 13 => v = .int .i64 wd
     | 14 => v = .pointer (some ⟨b5, 2, none⟩)
     | 15 => v = .int .i64 y.lower
     | 16 => v = .int .i64 (wd + y.lower)
     | 17 => RtIn w' v ((wd + y.lower : Int) : Rat) 2
     | _ => RtIn w' v mq (M + 2 + 1)) rfl rfl (by kernel_rfl) (by kernel_rfl) (by kernel_rfl) (by kernel_rfl) ?st ?steps ?fin
    case st =>
     intro i9 v u1 u2 h hb
     match i9 with
     | 0 | 1 | 2 | 3 | 4 | 5 | 6 | 7 | 8 | 9 | 10 | 11 | 12 | 13 | 14 | 15 | 16 => exact h
     | 17 => exact (show RtIn u1 v ((wd + y.lower : Int) : Rat) 2 from h).below hb
     | 18 | _ + 19 => exact (show RtIn u1 v mq (M + 2 + 1) from h).below hb
    case steps =>
     refine zSc (zSo rfl ?s0) (zSc (zSo rfl ?s1) (zSc (zSo rfl ?s2) (zSc (zSo rfl ?s3) (zSc (zSo rfl ?s4) (zSc (zSo rfl ?s5) (zSc (zSo rfl ?s6) (zSc (zSo rfl ?s7) (zSc (zSo rfl ?s8) (zSc (zSo rfl ?s9) (zSc (zSo rfl ?s10) (zSc (zSo rfl ?s11) (zSc (zSo rfl ?s12) (zSc (zSo rfl ?s13) (zSc (zSo rfl ?s14) (zSc (zSo rfl ?s15) (zSc (zSo rfl ?s16) (zSc (zSo rfl ?s17) (zSc (zSo rfl ?s18) zSn))))))))))))))))))
     case s0 | s2 | s7 | s9 | s14 =>
      intro xs w' hb hT K9 hK9
      clear hT
      simp only [zFp, zAp, zLa, zLb, zLc, Nat.reduceAdd, zNz] at hK9 ⊢
      have hw := Flow.hwD HW5.out hb
      go_simp
      exact hK9 _ _ (ZR _ _) rfl
     case s1 =>
      intro xs w' hb hT K9 hK9
      clear hT
      simp only [zFp, zAp, zLa, zLb, zLc, Nat.reduceAdd, zNz] at hK9 ⊢
      have hw := Flow.hwD HW5.out hb
      have kb := (hw.block ba (ZL HKA5.out)).trans HKA5.out
      have y0 := ZI kb 0
      have y1 := ZI kb 1
      clear kb
      simp at y0 y1
      go_simp
      exact hK9 _ _ (ZR _ _) rfl
     case s3 =>
      intro xs w' hb hT K9 hK9
      have h2 : (xs 2) = .pointer (some ⟨bz, 1, none⟩) := hT 2 (by kernel_rfl)
      clear hT
      simp only [zFp, zAp, zLa, zLb, zLc, Nat.reduceAdd, zNz] at hK9 ⊢
      have hw := Flow.hwD HW5.out hb
      have kb := (hw.block bz (ZL HKZ5.out)).trans HKZ5.out
      have y0 := ZI kb 1
      clear kb
      simp at y0
      (try simp only [h2] at hK9)
      go_simp
      exact hK9 _ _ (ZR _ _) rfl
     case s4 =>
      intro xs w' hb hT K9 hK9
      have h1 : (xs 1) = .agg #[.slice (some ⟨fb, fo, none⟩) n cf, .slice az nz cz] := hT 1 (by kernel_rfl)
      have h3 : (xs 3) = .int .i64 (kf : Int) := hT 3 (by kernel_rfl)
      clear hT
      simp only [zFp, zAp, zLa, zLb, zLc, Nat.reduceAdd, zNz] at hK9 ⊢
      have hw := Flow.hwD HW5.out hb
      (try simp only [h1] at hK9)
      (try simp only [h3] at hK9)
      go_simp
      go_at_call 79
      refine (HIX.out _ (HS.out.below (HB1.out.trans ((HB5.out.trans (hw.mono HB5.out.size)).mono HB1.out.size))) (kf : Int) 2).mono ?_
      rintro e w3 ⟨rfl, hb3⟩
      exact hK9 _ _ hb3 (by rw [HM2.out.1])
     case s5 =>
      intro xs w' hb hT K9 hK9
      have h0 : (xs 0) = .slice (some ⟨rb, ro, none⟩) nr cr := hT 0 (by kernel_rfl)
      have h4 : (xs 4) = .int .i64 (m2 : Int) := hT 4 (by kernel_rfl)
      clear hT
      simp only [zFp, zAp, zLa, zLb, zLc, Nat.reduceAdd, zNz] at hK9 ⊢
      have hw := Flow.hwD HW5.out hb
      (try simp only [h0] at hK9)
      (try simp only [h4] at hK9)
      have g0 := HMB2.out.1
      have g9 := HMB2.out.2.1
      go_simp
      exact hK9 _ _ (ZR _ _) rfl
     case s6 =>
      intro xs w' hb hT K9 hK9
      have h5 : (xs 5) = .pointer (some ⟨rb, ro + m2 * 4, none⟩) := hT 5 (by kernel_rfl)
      clear hT
      simp only [zFp, zAp, zLa, zLb, zLc, Nat.reduceAdd, zNz] at hK9 ⊢
      have hw := Flow.hwD HW5.out hb
      (try simp only [h5] at hK9)
      have y0 := ZJ hw HYY.out.1
      have y1 := ZJ hw HYY.out.2.1
      have y2 := ZJ hw HYY.out.2.2.1
      have y3 := ZJ hw HYY.out.2.2.2
      go_simp
      exact hK9 _ _ (ZR _ _) rfl
     case s8 =>
      intro xs w' hb hT K9 hK9
      have h7 : (xs 7) = .pointer (some ⟨ba, 0, none⟩) := hT 7 (by kernel_rfl)
      clear hT
      simp only [zFp, zAp, zLa, zLb, zLc, Nat.reduceAdd, zNz] at hK9 ⊢
      have hw := Flow.hwD HW5.out hb
      have kb := (hw.block ba (ZL HKA5.out)).trans HKA5.out
      have y0 := ZI kb 0
      clear kb
      simp at y0
      (try simp only [h7] at hK9)
      go_simp
      exact hK9 _ _ (ZR _ _) rfl
     case s10 =>
      intro xs w' hb hT K9 hK9
      have h9 : (xs 9) = .pointer (some ⟨bz, 1, none⟩) := hT 9 (by kernel_rfl)
      clear hT
      simp only [zFp, zAp, zLa, zLb, zLc, Nat.reduceAdd, zNz] at hK9 ⊢
      have hw := Flow.hwD HW5.out hb
      have kb := (hw.block bz (ZL HKZ5.out)).trans HKZ5.out
      have y0 := ZI kb 1
      clear kb
      simp at y0
      (try simp only [h9] at hK9)
      go_simp
      exact hK9 _ _ (ZR _ _) rfl
     case s11 =>
      intro xs w' hb hT K9 hK9
      have h8 : (xs 8) = .slice (some ⟨fb, fo, none⟩) n cf := hT 8 (by kernel_rfl)
      have h10 : (xs 10) = .int .i64 (kf : Int) := hT 10 (by kernel_rfl)
      clear hT
      simp only [zFp, zAp, zLa, zLb, zLc, Nat.reduceAdd, zNz] at hK9 ⊢
      have hw := Flow.hwD HW5.out hb
      (try simp only [h8] at hK9)
      (try simp only [h10] at hK9)
      have g0 := HMB2.out.2.2.1
      have g9 := HMB2.out.2.2.2
      go_simp
      exact hK9 _ _ (ZR _ _) rfl
     case s12 =>
      intro xs w' hb hT K9 hK9
      have h11 : (xs 11) = .pointer (some ⟨fb, fo + kf * 6, none⟩) := hT 11 (by kernel_rfl)
      clear hT
      simp only [zFp, zAp, zLa, zLb, zLc, Nat.reduceAdd, zNz] at hK9 ⊢
      have hw := Flow.hwD HW5.out hb
      (try simp only [h11] at hK9)
      go_simp
      exact hK9 _ _ (ZR _ _) rfl
     case s13 =>
      intro xs w' hb hT K9 hK9
      have h12 : (xs 12) = .pointer (some ⟨fb, fo + kf * 6 + 5, none⟩) := hT 12 (by kernel_rfl)
      clear hT
      simp only [zFp, zAp, zLa, zLb, zLc, Nat.reduceAdd, zNz] at hK9 ⊢
      have hw := Flow.hwD HW5.out hb
      (try simp only [h12] at hK9)
      have y0 := ZJ hw HX55.out
      go_simp
      exact hK9 _ _ (ZR _ _) rfl
     case s15 =>
      intro xs w' hb hT K9 hK9
      have h14 : (xs 14) = .pointer (some ⟨b5, 2, none⟩) := hT 14 (by kernel_rfl)
      clear hT
      simp only [zFp, zAp, zLa, zLb, zLc, Nat.reduceAdd, zNz] at hK9 ⊢
      have hw := Flow.hwD HW5.out hb
      have kb := (hw.block b5 (ZL HKY.out)).trans HKY.out
      have y0 := ZI kb 2
      clear kb
      simp at y0
      (try simp only [h14] at hK9)
      go_simp
      exact hK9 _ _ (ZR _ _) rfl
     case s16 =>
      intro xs w' hb hT K9 hK9
      have h13 : (xs 13) = .int .i64 wd := hT 13 (by kernel_rfl)
      have h15 : (xs 15) = .int .i64 y.lower := hT 15 (by kernel_rfl)
      clear hT
      simp only [zFp, zAp, zLa, zLb, zLc, Nat.reduceAdd, zNz] at hK9 ⊢
      have hw := Flow.hwD HW5.out hb
      (try simp only [h13] at hK9)
      (try simp only [h15] at hK9)
      have hwr : IntKind.i64.wrap (wd + y.lower) = wd + y.lower := IntWalk.i64_in _ (by have h1 := HX5.out.2.2; have h2 := HY2.out.2; omega)
      go_simp
      exact hK9 _ _ (ZR _ _) rfl
     case s17 =>
      intro xs w' hb hT K9 hK9
      have h16 : (xs 16) = .int .i64 (wd + y.lower) := hT 16 (by kernel_rfl)
      clear hT
      simp only [zFp, zAp, zLa, zLb, zLc, Nat.reduceAdd, zNz] at hK9 ⊢
      have hw := Flow.hwD HW5.out hb
      (try simp only [h16] at hK9)
      go_simp
      go_at_call 26
      refine (ratFrom_any (by have h1 := HX5.out.2.2; have h2 := HY2.out.2; omega) (by have h1 := HX5.out.2.2; have h2 := HY2.out.2; omega)).mono ?_
      rintro e w3 ⟨v3, rfl, hi3, hb3⟩
      exact hK9 _ _ hb3 hi3
     case s18 =>
      intro xs w' hb hT K9 hK9
      have h6 : (xs 6) = .agg #[.bool r1, .slice e1 f1 g1, .bool r2, .slice e2 f2 g2] := hT 6 (by kernel_rfl)
      have h17 : RtIn w' (xs 17) ((wd + y.lower : Int) : Rat) 2 := hT 17 (by kernel_rfl)
      clear hT
      simp only [zFp, zAp, zLa, zLb, zLc, Nat.reduceAdd, zNz] at hK9 ⊢
      have hw := Flow.hwD HW5.out hb
      (try simp only [h6] at hK9)
      go_simp
      go_at_call 70
      refine (ratSub_any (HRT2.out.below hw) h17 HB.out.1 (Nat.le_refl 2) (by have := HB.out.2; omega)).mono ?_
      rintro e w3 ⟨v3, rfl, hi3, hb3⟩
      exact hK9 _ _ hb3 (by rw [HQ2.out]; exact hi3)
    case fin =>
     intro xs w' hb hT
     have hw := Flow.hwD HW5.out hb
     have h18 : RtIn w' (xs 18) mq (M + 2 + 1) := hT 18 (by rfl)
     clear hT
     simp only [zFp, zAp, zLa, zLb, zLc, Nat.reduceAdd, zNz, FlowR.restL, FlowR.orM, Bool.false_or]
     obtain ⟨p1, g3, i1, j1, p2, g4, i2, j2, e9⟩ := rt_shape h18
     rw [e9] at h18
     simp only [e9]
     clear e9
     have k9 := (hw.block b9 (ZL HK95.out)).trans HK95.out
     have x0 := ZI k9 0
     have x1 := ZI k9 1
     have x2 := ZI k9 2
     have x3 := ZI k9 3
     have f0 := ZF k9 0
     have f1' := ZF k9 1
     have f2' := ZF k9 2
     have f3 := ZF k9 3
     simp at x0 x1 x2 x3
     have hbut := But.set4 (b := b9) w' (.bool p1) (.slice g3 i1 j1) (.bool p2) (.slice g4 i2 j2)
     have hd := h18.but (nodig4 k9) hbut
     have hkd := four_set k9 (.bool p1) (.slice g3 i1 j1) (.bool p2) (.slice g4 i2 j2)
     have hdd := (HD5.out.1.below hw).but (nodig4 k9) hbut
     have hkdd := (hbut.block bd HG9.out.2 (ZL ((hw.block bd (ZL HD5.out.2)).trans HD5.out.2))).trans ((hw.block bd (ZL HD5.out.2)).trans HD5.out.2)
     have hbd := (((((HB5.out.trans (hw.mono HB5.out.size)).setCell (p := ⟨b9, 0, none⟩) HG9.out.1 (.bool p1)).setCell (p := ⟨b9, 1, none⟩) HG9.out.1 (.slice g3 i1 j1)).setCell (p := ⟨b9, 2, none⟩) HG9.out.1 (.bool p2)).setCell (p := ⟨b9, 3, none⟩) HG9.out.1 (.slice g4 i2 j2))
     have HF := ZH (ZN hkd (ZN hd (ZN hdd (ZN hkdd hbd))))
     clear h18 k9 hd hkd hdd hkdd hbd hbut hw hb
     go_wp2_with fail
     go_meet
     exact ⟨⟨_, _, _, _, _, _, _, _, HF.out.1, HF.out.2.1⟩, ⟨HF.out.2.2.1, HF.out.2.2.2.1⟩, HF.out.2.2.2.2⟩
  case rest =>
   obtain ⟨⟨p1, g1, i1, j1, p2, g2, i2, j2, hk9, hr9⟩, ⟨hrd, hkd⟩, hb⟩ := hcut
   have HK6 := ZH hk9
   have HR6 := ZH hr9
   have HRD6 := ZH hrd
   have HKD6 := ZH hkd
   have HB6 := ZH hb
   have HKZ6 := ZH ((hb.block bz (ZL HKZ1.out)).trans HKZ1.out)
   have HW6 := ZH (ZR wc.heap.size wc)
   obtain ⟨B1, hB1⟩ : ∃ x, x = decide (0 ≤ cmpQ dq ((z.lower : Rat) - mq)) := ⟨_, rfl⟩
   obtain ⟨B2, hB2⟩ : ∃ x, x = decide (cmpQ dq ((z.upper : Rat) + mq) ≤ 0) := ⟨_, rfl⟩
   have HBB := ZH (ZN hB1 hB2)
   clear hk9 hr9 hrd hkd hb z4 hB1 hB2
   go_upto_region 7 with fail
   refine FlowR.wp_region_sel (fun a b => Below a.heap.size a b) (fun a => ZR _ a) (fun _ _ _ h k => h.trans (k.mono h.size)) [0, 1, 2, 3, 4, 5, 6, 7, 8, 9, 10, 11, 12, 13, 14, 15, 16, 17] [false, false, false, false, false, false, false, false, false, false, false, false, false, false, false, false, false, false, false] [true, true, true, true, true, true, true, true, true, true, true, true, true, true, true, true, true, true, false] (fun i9 v w' => match i9 with
    | 0 => v = .agg #[.bool t1, .slice b1 d1 o1, .bool t2, .slice b2 d2 o2]
    | 1 => v = .pointer (some ⟨bz, 2, none⟩)
    | 2 => v = .int .i64 z.lower
    | 3 => RtIn w' v (z.lower : Rat) 2
    | 4 => v = .agg #[.bool p1, .slice g1 i1 j1, .bool p2, .slice g2 i2 j2]
    | 5 => RtIn w' v ((z.lower : Rat) - mq) (2 + (M + 2 + 1) + 1)
    | 6 => v = .int .i64 (cmpQ dq ((z.lower : Rat) - mq))
    | 7 => v = .bool (B1)
    | 8 => v = .bool (B1)
    | 9 => (B1) = true → v = .agg #[.bool t1, .slice b1 d1 o1, .bool t2, .slice b2 d2 o2]
    | 10 => (B1) = true → v = .pointer (some ⟨bz, 3, none⟩)
    | 11 => (B1) = true → v = .int .i64 z.upper
    | 12 => (B1) = true → RtIn w' v (z.upper : Rat) 2
    | 13 => (B1) = true → v = .agg #[.bool p1, .slice g1 i1 j1, .bool p2, .slice g2 i2 j2]
    | 14 => (B1) = true → RtIn w' v ((z.upper : Rat) + mq) (2 + (M + 2 + 1) + 1)
    | 15 => (B1) = true → v = .int .i64 (cmpQ dq ((z.upper : Rat) + mq))
    | 16 => (B1) = true → v = .bool (B2)
    | _ => v = .bool (B1 && B2)) rfl rfl (by kernel_rfl) (by kernel_rfl) (by kernel_rfl) (by kernel_rfl) ?st ?steps ?fin
   case st =>
    intro i9 v u1 u2 h hb
    match i9 with
    | 0 | 1 | 2 | 4 | 6 | 7 | 8 | 9 | 10 | 11 | 13 | 15 | 16 | 17 | _ + 18 => exact h
    | 3 => exact (show RtIn u1 v (z.lower : Rat) 2 from h).below hb
    | 5 => exact (show RtIn u1 v ((z.lower : Rat) - mq) (2 + (M + 2 + 1) + 1) from h).below hb
    | 12 => exact fun hq => ((show (B1) = true → RtIn u1 v (z.upper : Rat) 2 from h) hq).below hb
    | 14 => exact fun hq => ((show (B1) = true → RtIn u1 v ((z.upper : Rat) + mq) (2 + (M + 2 + 1) + 1) from h) hq).below hb
   case steps =>
    refine zSc (zSo rfl ?s0) (zSc (zSo rfl ?s1) (zSc (zSo rfl ?s2) (zSc (zSo rfl ?s3) (zSc (zSo rfl ?s4) (zSc (zSo rfl ?s5) (zSc (zSo rfl ?s6) (zSc (zSo rfl ?s7) (zSc (zSo rfl ?s8) (zSc (zSo rfl ?s9) (zSc (zSo rfl ?s10) (zSc (zSo rfl ?s11) (zSc (zSo rfl ?s12) (zSc (zSo rfl ?s13) (zSc (zSo rfl ?s14) (zSc (zSo rfl ?s15) (zSc (zSo rfl ?s16) (zSc (zSo rfl ?s17) zSn)))))))))))))))))
    case s0 =>
     intro xs w' hb hT K9 hK9
     clear hT
     simp only [zFp, zAp, zLa, zLb, zLc, Nat.reduceAdd, zNz] at hK9 ⊢
     have hw := Flow.hwD HW6.out hb
     have kb := (hw.block bd (ZL HKD6.out)).trans HKD6.out
     have y0 := ZI kb 0
     have y1 := ZI kb 1
     have y2 := ZI kb 2
     have y3 := ZI kb 3
     clear kb
     simp at y0 y1 y2 y3
     go_simp
     exact hK9 _ _ (ZR _ _) rfl
    case s1 =>
     intro xs w' hb hT K9 hK9
     clear hT
     simp only [zFp, zAp, zLa, zLb, zLc, Nat.reduceAdd, zNz] at hK9 ⊢
     have hw := Flow.hwD HW6.out hb
     go_simp
     exact hK9 _ _ (ZR _ _) rfl
    case s2 =>
     intro xs w' hb hT K9 hK9
     have h1 : (xs 1) = .pointer (some ⟨bz, 2, none⟩) := hT 1 (by kernel_rfl)
     clear hT
     simp only [zFp, zAp, zLa, zLb, zLc, Nat.reduceAdd, zNz] at hK9 ⊢
     have hw := Flow.hwD HW6.out hb
     have kb := (hw.block bz (ZL HKZ6.out)).trans HKZ6.out
     have y0 := ZI kb 2
     clear kb
     simp at y0
     (try simp only [h1] at hK9)
     go_simp
     exact hK9 _ _ (ZR _ _) rfl
    case s3 =>
     intro xs w' hb hT K9 hK9
     have h2 : (xs 2) = .int .i64 z.lower := hT 2 (by kernel_rfl)
     clear hT
     simp only [zFp, zAp, zLa, zLb, zLc, Nat.reduceAdd, zNz] at hK9 ⊢
     have hw := Flow.hwD HW6.out hb
     (try simp only [h2] at hK9)
     go_simp
     go_at_call 26
     refine (ratFrom_any (by have := HZB.out; omega) (by have := HZB.out; omega)).mono ?_
     rintro e w3 ⟨v3, rfl, hi3, hb3⟩
     exact hK9 _ _ hb3 hi3
    case s4 =>
     intro xs w' hb hT K9 hK9
     clear hT
     simp only [zFp, zAp, zLa, zLb, zLc, Nat.reduceAdd, zNz] at hK9 ⊢
     have hw := Flow.hwD HW6.out hb
     have kb := (hw.block b9 (ZL HK6.out)).trans HK6.out
     have y0 := ZI kb 0
     have y1 := ZI kb 1
     have y2 := ZI kb 2
     have y3 := ZI kb 3
     clear kb
     simp at y0 y1 y2 y3
     go_simp
     exact hK9 _ _ (ZR _ _) rfl
    case s5 =>
     intro xs w' hb hT K9 hK9
     have h3 : RtIn w' (xs 3) (z.lower : Rat) 2 := hT 3 (by kernel_rfl)
     have h4 : (xs 4) = .agg #[.bool p1, .slice g1 i1 j1, .bool p2, .slice g2 i2 j2] := hT 4 (by kernel_rfl)
     clear hT
     simp only [zFp, zAp, zLa, zLb, zLc, Nat.reduceAdd, zNz] at hK9 ⊢
     have hw := Flow.hwD HW6.out hb
     (try simp only [h4] at hK9)
     go_simp
     go_at_call 70
     refine (ratSub_any h3 (HR6.out.below hw) (Nat.le_refl 2) (by omega) (by have := HB.out.2; omega)).mono ?_
     rintro e w3 ⟨v3, rfl, hi3, hb3⟩
     exact hK9 _ _ hb3 hi3
    case s6 =>
     intro xs w' hb hT K9 hK9
     have h0 : (xs 0) = .agg #[.bool t1, .slice b1 d1 o1, .bool t2, .slice b2 d2 o2] := hT 0 (by kernel_rfl)
     have h5 : RtIn w' (xs 5) ((z.lower : Rat) - mq) (2 + (M + 2 + 1) + 1) := hT 5 (by kernel_rfl)
     clear hT
     simp only [zFp, zAp, zLa, zLb, zLc, Nat.reduceAdd, zNz] at hK9 ⊢
     have hw := Flow.hwD HW6.out hb
     (try simp only [h0] at hK9)
     go_simp
     go_at_call 64
     refine (ratCompare_any (HRD6.out.below hw) h5 (by omega) (by omega) (by have := HB.out.2; omega)).mono ?_
     rintro e w3 ⟨rfl, hb3⟩
     exact hK9 _ _ hb3 rfl
    case s7 =>
     intro xs w' hb hT K9 hK9
     have h6 : (xs 6) = .int .i64 (cmpQ dq ((z.lower : Rat) - mq)) := hT 6 (by kernel_rfl)
     clear hT
     simp only [zFp, zAp, zLa, zLb, zLc, Nat.reduceAdd, zNz] at hK9 ⊢
     have hw := Flow.hwD HW6.out hb
     (try simp only [h6] at hK9)
     go_simp
     exact hK9 _ _ (ZR _ _) (congrArg Value.bool HBB.out.1.symm)
    case s8 =>
     intro xs w' hb hT K9 hK9
     have h7 : (xs 7) = .bool (B1) := hT 7 (by kernel_rfl)
     clear hT
     simp only [zFp, zAp, zLa, zLb, zLc, Nat.reduceAdd, zNz] at hK9 ⊢
     have hw := Flow.hwD HW6.out hb
     (try simp only [h7] at hK9)
     go_simp
     exact hK9 _ _ (ZR _ _) rfl
    case s9 =>
     intro xs w' hb hT K9 hK9
     have h8 : (xs 8) = .bool (B1) := hT 8 (by kernel_rfl)
     clear hT
     simp only [zFp, zAp, zLa, zLb, zLc, Nat.reduceAdd, zNz] at hK9 ⊢
     have hw := Flow.hwD HW6.out hb
     by_cases hg : (B1) = true
     ·rw [hg] at h8
      have kb := (hw.block bd (ZL HKD6.out)).trans HKD6.out
      have y0 := ZI kb 0
      have y1 := ZI kb 1
      have y2 := ZI kb 2
      have y3 := ZI kb 3
      clear kb
      simp at y0 y1 y2 y3
      (try simp only [h8] at hK9)
      go_simp
      exact hK9 _ _ (ZR _ _) (fun _ => rfl)
     ·have hg' : (B1) = false := eq_false_of_ne_true hg
      rw [hg'] at h8
      (try simp only [h8] at hK9)
      go_simp
      exact hK9 _ _ (ZR _ _) (fun h => absurd h hg)
    case s10 =>
     intro xs w' hb hT K9 hK9
     have h8 : (xs 8) = .bool (B1) := hT 8 (by kernel_rfl)
     clear hT
     simp only [zFp, zAp, zLa, zLb, zLc, Nat.reduceAdd, zNz] at hK9 ⊢
     have hw := Flow.hwD HW6.out hb
     by_cases hg : (B1) = true
     ·rw [hg] at h8
      (try simp only [h8] at hK9)
      go_simp
      exact hK9 _ _ (ZR _ _) (fun _ => rfl)
     ·have hg' : (B1) = false := eq_false_of_ne_true hg
      rw [hg'] at h8
      (try simp only [h8] at hK9)
      go_simp
      exact hK9 _ _ (ZR _ _) (fun h => absurd h hg)
    case s11 =>
     intro xs w' hb hT K9 hK9
     have h8 : (xs 8) = .bool (B1) := hT 8 (by kernel_rfl)
     have h10 : (B1) = true → (xs 10) = .pointer (some ⟨bz, 3, none⟩) := hT 10 (by kernel_rfl)
     clear hT
     simp only [zFp, zAp, zLa, zLb, zLc, Nat.reduceAdd, zNz] at hK9 ⊢
     have hw := Flow.hwD HW6.out hb
     by_cases hg : (B1) = true
     ·rw [hg] at h8
      replace h10 := h10 hg
      have kb := (hw.block bz (ZL HKZ6.out)).trans HKZ6.out
      have y0 := ZI kb 3
      clear kb
      simp at y0
      (try simp only [h8] at hK9)
      (try simp only [h10] at hK9)
      go_simp
      exact hK9 _ _ (ZR _ _) (fun _ => rfl)
     ·have hg' : (B1) = false := eq_false_of_ne_true hg
      rw [hg'] at h8
      (try simp only [h8] at hK9)
      clear h10
      go_simp
      exact hK9 _ _ (ZR _ _) (fun h => absurd h hg)
    case s12 =>
     intro xs w' hb hT K9 hK9
     have h8 : (xs 8) = .bool (B1) := hT 8 (by kernel_rfl)
     have h11 : (B1) = true → (xs 11) = .int .i64 z.upper := hT 11 (by kernel_rfl)
     clear hT
     simp only [zFp, zAp, zLa, zLb, zLc, Nat.reduceAdd, zNz] at hK9 ⊢
     have hw := Flow.hwD HW6.out hb
     by_cases hg : (B1) = true
     ·rw [hg] at h8
      replace h11 := h11 hg
      (try simp only [h8] at hK9)
      (try simp only [h11] at hK9)
      go_simp
      go_at_call 26
      refine (ratFrom_any (by have := HZB.out; omega) (by have := HZB.out; omega)).mono ?_
      rintro e w3 ⟨v3, rfl, hi3, hb3⟩
      exact hK9 _ _ hb3 (fun _ => hi3)
     ·have hg' : (B1) = false := eq_false_of_ne_true hg
      rw [hg'] at h8
      (try simp only [h8] at hK9)
      clear h11
      go_simp
      exact hK9 _ _ (ZR _ _) (fun h => absurd h hg)
    case s13 =>
     intro xs w' hb hT K9 hK9
     have h8 : (xs 8) = .bool (B1) := hT 8 (by kernel_rfl)
     clear hT
     simp only [zFp, zAp, zLa, zLb, zLc, Nat.reduceAdd, zNz] at hK9 ⊢
     have hw := Flow.hwD HW6.out hb
     by_cases hg : (B1) = true
     ·rw [hg] at h8
      have kb := (hw.block b9 (ZL HK6.out)).trans HK6.out
      have y0 := ZI kb 0
      have y1 := ZI kb 1
      have y2 := ZI kb 2
      have y3 := ZI kb 3
      clear kb
      simp at y0 y1 y2 y3
      (try simp only [h8] at hK9)
      go_simp
      exact hK9 _ _ (ZR _ _) (fun _ => rfl)
     ·have hg' : (B1) = false := eq_false_of_ne_true hg
      rw [hg'] at h8
      (try simp only [h8] at hK9)
      go_simp
      exact hK9 _ _ (ZR _ _) (fun h => absurd h hg)
    case s14 =>
     intro xs w' hb hT K9 hK9
     have h8 : (xs 8) = .bool (B1) := hT 8 (by kernel_rfl)
     have h12 : (B1) = true → RtIn w' (xs 12) (z.upper : Rat) 2 := hT 12 (by kernel_rfl)
     have h13 : (B1) = true → (xs 13) = .agg #[.bool p1, .slice g1 i1 j1, .bool p2, .slice g2 i2 j2] := hT 13 (by kernel_rfl)
     clear hT
     simp only [zFp, zAp, zLa, zLb, zLc, Nat.reduceAdd, zNz] at hK9 ⊢
     have hw := Flow.hwD HW6.out hb
     by_cases hg : (B1) = true
     ·rw [hg] at h8
      replace h12 := h12 hg
      replace h13 := h13 hg
      (try simp only [h8] at hK9)
      (try simp only [h13] at hK9)
      go_simp
      go_at_call 72
      refine (ratAdd_any h12 (HR6.out.below hw) (Nat.le_refl 2) (by omega) (by have := HB.out.2; omega)).mono ?_
      rintro e w3 ⟨v3, rfl, hi3, hb3⟩
      exact hK9 _ _ hb3 (fun _ => hi3)
     ·have hg' : (B1) = false := eq_false_of_ne_true hg
      rw [hg'] at h8
      (try simp only [h8] at hK9)
      clear h12 h13
      go_simp
      exact hK9 _ _ (ZR _ _) (fun h => absurd h hg)
    case s15 =>
     intro xs w' hb hT K9 hK9
     have h8 : (xs 8) = .bool (B1) := hT 8 (by kernel_rfl)
     have h9 : (B1) = true → (xs 9) = .agg #[.bool t1, .slice b1 d1 o1, .bool t2, .slice b2 d2 o2] := hT 9 (by kernel_rfl)
     have h14 : (B1) = true → RtIn w' (xs 14) ((z.upper : Rat) + mq) (2 + (M + 2 + 1) + 1) := hT 14 (by kernel_rfl)
     clear hT
     simp only [zFp, zAp, zLa, zLb, zLc, Nat.reduceAdd, zNz] at hK9 ⊢
     have hw := Flow.hwD HW6.out hb
     by_cases hg : (B1) = true
     ·rw [hg] at h8
      replace h9 := h9 hg
      replace h14 := h14 hg
      (try simp only [h8] at hK9)
      (try simp only [h9] at hK9)
      go_simp
      go_at_call 64
      refine (ratCompare_any (HRD6.out.below hw) h14 (by omega) (by omega) (by have := HB.out.2; omega)).mono ?_
      rintro e w3 ⟨rfl, hb3⟩
      exact hK9 _ _ hb3 (fun _ => rfl)
     ·have hg' : (B1) = false := eq_false_of_ne_true hg
      rw [hg'] at h8
      (try simp only [h8] at hK9)
      clear h9 h14
      go_simp
      exact hK9 _ _ (ZR _ _) (fun h => absurd h hg)
    case s16 =>
     intro xs w' hb hT K9 hK9
     have h8 : (xs 8) = .bool (B1) := hT 8 (by kernel_rfl)
     have h15 : (B1) = true → (xs 15) = .int .i64 (cmpQ dq ((z.upper : Rat) + mq)) := hT 15 (by kernel_rfl)
     clear hT
     simp only [zFp, zAp, zLa, zLb, zLc, Nat.reduceAdd, zNz] at hK9 ⊢
     have hw := Flow.hwD HW6.out hb
     by_cases hg : (B1) = true
     ·rw [hg] at h8
      replace h15 := h15 hg
      (try simp only [h8] at hK9)
      (try simp only [h15] at hK9)
      go_simp
      exact hK9 _ _ (ZR _ _) (fun _ => (congrArg Value.bool HBB.out.2.symm))
     ·have hg' : (B1) = false := eq_false_of_ne_true hg
      rw [hg'] at h8
      (try simp only [h8] at hK9)
      clear h15
      go_simp
      exact hK9 _ _ (ZR _ _) (fun h => absurd h hg)
    case s17 =>
     intro xs w' hb hT K9 hK9
     have h8 : (xs 8) = .bool (B1) := hT 8 (by kernel_rfl)
     have h16 : (B1) = true → (xs 16) = .bool (B2) := hT 16 (by kernel_rfl)
     clear hT
     simp only [zFp, zAp, zLa, zLb, zLc, Nat.reduceAdd, zNz] at hK9 ⊢
     have hw := Flow.hwD HW6.out hb
     by_cases hg : (B1) = true
     ·rw [hg] at h8
      replace h16 := h16 hg
      (try simp only [h8] at hK9)
      (try simp only [h16] at hK9)
      go_simp
      exact hK9 _ _ (ZR _ _) (by simp [ hg])
     ·have hg' : (B1) = false := eq_false_of_ne_true hg
      rw [hg'] at h8
      clear h16
      (try simp only [h8] at hK9)
      go_simp
      exact hK9 _ _ (ZR _ _) (by simp [ hg'])
   case fin =>
    intro xs w' hb hT
    have hw := Flow.hwD HW6.out hb
    have h17 : (xs 17) = .bool (B1 && B2) := hT 17 (by rfl)
    clear hT
    simp only [zFp, zAp, zLa, zLb, zLc, Nat.reduceAdd, zNz, FlowR.restL, FlowR.orM, Bool.false_or]
    simp only [h17]
    have HF := ZH (HAL.out.trans ((HB1.out.trans ((HB6.out.trans (hw.mono HB6.out.size)).mono HB1.out.size)).mono HAL.out.size))
    clear h17 hw hb
    go_wp2_with fail
    go_ret
    exact ⟨by rw [HKP.out, ← HBB.out.1, ← HBB.out.2]; rfl, HF.out⟩
end Go.Proofs.YtgofihilkobenaaGreatDoor
