/- Schemes of features and zones, and their first error. No program stands here. -/
import Derived.IntWalk
import Derived.Test.YtgofihilkobenaaGreatDoorKH
import Derived.Deep.CutRange
import Derived.BigQuiet
set_option maxRecDepth 100000
namespace Go.Dtm

/-- A feature. -/
structure Feat where
 name : ByteArray
 kind : Int
 axis : Int
 datum : Int
 place : Int
 wide : Int
/-- A zone. -/
structure Zn where
 kind : Int
 feature : Int
 lower : Int
 upper : Int
 bonus : Bool
def Feat.none : Feat := ⟨ByteArray.empty, 0, 0, 0, 0, 0⟩
def Zn.none : Zn := ⟨0, 0, 0, 0, false⟩
/-- A byte that a name may hold. -/
def nameByte (b : UInt8) : Bool := decide (33 ≤ b.toNat) && decide (b.toNat ≤ 126)
def isName (s : ByteArray) : Bool := decide (0 < s.size) && decide (s.size ≤ 40) && s.data.toList.all nameByte
def dotless (s : ByteArray) : Bool := !s.data.toList.contains 46
/-- A name that a feature may bear. -/
def goodName (s : ByteArray) : Bool := isName s && decide (s.size ≤ 30) && dotless s
def far (n : Int) : Bool := decide (n < -268435456) || decide (268435456 < n)
def featErr (fs : List Feat) (i : Nat) : Int :=
 let f := fs.getD i Feat.none
 if goodName f.name = false then 11
 else if (fs.take i).any (fun g => g.name.toList == f.name.toList) = true then 9
 else if f.kind ≠ 1 ∧ f.kind ≠ 2 then 12
 else if f.axis < 0 ∨ 2 < f.axis ∨ f.datum < -1 ∨ (i : Int) ≤ f.datum then 2
 else if 0 ≤ f.datum ∧ (fs.getD f.datum.toNat Feat.none).axis ≠ f.axis then 17
 else if far f.place = true ∨ far f.wide = true ∨ (f.kind = 2 ∧ f.wide < 1) then 2
 else if f.kind = 1 ∧ f.wide ≠ 0 then 3 else 0
def zoneErr (fs : List Feat) (zs : List Zn) (i : Nat) : Int :=
 let z := zs.getD i Zn.none
 if z.kind < 1 ∨ 3 < z.kind then 12
 else if z.feature < 0 ∨ (fs.length : Int) ≤ z.feature then 10
 else if (z.kind = 2 ∧ (fs.getD z.feature.toNat Feat.none).kind ≠ 2) ∨ (z.kind = 3 ∧ (fs.getD z.feature.toNat Feat.none).kind = 2) ∨ (z.bonus = true ∧ (z.kind ≠ 1 ∨ (fs.getD z.feature.toNat Feat.none).kind ≠ 2)) then 3
 else if far z.lower = true ∨ far z.upper = true then 2
 else if z.upper < z.lower then 8
 else if (zs.take i).any (fun y => decide (y.kind = z.kind) && decide (y.feature = z.feature)) = true then 9 else 0
/-- The first of n errors from k on that is not 0. -/
def firstErr (e : Nat → Int) : Nat → Nat → Int
 | 0, _ => 0
 | n + 1, k => if e k = 0 then firstErr e n (k + 1) else e k
def check (fs : List Feat) (zs : List Zn) : Int :=
 if 16 < fs.length ∨ 32 < zs.length then 6
 else if firstErr (featErr fs) fs.length 0 = 0 then firstErr (zoneErr fs zs) zs.length 0 else firstErr (featErr fs) fs.length 0
theorem firstErr_zero {e : Nat → Int} : ∀ {n k : Nat}, firstErr e n k = 0 → ∀ i, k ≤ i → i < k + n → e i = 0
 | 0, k, _, i, h1, h2 => by omega
 | n + 1, k, h, i, h1, h2 => by
  unfold firstErr at h
  by_cases h0 : e k = 0
  ·rw [if_pos h0] at h
   by_cases hi : i = k
   ·rw [hi, h0]
   ·exact firstErr_zero h i (by omega) (by omega)
  ·rw [if_neg h0] at h
   exact absurd h h0
end Go.Dtm
/- Schemes in memory. -/
set_option maxRecDepth 100000
namespace Go.Proofs.YtgofihilkobenaaGreatDoor
open Go.RowKit Go.Num Go.Flow Go.Dtm
set_option maxHeartbeats 4000000

/-- A feature's six cells. -/
def FeatAt (w : World) (b o : Nat) (f : Feat) : Prop := w.cell? ⟨b, o, none⟩ = some (.string f.name) ∧ w.cell? ⟨b, o + 1, none⟩ = some (.int .i64 f.kind) ∧ w.cell? ⟨b, o + 2, none⟩ = some (.int .i64 f.axis) ∧ w.cell? ⟨b, o + 3, none⟩ = some (.int .i64 f.datum) ∧ w.cell? ⟨b, o + 4, none⟩ = some (.int .i64 f.place) ∧ w.cell? ⟨b, o + 5, none⟩ = some (.int .i64 f.wide)
theorem FeatAt.below {w w' : World} {b o : Nat} {f : Feat} (h : FeatAt w b o f) (hb : Below w.heap.size w w') : FeatAt w' b o f :=
 ⟨ZJ hb h.1, ZJ hb h.2.1, ZJ hb h.2.2.1, ZJ hb h.2.2.2.1, ZJ hb h.2.2.2.2.1, ZJ hb h.2.2.2.2.2⟩
/-- A zone's five cells. -/
def ZoneAt (w : World) (b o : Nat) (z : Zn) : Prop := w.cell? ⟨b, o, none⟩ = some (.int .i64 z.kind) ∧ w.cell? ⟨b, o + 1, none⟩ = some (.int .i64 z.feature) ∧ w.cell? ⟨b, o + 2, none⟩ = some (.int .i64 z.lower) ∧ w.cell? ⟨b, o + 3, none⟩ = some (.int .i64 z.upper) ∧ w.cell? ⟨b, o + 4, none⟩ = some (.bool z.bonus)
theorem ZoneAt.below {w w' : World} {b o : Nat} {z : Zn} (h : ZoneAt w b o z) (hb : Below w.heap.size w w') : ZoneAt w' b o z :=
 ⟨ZJ hb h.1, ZJ hb h.2.1, ZJ hb h.2.2.1, ZJ hb h.2.2.2.1, ZJ hb h.2.2.2.2⟩
/-- A slice of features. -/
def FeatsIn (w : World) (ao : Option Addr) (c : Nat) (fs : List Feat) : Prop := fs.length ≤ c ∧ c ≤ maxLen ∧ (0 < fs.length → ∃ b o, ao = some ⟨b, o, none⟩ ∧ b < w.heap.size ∧ ∀ j, j < fs.length → FeatAt w b (o + j * 6) (fs.getD j Feat.none))
def ZonesIn (w : World) (ao : Option Addr) (c : Nat) (zs : List Zn) : Prop := zs.length ≤ c ∧ c ≤ maxLen ∧ (0 < zs.length → ∃ b o, ao = some ⟨b, o, none⟩ ∧ b < w.heap.size ∧ ∀ j, j < zs.length → ZoneAt w b (o + j * 5) (zs.getD j Zn.none))
theorem FeatsIn.below {w w' : World} {ao : Option Addr} {c : Nat} {fs : List Feat} (h : FeatsIn w ao c fs) (hb : Below w.heap.size w w') : FeatsIn w' ao c fs := by
 refine ⟨h.1, h.2.1, fun h0 => ?_⟩
 obtain ⟨b, o, e, hl, hc⟩ := h.2.2 h0
 exact ⟨b, o, e, Nat.lt_of_lt_of_le hl hb.size, fun j hj => (hc j hj).below hb⟩
theorem ZonesIn.below {w w' : World} {ao : Option Addr} {c : Nat} {zs : List Zn} (h : ZonesIn w ao c zs) (hb : Below w.heap.size w w') : ZonesIn w' ao c zs := by
 refine ⟨h.1, h.2.1, fun h0 => ?_⟩
 obtain ⟨b, o, e, hl, hc⟩ := h.2.2 h0
 exact ⟨b, o, e, Nat.lt_of_lt_of_le hl hb.size, fun j hj => (hc j hj).below hb⟩
/-- A scheme. -/
structure SchemeIn (w : World) (af : Option Addr) (cf : Nat) (az : Option Addr) (cz : Nat) (fs : List Feat) (zs : List Zn) : Prop where
 feats : FeatsIn w af cf fs
 zones : ZonesIn w az cz zs
theorem SchemeIn.below {w w' : World} {af : Option Addr} {cf : Nat} {az : Option Addr} {cz : Nat} {fs : List Feat} {zs : List Zn} (h : SchemeIn w af cf az cz fs zs) (hb : Below w.heap.size w w') : SchemeIn w' af cf az cz fs zs := ⟨h.feats.below hb, h.zones.below hb⟩
theorem beq_dec {x y : Int} : (x == y) = decide (x = y) := by
 rw [Bool.eq_iff_iff, beq_iff_eq, decide_eq_true_iff]
theorem bne_dec {x y : Int} : (x != y) = decide (x ≠ y) := by
 unfold bne
 rw [beq_dec]
 by_cases h : x = y <;> simp [h]
theorem far_any (n : Int) (w : World) : Calls Tryz.prog 102 #[.int .i64 n] w fun e w' => e = .returned (.bool (far n)) ∧ Below w.heap.size w w' := by
 by_cases h1 : n < -268435456
 ·have e1 : (n < -268435456) = True := eq_true h1
  have HF := ZH (show far n = true by unfold far; rw [ZT h1]; rfl)
  clear h1
  go_enter Tryz.func102, Tryz.ntmps102
  go_wp2_with fail
  go_ret
  exact ⟨by rw [HF.out]; rfl, ZR _ _⟩
 ·have e1 : (n < -268435456) = False := eq_false h1
  have HF := ZH (show far n = decide (268435456 < n) by unfold far; rw [ZU h1]; rfl)
  clear h1
  go_enter Tryz.func102, Tryz.ntmps102
  go_wp2_with fail
  go_ret
  exact ⟨by rw [HF.out]; rfl, ZR _ _⟩
/-- A rune that no name holds. -/
def badN (r : Nat) : Bool := decide (r < 33) || decide (126 < r)
theorem name1_any (W : World) (r : Nat) : Calls Tryz.prog 121 #[.int .i32 (r : Int)] W fun e w' => e = .returned (.bool (badN r)) ∧ ∃ q, w' = W.drewN q := by
 by_cases h1 : r < 33
 ·have e1 : ((r : Int) < 33) = True := eq_true (by omega)
  have hb : badN r = true := by simp [badN, h1]
  have HB := ZH hb
  clear hb h1
  go_enter Tryz.func121, Tryz.ntmps121
  go_wp2_with fail
  go_ret
  exact ⟨by rw [HB.out]; rfl, 0, rfl⟩
 ·have e1 : ((r : Int) < 33) = False := eq_false (by omega)
  by_cases h2 : 126 < r
  ·have e2 : ((126 : Int) < (r : Int)) = True := eq_true (by omega)
   have hb : badN r = true := by simp [badN, h2]
   have HB := ZH hb
   clear hb h1
   go_enter Tryz.func121, Tryz.ntmps121
   go_wp2_with fail
   go_ret
   exact ⟨by rw [HB.out]; rfl, 0, rfl⟩
  ·have e2 : ((126 : Int) < (r : Int)) = False := eq_false (by omega)
   have hb : badN r = false := by simp [badN]; omega
   have HB := ZH hb
   clear hb h1 h2
   go_enter Tryz.func121, Tryz.ntmps121
   go_wp2_with fail
   go_ret
   exact ⟨by rw [HB.out]; rfl, 0, rfl⟩
theorem enters_name1 (args : Array Value) (w : World) : (callFunc 121 args).run Tryz.prog w = .ok (.enter 121 args) w := by
 exact enters_of Tryz.func121 (by kernel_rfl) rfl args w
theorem badN_byte (b : UInt8) : badN b.toNat = !nameByte b := by
 unfold badN nameByte
 rw [Bool.eq_iff_iff]
 simp
theorem containsN (s : ByteArray) (w : World) : Calls Tryz.prog 120 #[.string s, .func (.func 121) #[] #[]] w fun e w' => e = .returned (.bool (!s.data.toList.all nameByte)) ∧ Below w.heap.size w w' := by
 have h := Tryz.strings_ContainsFunc 121 #[] enters_name1 badN s w (fun W r _ => name1_any W r)
 rw [idx_any (fun r hr => by simp [badN]; omega)] at h
 have e : (s.data.toList.any fun b => badN b.toNat) = !s.data.toList.all nameByte := by
  simp only [badN_byte]
  rw [List.not_all_eq_any_not]
 rw [e] at h
 exact h
theorem isName_any (s : ByteArray) (w : World) : Calls Tryz.prog 88 #[.string s] w fun e w' => e = .returned (.bool (isName s)) ∧ Below w.heap.size w w' := by
 have HC := ZH (containsN s w)
 by_cases h1 : 0 < s.size
 ·have e1 : ((0 : Int) < (s.size : Int)) = True := eq_true (by omega)
  by_cases h2 : s.size ≤ 40
  ·have e2 : ((s.size : Int) ≤ 40) = True := eq_true (by omega)
   have HF := ZH (show isName s = s.data.toList.all nameByte by unfold isName; rw [ZT h1, ZT h2]; rfl)
   go_enter Tryz.func88, Tryz.ntmps88
   go_wp2_with fail
   refine HC.out.mono ?_
   rintro e w1 ⟨rfl, hb⟩
   go_wp2_with fail
   go_ret
   exact ⟨by rw [HF.out]; simp, hb⟩
  ·have e2 : ((s.size : Int) ≤ 40) = False := eq_false (by omega)
   have HF := ZH (show isName s = false by unfold isName; rw [ZT h1, ZU h2]; rfl)
   go_enter Tryz.func88, Tryz.ntmps88
   go_wp2_with fail
   go_ret
   exact ⟨by rw [HF.out]; rfl, ZR _ _⟩
 ·have e1 : ((0 : Int) < (s.size : Int)) = False := eq_false (by omega)
  have HF := ZH (show isName s = false by unfold isName; rw [ZU h1]; rfl)
  go_enter Tryz.func88, Tryz.ntmps88
  go_wp2_with fail
  go_ret
  exact ⟨by rw [HF.out]; rfl, ZR _ _⟩
end Go.Proofs.YtgofihilkobenaaGreatDoor
/- slices.IndexFunc and slices.ContainsFunc at features and zones. -/
set_option maxRecDepth 100000
namespace Go.Proofs.YtgofihilkobenaaGreatDoor
open Go.RowKit Go.Num Go.Flow Go.Dtm
set_option maxHeartbeats 4000000

/-- The first of n places from k on at which p holds, or -1. -/
def pos (p : Nat → Bool) : Nat → Nat → Int
 | 0, _ => -1
 | n + 1, k => if p k = true then (k : Int) else pos p n (k + 1)
theorem pos_none {p : Nat → Bool} : ∀ {n k : Nat}, (∀ j, k ≤ j → j < k + n → p j = false) → pos p n k = -1
 | 0, _, _ => rfl
 | n + 1, k, h => by
  unfold pos
  rw [if_neg (by rw [h k (Nat.le_refl _) (by omega)]; simp)]
  exact pos_none fun j h1 h2 => h j (by omega) (by omega)
theorem pos_some {p : Nat → Bool} : ∀ {n k i : Nat}, k ≤ i → i < k + n → (∀ j, k ≤ j → j < i → p j = false) → p i = true → pos p n k = i
 | 0, k, i, h1, h2, _, _ => by omega
 | n + 1, k, i, h1, h2, h, hi => by
  unfold pos
  by_cases e : k = i
  ·subst e
   rw [if_pos hi]
  ·rw [if_neg (by rw [h k (Nat.le_refl _) (by omega)]; simp)]
   exact pos_some (by omega) (by omega) (fun j h3 h4 => h j (by omega) h4) hi
theorem pos_cases (p : Nat → Bool) : ∀ (n k : Nat), (pos p n k = -1 ∧ ∀ j, k ≤ j → j < k + n → p j = false) ∨ (∃ i : Nat, pos p n k = i ∧ k ≤ i ∧ i < k + n ∧ p i = true ∧ ∀ j, k ≤ j → j < i → p j = false)
 | 0, k => .inl ⟨rfl, fun j h1 h2 => by omega⟩
 | n + 1, k => by
  unfold pos
  cases h : p k with
  | true => exact .inr ⟨k, by rw [if_pos rfl], Nat.le_refl _, by omega, h, fun j h1 h2 => by omega⟩
  | false =>
   rw [if_neg (by simp)]
   rcases pos_cases p n (k + 1) with ⟨h1, h2⟩ | ⟨i, h1, h2, h3, h4, h5⟩
   ·refine .inl ⟨h1, fun j h3 h4 => ?_⟩
    by_cases e : j = k
    ·rw [e]; exact h
    ·exact h2 j (by omega) (by omega)
   ·refine .inr ⟨i, h1, by omega, by omega, h4, fun j h6 h7 => ?_⟩
    by_cases e : j = k
    ·rw [e]; exact h
    ·exact h5 j (by omega) h7
theorem pos_le {p : Nat → Bool} {n k : Nat} : pos p n k < ((k + n : Nat) : Int) := by
 rcases pos_cases p n k with ⟨h, -⟩ | ⟨i, h, -, h2, -⟩ <;> rw [h] <;> omega
theorem pos_any {α : Type} (q : α → Bool) (d : α) (l : List α) : decide (0 ≤ pos (fun j => q (l.getD j d)) l.length 0) = l.any q := by
 rcases pos_cases (fun j => q (l.getD j d)) l.length 0 with ⟨h1, h2⟩ | ⟨i, h1, h2, h3, h4, h5⟩
 ·rw [h1, Bool.eq_iff_iff]
  constructor
  ·intro h; exact absurd h (by decide)
  ·intro h
   obtain ⟨x, hx, hq⟩ := List.any_eq_true.1 h
   obtain ⟨j, hj, rfl⟩ := List.getElem_of_mem hx
   have h6 := h2 j (Nat.zero_le _) (by omega)
   simp only [List.getD_eq_getElem?_getD, List.getElem?_eq_getElem hj, Option.getD_some] at h6
   rw [h6] at hq
   cases hq
 ·rw [h1, ZT (by omega)]
  symm
  rw [List.any_eq_true]
  have hi : i < l.length := by omega
  refine ⟨l[i], List.getElem_mem hi, ?_⟩
  simpa only [List.getD_eq_getElem?_getD, List.getElem?_eq_getElem hi, Option.getD_some] using h4
def featV (f : Feat) : Value := .agg #[.string f.name, .int .i64 f.kind, .int .i64 f.axis, .int .i64 f.datum, .int .i64 f.place, .int .i64 f.wide]
def zoneV (z : Zn) : Value := .agg #[.int .i64 z.kind, .int .i64 z.feature, .int .i64 z.lower, .int .i64 z.upper, .bool z.bonus]
theorem sIndexF_any {w : World} {ao : Option Addr} {c : Nat} {fs : List Feat} (h : FeatsIn w ao c fs) (hsm : fs.length ≤ 1000000) {k : Nat} {caps : Array Value} (he : ∀ (args : Array Value) (W : World), (callFunc k args).run Tryz.prog W = .ok (.enter k args) W) (p : Nat → Bool)
  (hp : ∀ (W : World) (j : Nat), j < fs.length → Below w.heap.size w W → Calls Tryz.prog k (#[featV (fs.getD j Feat.none)] ++ caps) W fun e w' => e = .returned (.bool (p j)) ∧ Below W.heap.size W w') :
  Calls Tryz.prog 125 #[.slice ao fs.length c, .func (.func k) #[] caps] w fun e w' => e = .returned (.int .i64 (pos p fs.length 0)) ∧ Below w.heap.size w w' := by
 obtain ⟨n, hn⟩ : ∃ n, n = fs.length := ⟨_, rfl⟩
 obtain ⟨h1, h2, h3⟩ := h
 rw [← hn] at h1 h3 hsm hp ⊢
 unfold maxLen at h2
 have H3 := ZH h3
 have HP := ZH hp
 clear h3 hp hn
 go_enter Tryz.func125, Tryz.ntmps125
 go_wp2_with fail
 go_loopw [8] (fun i wr => ∃ m : Nat, m ≤ n ∧ i = .int .i64 m ∧ Hid (∀ j, j < m → p j = false) ∧ Hid (Below w.heap.size w wr)) (fun i _ => n - (intOf i).toNat)
 case atStart => exact ⟨0, Nat.zero_le _, rfl, ZH (fun j hj => absurd hj (by omega)), ZH (ZR _ _)⟩
 case round =>
  obtain ⟨m, hmn, rfl, hno, hbw⟩ := hrel
  by_cases hlt : m < n
  ·have e1 : ((m : Int) < (n : Int)) = True := eq_true (by omega)
   obtain ⟨b, o, rfl, hl, hc⟩ := H3.out (by omega)
   have HX := hc m hlt
   unfold FeatAt at HX
   have x0 := ZJ hbw.out (HX.1)
   have x1 := ZJ hbw.out (HX.2.1)
   have x2 := ZJ hbw.out (HX.2.2.1)
   have x3 := ZJ hbw.out (HX.2.2.2.1)
   have x4 := ZJ hbw.out (HX.2.2.2.2.1)
   have x5 := ZJ hbw.out (HX.2.2.2.2.2)
   have hi0 : (0 : Int) ≤ (m : Int) := by omega
   have hi1 : (m : Int) < (n : Int) := by omega
   have HC := ZH (HP.out wr m hlt hbw.out)
   unfold featV at HC
   clear HX hc
   generalize fs.getD m Feat.none = x at *
   go_upto_region 4 with fail
   go_wp2_with fail
   refine HC.out.mono ?_
   rintro e w1 ⟨rfl, hb1⟩
   have hB1 := hbw.out.trans (hb1.mono hbw.out.size)
   have HB1 := ZH hB1
   clear hB1 hb1
   cases hpm : p m with
   | true =>
    have HN := ZH (pos_some (p := p) (n := n) (k := 0) (i := m) (Nat.zero_le _) (by omega) (fun j _ h => hno.out j h) hpm)
    go_wp2_with fail
    go_ret
    exact ⟨by rw [HN.out]; rfl, HB1.out⟩
   | false =>
    go_wp2_with fail
    refine ⟨⟨m + 1, hlt, by congr 1, ZH fun j hj => ?_, ZH HB1.out⟩, by simp [intOf]; omega⟩
    by_cases h : j < m
    ·exact hno.out j h
    ·obtain rfl : j = m := by omega
     exact hpm
  ·have e1 : ((m : Int) < (n : Int)) = False := eq_false (by omega)
   obtain rfl : m = n := by omega
   have HN := ZH (pos_none (p := p) (n := m) (k := 0) (fun j _ h => hno.out j (by omega)))
   go_wp2_with fail
   go_ret
   exact ⟨by rw [HN.out]; rfl, hbw.out⟩
theorem sContainsF_any {w : World} {ao : Option Addr} {c : Nat} {fs : List Feat} (h : FeatsIn w ao c fs) (hsm : fs.length ≤ 1000000) {k : Nat} {caps : Array Value} (he : ∀ (args : Array Value) (W : World), (callFunc k args).run Tryz.prog W = .ok (.enter k args) W) (q : Feat → Bool)
  (hp : ∀ (W : World) (j : Nat), j < fs.length → Below w.heap.size w W → Calls Tryz.prog k (#[featV (fs.getD j Feat.none)] ++ caps) W fun e w' => e = .returned (.bool (q (fs.getD j Feat.none))) ∧ Below W.heap.size W w') :
  Calls Tryz.prog 95 #[.slice ao fs.length c, .func (.func k) #[] caps] w fun e w' => e = .returned (.bool (fs.any q)) ∧ Below w.heap.size w w' := by
 have HI := ZH (sIndexF_any h hsm he (fun j => q (fs.getD j Feat.none)) hp)
 have HA := ZH (pos_any q Feat.none fs)
 generalize pos (fun j => q (fs.getD j Feat.none)) fs.length 0 = r at *
 generalize fs.length = n at *
 clear h hsm hp
 go_enter Tryz.func95, Tryz.ntmps95
 go_wp2_with fail
 refine HI.out.mono ?_
 rintro e w1 ⟨rfl, hb1⟩
 go_wp2_with fail
 go_ret
 exact ⟨by rw [← HA.out]; rfl, hb1⟩
theorem sIndexZ_any {w : World} {ao : Option Addr} {c : Nat} {zs : List Zn} (h : ZonesIn w ao c zs) (hsm : zs.length ≤ 1000000) {k : Nat} {caps : Array Value} (he : ∀ (args : Array Value) (W : World), (callFunc k args).run Tryz.prog W = .ok (.enter k args) W) (p : Nat → Bool)
  (hp : ∀ (W : World) (j : Nat), j < zs.length → Below w.heap.size w W → Calls Tryz.prog k (#[zoneV (zs.getD j Zn.none)] ++ caps) W fun e w' => e = .returned (.bool (p j)) ∧ Below W.heap.size W w') :
  Calls Tryz.prog 78 #[.slice ao zs.length c, .func (.func k) #[] caps] w fun e w' => e = .returned (.int .i64 (pos p zs.length 0)) ∧ Below w.heap.size w w' := by
 obtain ⟨n, hn⟩ : ∃ n, n = zs.length := ⟨_, rfl⟩
 obtain ⟨h1, h2, h3⟩ := h
 rw [← hn] at h1 h3 hsm hp ⊢
 unfold maxLen at h2
 have H3 := ZH h3
 have HP := ZH hp
 clear h3 hp hn
 go_enter Tryz.func78, Tryz.ntmps78
 go_wp2_with fail
 go_loopw [8] (fun i wr => ∃ m : Nat, m ≤ n ∧ i = .int .i64 m ∧ Hid (∀ j, j < m → p j = false) ∧ Hid (Below w.heap.size w wr)) (fun i _ => n - (intOf i).toNat)
 case atStart => exact ⟨0, Nat.zero_le _, rfl, ZH (fun j hj => absurd hj (by omega)), ZH (ZR _ _)⟩
 case round =>
  obtain ⟨m, hmn, rfl, hno, hbw⟩ := hrel
  by_cases hlt : m < n
  ·have e1 : ((m : Int) < (n : Int)) = True := eq_true (by omega)
   obtain ⟨b, o, rfl, hl, hc⟩ := H3.out (by omega)
   have HX := hc m hlt
   unfold ZoneAt at HX
   have x0 := ZJ hbw.out (HX.1)
   have x1 := ZJ hbw.out (HX.2.1)
   have x2 := ZJ hbw.out (HX.2.2.1)
   have x3 := ZJ hbw.out (HX.2.2.2.1)
   have x4 := ZJ hbw.out (HX.2.2.2.2)
   have hi0 : (0 : Int) ≤ (m : Int) := by omega
   have hi1 : (m : Int) < (n : Int) := by omega
   have HC := ZH (HP.out wr m hlt hbw.out)
   unfold zoneV at HC
   clear HX hc
   generalize zs.getD m Zn.none = x at *
   go_upto_region 4 with fail
   go_wp2_with fail
   refine HC.out.mono ?_
   rintro e w1 ⟨rfl, hb1⟩
   have hB1 := hbw.out.trans (hb1.mono hbw.out.size)
   have HB1 := ZH hB1
   clear hB1 hb1
   cases hpm : p m with
   | true =>
    have HN := ZH (pos_some (p := p) (n := n) (k := 0) (i := m) (Nat.zero_le _) (by omega) (fun j _ h => hno.out j h) hpm)
    go_wp2_with fail
    go_ret
    exact ⟨by rw [HN.out]; rfl, HB1.out⟩
   | false =>
    go_wp2_with fail
    refine ⟨⟨m + 1, hlt, by congr 1, ZH fun j hj => ?_, ZH HB1.out⟩, by simp [intOf]; omega⟩
    by_cases h : j < m
    ·exact hno.out j h
    ·obtain rfl : j = m := by omega
     exact hpm
  ·have e1 : ((m : Int) < (n : Int)) = False := eq_false (by omega)
   obtain rfl : m = n := by omega
   have HN := ZH (pos_none (p := p) (n := m) (k := 0) (fun j _ h => hno.out j (by omega)))
   go_wp2_with fail
   go_ret
   exact ⟨by rw [HN.out]; rfl, hbw.out⟩
theorem sContainsZ_any {w : World} {ao : Option Addr} {c : Nat} {zs : List Zn} (h : ZonesIn w ao c zs) (hsm : zs.length ≤ 1000000) {k : Nat} {caps : Array Value} (he : ∀ (args : Array Value) (W : World), (callFunc k args).run Tryz.prog W = .ok (.enter k args) W) (q : Zn → Bool)
  (hp : ∀ (W : World) (j : Nat), j < zs.length → Below w.heap.size w W → Calls Tryz.prog k (#[zoneV (zs.getD j Zn.none)] ++ caps) W fun e w' => e = .returned (.bool (q (zs.getD j Zn.none))) ∧ Below W.heap.size W w') :
  Calls Tryz.prog 28 #[.slice ao zs.length c, .func (.func k) #[] caps] w fun e w' => e = .returned (.bool (zs.any q)) ∧ Below w.heap.size w w' := by
 have HI := ZH (sIndexZ_any h hsm he (fun j => q (zs.getD j Zn.none)) hp)
 have HA := ZH (pos_any q Zn.none zs)
 generalize pos (fun j => q (zs.getD j Zn.none)) zs.length 0 = r at *
 generalize zs.length = n at *
 clear h hsm hp
 go_enter Tryz.func28, Tryz.ntmps28
 go_wp2_with fail
 refine HI.out.mono ?_
 rintro e w1 ⟨rfl, hb1⟩
 go_wp2_with fail
 go_ret
 exact ⟨by rw [← HA.out]; rfl, hb1⟩
end Go.Proofs.YtgofihilkobenaaGreatDoor
/- The closures of checkFeature, checkZone and zone; zone. -/
set_option maxRecDepth 100000
namespace Go.Proofs.YtgofihilkobenaaGreatDoor
open Go.RowKit Go.Num Go.Flow Go.Dtm
set_option maxHeartbeats 4000000

theorem enters_cf1 (args : Array Value) (w : World) : (callFunc 101 args).run Tryz.prog w = .ok (.enter 101 args) w := by
 exact enters_of Tryz.func101 (by kernel_rfl) rfl args w
theorem enters_cz1 (args : Array Value) (w : World) : (callFunc 103 args).run Tryz.prog w = .ok (.enter 103 args) w := by
 exact enters_of Tryz.func103 (by kernel_rfl) rfl args w
theorem enters_z1 (args : Array Value) (w : World) : (callFunc 99 args).run Tryz.prog w = .ok (.enter 99 args) w := by
 exact enters_of Tryz.func99 (by kernel_rfl) rfl args w
theorem cf1_any {W : World} {b : Nat} {f : Feat} (g : Feat) (h : FeatAt W b 0 f) : Calls Tryz.prog 101 (#[featV g] ++ #[.pointer (some ⟨b, 0, none⟩)]) W fun e w' => e = .returned (.bool (g.name.toList == f.name.toList)) ∧ Below W.heap.size W w' := by
 unfold featV
 have hal : Below W.heap.size W (W.alloc (.cells #[.string g.name, .int .i64 g.kind, .int .i64 g.axis, .int .i64 g.datum, .int .i64 g.place, .int .i64 g.wide] 28)) := (ZR _ W).alloc (Nat.le_refl _) _
 have y0 := ZJ hal h.1
 have HAL := ZH hal
 clear hal h
 show Calls Tryz.prog 101 #[_, .pointer (some ⟨b, 0, none⟩)] W _
 go_enter Tryz.func101, Tryz.ntmps101
 go_wp2_with fail
 go_ret
 exact ⟨rfl, HAL.out⟩
theorem cz1_any {W : World} {b : Nat} {z : Zn} (y : Zn) (h : ZoneAt W b 0 z) : Calls Tryz.prog 103 (#[zoneV y] ++ #[.pointer (some ⟨b, 0, none⟩)]) W fun e w' => e = .returned (.bool (decide (y.kind = z.kind) && decide (y.feature = z.feature))) ∧ Below W.heap.size W w' := by
 unfold zoneV
 have hal : Below W.heap.size W (W.alloc (.cells #[.int .i64 y.kind, .int .i64 y.feature, .int .i64 y.lower, .int .i64 y.upper, .bool y.bonus] 30)) := (ZR _ W).alloc (Nat.le_refl _) _
 have y0 := ZJ hal h.1
 have y1 := ZJ hal h.2.1
 simp only [Nat.zero_add] at y1
 have HAL := ZH hal
 clear hal h
 show Calls Tryz.prog 103 #[_, .pointer (some ⟨b, 0, none⟩)] W _
 by_cases h1 : y.kind = z.kind
 ·have e1 : (y.kind == z.kind) = true := by rw [h1]; exact beq_self_eq_true _
  have e2 : decide (y.kind = z.kind) = true := ZT h1
  clear h1
  go_enter Tryz.func103, Tryz.ntmps103
  go_wp2_with fail
  go_ret
  exact ⟨by rw [e2, ← beq_dec]; rfl, HAL.out⟩
 ·have e1 : (y.kind == z.kind) = false := ZQ.2 h1
  have e2 : decide (y.kind = z.kind) = false := ZU h1
  clear h1
  go_enter Tryz.func103, Tryz.ntmps103
  go_wp2_with fail
  go_ret
  exact ⟨by rw [e2]; rfl, HAL.out⟩
theorem z1_any {W : World} {b c : Nat} {i k : Int} (y : Zn) (h : W.cell? ⟨b, 0, none⟩ = some (.int .i64 i)) (h' : W.cell? ⟨c, 0, none⟩ = some (.int .i64 k)) : Calls Tryz.prog 99 (#[zoneV y] ++ #[.pointer (some ⟨b, 0, none⟩), .pointer (some ⟨c, 0, none⟩)]) W fun e w' => e = .returned (.bool (decide (y.feature = i) && decide (y.kind = k))) ∧ Below W.heap.size W w' := by
 unfold zoneV
 have hal : Below W.heap.size W (W.alloc (.cells #[.int .i64 y.kind, .int .i64 y.feature, .int .i64 y.lower, .int .i64 y.upper, .bool y.bonus] 30)) := (ZR _ W).alloc (Nat.le_refl _) _
 have y0 := ZJ hal h
 have y1 := ZJ hal h'
 have HAL := ZH hal
 clear hal h
 show Calls Tryz.prog 99 #[_, .pointer (some ⟨b, 0, none⟩), .pointer (some ⟨c, 0, none⟩)] W _
 by_cases h1 : y.feature = i
 ·have e1 : (y.feature == i) = true := by rw [h1]; exact beq_self_eq_true _
  have e2 : decide (y.feature = i) = true := ZT h1
  clear h1
  go_enter Tryz.func99, Tryz.ntmps99
  go_wp2_with fail
  go_ret
  exact ⟨by rw [e2, ← beq_dec]; rfl, HAL.out⟩
 ·have e1 : (y.feature == i) = false := ZQ.2 h1
  have e2 : decide (y.feature = i) = false := ZU h1
  clear h1
  go_enter Tryz.func99, Tryz.ntmps99
  go_wp2_with fail
  go_ret
  exact ⟨by rw [e2]; rfl, HAL.out⟩
end Go.Proofs.YtgofihilkobenaaGreatDoor
/- checkFeature. -/
set_option maxRecDepth 100000
namespace Go.Proofs.YtgofihilkobenaaGreatDoor
open Go.RowKit Go.Num Go.Flow Go.Dtm
set_option maxHeartbeats 8000000

theorem contains_dot (s : ByteArray) (w : World) : Calls Tryz.prog 100 #[.string s, .string ⟨#[46]⟩] w fun e w' => e = .returned (.bool (!dotless s)) ∧ w' = w := by
 have h := Tryz.strings_Contains_one s 46 w
 rw [← Lib.contains_iff_indexByte] at h
 unfold dotless
 rw [Bool.not_not]
 exact h
theorem good_of (s : ByteArray) : goodName s = (isName s && decide (s.size ≤ 30) && dotless s) := rfl
theorem FeatsIn.take {w : World} {ao : Option Addr} {c : Nat} {fs : List Feat} {i : Nat} (h : FeatsIn w ao c fs) (hi : i ≤ fs.length) : FeatsIn w ao c (fs.take i) := by
 have hl : (fs.take i).length = i := by rw [List.length_take]; omega
 refine ⟨by rw [hl]; exact Nat.le_trans hi h.1, h.2.1, fun h0 => ?_⟩
 rw [hl] at h0 ⊢
 obtain ⟨b, o, e, hb, hc⟩ := h.2.2 (by omega)
 refine ⟨b, o, e, hb, fun j hj => ?_⟩
 have e2 : (fs.take i).getD j Feat.none = fs.getD j Feat.none := by rw [List.getD_eq_getElem?_getD, List.getD_eq_getElem?_getD, List.getElem?_take, if_pos hj]
 rw [e2]
 exact hc j (by omega)
theorem checkFeature_any {w : World} {af : Option Addr} {cf : Nat} {az : Option Addr} {cz : Nat} {fs : List Feat} {zs : List Zn} {i : Nat} (h : SchemeIn w af cf az cz fs zs) (hi : i < fs.length) (hsm : fs.length ≤ 1000000) :
  Calls Tryz.prog 60 #[.agg #[.slice af fs.length cf, .slice az zs.length cz], .int .i64 (i : Int)] w fun e w' => e = .returned (.int .i64 (featErr fs i)) ∧ Below w.heap.size w w' := by
 obtain ⟨f, hf⟩ : ∃ f, f = fs.getD i Feat.none := ⟨_, rfl⟩
 obtain ⟨n, hn⟩ : ∃ n, n = fs.length := ⟨_, rfl⟩
 obtain ⟨nz, hnz⟩ : ∃ n, n = zs.length := ⟨_, rfl⟩
 have herr : featErr fs i = if goodName f.name = false then 11 else if (fs.take i).any (fun g => g.name.toList == f.name.toList) = true then 9 else if f.kind ≠ 1 ∧ f.kind ≠ 2 then 12 else if f.axis < 0 ∨ 2 < f.axis ∨ f.datum < -1 ∨ (i : Int) ≤ f.datum then 2 else if 0 ≤ f.datum ∧ (fs.getD f.datum.toNat Feat.none).axis ≠ f.axis then 17 else if far f.place = true ∨ far f.wide = true ∨ (f.kind = 2 ∧ f.wide < 1) then 2 else if f.kind = 1 ∧ f.wide ≠ 0 then 3 else 0 := by unfold featErr; rw [hf]
 have HERR := ZH herr
 clear herr
 obtain ⟨bo, o, rfl, hlo, hco⟩ := h.feats.2.2 (by omega)
 have HX := hco i hi
 rw [← hf] at HX
 have hcap : fs.length ≤ cf ∧ cf ≤ 9223372036854775807 := ⟨h.feats.1, h.feats.2.1⟩
 rw [← hn] at hi hsm hcap hco ⊢
 rw [← hnz]
 obtain ⟨wb, hwb⟩ : ∃ wb, wb = w.alloc (.cells #[.slice (some ⟨bo, o, none⟩) n cf, .slice az nz cz] 26) := ⟨_, rfl⟩
 obtain ⟨ba, hba⟩ : ∃ b, b = w.heap.size := ⟨_, rfl⟩
 have hlb : Below w.heap.size w wb := by rw [hwb]; exact (ZR _ w).alloc (Nat.le_refl _) _
 obtain ⟨wa, hwa⟩ : ∃ wa, wa = wb.alloc (.cells #[.string f.name, .int .i64 f.kind, .int .i64 f.axis, .int .i64 f.datum, .int .i64 f.place, .int .i64 f.wide] 28) := ⟨_, rfl⟩
 obtain ⟨bf, hbf⟩ : ∃ b, b = wb.heap.size := ⟨_, rfl⟩
 have hlab : Below wb.heap.size wb wa := by rw [hwa]; exact (ZR _ wb).alloc (Nat.le_refl _) _
 have k1 : wa.heap[bf]? = some (.cells #[.string f.name, .int .i64 f.kind, .int .i64 f.axis, .int .i64 f.datum, .int .i64 f.place, .int .i64 f.wide] 28 (0, 0)) := by rw [hwa, hbf]; exact ZW wb _
 have k0 : wb.heap[ba]? = some (.cells #[.slice (some ⟨bo, o, none⟩) n cf, .slice az nz cz] 26 (0, 0)) := by rw [hwb, hba]; exact ZW w _
 have ka := (hlab.block ba (ZL k0)).trans k0
 have hal := hlb.trans (hlab.mono hlb.size)
 have t0 := ZI k0 0
 have s0 := ZI ka 0
 have s1 := ZI ka 1
 have c0 := ZI k1 0
 have c1 := ZI k1 1
 have c2 := ZI k1 2
 have c3 := ZI k1 3
 have c4 := ZI k1 4
 have c5 := ZI k1 5
 simp at t0 s0 s1 c0 c1 c2 c3 c4 c5
 have x0 := ZJ hlb HX.1
 have x1 := ZJ hlb HX.2.1
 have x2 := ZJ hlb HX.2.2.1
 have x3 := ZJ hlb HX.2.2.2.1
 have x4 := ZJ hlb HX.2.2.2.2.1
 have x5 := ZJ hlb HX.2.2.2.2.2
 have HAL := ZH hal
 have HC := ZH (show FeatAt wa bf 0 f from ⟨c0, c1, c2, c3, c4, c5⟩)
 have HSC := ZH (ZN s0 s1)
 have HFS := ZH (h.feats.below hal)
 have HCO := ZH hco
 have HW := ZH (ZN hwb (ZN hba (ZN hwa hbf)))
 have HLN := ZH (ZN hn (ZN hsm (ZN hcap hlo)))
 have hi0 : (0 : Int) ≤ (i : Int) := by omega
 have hi1 : (i : Int) < (n : Int) := by omega
 clear h hlo hco HX hcap hf hn hnz hwb hba hwa hbf hlb hlab k0 k1 ka hal s0 s1 c0 c1 c2 c3 c4 c5
 go_enter Tryz.func60, Tryz.ntmps60
 go_upto_region 1 with fail
 rw [← HW.out.1, ← HW.out.2.1]
 go_upto_region 2 with fail
 rw [← HW.out.2.2.1, ← HW.out.2.2.2]
 clear HW x0 x1 x2 x3 x4 x5 t0
 have HB0 := ZH (ZR wa.heap.size wa)
 go_upto_region 2 with fail
 have HX1 := ZH (HB0.out)
 have hx := HB0.out
 have x0 := ZJ hx HC.out.1
 have x1 := ZJ hx HC.out.2.1
 have x2 := ZJ hx HC.out.2.2.1
 have x3 := ZJ hx HC.out.2.2.2.1
 have x4 := ZJ hx HC.out.2.2.2.2.1
 have x5 := ZJ hx HC.out.2.2.2.2.2
 have s0 := ZJ hx HSC.out.1
 have s1 := ZJ hx HSC.out.2
 simp only [Nat.zero_add] at x1 x2 x3 x4 x5
 clear hx
 go_cut [11] from 6 to 26 (fun c wx => c = .bool (decide (goodName f.name = false)) ∧ Below wa.heap.size wa wx)
 case first =>
  have HN := ZH (isName_any f.name wa)
  cases hn : isName f.name with
  | false =>
   rw [hn] at HN
   go_wp2_with fail
   refine HN.out.mono ?_
   rintro e w1 ⟨rfl, hb1⟩
   go_wp2_with fail
   go_meet
   exact ⟨congrArg Value.bool (by rw [ZT (p := goodName f.name = false) (by rw [good_of, hn]; rfl)]), hb1⟩
  | true =>
   rw [hn] at HN
   by_cases h2 : f.name.size ≤ 30
   ·have e2 : ((30 : Int) < (f.name.size : Int)) = False := eq_false (by omega)
    go_wp2_with fail
    refine HN.out.mono ?_
    rintro e w1 ⟨rfl, hb1⟩
    have x0 := ZJ hb1 x0
    have HD := ZH (contains_dot f.name w1)
    have HB1' := ZH hb1
    clear hb1
    go_wp2_with fail
    refine HD.out.mono ?_
    rintro e w2 ⟨rfl, rfl⟩
    cases hd : dotless f.name with
    | true =>
     go_wp2_with fail
     go_meet
     exact ⟨congrArg Value.bool (by rw [ZU (p := goodName f.name = false) (by rw [good_of, hn, hd, ZT h2]; simp)]), HB1'.out⟩
    | false =>
     go_wp2_with fail
     go_meet
     exact ⟨congrArg Value.bool (by rw [ZT (p := goodName f.name = false) (by rw [good_of, hd, Bool.and_false])]), HB1'.out⟩
   ·have e2 : ((30 : Int) < (f.name.size : Int)) = True := eq_true (by omega)
    go_wp2_with fail
    refine HN.out.mono ?_
    rintro e w1 ⟨rfl, hb1⟩
    have x0 := ZJ hb1 x0
    have HB1' := ZH hb1
    clear hb1
    go_wp2_with fail
    go_meet
    exact ⟨congrArg Value.bool (by rw [ZT (p := goodName f.name = false) (by rw [good_of, hn, ZU h2]; rfl)]), HB1'.out⟩
 case rest =>
  obtain ⟨rfl, hbx⟩ := hcut
  have HB1 := ZH hbx
  clear hbx
  by_cases hX : goodName f.name = false
  ·have HE := ZH (show featErr fs i = 11 by rw [HERR.out, if_pos hX])
   rw [ZT hX]
   clear hX
   go_wp2_with fail
   go_ret
   exact ⟨by rw [HE.out]; rfl, HAL.out.trans (HB1.out.mono HAL.out.size)⟩
  ·rw [ZU hX]
   have HN1 := ZH hX
   clear hX
   go_upto_region 4 with fail
   have HX2 := ZH (HB1.out)
   have hx := HB1.out
   have x0 := ZJ hx HC.out.1
   have x1 := ZJ hx HC.out.2.1
   have x2 := ZJ hx HC.out.2.2.1
   have x3 := ZJ hx HC.out.2.2.2.1
   have x4 := ZJ hx HC.out.2.2.2.2.1
   have x5 := ZJ hx HC.out.2.2.2.2.2
   have s0 := ZJ hx HSC.out.1
   have s1 := ZJ hx HSC.out.2
   simp only [Nat.zero_add] at x1 x2 x3 x4 x5
   clear hx
   go_cut [27] from 28 to 33 (fun c wx => c = .bool (decide ((fs.take i).any (fun g => g.name.toList == f.name.toList) = true)) ∧ Below wa.heap.size wa wx)
   case first =>
    have hq0 : (i : Int) ≤ (n : Int) := by omega
    have hq1 : (i : Int) ≤ (cf : Int) := by have := HLN.out.2.2.1.1; omega
    have hln : (fs.take i).length = i := by rw [List.length_take]; have := HLN.out.1; omega
    have hcf := sContainsF_any (w := wc) ((HFS.out.below HB1.out).take (i := i) (by have := HLN.out.1; omega)) (by rw [hln]; omega) (k := 101) (caps := #[.pointer (some ⟨bf, 0, none⟩)]) enters_cf1 (fun g => g.name.toList == f.name.toList) (fun W j _ hW => cf1_any _ ((HC.out.below HB1.out).below hW))
    rw [hln] at hcf
    have HCF := ZH hcf
    clear hcf hln
    go_wp2_with fail
    refine HCF.out.mono ?_
    rintro e w1 ⟨rfl, hb1⟩
    have HB1' := ZH (HB1.out.trans (hb1.mono HB1.out.size))
    clear hb1
    cases ha : (fs.take i).any (fun g => g.name.toList == f.name.toList) with
    | true =>
     go_wp2_with fail
     go_meet
     exact ⟨congrArg Value.bool (by rw [ZT (p := (fs.take i).any (fun g => g.name.toList == f.name.toList) = true) (ha)]), HB1'.out⟩
    | false =>
     go_wp2_with fail
     go_meet
     exact ⟨congrArg Value.bool (by rw [ZU (p := (fs.take i).any (fun g => g.name.toList == f.name.toList) = true) (by rw [ha]; simp)]), HB1'.out⟩
   case rest =>
    obtain ⟨rfl, hbx⟩ := hcut
    have HB2 := ZH hbx
    clear hbx
    by_cases hX : (fs.take i).any (fun g => g.name.toList == f.name.toList) = true
    ·have HE := ZH (show featErr fs i = 9 by rw [HERR.out, if_neg HN1.out, if_pos hX])
     rw [ZT hX]
     clear hX
     go_wp2_with fail
     go_ret
     exact ⟨by rw [HE.out]; rfl, HAL.out.trans (HB2.out.mono HAL.out.size)⟩
    ·rw [ZU hX]
     have HN2 := ZH hX
     clear hX
     go_upto_region 6 with fail
     have HX3 := ZH (HB2.out)
     have hx := HB2.out
     have x0 := ZJ hx HC.out.1
     have x1 := ZJ hx HC.out.2.1
     have x2 := ZJ hx HC.out.2.2.1
     have x3 := ZJ hx HC.out.2.2.2.1
     have x4 := ZJ hx HC.out.2.2.2.2.1
     have x5 := ZJ hx HC.out.2.2.2.2.2
     have s0 := ZJ hx HSC.out.1
     have s1 := ZJ hx HSC.out.2
     simp only [Nat.zero_add] at x1 x2 x3 x4 x5
     clear hx
     go_cut [34] from 35 to 42 (fun c wx => c = .bool (decide (f.kind ≠ 1 ∧ f.kind ≠ 2)) ∧ Below wa.heap.size wa wx)
     case first =>
      by_cases h1 : f.kind = 1
      ·have e1 : (f.kind == 1) = true := by rw [h1]; rfl
       have K1 := ZH h1
       clear h1
       go_wp2_with fail
       go_meet
       exact ⟨congrArg Value.bool (by rw [ZU (p := f.kind ≠ 1 ∧ f.kind ≠ 2) (fun h => h.1 K1.out)]), HB2.out⟩
      ·have e1 : (f.kind == 1) = false := ZQ.2 h1
       have K1 := ZH h1
       clear h1
       by_cases h2 : f.kind = 2
       ·have e2 : (f.kind == 2) = true := by rw [h2]; rfl
        have K2 := ZH h2
        clear h2
        go_wp2_with fail
        go_meet
        exact ⟨congrArg Value.bool (by rw [ZU (p := f.kind ≠ 1 ∧ f.kind ≠ 2) (fun h => h.2 K2.out)]; first | rfl | simp [K2.out]), HB2.out⟩
       ·have e2 : (f.kind == 2) = false := ZQ.2 h2
        have K2 := ZH h2
        clear h2
        go_wp2_with fail
        go_meet
        exact ⟨congrArg Value.bool (by rw [ZT (p := f.kind ≠ 1 ∧ f.kind ≠ 2) (⟨K1.out, K2.out⟩)]; first | rfl | simp [K1.out, K2.out]), HB2.out⟩
     case rest =>
      obtain ⟨rfl, hbx⟩ := hcut
      have HB3 := ZH hbx
      clear hbx
      by_cases hX : f.kind ≠ 1 ∧ f.kind ≠ 2
      ·have HE := ZH (show featErr fs i = 12 by rw [HERR.out, if_neg HN1.out, if_neg HN2.out, if_pos hX])
       rw [ZT hX]
       clear hX
       go_wp2_with fail
       go_ret
       exact ⟨by rw [HE.out]; rfl, HAL.out.trans (HB3.out.mono HAL.out.size)⟩
      ·rw [ZU hX]
       have HN3 := ZH hX
       clear hX
       go_upto_region 8 with fail
       have HX4 := ZH (HB3.out)
       have hx := HB3.out
       have x0 := ZJ hx HC.out.1
       have x1 := ZJ hx HC.out.2.1
       have x2 := ZJ hx HC.out.2.2.1
       have x3 := ZJ hx HC.out.2.2.2.1
       have x4 := ZJ hx HC.out.2.2.2.2.1
       have x5 := ZJ hx HC.out.2.2.2.2.2
       have s0 := ZJ hx HSC.out.1
       have s1 := ZJ hx HSC.out.2
       simp only [Nat.zero_add] at x1 x2 x3 x4 x5
       clear hx
       go_cut [43] from 44 to 62 (fun c wx => c = .bool (decide (f.axis < 0 ∨ 2 < f.axis ∨ f.datum < -1 ∨ (i : Int) ≤ f.datum)) ∧ Below wa.heap.size wa wx)
       case first =>
        by_cases h1 : f.axis < 0
        ·have e1 : (f.axis < 0) = True := eq_true h1
         go_wp2_with fail
         go_meet
         exact ⟨congrArg Value.bool (by rw [ZT (p := f.axis < 0 ∨ 2 < f.axis ∨ f.datum < -1 ∨ (i : Int) ≤ f.datum) (.inl h1)]), HB3.out⟩
        ·have e1 : (f.axis < 0) = False := eq_false h1
         by_cases h2 : 2 < f.axis
         ·have e2 : (2 < f.axis) = True := eq_true h2
          go_wp2_with fail
          go_meet
          exact ⟨congrArg Value.bool (by rw [ZT (p := f.axis < 0 ∨ 2 < f.axis ∨ f.datum < -1 ∨ (i : Int) ≤ f.datum) (.inr (.inl h2))]), HB3.out⟩
         ·have e2 : (2 < f.axis) = False := eq_false h2
          by_cases h3 : f.datum < -1
          ·have e3 : (f.datum < -1) = True := eq_true h3
           go_wp2_with fail
           go_meet
           exact ⟨congrArg Value.bool (by rw [ZT (p := f.axis < 0 ∨ 2 < f.axis ∨ f.datum < -1 ∨ (i : Int) ≤ f.datum) (.inr (.inr (.inl h3)))]), HB3.out⟩
          ·have e3 : (f.datum < -1) = False := eq_false h3
           by_cases h4 : (i : Int) ≤ f.datum
           ·have e4 : ((i : Int) ≤ f.datum) = True := eq_true h4
            go_wp2_with fail
            go_meet
            exact ⟨congrArg Value.bool (by rw [ZT (p := f.axis < 0 ∨ 2 < f.axis ∨ f.datum < -1 ∨ (i : Int) ≤ f.datum) (.inr (.inr (.inr h4)))]), HB3.out⟩
           ·have e4 : ((i : Int) ≤ f.datum) = False := eq_false h4
            go_wp2_with fail
            go_meet
            exact ⟨congrArg Value.bool (by rw [ZU (p := f.axis < 0 ∨ 2 < f.axis ∨ f.datum < -1 ∨ (i : Int) ≤ f.datum) (by omega)]), HB3.out⟩
       case rest =>
        obtain ⟨rfl, hbx⟩ := hcut
        have HB4 := ZH hbx
        clear hbx
        by_cases hX : f.axis < 0 ∨ 2 < f.axis ∨ f.datum < -1 ∨ (i : Int) ≤ f.datum
        ·have HE := ZH (show featErr fs i = 2 by rw [HERR.out, if_neg HN1.out, if_neg HN2.out, if_neg HN3.out, if_pos hX])
         rw [ZT hX]
         clear hX
         go_wp2_with fail
         go_ret
         exact ⟨by rw [HE.out]; rfl, HAL.out.trans (HB4.out.mono HAL.out.size)⟩
        ·rw [ZU hX]
         have HN4 := ZH hX
         clear hX
         go_upto_region 10 with fail
         have HX5 := ZH (HB4.out)
         have hx := HB4.out
         have x0 := ZJ hx HC.out.1
         have x1 := ZJ hx HC.out.2.1
         have x2 := ZJ hx HC.out.2.2.1
         have x3 := ZJ hx HC.out.2.2.2.1
         have x4 := ZJ hx HC.out.2.2.2.2.1
         have x5 := ZJ hx HC.out.2.2.2.2.2
         have s0 := ZJ hx HSC.out.1
         have s1 := ZJ hx HSC.out.2
         simp only [Nat.zero_add] at x1 x2 x3 x4 x5
         clear hx
         go_cut [63] from 64 to 78 (fun c wx => c = .bool (decide (0 ≤ f.datum ∧ (fs.getD f.datum.toNat Feat.none).axis ≠ f.axis)) ∧ Below wa.heap.size wa wx)
         case first =>
          by_cases h1 : 0 ≤ f.datum
          ·have e1 : ((0 : Int) ≤ f.datum) = True := eq_true h1
           obtain ⟨d, hd⟩ : ∃ d : Nat, d = f.datum.toNat := ⟨_, rfl⟩
           have hdi : f.datum = (d : Int) := by omega
           have hlt : d < i := by have := HN4.out; omega
           have HX := HCO.out d (by omega)
           obtain ⟨v, hv⟩ : ∃ v, v = (fs.getD d Feat.none).axis := ⟨_, rfl⟩
           have y2 := ZJ (HAL.out.trans (HB4.out.mono HAL.out.size)) HX.2.2.1
           rw [← hv] at y2
           have HV := ZH (show (fs.getD f.datum.toNat Feat.none).axis = v by rw [hv, hd])
           have HDD := ZH hdi
           have hd0 : (0 : Int) ≤ (d : Int) := by omega
           have hd1 : (d : Int) < (n : Int) := by omega
           rw [hdi] at x3
           clear HX hd hdi h1 e1 hv
           by_cases h2 : v = f.axis
           ·have e2 : (v == f.axis) = true := by rw [h2]; exact beq_self_eq_true _
            have K2 := ZH h2
            clear h2
            go_quiet (fail)
            go_wp2_with fail
            go_meet
            exact ⟨congrArg Value.bool (by rw [ZU (p := 0 ≤ f.datum ∧ (fs.getD f.datum.toNat Feat.none).axis ≠ f.axis) (fun h => h.2 (HV.out.trans K2.out))]; first | rfl | simp [K2.out]), HB4.out.trans ((below_drawn wc _).mono HB4.out.size)⟩
           ·have e2 : (v == f.axis) = false := ZQ.2 h2
            have K2 := ZH h2
            clear h2
            go_quiet (fail)
            go_wp2_with fail
            go_meet
            exact ⟨congrArg Value.bool (by rw [ZT (p := 0 ≤ f.datum ∧ (fs.getD f.datum.toNat Feat.none).axis ≠ f.axis) (⟨by have := HDD.out; omega, fun h => K2.out (HV.out.symm.trans h)⟩)]; first | rfl | simp [K2.out]), HB4.out.trans ((below_drawn wc _).mono HB4.out.size)⟩
          ·have e1 : ((0 : Int) ≤ f.datum) = False := eq_false h1
           go_quiet (fail)
           go_wp2_with fail
           go_meet
           exact ⟨congrArg Value.bool (by rw [ZU (p := 0 ≤ f.datum ∧ (fs.getD f.datum.toNat Feat.none).axis ≠ f.axis) (fun h => by omega)]), HB4.out.trans ((below_drawn wc _).mono HB4.out.size)⟩
         case rest =>
          obtain ⟨rfl, hbx⟩ := hcut
          have HB5 := ZH hbx
          clear hbx
          by_cases hX : 0 ≤ f.datum ∧ (fs.getD f.datum.toNat Feat.none).axis ≠ f.axis
          ·have HE := ZH (show featErr fs i = 17 by rw [HERR.out, if_neg HN1.out, if_neg HN2.out, if_neg HN3.out, if_neg HN4.out, if_pos hX])
           rw [ZT hX]
           clear hX
           go_wp2_with fail
           go_ret
           exact ⟨by rw [HE.out]; rfl, HAL.out.trans (HB5.out.mono HAL.out.size)⟩
          ·rw [ZU hX]
           have HN5 := ZH hX
           clear hX
           go_upto_region 12 with fail
           have HX6 := ZH (HB5.out)
           have hx := HB5.out
           have x0 := ZJ hx HC.out.1
           have x1 := ZJ hx HC.out.2.1
           have x2 := ZJ hx HC.out.2.2.1
           have x3 := ZJ hx HC.out.2.2.2.1
           have x4 := ZJ hx HC.out.2.2.2.2.1
           have x5 := ZJ hx HC.out.2.2.2.2.2
           have s0 := ZJ hx HSC.out.1
           have s1 := ZJ hx HSC.out.2
           simp only [Nat.zero_add] at x1 x2 x3 x4 x5
           clear hx
           go_cut [79] from 80 to 97 (fun c wx => c = .bool (decide (far f.place = true ∨ far f.wide = true ∨ (f.kind = 2 ∧ f.wide < 1))) ∧ Below wa.heap.size wa wx)
           case first =>
            have HP := ZH (far_any f.place wc)
            cases hp : far f.place with
            | true =>
             rw [hp] at HP
             go_wp2_with fail
             refine HP.out.mono ?_
             rintro e w1 ⟨rfl, hb1⟩
             have HB1' := ZH (HB5.out.trans (hb1.mono HB5.out.size))
             clear hb1
             go_wp2_with fail
             go_meet
             exact ⟨congrArg Value.bool (by rw [ZT (p := far f.place = true ∨ far f.wide = true ∨ (f.kind = 2 ∧ f.wide < 1)) (.inl hp)]), HB1'.out⟩
            | false =>
             rw [hp] at HP
             go_wp2_with fail
             refine HP.out.mono ?_
             rintro e w1 ⟨rfl, hb1⟩
             have x1 := ZJ hb1 x1
             have x5 := ZJ hb1 x5
             have HB1' := ZH (HB5.out.trans (hb1.mono HB5.out.size))
             clear hb1
             have HP2 := ZH (far_any f.wide w1)
             cases hp2 : far f.wide with
             | true =>
              rw [hp2] at HP2
              go_wp2_with fail
              refine HP2.out.mono ?_
              rintro e w2 ⟨rfl, hb1⟩
              have HB2' := ZH (HB1'.out.trans (hb1.mono HB1'.out.size))
              clear hb1
              go_wp2_with fail
              go_meet
              exact ⟨congrArg Value.bool (by rw [ZT (p := far f.place = true ∨ far f.wide = true ∨ (f.kind = 2 ∧ f.wide < 1)) (.inr (.inl hp2))]), HB2'.out⟩
             | false =>
              rw [hp2] at HP2
              go_wp2_with fail
              refine HP2.out.mono ?_
              rintro e w2 ⟨rfl, hb1⟩
              have x1 := ZJ hb1 x1
              have x5 := ZJ hb1 x5
              have HB2' := ZH (HB1'.out.trans (hb1.mono HB1'.out.size))
              clear hb1
              by_cases h1 : f.kind = 2
              ·have e1 : (f.kind == 2) = true := by rw [h1]; rfl
               have K1 := ZH h1
               clear h1
               by_cases h2 : f.wide < 1
               ·have e2 : (f.wide < 1) = True := eq_true h2
                go_wp2_with fail
                go_meet
                exact ⟨congrArg Value.bool (by rw [ZT (p := far f.place = true ∨ far f.wide = true ∨ (f.kind = 2 ∧ f.wide < 1)) (.inr (.inr ⟨K1.out, h2⟩))]), HB2'.out⟩
               ·have e2 : (f.wide < 1) = False := eq_false h2
                go_wp2_with fail
                go_meet
                exact ⟨congrArg Value.bool (by rw [ZU (p := far f.place = true ∨ far f.wide = true ∨ (f.kind = 2 ∧ f.wide < 1)) (by rw [hp, hp2]; exact fun h => h.elim (by simp) (fun h => h.elim (by simp) (fun h => by have := h.2; omega)))]), HB2'.out⟩
              ·have e1 : (f.kind == 2) = false := ZQ.2 h1
               go_wp2_with fail
               go_meet
               exact ⟨congrArg Value.bool (by rw [ZU (p := far f.place = true ∨ far f.wide = true ∨ (f.kind = 2 ∧ f.wide < 1)) (by rw [hp, hp2]; exact fun h => h.elim (by simp) (fun h => h.elim (by simp) (fun h => h1 h.1)))]), HB2'.out⟩
           case rest =>
            obtain ⟨rfl, hbx⟩ := hcut
            have HB6 := ZH hbx
            clear hbx
            by_cases hX : far f.place = true ∨ far f.wide = true ∨ (f.kind = 2 ∧ f.wide < 1)
            ·have HE := ZH (show featErr fs i = 2 by rw [HERR.out, if_neg HN1.out, if_neg HN2.out, if_neg HN3.out, if_neg HN4.out, if_neg HN5.out, if_pos hX])
             rw [ZT hX]
             clear hX
             go_wp2_with fail
             go_ret
             exact ⟨by rw [HE.out]; rfl, HAL.out.trans (HB6.out.mono HAL.out.size)⟩
            ·rw [ZU hX]
             have HN6 := ZH hX
             clear hX
             go_upto_region 14 with fail
             have HX7 := ZH (HB6.out)
             have hx := HB6.out
             have x0 := ZJ hx HC.out.1
             have x1 := ZJ hx HC.out.2.1
             have x2 := ZJ hx HC.out.2.2.1
             have x3 := ZJ hx HC.out.2.2.2.1
             have x4 := ZJ hx HC.out.2.2.2.2.1
             have x5 := ZJ hx HC.out.2.2.2.2.2
             have s0 := ZJ hx HSC.out.1
             have s1 := ZJ hx HSC.out.2
             simp only [Nat.zero_add] at x1 x2 x3 x4 x5
             clear hx
             go_cut [98] from 99 to 106 (fun c wx => c = .bool (decide (f.kind = 1 ∧ f.wide ≠ 0)) ∧ Below wa.heap.size wa wx)
             case first =>
              by_cases h1 : f.kind = 1
              ·have e1 : (f.kind == 1) = true := by rw [h1]; rfl
               have K1 := ZH h1
               clear h1
               by_cases h2 : f.wide = 0
               ·have e2 : (f.wide == 0) = true := by rw [h2]; rfl
                have K2 := ZH h2
                clear h2
                go_wp2_with fail
                go_meet
                exact ⟨congrArg Value.bool (by rw [ZU (p := f.kind = 1 ∧ f.wide ≠ 0) (fun h => h.2 K2.out)]; first | rfl | simp [K2.out]), HB6.out⟩
               ·have e2 : (f.wide == 0) = false := ZQ.2 h2
                have K2 := ZH h2
                clear h2
                go_wp2_with fail
                go_meet
                exact ⟨congrArg Value.bool (by rw [ZT (p := f.kind = 1 ∧ f.wide ≠ 0) (⟨K1.out, K2.out⟩)]; first | rfl | simp [K2.out]), HB6.out⟩
              ·have e1 : (f.kind == 1) = false := ZQ.2 h1
               go_wp2_with fail
               go_meet
               exact ⟨congrArg Value.bool (by rw [ZU (p := f.kind = 1 ∧ f.wide ≠ 0) (fun h => h1 h.1)]), HB6.out⟩
             case rest =>
              obtain ⟨rfl, hbx⟩ := hcut
              have HB7 := ZH hbx
              clear hbx
              by_cases hX : f.kind = 1 ∧ f.wide ≠ 0
              ·have HE := ZH (show featErr fs i = 3 by rw [HERR.out, if_neg HN1.out, if_neg HN2.out, if_neg HN3.out, if_neg HN4.out, if_neg HN5.out, if_neg HN6.out, if_pos hX])
               rw [ZT hX]
               clear hX
               go_wp2_with fail
               go_ret
               exact ⟨by rw [HE.out]; rfl, HAL.out.trans (HB7.out.mono HAL.out.size)⟩
              ·rw [ZU hX]
               have HN7 := ZH hX
               clear hX
               have HE := ZH (show featErr fs i = 0 by rw [HERR.out, if_neg HN1.out, if_neg HN2.out, if_neg HN3.out, if_neg HN4.out, if_neg HN5.out, if_neg HN6.out, if_neg HN7.out])
               go_wp2_with fail
               go_ret
               exact ⟨by rw [HE.out]; rfl, HAL.out.trans (HB7.out.mono HAL.out.size)⟩
end Go.Proofs.YtgofihilkobenaaGreatDoor
