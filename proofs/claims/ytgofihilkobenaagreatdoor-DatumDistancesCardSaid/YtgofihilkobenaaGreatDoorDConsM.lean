/- Constraints. -/
import Derived.Test.YtgofihilkobenaaGreatDoorKO
import Derived.Test.YtgofihilkobenaaGreatDoorDHoldsM
import Derived.Test.YtgofihilkobenaaGreatDoorKM
set_option maxRecDepth 100000
namespace Go.Proofs.YtgofihilkobenaaGreatDoor
open List renaming setIfInBounds_toArray → zLa, set_cons_zero → zLb, set_cons_succ → zLc
open FlowR renaming putSel → zFp
open Act renaming put → zAp
open Nat renaming zero_add → zNz
open Flow.Steps renaming cons → zSc, nil → zSn
open FlowR.Step renaming of → zSo
open Go.RowKit Go.Num Go.Flow Go.Maps Go.WideMaps Go.Dtm
set_option maxHeartbeats 16000000

/-- A constraint. -/
structure Cn where
 name : ByteArray
 const : List UInt8
 terms : List (Nat × List UInt8)
def cnCells (l : List Cn) (tv : List Value) : List Value := (l.zip tv).flatMap fun p => [.string p.1.name, .string ⟨p.1.const.toArray⟩, p.2]
/-- A row of constraints. -/
def ConRow (w : World) (B : Nat) (v : Value) (l : List Cn) : Prop := ∃ tv : List Value, tv.length = l.length ∧ w.ownsRow B 80 3 v l.length (cnCells l tv) ∧ ∀ j, j < l.length → TermRow w B (tv.getD j (.slice none 0 0)) (l.getD j ⟨⟨#[]⟩, [], []⟩).terms
def conA (fs : List Feat) (zs : List Zn) (z : Zn) : Int := (fs.getD z.feature.toNat Feat.none).wide + (zoneOf zs z.feature 2).lower - (fs.getD z.feature.toNat Feat.none).place - z.upper
def conB (fs : List Feat) (zs : List Zn) (z : Zn) : Int := (fs.getD z.feature.toNat Feat.none).wide + (zoneOf zs z.feature 2).lower + (fs.getD z.feature.toNat Feat.none).place + z.lower
def conMap (fs : List Feat) (zs : List Zn) (z : Zn) (a : Rat) : Int → Option Rat := mm true true (varAt (varsTo fs zs fs.length) z.feature 1) a (varAt (varsTo fs zs fs.length) z.feature 2) (-1)
def sAbove : ByteArray := ⟨#[46, 97, 98, 111, 118, 101]⟩
def sBelow : ByteArray := ⟨#[46, 98, 101, 108, 111, 119]⟩
/-- The constraints of a zone with a bonus. -/
def conOf (fs : List Feat) (zs : List Zn) (z : Zn) : List Cn := [⟨(fs.getD z.feature.toNat Feat.none).name ++ sAbove, numText (conA fs zs z : Rat), sumTerms (conMap fs zs z 1) 48⟩, ⟨(fs.getD z.feature.toNat Feat.none).name ++ sBelow, numText (conB fs zs z : Rat), sumTerms (conMap fs zs z (-1)) 48⟩]
def consTo (fs : List Feat) (zs : List Zn) (k : Nat) : List Cn := (zs.take k).flatMap fun z => if z.bonus = true then conOf fs zs z else []
theorem infoCon : (Tryz.prog.info? 80).map (fun i => (i.zero, i.size, i.bytes)) = some (some (.agg #[.string ⟨#[]⟩, .string ⟨#[]⟩, .slice none 0 0]), 3, 56) := by kernel_rfl
theorem consTo_succ {fs : List Feat} {zs : List Zn} {k : Nat} (h : k < zs.length) : consTo fs zs (k + 1) = consTo fs zs k ++ (if (zs.getD k Zn.none).bonus = true then conOf fs zs (zs.getD k Zn.none) else []) := by
 unfold consTo
 rw [List.take_add_one, List.getElem?_eq_getElem h, List.flatMap_append, List.getD_eq_getElem?_getD, List.getElem?_eq_getElem h]
 simp
theorem consTo_len (fs : List Feat) (zs : List Zn) : ∀ k, (consTo fs zs k).length ≤ 2 * k
 | 0 => by simp [consTo]
 | k + 1 => by
  have h := consTo_len fs zs k
  rcases Nat.lt_or_ge k zs.length with h1 | h1
  ·rw [consTo_succ h1, List.length_append]
   split
   ·simp [conOf]; omega
   ·simp; omega
  ·unfold consTo at *
   rw [List.take_of_length_le (by omega)]
   rw [List.take_of_length_le h1] at h
   omega
theorem varAt_ne {V : List (Nat × Int)} {i : Int} (h1 : 0 ≤ varAt V i 1) : varAt V i 1 ≠ varAt V i 2 := by
 intro e
 unfold varAt at *
 rcases pos_cases (fun j => isVar i 1 (V.getD j (0, 0))) V.length 0 with ⟨a, -⟩ | ⟨x, a, -, -, ha, -⟩
 ·omega
 ·rcases pos_cases (fun j => isVar i 2 (V.getD j (0, 0))) V.length 0 with ⟨b, -⟩ | ⟨y, b, -, -, hb, -⟩
  ·omega
  ·have : x = y := by omega
   subst this
   unfold isVar at ha hb
   rw [Bool.and_eq_true, decide_eq_true_iff, decide_eq_true_iff] at ha hb
   have := ha.2.symm.trans hb.2
   omega
theorem row_grown {w w' : World} {B : Nat} {t t2 : TypeId} {k n k2 n2 : Nat} {v v2 : Value} {l l2 : List Value} (h : w.ownsRow B t k v n l) (hg : w.grownBy w' v2.ownBlock) (h2 : w.ownsRow B t2 k2 v2 n2 l2) (ht : t ≠ t2) : w'.ownsRow B t k v n l := by
 rcases h.2 with h1 | ⟨g, cap, cur, h1, hB, h3, h4⟩
 ·exact ⟨h.1, .inl h1⟩
 ·refine ⟨h.1, .inr ⟨g, cap, cur, h1, hB, (hg.block g (ZL h3) fun e => ?_).trans h3, h4⟩⟩
  exact row_off h2 h3 ht g e.symm rfl
theorem ConRow.below {w w' : World} {B : Nat} {v : Value} {l : List Cn} (h : ConRow w B v l) (hb : Below w.heap.size w w') : ConRow w' B v l := by
 obtain ⟨tv, h1, h2, h3⟩ := h
 exact ⟨tv, h1, row_below h2 hb, fun j hj => (h3 j hj).below hb⟩
theorem ConRow.two {w w' : World} {B : Nat} {v v' : Value} {l : List Cn} {tv : List Value} (h1 : tv.length = l.length) (h2 : w.ownsRow B 80 3 v l.length (cnCells l tv)) (h3 : ∀ j, j < l.length → TermRow w B (tv.getD j (.slice none 0 0)) (l.getD j ⟨⟨#[]⟩, [], []⟩).terms) {a b : Cn} {ta tb : Value} (ha : TermRow w B ta a.terms) (hb : TermRow w B tb b.terms)
  (hown : w'.ownsRow B 80 3 v' (l.length + 2) (cnCells l tv ++ [.string a.name, .string ⟨a.const.toArray⟩, ta, .string b.name, .string ⟨b.const.toArray⟩, tb])) (hg : w.grownBy w' v.ownBlock) : ConRow w' B v' (l ++ [a, b]) := by
 refine ⟨tv ++ [ta, tb], by simp [h1], ?_, fun j hj => ?_⟩
 ·rw [List.length_append, show [a, b].length = 2 from rfl]
  unfold cnCells at *
  rw [List.zip_append h1.symm, List.flatMap_append]
  exact hown
 ·have k : ∀ {t : Value} {x : List (Nat × List UInt8)}, TermRow w B t x → TermRow w' B t x := fun h => row_grown h hg h2 (by decide)
  rcases Nat.lt_or_ge j l.length with hlt | hge
  ·rw [List.getD_eq_getElem?_getD, List.getElem?_append_left (by omega), ← List.getD_eq_getElem?_getD, List.getD_eq_getElem?_getD (l := l ++ [a, b]), List.getElem?_append_left hlt, ← List.getD_eq_getElem?_getD]
   exact k (h3 j hlt)
  ·rw [List.getD_eq_getElem?_getD, List.getElem?_append_right (by omega), List.getD_eq_getElem?_getD (l := l ++ [a, b]), List.getElem?_append_right hge, h1]
   have hj2 : j - l.length = 0 ∨ j - l.length = 1 := by simp at hj; omega
   rcases hj2 with e | e <;> rw [e]
   ·exact k ha
   ·exact k hb
def ConsPost (w : World) (fs : List Feat) (zs : List Zn) (e : Ending) (w' : World) : Prop := ∃ v, e = .returned (.tuple #[v, .int .i64 (check fs zs)]) ∧ (check fs zs = 0 → ConRow w' w.heap.size v (consTo fs zs zs.length)) ∧ (check fs zs ≠ 0 → v = .slice none 0 0) ∧ Below w.heap.size w w'
theorem Constraints_any {w : World} (hg : Glob w) {af : Option Addr} {cf : Nat} {az : Option Addr} {cz : Nat} {fs : List Feat} {zs : List Zn} (h : SchemeIn w af cf az cz fs zs) :
  Calls Tryz.prog 30 #[.agg #[.slice af fs.length cf, .slice az zs.length cz]] w (ConsPost w fs zs) := by
 obtain ⟨n, hn⟩ : ∃ n, n = fs.length := ⟨_, rfl⟩
 obtain ⟨nz, hnz⟩ : ∃ n, n = zs.length := ⟨_, rfl⟩
 obtain ⟨wa, hwa⟩ : ∃ wa, wa = w.alloc (.cells #[.slice af n cf, .slice az nz cz] 26) := ⟨_, rfl⟩
 obtain ⟨ba, hba⟩ : ∃ b, b = w.heap.size := ⟨_, rfl⟩
 have hal : Below w.heap.size w wa := by rw [hwa]; exact (ZR _ w).alloc (Nat.le_refl _) _
 have k0 : wa.heap[ba]? = some (.cells #[.slice af n cf, .slice az nz cz] 26 (0, 0)) := by rw [hwa, hba]; exact ZW w _
 have s0 := ZI k0 0
 have s1 := ZI k0 1
 simp at s0 s1
 obtain ⟨E, hE⟩ : ∃ x, x = check fs zs := ⟨_, rfl⟩
 have hck := Check_any (h.below hal)
 rw [← hn, ← hnz, ← hE] at hck
 have HS := ZH (h.below hal)
 have HG := ZH (hg.below hal)
 have HAL := ZH hal
 have HSC := ZH (ZN s0 s1)
 have HCK := ZH hck
 have HE := ZH hE
 have HN := ZH (ZN hn hnz)
 have HBA := ZH k0
 have HW := ZH (ZN hwa hba)
 have hcap : n ≤ cf ∧ cf ≤ 9223372036854775807 := by rw [hn]; exact ⟨h.feats.1, h.feats.2.1⟩
 have hcapz : nz ≤ cz ∧ cz ≤ 9223372036854775807 := by rw [hnz]; exact ⟨h.zones.1, h.zones.2.1⟩
 obtain ⟨i0, hi, hz0, hz1, hz2⟩ := info_parts infoCon
 have HI := ZH (ZN hi (ZN hz0 (ZN hz1 hz2)))
 have hmm := @run_makeMap Tryz.prog
 have HVP := ZH (show ConsPost w fs zs = fun e w' => ∃ v, e = .returned (.tuple #[v, .int .i64 E]) ∧ (E = 0 → ConRow w' w.heap.size v (consTo fs zs nz)) ∧ (E ≠ 0 → v = .slice none 0 0) ∧ Below w.heap.size w w' by rw [hE, hnz]; rfl)
 rw [← hn, ← hnz]
 clear hal hwa hba k0 h hck hE hn hnz hi hz0 hz1 hz2 hg
 go_enter Tryz.func30, Tryz.ntmps30
 go_upto_region 1 with fail
 rw [← HW.out.1, ← HW.out.2]
 clear HW
 go_wp2_with fail
 refine HCK.out.mono ?_
 rintro e w1 ⟨rfl, hb1⟩
 have s0 := ZJ hb1 HSC.out.1
 have s1 := ZJ hb1 HSC.out.2
 have HB1 := ZH hb1
 clear hb1
 by_cases hz : E = 0
 ·have e2 : (E == 0) = true := by rw [hz]; rfl
  have e2n : (E != 0) = false := by rw [hz]; rfl
  have hc0 := HE.out.symm.trans hz
  have HC0 := ZH (ZN hc0 hz)
  have hnz9 : nz ≤ 32 := by have h1 := (check_small hc0).2; have h2 := HN.out.2; omega
  clear hz hc0
  go_wp2_with fail
  clear s0 s1
  go_loopg [5, 24] nz (fun gk v x wr => ∃ k : Nat, k + gk = nz ∧ x = .int .i64 k ∧ Hid (ConRow wr w1.heap.size v (consTo fs zs k)) ∧ Hid (Below w1.heap.size w1 wr))
  case atStart => exact ⟨0, by omega, rfl, ZH ⟨[], rfl, World.ownsRow_nil _ _ _ _, fun j hj => absurd hj (by simp [consTo])⟩, ZH (ZR _ _)⟩
  case round =>
   obtain ⟨k, hk, rfl, hrow, hbw⟩ := hrel
   have HBW := ZH (HB1.out.trans (hbw.out.mono HB1.out.size))
   have s0 := ZJ HBW.out HSC.out.1
   have s1 := ZJ HBW.out HSC.out.2
   by_cases hlt : k < nz
   ·have e1 : ((k : Int) < (nz : Int)) = True := eq_true (by omega)
    obtain ⟨bo, o, rfl, hlo, hco⟩ := HS.out.zones.2.2 (by have := HN.out.2; omega)
    obtain ⟨z, hzd⟩ : ∃ z, z = zs.getD k Zn.none := ⟨_, rfl⟩
    have hkz : k < zs.length := by have := HN.out.2; omega
    have hx := hco k hkz
    have hzr := zone_right HC0.out.1 hkz
    have hzv := zone_vars HC0.out.1 hkz
    have hcs := consTo_succ (fs := fs) hkz
    rw [← hzd] at hx hzr hzv hcs
    obtain ⟨kf, hkf⟩ : ∃ i : Nat, z.feature = (i : Int) := ⟨z.feature.toNat, by omega⟩
    have x0 := ZJ HBW.out hx.1
    have x1 := ZJ HBW.out hx.2.1
    have x2 := ZJ HBW.out hx.2.2.1
    have x3 := ZJ HBW.out hx.2.2.2.1
    have x4 := ZJ HBW.out hx.2.2.2.2
    rw [hkf] at x1
    have hk0 : (0 : Int) ≤ (k : Int) := by omega
    have hk1 : (k : Int) < (nz : Int) := by omega
    have HZR := ZH (ZN hzr (ZN hzv (ZN hkf (ZN hcs hlt))))
    clear hx hzr hzv hkz hzd hlt hco hkf hcs
    go_upto_region 8 with fail
    obtain ⟨w4, hw4⟩ : ∃ x, x = wr.alloc (.cells #[.int .i64 z.kind, .int .i64 (kf : Int), .int .i64 z.lower, .int .i64 z.upper, .bool z.bonus] 30) := ⟨_, rfl⟩
    obtain ⟨bz, hbz⟩ : ∃ b, b = wr.heap.size := ⟨_, rfl⟩
    rw [← hw4, ← hbz]
    have hl4 : Below wr.heap.size wr w4 := by rw [hw4]; exact (ZR _ wr).alloc (Nat.le_refl _) _
    have kz : w4.heap[bz]? = some (.cells #[.int .i64 z.kind, .int .i64 (kf : Int), .int .i64 z.lower, .int .i64 z.upper, .bool z.bonus] 30 (0, 0)) := by rw [hw4, hbz]; exact ZW wr _
    have z1 := ZI kz 1
    have z4 := ZI kz 4
    simp at z1 z4
    have HKZ := ZH kz
    have HB4 := ZH (HBW.out.trans (hl4.mono HBW.out.size))
    have HB14 := ZH (hbw.out.trans (hl4.mono hbw.out.size))
    have HR4 := ZH (hrow.out.below hl4)
    have s0 := ZJ HB4.out HSC.out.1
    have s1 := ZJ HB4.out HSC.out.2
    clear hw4 hbz hl4 kz hbw hrow HBW x0 x1 x2 x3 x4
    cases hbo : z.bonus with
    | false =>
     have HBO := ZH hbo
     rw [hbo] at z4
     clear hbo
     go_wp2_with fail
     go_roundg (nz - (k + 1))
     case measure => have := HZR.out.2.2.2.2; omega
     case rel =>
      refine ⟨k + 1, by have := HZR.out.2.2.2.2; omega, by congr 1, ZH ?_, HB14⟩
      rw [HZR.out.2.2.2.1, HBO.out, if_neg (by simp), List.append_nil]
      exact HR4.out
    | true =>
     have HBO := ZH hbo
     rw [hbo] at z4
     clear hbo
     obtain ⟨fb, fo, rfl, hfl, hfc⟩ := HS.out.feats.2.2 (by have := HZR.out; omega)
     have hkn : kf < fs.length := by have h1 := HZR.out.1.2.1; have h2 := HZR.out.2.2.1; omega
     obtain ⟨f, hf⟩ : ∃ f, f = fs.getD kf Feat.none := ⟨_, rfl⟩
     have hx := hfc kf hkn
     have hfr := feat_right HC0.out.1 hkn
     rw [← hf] at hx hfr
     have f0 := ZJ HB4.out hx.1
     have f1 := ZJ HB4.out hx.2.1
     have f2 := ZJ HB4.out hx.2.2.1
     have f3 := ZJ HB4.out hx.2.2.2.1
     have f4 := ZJ HB4.out hx.2.2.2.2.1
     have f5 := ZJ HB4.out hx.2.2.2.2.2
     have hk0 : (0 : Int) ≤ (kf : Int) := by omega
     have hk1 : (kf : Int) < (n : Int) := by have := HN.out.1; omega
     have HF := ZH (ZN hf (ZN hfr hkn))
     clear hfl hfc hx hf hfr hkn
     go_upto_region 10 with fail
     obtain ⟨w5, hw5⟩ : ∃ x, x = w4.alloc (.cells #[.string f.name, .int .i64 f.kind, .int .i64 f.axis, .int .i64 f.datum, .int .i64 f.place, .int .i64 f.wide] 28) := ⟨_, rfl⟩
     obtain ⟨bf, hbf⟩ : ∃ b, b = w4.heap.size := ⟨_, rfl⟩
     rw [← hw5, ← hbf]
     have hl5 : Below w4.heap.size w4 w5 := by rw [hw5]; exact (ZR _ w4).alloc (Nat.le_refl _) _
     have kf5 : w5.heap[bf]? = some (.cells #[.string f.name, .int .i64 f.kind, .int .i64 f.axis, .int .i64 f.datum, .int .i64 f.place, .int .i64 f.wide] 28 (0, 0)) := by rw [hw5, hbf]; exact ZW w4 _
     have HKF := ZH kf5
     have HB5 := ZH (HB4.out.trans (hl5.mono HB4.out.size))
     have HB15 := ZH (HB14.out.trans (hl5.mono HB14.out.size))
     have HR5 := ZH (HR4.out.below hl5)
     have kz5 := (hl5.block bz (ZL HKZ.out)).trans HKZ.out
     have HKZ5 := ZH kz5
     have z1 := ZI kz5 1
     simp at z1
     have s0 := ZJ HB5.out HSC.out.1
     have s1 := ZJ HB5.out HSC.out.2
     have hz2 := zone_any (HS.out.below HB5.out) (by have := (check_small HC0.out.1).2; omega) (kf : Int) 2
     rw [← HN.out.1, ← HN.out.2] at hz2
     have HZ2 := ZH hz2
     clear hw5 hbf hl5 kf5 kz5 hz2 f0 f1 f2 f3 f4 f5 hk0 hk1 z4 HR4 HB4 HB14 HKZ
     go_wp2_with fail
     refine HZ2.out.mono ?_
     rintro e w6 ⟨rfl, hb6⟩
     obtain ⟨y, hy⟩ : ∃ z, z = zoneOf zs (kf : Int) 2 := ⟨_, rfl⟩
     have hyb := zoneOf_bound HC0.out.1 (kf : Int) 2
     rw [← hy] at hyb ⊢
     have HY := ZH (ZN hy hyb)
     unfold zoneV
     have HKF6 := ZH ((hb6.block bf (ZL HKF.out)).trans HKF.out)
     have HKZ6 := ZH ((hb6.block bz (ZL HKZ5.out)).trans HKZ5.out)
     have HB6 := ZH (HB5.out.trans (hb6.mono HB5.out.size))
     have HB16 := ZH (HB15.out.trans (hb6.mono HB15.out.size))
     have HR6 := ZH (HR5.out.below hb6)
     clear hy hyb hb6 s0 s1 z1 HKF HKZ5 HR5 HB5 HB15
     go_upto_region 11 with fail
     obtain ⟨w7, hw7⟩ : ∃ x, x = w6.alloc (.cells #[.int .i64 y.kind, .int .i64 y.feature, .int .i64 y.lower, .int .i64 y.upper, .bool y.bonus] 30) := ⟨_, rfl⟩
     obtain ⟨by7, hby⟩ : ∃ b, b = w6.heap.size := ⟨_, rfl⟩
     rw [← hw7, ← hby]
     have hl7 : Below w6.heap.size w6 w7 := by rw [hw7]; exact (ZR _ w6).alloc (Nat.le_refl _) _
     have ky : w7.heap[by7]? = some (.cells #[.int .i64 y.kind, .int .i64 y.feature, .int .i64 y.lower, .int .i64 y.upper, .bool y.bonus] 30 (0, 0)) := by rw [hw7, hby]; exact ZW w6 _
     have HKY7 := ZH ky
     have HKF7 := ZH ((hl7.block bf (ZL HKF6.out)).trans HKF6.out)
     have HKZ7 := ZH ((hl7.block bz (ZL HKZ6.out)).trans HKZ6.out)
     have HB7 := ZH (HB6.out.trans (hl7.mono HB6.out.size))
     have HB17 := ZH (HB16.out.trans (hl7.mono HB16.out.size))
     have HR7 := ZH (HR6.out.below hl7)
     have HKA7 := ZH ((HB7.out.block ba (ZL HBA.out)).trans HBA.out)
     have HW7 := ZH (ZR w7.heap.size w7)
     obtain ⟨V, hV⟩ : ∃ V, V = varsTo fs zs fs.length := ⟨_, rfl⟩
     have hix := fun (W : World) (hW : SchemeIn W (some ⟨fb, fo, none⟩) cf (some ⟨bo, o, none⟩) cz fs zs) (i k : Int) => index_any hW (by have := (check_small HC0.out.1).1; omega) (by have := (check_small HC0.out.1).2; omega) i k
     simp only [← hV] at hix
     simp only [← HN.out.1, ← HN.out.2] at hix
     have hvl := vars_len fs zs fs.length
     have hz1 : 0 ≤ varAt (varsTo fs zs fs.length) (kf : Int) 1 := var_mem (varsTo_has HF.out.2.2 (by unfold varsAt; simp))
     have hz2 := HZR.out.2.1.2 HBO.out
     rw [HZR.out.2.2.1] at hz2
     have hp9 := varAt_lt _ _ _ hz1
     have hq9 := varAt_lt _ _ _ hz2
     have hne := varAt_ne hz1
     rw [← hV] at hz1 hz2 hp9 hq9 hne hvl
     obtain ⟨p, hp⟩ : ∃ x, x = varAt V (kf : Int) 1 := ⟨_, rfl⟩
     obtain ⟨q, hq⟩ : ∃ x, x = varAt V (kf : Int) 2 := ⟨_, rfl⟩
     rw [← hp] at hz1 hp9 hne
     rw [← hq] at hz2 hq9 hne
     have HIX := ZH hix
     have HPQ := ZH (ZN hp (ZN hq (ZN hV (ZN hne (show (0 ≤ p ∧ p ≤ 100) ∧ 0 ≤ q ∧ q ≤ 100 by have := (check_small HC0.out.1).1; omega)))))
     clear hw7 hby hl7 ky HKF6 HKZ6 HR6 HB6 HB16 hix hvl hz1 hz2 hp9 hq9 hp hq hV hne
     refine FlowR.wp_region_sel (fun a b => Below a.heap.size a b) (fun a => ZR _ a) (fun _ _ _ h k => h.trans (k.mono h.size)) [0, 1, 2, 3, 4, 5, 6, 7] [false, false, false, false, false, false, false, false, false, false] [true, true, true, true, true, true, true, true, false, false] (fun i9 v w' => match i9 with
      | 0 => v = .agg #[.slice (some ⟨fb, fo, none⟩) n cf, .slice (some ⟨bo, o, none⟩) nz cz]
      | 1 => v = .pointer (some ⟨bz, 1, none⟩)
      | 2 => v = .int .i64 (kf : Int)
      | 3 => v = .int .i64 p
      | 4 => v = .agg #[.slice (some ⟨fb, fo, none⟩) n cf, .slice (some ⟨bo, o, none⟩) nz cz]
      | 5 => v = .pointer (some ⟨bz, 1, none⟩)
      | 6 => v = .int .i64 (kf : Int)
      | _ => v = .int .i64 q) rfl rfl (by kernel_rfl) (by kernel_rfl) (by kernel_rfl) (by kernel_rfl) ?st ?steps ?fin
     case st =>
      intro i9 v u1 u2 h hb
      match i9 with
      | 0 | 1 | 2 | 3 | 4 | 5 | 6 | 7 | _ + 8 => exact h
     case steps =>
      refine zSc (zSo rfl ?s0) (zSc (zSo rfl ?s1) (zSc (zSo rfl ?s2) (zSc (zSo rfl ?s3) (zSc (zSo rfl ?s4) (zSc (zSo rfl ?s5) (zSc (zSo rfl ?s6) (zSc (zSo rfl ?s7) zSn)))))))
      case s0 | s4 =>
       intro xs w' hb hT K9 hK9
       clear hT
       simp only [zFp, zAp, zLa, zLb, zLc, Nat.reduceAdd, zNz] at hK9 ⊢
       have hw := Flow.hwD HW7.out hb
       have kb := (hw.block ba (ZL HKA7.out)).trans HKA7.out
       have y0 := ZI kb 0
       have y1 := ZI kb 1
       clear kb
       simp at y0 y1
       go_simp
       exact hK9 _ _ (ZR _ _) rfl
      case s1 | s5 =>
       intro xs w' hb hT K9 hK9
       clear hT
       simp only [zFp, zAp, zLa, zLb, zLc, Nat.reduceAdd, zNz] at hK9 ⊢
       have hw := Flow.hwD HW7.out hb
       go_simp
       exact hK9 _ _ (ZR _ _) rfl
      case s2 =>
       intro xs w' hb hT K9 hK9
       have h1 : (xs 1) = .pointer (some ⟨bz, 1, none⟩) := hT 1 (by kernel_rfl)
       clear hT
       simp only [zFp, zAp, zLa, zLb, zLc, Nat.reduceAdd, zNz] at hK9 ⊢
       have hw := Flow.hwD HW7.out hb
       have kb := (hw.block bz (ZL HKZ7.out)).trans HKZ7.out
       have y0 := ZI kb 1
       clear kb
       simp at y0
       (try simp only [h1] at hK9)
       go_simp
       exact hK9 _ _ (ZR _ _) rfl
      case s3 =>
       intro xs w' hb hT K9 hK9
       have h0 : (xs 0) = .agg #[.slice (some ⟨fb, fo, none⟩) n cf, .slice (some ⟨bo, o, none⟩) nz cz] := hT 0 (by kernel_rfl)
       have h2 : (xs 2) = .int .i64 (kf : Int) := hT 2 (by kernel_rfl)
       clear hT
       simp only [zFp, zAp, zLa, zLb, zLc, Nat.reduceAdd, zNz] at hK9 ⊢
       have hw := Flow.hwD HW7.out hb
       (try simp only [h0] at hK9)
       (try simp only [h2] at hK9)
       go_simp
       go_at_call 79
       refine (HIX.out _ (HS.out.below (HB7.out.trans (hw.mono HB7.out.size))) (kf : Int) 1).mono ?_
       rintro e w3 ⟨rfl, hb3⟩
       exact hK9 _ _ hb3 (by rw [HPQ.out.1])
      case s6 =>
       intro xs w' hb hT K9 hK9
       have h5 : (xs 5) = .pointer (some ⟨bz, 1, none⟩) := hT 5 (by kernel_rfl)
       clear hT
       simp only [zFp, zAp, zLa, zLb, zLc, Nat.reduceAdd, zNz] at hK9 ⊢
       have hw := Flow.hwD HW7.out hb
       have kb := (hw.block bz (ZL HKZ7.out)).trans HKZ7.out
       have y0 := ZI kb 1
       clear kb
       simp at y0
       (try simp only [h5] at hK9)
       go_simp
       exact hK9 _ _ (ZR _ _) rfl
      case s7 =>
       intro xs w' hb hT K9 hK9
       have h4 : (xs 4) = .agg #[.slice (some ⟨fb, fo, none⟩) n cf, .slice (some ⟨bo, o, none⟩) nz cz] := hT 4 (by kernel_rfl)
       have h6 : (xs 6) = .int .i64 (kf : Int) := hT 6 (by kernel_rfl)
       clear hT
       simp only [zFp, zAp, zLa, zLb, zLc, Nat.reduceAdd, zNz] at hK9 ⊢
       have hw := Flow.hwD HW7.out hb
       (try simp only [h4] at hK9)
       (try simp only [h6] at hK9)
       go_simp
       go_at_call 79
       refine (HIX.out _ (HS.out.below (HB7.out.trans (hw.mono HB7.out.size))) (kf : Int) 2).mono ?_
       rintro e w3 ⟨rfl, hb3⟩
       exact hK9 _ _ hb3 (by rw [HPQ.out.2.1])
     case fin =>
      intro xs w' hb hT
      have hw := Flow.hwD HW7.out hb
      have h3 : (xs 3) = .int .i64 p := hT 3 (by rfl)
      have h7 : (xs 7) = .int .i64 q := hT 7 (by rfl)
      clear hT
      simp only [zFp, zAp, zLa, zLb, zLc, Nat.reduceAdd, zNz, FlowR.restL, FlowR.orM, Bool.false_or]
      simp only [h3, h7]
      have HW8 := ZH hw
      clear h3 h7 hb hw
      have kf8 := (HW8.out.block bf (ZL HKF7.out)).trans HKF7.out
      have ky8 := (HW8.out.block by7 (ZL HKY7.out)).trans HKY7.out
      have g5 := ZI kf8 5
      have y2 := ZI ky8 2
      simp at g5 y2
      have b1 := HF.out.2.1.2.2.2
      have b2 := HY.out.2
      clear kf8 ky8
      go_upto_region 13 with fail
      obtain ⟨lea, hle⟩ : ∃ x, x = f.wide + y.lower := ⟨_, rfl⟩
      rw [← hle]
      have HLE := ZH (ZN hle (show -536870912 ≤ lea ∧ lea ≤ 536870912 by omega))
      clear hle b1 b2 g5 y2
      go_wp2_with fail
      refine (ratFrom_any (n := 1) (by omega) (by omega)).mono ?_
      rintro e w9 ⟨v1, rfl, hr1, hb9⟩
      have HW9 := ZH (HW8.out.trans (hb9.mono HW8.out.size))
      have HR1 := ZH hr1
      clear hr1 hb9
      go_wp2_with fail
      refine (ratFrom_any (n := -1) (by omega) (by omega)).mono ?_
      rintro e w10 ⟨v2, rfl, hr2, hb10⟩
      have HW10 := ZH (HW9.out.trans (hb10.mono HW9.out.size))
      have hr1 := HR1.out.below hb10
      rw [show ((1 : Int) : Rat) = 1 from rfl] at hr1
      rw [show ((-1 : Int) : Rat) = -1 from rfl] at hr2
      obtain ⟨s1', a1, c1, l1, s2', a2, c2, l2, rfl⟩ := rt_shape hr1
      obtain ⟨t1', b1, d1, m1, t2', b2, d2, m2, rfl⟩ := rt_shape hr2
      have HRR := ZH (ZN hr1 hr2)
      clear hr1 hr2 hb10 HR1
      go_upto_region 14 with fail
      obtain ⟨wd, hwd⟩ : ∃ x, x = (w10.alloc (.cells #[.bool s1', .slice a1 c1 l1, .bool s2', .slice a2 c2 l2] 65)).alloc (.cells #[.bool t1', .slice b1 d1 m1, .bool t2', .slice b2 d2 m2] 65) := ⟨_, rfl⟩
      obtain ⟨bo1, hbo1⟩ : ∃ b, b = w10.heap.size := ⟨_, rfl⟩
      obtain ⟨bo2, hbo2⟩ : ∃ b, b = w10.heap.size + 1 := ⟨_, rfl⟩
      obtain ⟨ko1, ko2⟩ := two_made w10 #[.bool s1', .slice a1 c1 l1, .bool s2', .slice a2 c2 l2] #[.bool t1', .slice b1 d1 m1, .bool t2', .slice b2 d2 m2] 65 65
      rw [← hwd, ← hbo1] at ko1
      rw [← hwd, ← hbo2] at ko2
      rw [← hwd, ← hbo2, ← hbo1]
      have hld : Below w10.heap.size w10 wd := by rw [hwd]; exact ((ZR _ w10).alloc (Nat.le_refl _) _).alloc (by simp) _
      have HWD := ZH (HW10.out.trans (hld.mono HW10.out.size))
      have HBD := ZH (HB7.out.trans (HWD.out.mono HB7.out.size))
      have HB1D := ZH (HB17.out.trans (HWD.out.mono HB17.out.size))
      have HRD := ZH (HR7.out.below HWD.out)
      have HKF9 := ZH ((HWD.out.block bf (ZL HKF7.out)).trans HKF7.out)
      have HKZ9 := ZH ((HWD.out.block bz (ZL HKZ7.out)).trans HKZ7.out)
      have HKO1 := ZH ko1
      have HKO2 := ZH ko2
      have HR2 := ZH (ZN (HRR.out.1.below hld) (HRR.out.2.below hld))
      have HWW := ZH (ZR wd.heap.size wd)
      obtain ⟨NMA, hNMA⟩ : ∃ x, x = f.name ++ sAbove := ⟨_, rfl⟩
      obtain ⟨NMB, hNMB⟩ : ∃ x, x = f.name ++ sBelow := ⟨_, rfl⟩
      obtain ⟨cA, hcA⟩ : ∃ x, x = lea - f.place - z.upper := ⟨_, rfl⟩
      obtain ⟨cB, hcB⟩ : ∃ x, x = lea + f.place + z.lower := ⟨_, rfl⟩
      obtain ⟨NA, hNA⟩ : ∃ x, x = numText (cA : Rat) := ⟨_, rfl⟩
      obtain ⟨NB, hNB⟩ : ∃ x, x = numText (cB : Rat) := ⟨_, rfl⟩
      obtain ⟨TA, hTA⟩ : ∃ x, x = sumTerms (mm true true p 1 q (-1)) 48 := ⟨_, rfl⟩
      obtain ⟨TB, hTB⟩ : ∃ x, x = sumTerms (mm true true p (-1) q (-1)) 48 := ⟨_, rfl⟩
      obtain ⟨SA, hSA⟩ : ∃ S : ByteArray, S = ⟨NA.toArray⟩ := ⟨_, rfl⟩
      obtain ⟨SB, hSB⟩ : ∃ S : ByteArray, S = ⟨NB.toArray⟩ := ⟨_, rfl⟩
      have hbA : -1000000000000 ≤ cA ∧ cA ≤ 1000000000000 := by have h1 := HF.out.2.1.2.2.1; have h2 := HZR.out.1; have h3 := HLE.out.2; omega
      have hbB : -1000000000000 ≤ cB ∧ cB ≤ 1000000000000 := by have h1 := HF.out.2.1.2.2.1; have h2 := HZR.out.1; have h3 := HLE.out.2; omega
      have hca1 : IntKind.i64.wrap (lea - f.place) = lea - f.place := IntWalk.i64_in _ (by have h1 := HF.out.2.1.2.2.1; have h3 := HLE.out.2; omega)
      have hca2 : IntKind.i64.wrap (lea - f.place - z.upper) = cA := (IntWalk.i64_in _ (by omega)).trans hcA.symm
      have hcb1 : IntKind.i64.wrap (lea + f.place) = lea + f.place := IntWalk.i64_in _ (by have h1 := HF.out.2.1.2.2.1; have h3 := HLE.out.2; omega)
      have hcb2 : IntKind.i64.wrap (lea + f.place + z.lower) = cB := (IntWalk.i64_in _ (by omega)).trans hcB.symm
      have HCW := ZH (ZN hca1 (ZN hca2 (ZN hcb1 hcb2)))
      have HCB := ZH (ZN hbA hbB)
      have HNM := ZH (ZN hNMA hNMB)
      have HNT := ZH (ZN hNA (ZN hNB (ZN hTA (ZN hTB (ZN hSA hSB)))))
      have HCC := ZH (ZN hcA hcB)
      have HGD := ZH (HG.out.below HBD.out)
      have HKC := ZH (show k < 32 ∧ (consTo fs zs k).length ≤ 2 * k by have h1 := consTo_len fs zs k; have h2 := HZR.out.2.2.2.2; omega)
      clear hwd hbo1 hbo2 ko1 ko2 hld hNMA hNMB hcA hcB hNA hNB hTA hTB hSA hSB hbA hbB hca1 hca2 hcb1 hcb2 HRR HW10 HW9 HW8 HB7 HB17 HR7 HKF7 HKZ7 HKA7 HW7 HKY7
      generalize xs 3 = x3 at *
      generalize xs 7 = x7 at *
      generalize xs = xs0 at *
      refine FlowX.wp_region_mix Stays (fun _ _ h => Stays.of_below h) [0, 1, 2, 3, 4, 5, 6, 7, 8, 9, 10, 11, 12, 13, 14, 15, 16, 17, 18, 19, 20, 21, 22, 23, 24, 25, 26, 27, 28, 29, 30, 31, 32, 33, 34, 35, 36, 37, 38, 39, 40, 41] [true, true, true, true, true, true, true, true, true, true, true, true, true, true, true, true, true, true, true, true, true, true, true, true, true, true, true, true, true, true, true, true, true, true, true, true, true, true, true, true, true, true, false, false] (fun j9 => conOps.contains j9) (fun i9 v w' => match i9 with
       | 0 => v = u5
       | 1 => v = .pointer (some ⟨bf, 0, none⟩)
       | 2 => v = .string f.name
       | 3 => v = .string NMA
       | 4 => v = .int .i64 lea
       | 5 => v = .pointer (some ⟨bf, 4, none⟩)
       | 6 => v = .int .i64 f.place
       | 7 => v = .int .i64 (lea - f.place)
       | 8 => v = .pointer (some ⟨bz, 3, none⟩)
       | 9 => v = .int .i64 z.upper
       | 10 => v = .int .i64 (cA)
       | 11 => ∃ b, v = .map (some b)
       | 12 => v = .int .i64 p
       | 13 => v = .agg #[.bool s1', .slice a1 c1 l1, .bool s2', .slice a2 c2 l2]
       | 14 => True
       | 15 => v = .int .i64 q
       | 16 => v = .agg #[.bool t1', .slice b1 d1 m1, .bool t2', .slice b2 d2 m2]
       | 17 => True
       | 18 => ∃ b, v = .map (some b)
       | 19 => FormIn w' wd.heap.size v NA TA
       | 20 => ∃ tv, v = .agg #[.string NMA, .string SA, tv] ∧ TermRow w' wd.heap.size tv TA
       | 21 => v = .pointer (some ⟨bf, 0, none⟩)
       | 22 => v = .string f.name
       | 23 => v = .string NMB
       | 24 => v = .int .i64 lea
       | 25 => v = .pointer (some ⟨bf, 4, none⟩)
       | 26 => v = .int .i64 f.place
       | 27 => v = .int .i64 (lea + f.place)
       | 28 => v = .pointer (some ⟨bz, 2, none⟩)
       | 29 => v = .int .i64 z.lower
       | 30 => v = .int .i64 (cB)
       | 31 => ∃ b, v = .map (some b)
       | 32 => v = .int .i64 p
       | 33 => v = .agg #[.bool t1', .slice b1 d1 m1, .bool t2', .slice b2 d2 m2]
       | 34 => True
       | 35 => v = .int .i64 q
       | 36 => v = .agg #[.bool t1', .slice b1 d1 m1, .bool t2', .slice b2 d2 m2]
       | 37 => True
       | 38 => ∃ b, v = .map (some b)
       | 39 => FormIn w' wd.heap.size v NB TB
       | 40 => ∃ tv, v = .agg #[.string NMB, .string SB, tv] ∧ TermRow w' wd.heap.size tv TB
       | _ => ∃ b ta tb, v = .slice (some ⟨b, 0, none⟩) 2 2 ∧ w'.heap[b]? = some (.cells #[.string NMA, .string SA, ta, .string NMB, .string SB, tb] 80 (0, 0)) ∧ wd.heap.size ≤ b ∧ TermRow w' wd.heap.size ta TA ∧ TermRow w' wd.heap.size tb TB) (ConX p q wd.heap.size) rfl rfl (by kernel_rfl) (by kernel_rfl) (by kernel_rfl) (by kernel_rfl) ?st ?hX ?hX0 ?steps ?fin
      case st =>
       intro i9 v u1 u2 h hb
       match i9 with
       | 0 | 1 | 2 | 3 | 4 | 5 | 6 | 7 | 8 | 9 | 10 | 12 | 13 | 15 | 16 | 21 | 22 | 23 | 24 | 25 | 26 | 27 | 28 | 29 | 30 | 32 | 33 | 35 | 36 => exact h
       | 11 | 18 | 31 | 38 => exact (show ∃ b, v = .map (some b) from h)
       | 14 | 17 | 34 | 37 => exact trivial
       | 19 => exact by obtain ⟨tv, e, ht⟩ := (show FormIn u1 wd.heap.size v NA TA from h); exact ⟨tv, e, ownsRow_stays ht hb⟩
       | 20 => exact by obtain ⟨tv, e, ht⟩ := (show ∃ tv, v = .agg #[.string NMA, .string SA, tv] ∧ TermRow u1 wd.heap.size tv TA from h); exact ⟨tv, e, ownsRow_stays ht hb⟩
       | 39 => exact by obtain ⟨tv, e, ht⟩ := (show FormIn u1 wd.heap.size v NB TB from h); exact ⟨tv, e, ownsRow_stays ht hb⟩
       | 40 => exact by obtain ⟨tv, e, ht⟩ := (show ∃ tv, v = .agg #[.string NMB, .string SB, tv] ∧ TermRow u1 wd.heap.size tv TB from h); exact ⟨tv, e, ownsRow_stays ht hb⟩
       | 41 | _ + 42 => exact by obtain ⟨b, ta, tb, e, hk, hl, h1, h2⟩ := (show ∃ b ta tb, v = .slice (some ⟨b, 0, none⟩) 2 2 ∧ u1.heap[b]? = some (.cells #[.string NMA, .string SA, ta, .string NMB, .string SB, tb] 80 (0, 0)) ∧ wd.heap.size ≤ b ∧ TermRow u1 wd.heap.size ta TA ∧ TermRow u1 wd.heap.size tb TB from h); exact ⟨b, ta, tb, e, hb.block _ _ _ _ hk, hl, ownsRow_stays h1 hb, ownsRow_stays h2 hb⟩
      case hX => exact fun L xs w L' xs' w' h he hb => h.below he hb
      case hX0 => exact fun xs => ⟨Half.init _, Half.init _, fun e => by cases e⟩
      case steps =>
       refine Flow.Steps.cons (.inl ⟨rfl, FlowX.StepS.of rfl ?s0⟩) (Flow.Steps.cons (.inl ⟨rfl, FlowX.StepS.of rfl ?s1⟩) (Flow.Steps.cons (.inl ⟨rfl, FlowX.StepS.of rfl ?s2⟩) (Flow.Steps.cons (.inl ⟨rfl, FlowX.StepS.of rfl ?s3⟩) (Flow.Steps.cons (.inl ⟨rfl, FlowX.StepS.of rfl ?s4⟩) (Flow.Steps.cons (.inl ⟨rfl, FlowX.StepS.of rfl ?s5⟩) (Flow.Steps.cons (.inl ⟨rfl, FlowX.StepS.of rfl ?s6⟩) (Flow.Steps.cons (.inl ⟨rfl, FlowX.StepS.of rfl ?s7⟩) (Flow.Steps.cons (.inl ⟨rfl, FlowX.StepS.of rfl ?s8⟩) (Flow.Steps.cons (.inl ⟨rfl, FlowX.StepS.of rfl ?s9⟩) (Flow.Steps.cons (.inl ⟨rfl, FlowX.StepS.of rfl ?s10⟩) (Flow.Steps.cons (.inr ⟨rfl, FlowX.StepX.of rfl ?s11⟩) (Flow.Steps.cons (.inl ⟨rfl, FlowX.StepS.of rfl ?s12⟩) (Flow.Steps.cons (.inl ⟨rfl, FlowX.StepS.of rfl ?s13⟩) (Flow.Steps.cons (.inr ⟨rfl, FlowX.StepX.of rfl ?s14⟩) (Flow.Steps.cons (.inl ⟨rfl, FlowX.StepS.of rfl ?s15⟩) (Flow.Steps.cons (.inl ⟨rfl, FlowX.StepS.of rfl ?s16⟩) (Flow.Steps.cons (.inr ⟨rfl, FlowX.StepX.of rfl ?s17⟩) (Flow.Steps.cons (.inr ⟨rfl, FlowX.StepX.of rfl ?s18⟩) (Flow.Steps.cons (.inl ⟨rfl, FlowX.StepS.of rfl ?s19⟩) (Flow.Steps.cons (.inl ⟨rfl, FlowX.StepS.of rfl ?s20⟩) (Flow.Steps.cons (.inl ⟨rfl, FlowX.StepS.of rfl ?s21⟩) (Flow.Steps.cons (.inl ⟨rfl, FlowX.StepS.of rfl ?s22⟩) (Flow.Steps.cons (.inl ⟨rfl, FlowX.StepS.of rfl ?s23⟩) (Flow.Steps.cons (.inl ⟨rfl, FlowX.StepS.of rfl ?s24⟩) (Flow.Steps.cons (.inl ⟨rfl, FlowX.StepS.of rfl ?s25⟩) (Flow.Steps.cons (.inl ⟨rfl, FlowX.StepS.of rfl ?s26⟩) (Flow.Steps.cons (.inl ⟨rfl, FlowX.StepS.of rfl ?s27⟩) (Flow.Steps.cons (.inl ⟨rfl, FlowX.StepS.of rfl ?s28⟩) (Flow.Steps.cons (.inl ⟨rfl, FlowX.StepS.of rfl ?s29⟩) (Flow.Steps.cons (.inl ⟨rfl, FlowX.StepS.of rfl ?s30⟩) (Flow.Steps.cons (.inr ⟨rfl, FlowX.StepX.of rfl ?s31⟩) (Flow.Steps.cons (.inl ⟨rfl, FlowX.StepS.of rfl ?s32⟩) (Flow.Steps.cons (.inl ⟨rfl, FlowX.StepS.of rfl ?s33⟩) (Flow.Steps.cons (.inr ⟨rfl, FlowX.StepX.of rfl ?s34⟩) (Flow.Steps.cons (.inl ⟨rfl, FlowX.StepS.of rfl ?s35⟩) (Flow.Steps.cons (.inl ⟨rfl, FlowX.StepS.of rfl ?s36⟩) (Flow.Steps.cons (.inr ⟨rfl, FlowX.StepX.of rfl ?s37⟩) (Flow.Steps.cons (.inr ⟨rfl, FlowX.StepX.of rfl ?s38⟩) (Flow.Steps.cons (.inl ⟨rfl, FlowX.StepS.of rfl ?s39⟩) (Flow.Steps.cons (.inl ⟨rfl, FlowX.StepS.of rfl ?s40⟩) (Flow.Steps.cons (.inl ⟨rfl, FlowX.StepS.of rfl ?s41⟩) zSn)))))))))))))))))))))))))))))))))))))))))
       case s0 | s1 | s4 | s5 | s8 | s12 | s15 | s21 | s24 | s25 | s28 | s32 | s35 =>
        intro L9 xs w' hb hT hX9 K9 hK9
        clear hT
        simp only [zFp, zAp, zLa, zLb, zLc, Nat.reduceAdd, zNz] at hK9 ⊢
        have hw := Flow.hwD HWW.out hb
        go_simp
        exact hK9 _ _ (ZR _ _) rfl
       case s2 =>
        intro L9 xs w' hb hT hX9 K9 hK9
        have h1 : (xs 1) = .pointer (some ⟨bf, 0, none⟩) := (hT 1 (by kernel_rfl)).2
        clear hT
        simp only [zFp, zAp, zLa, zLb, zLc, Nat.reduceAdd, zNz] at hK9 ⊢
        have hw := Flow.hwD HWW.out hb
        have kb := (hw.block bf (ZL HKF9.out)).trans HKF9.out
        have y0 := ZI kb 0
        clear kb
        simp at y0
        (try simp only [h1] at hK9)
        go_simp
        exact hK9 _ _ (ZR _ _) rfl
       case s3 =>
        intro L9 xs w' hb hT hX9 K9 hK9
        have h2 : (xs 2) = .string f.name := (hT 2 (by kernel_rfl)).2
        clear hT
        simp only [zFp, zAp, zLa, zLb, zLc, Nat.reduceAdd, zNz] at hK9 ⊢
        have hw := Flow.hwD HWW.out hb
        (try simp only [h2] at hK9)
        have hz1 : ¬ 9223372036854775807 < f.name.size + 6 := by have h1 := HF.out.2.1.1; omega
        go_simp
        exact hK9 _ _ (ZR _ _) (congrArg Value.string (show f.name ++ (⟨#[46, 97, 98, 111, 118, 101]⟩ : ByteArray) = _ from HNM.out.1.symm))
       case s6 =>
        intro L9 xs w' hb hT hX9 K9 hK9
        have h5 : (xs 5) = .pointer (some ⟨bf, 4, none⟩) := (hT 5 (by kernel_rfl)).2
        clear hT
        simp only [zFp, zAp, zLa, zLb, zLc, Nat.reduceAdd, zNz] at hK9 ⊢
        have hw := Flow.hwD HWW.out hb
        have kb := (hw.block bf (ZL HKF9.out)).trans HKF9.out
        have y0 := ZI kb 4
        clear kb
        simp at y0
        (try simp only [h5] at hK9)
        go_simp
        exact hK9 _ _ (ZR _ _) rfl
       case s7 =>
        intro L9 xs w' hb hT hX9 K9 hK9
        have h4 : (xs 4) = .int .i64 lea := (hT 4 (by kernel_rfl)).2
        have h6 : (xs 6) = .int .i64 f.place := (hT 6 (by kernel_rfl)).2
        clear hT
        simp only [zFp, zAp, zLa, zLb, zLc, Nat.reduceAdd, zNz] at hK9 ⊢
        have hw := Flow.hwD HWW.out hb
        (try simp only [h4] at hK9)
        (try simp only [h6] at hK9)
        have hwr := HCW.out.1
        go_simp
        exact hK9 _ _ (ZR _ _) rfl
       case s9 =>
        intro L9 xs w' hb hT hX9 K9 hK9
        have h8 : (xs 8) = .pointer (some ⟨bz, 3, none⟩) := (hT 8 (by kernel_rfl)).2
        clear hT
        simp only [zFp, zAp, zLa, zLb, zLc, Nat.reduceAdd, zNz] at hK9 ⊢
        have hw := Flow.hwD HWW.out hb
        have kb := (hw.block bz (ZL HKZ9.out)).trans HKZ9.out
        have y0 := ZI kb 3
        clear kb
        simp at y0
        (try simp only [h8] at hK9)
        go_simp
        exact hK9 _ _ (ZR _ _) rfl
       case s10 =>
        intro L9 xs w' hb hT hX9 K9 hK9
        have h7 : (xs 7) = .int .i64 (lea - f.place) := (hT 7 (by kernel_rfl)).2
        have h9 : (xs 9) = .int .i64 z.upper := (hT 9 (by kernel_rfl)).2
        clear hT
        simp only [zFp, zAp, zLa, zLb, zLc, Nat.reduceAdd, zNz] at hK9 ⊢
        have hw := Flow.hwD HWW.out hb
        (try simp only [h7] at hK9)
        (try simp only [h9] at hK9)
        have hwr := HCW.out.2.1
        go_simp
        exact hK9 _ _ (ZR _ _) rfl
       case s11 =>
        intro L9 xs w' hb hT hX9 hL9 K9 hK9
        clear hT
        simp only [zFp, zAp, zLa, zLb, zLc, Nat.reduceAdd, zNz] at hK9 ⊢
        have hw := Flow.hwD HWW.out hb
        go_simp
        exact hK9 _ _ (hb.alloc hb.size _) (Stays.of_below ((ZR _ _).alloc (Nat.le_refl _) _)) ⟨_, rfl⟩ (hX9.make11 hL9 hb.size)
       case s13 =>
        intro L9 xs w' hb hT hX9 K9 hK9
        clear hT
        simp only [zFp, zAp, zLa, zLb, zLc, Nat.reduceAdd, zNz] at hK9 ⊢
        have hw := Flow.hwD HWW.out hb
        have kb := (hw.block bo1 (ZL HKO1.out)).trans HKO1.out
        have y0 := ZI kb 0
        have y1 := ZI kb 1
        have y2 := ZI kb 2
        have y3 := ZI kb 3
        clear kb
        simp at y0 y1 y2 y3
        go_simp
        exact hK9 _ _ (ZR _ _) rfl
       case s14 =>
        intro L9 xs w' hb hT hX9 hL9 K9 hK9
        have h11 : ∃ b, (xs 11) = .map (some b) := (hT 11 (by kernel_rfl)).2
        have l11 : L9 11 = true := (hT 11 (by kernel_rfl)).1
        have h12 : (xs 12) = .int .i64 p := (hT 12 (by kernel_rfl)).2
        have h13 : (xs 13) = .agg #[.bool s1', .slice a1 c1 l1, .bool s2', .slice a2 c2 l2] := (hT 13 (by kernel_rfl)).2
        clear hT
        simp only [zFp, zAp, zLa, zLb, zLc, Nat.reduceAdd, zNz] at hK9 ⊢
        have hw := Flow.hwD HWW.out hb
        (try simp only [h12] at hK9)
        (try simp only [h13] at hK9)
        obtain ⟨bl, e1, hBl, hm⟩ := hX9.a.map l11
        have hcn : cnt (L9 14) (L9 17) ≤ 2 := by unfold cnt; cases L9 14 <;> cases L9 17 <;> simp
        obtain ⟨w5, hrun, hm5, hg5, hs5⟩ := hm.store (by unfold maxLen; omega) (show -9223372036854775808 ≤ p by have := HPQ.out.2.2.2.2; omega) (show p ≤ 9223372036854775807 by have := HPQ.out.2.2.2.2; omega) (HR2.out.1.below hw)
        clear hcn
        (try simp only [e1] at hK9)
        go_simp
        exact hK9 undef _ (hb.grown hg5 hb.size (fun q9 e9 => by cases e9; exact hBl)) hs5 trivial (hX9.ins14 hL9 HPQ.out.2.2.2.1 e1 l11 hBl hm5 hg5 hs5 undef)
       case s16 | s33 | s36 =>
        intro L9 xs w' hb hT hX9 K9 hK9
        clear hT
        simp only [zFp, zAp, zLa, zLb, zLc, Nat.reduceAdd, zNz] at hK9 ⊢
        have hw := Flow.hwD HWW.out hb
        have kb := (hw.block bo2 (ZL HKO2.out)).trans HKO2.out
        have y0 := ZI kb 0
        have y1 := ZI kb 1
        have y2 := ZI kb 2
        have y3 := ZI kb 3
        clear kb
        simp at y0 y1 y2 y3
        go_simp
        exact hK9 _ _ (ZR _ _) rfl
       case s17 =>
        intro L9 xs w' hb hT hX9 hL9 K9 hK9
        have h11 : ∃ b, (xs 11) = .map (some b) := (hT 11 (by kernel_rfl)).2
        have l11 : L9 11 = true := (hT 11 (by kernel_rfl)).1
        have h15 : (xs 15) = .int .i64 q := (hT 15 (by kernel_rfl)).2
        have h16 : (xs 16) = .agg #[.bool t1', .slice b1 d1 m1, .bool t2', .slice b2 d2 m2] := (hT 16 (by kernel_rfl)).2
        clear hT
        simp only [zFp, zAp, zLa, zLb, zLc, Nat.reduceAdd, zNz] at hK9 ⊢
        have hw := Flow.hwD HWW.out hb
        (try simp only [h15] at hK9)
        (try simp only [h16] at hK9)
        obtain ⟨bl, e1, hBl, hm⟩ := hX9.a.map l11
        have hcn : cnt (L9 14) (L9 17) ≤ 2 := by unfold cnt; cases L9 14 <;> cases L9 17 <;> simp
        obtain ⟨w5, hrun, hm5, hg5, hs5⟩ := hm.store (by unfold maxLen; omega) (show -9223372036854775808 ≤ q by have := HPQ.out.2.2.2.2; omega) (show q ≤ 9223372036854775807 by have := HPQ.out.2.2.2.2; omega) (HR2.out.2.below hw)
        clear hcn
        (try simp only [e1] at hK9)
        go_simp
        exact hK9 undef _ (hb.grown hg5 hb.size (fun q9 e9 => by cases e9; exact hBl)) hs5 trivial (hX9.ins17 hL9 e1 l11 hBl hm5 hg5 hs5 undef)
       case s18 =>
        intro L9 xs w' hb hT hX9 hL9 K9 hK9
        have h11 : ∃ b, (xs 11) = .map (some b) := (hT 11 (by kernel_rfl)).2
        have l11 : L9 11 = true := (hT 11 (by kernel_rfl)).1
        have h14 : True := (hT 14 (by kernel_rfl)).2
        have l14 : L9 14 = true := (hT 14 (by kernel_rfl)).1
        have h17 : True := (hT 17 (by kernel_rfl)).2
        have l17 : L9 17 = true := (hT 17 (by kernel_rfl)).1
        clear hT
        simp only [zFp, zAp, zLa, zLb, zLc, Nat.reduceAdd, zNz] at hK9 ⊢
        have hw := Flow.hwD HWW.out hb
        obtain ⟨bl, e1, hBl, hm⟩ := hX9.a.map l11
        have hmv := hX9.move18 l11 l14 l17
        rw [e1] at hmv
        (try simp only [e1] at hK9)
        go_simp
        exact hK9 _ _ hb (Stays.refl _) ⟨_, rfl⟩ hmv
       case s19 =>
        intro L9 xs w' hb hT hX9 K9 hK9
        have h10 : (xs 10) = .int .i64 (cA) := (hT 10 (by kernel_rfl)).2
        have h18 : ∃ b, (xs 18) = .map (some b) := (hT 18 (by kernel_rfl)).2
        have l18 : L9 18 = true := (hT 18 (by kernel_rfl)).1
        clear hT
        simp only [zFp, zAp, zLa, zLb, zLc, Nat.reduceAdd, zNz] at hK9 ⊢
        have hw := Flow.hwD HWW.out hb
        (try simp only [h10] at hK9)
        obtain ⟨e18, l11, l14, l17⟩ := hX9.a.move l18
        obtain ⟨bl, e1, hBl, hm⟩ := hX9.a.map l11
        rw [l14, l17] at hm
        rw [e1] at e18
        (try simp only [e18, e1] at hK9)
        have hsm := sum_any (HGD.out.below hw) (c := cA) (by have := HCB.out.1; omega) (by have := HCB.out.1; omega) hm (by omega)
        rw [← HNT.out.1, ← HNT.out.2.2.1] at hsm
        go_simp
        go_at_call 80
        refine hsm.mono ?_
        rintro e w3 ⟨v3, rfl, ⟨tv3, e3, ht3⟩, hb3⟩
        exact hK9 _ _ hb3 ⟨tv3, e3, World.ownsRow.mono ht3 hw.size⟩
       case s20 =>
        intro L9 xs w' hb hT hX9 K9 hK9
        have h3 : (xs 3) = .string NMA := (hT 3 (by kernel_rfl)).2
        have h19 : FormIn w' wd.heap.size (xs 19) NA TA := (hT 19 (by kernel_rfl)).2
        clear hT
        simp only [zFp, zAp, zLa, zLb, zLc, Nat.reduceAdd, zNz] at hK9 ⊢
        have hw := Flow.hwD HWW.out hb
        (try simp only [h3] at hK9)
        obtain ⟨tv3, e3, ht3⟩ := h19
        rw [← HNT.out.2.2.2.2.1] at e3
        (try simp only [e3] at hK9)
        go_simp
        exact hK9 _ _ (ZR _ _) ⟨tv3, rfl, ht3⟩
       case s22 =>
        intro L9 xs w' hb hT hX9 K9 hK9
        have h21 : (xs 21) = .pointer (some ⟨bf, 0, none⟩) := (hT 21 (by kernel_rfl)).2
        clear hT
        simp only [zFp, zAp, zLa, zLb, zLc, Nat.reduceAdd, zNz] at hK9 ⊢
        have hw := Flow.hwD HWW.out hb
        have kb := (hw.block bf (ZL HKF9.out)).trans HKF9.out
        have y0 := ZI kb 0
        clear kb
        simp at y0
        (try simp only [h21] at hK9)
        go_simp
        exact hK9 _ _ (ZR _ _) rfl
       case s23 =>
        intro L9 xs w' hb hT hX9 K9 hK9
        have h22 : (xs 22) = .string f.name := (hT 22 (by kernel_rfl)).2
        clear hT
        simp only [zFp, zAp, zLa, zLb, zLc, Nat.reduceAdd, zNz] at hK9 ⊢
        have hw := Flow.hwD HWW.out hb
        (try simp only [h22] at hK9)
        have hz1 : ¬ 9223372036854775807 < f.name.size + 6 := by have h1 := HF.out.2.1.1; omega
        go_simp
        exact hK9 _ _ (ZR _ _) (congrArg Value.string (show f.name ++ (⟨#[46, 98, 101, 108, 111, 119]⟩ : ByteArray) = _ from HNM.out.2.symm))
       case s26 =>
        intro L9 xs w' hb hT hX9 K9 hK9
        have h25 : (xs 25) = .pointer (some ⟨bf, 4, none⟩) := (hT 25 (by kernel_rfl)).2
        clear hT
        simp only [zFp, zAp, zLa, zLb, zLc, Nat.reduceAdd, zNz] at hK9 ⊢
        have hw := Flow.hwD HWW.out hb
        have kb := (hw.block bf (ZL HKF9.out)).trans HKF9.out
        have y0 := ZI kb 4
        clear kb
        simp at y0
        (try simp only [h25] at hK9)
        go_simp
        exact hK9 _ _ (ZR _ _) rfl
       case s27 =>
        intro L9 xs w' hb hT hX9 K9 hK9
        have h24 : (xs 24) = .int .i64 lea := (hT 24 (by kernel_rfl)).2
        have h26 : (xs 26) = .int .i64 f.place := (hT 26 (by kernel_rfl)).2
        clear hT
        simp only [zFp, zAp, zLa, zLb, zLc, Nat.reduceAdd, zNz] at hK9 ⊢
        have hw := Flow.hwD HWW.out hb
        (try simp only [h24] at hK9)
        (try simp only [h26] at hK9)
        have hwr := HCW.out.2.2.1
        go_simp
        exact hK9 _ _ (ZR _ _) rfl
       case s29 =>
        intro L9 xs w' hb hT hX9 K9 hK9
        have h28 : (xs 28) = .pointer (some ⟨bz, 2, none⟩) := (hT 28 (by kernel_rfl)).2
        clear hT
        simp only [zFp, zAp, zLa, zLb, zLc, Nat.reduceAdd, zNz] at hK9 ⊢
        have hw := Flow.hwD HWW.out hb
        have kb := (hw.block bz (ZL HKZ9.out)).trans HKZ9.out
        have y0 := ZI kb 2
        clear kb
        simp at y0
        (try simp only [h28] at hK9)
        go_simp
        exact hK9 _ _ (ZR _ _) rfl
       case s30 =>
        intro L9 xs w' hb hT hX9 K9 hK9
        have h27 : (xs 27) = .int .i64 (lea + f.place) := (hT 27 (by kernel_rfl)).2
        have h29 : (xs 29) = .int .i64 z.lower := (hT 29 (by kernel_rfl)).2
        clear hT
        simp only [zFp, zAp, zLa, zLb, zLc, Nat.reduceAdd, zNz] at hK9 ⊢
        have hw := Flow.hwD HWW.out hb
        (try simp only [h27] at hK9)
        (try simp only [h29] at hK9)
        have hwr := HCW.out.2.2.2
        go_simp
        exact hK9 _ _ (ZR _ _) rfl
       case s31 =>
        intro L9 xs w' hb hT hX9 hL9 K9 hK9
        clear hT
        simp only [zFp, zAp, zLa, zLb, zLc, Nat.reduceAdd, zNz] at hK9 ⊢
        have hw := Flow.hwD HWW.out hb
        go_simp
        exact hK9 _ _ (hb.alloc hb.size _) (Stays.of_below ((ZR _ _).alloc (Nat.le_refl _) _)) ⟨_, rfl⟩ (hX9.make31 hL9 hb.size)
       case s34 =>
        intro L9 xs w' hb hT hX9 hL9 K9 hK9
        have h31 : ∃ b, (xs 31) = .map (some b) := (hT 31 (by kernel_rfl)).2
        have l31 : L9 31 = true := (hT 31 (by kernel_rfl)).1
        have h32 : (xs 32) = .int .i64 p := (hT 32 (by kernel_rfl)).2
        have h33 : (xs 33) = .agg #[.bool t1', .slice b1 d1 m1, .bool t2', .slice b2 d2 m2] := (hT 33 (by kernel_rfl)).2
        clear hT
        simp only [zFp, zAp, zLa, zLb, zLc, Nat.reduceAdd, zNz] at hK9 ⊢
        have hw := Flow.hwD HWW.out hb
        (try simp only [h32] at hK9)
        (try simp only [h33] at hK9)
        obtain ⟨bl, e1, hBl, hm⟩ := hX9.b.map l31
        have hcn : cnt (L9 34) (L9 37) ≤ 2 := by unfold cnt; cases L9 34 <;> cases L9 37 <;> simp
        obtain ⟨w5, hrun, hm5, hg5, hs5⟩ := hm.store (by unfold maxLen; omega) (show -9223372036854775808 ≤ p by have := HPQ.out.2.2.2.2; omega) (show p ≤ 9223372036854775807 by have := HPQ.out.2.2.2.2; omega) (HR2.out.2.below hw)
        clear hcn
        (try simp only [e1] at hK9)
        go_simp
        exact hK9 undef _ (hb.grown hg5 hb.size (fun q9 e9 => by cases e9; exact hBl)) hs5 trivial (hX9.ins34 hL9 HPQ.out.2.2.2.1 e1 l31 hBl hm5 hg5 hs5 undef)
       case s37 =>
        intro L9 xs w' hb hT hX9 hL9 K9 hK9
        have h31 : ∃ b, (xs 31) = .map (some b) := (hT 31 (by kernel_rfl)).2
        have l31 : L9 31 = true := (hT 31 (by kernel_rfl)).1
        have h35 : (xs 35) = .int .i64 q := (hT 35 (by kernel_rfl)).2
        have h36 : (xs 36) = .agg #[.bool t1', .slice b1 d1 m1, .bool t2', .slice b2 d2 m2] := (hT 36 (by kernel_rfl)).2
        clear hT
        simp only [zFp, zAp, zLa, zLb, zLc, Nat.reduceAdd, zNz] at hK9 ⊢
        have hw := Flow.hwD HWW.out hb
        (try simp only [h35] at hK9)
        (try simp only [h36] at hK9)
        obtain ⟨bl, e1, hBl, hm⟩ := hX9.b.map l31
        have hcn : cnt (L9 34) (L9 37) ≤ 2 := by unfold cnt; cases L9 34 <;> cases L9 37 <;> simp
        obtain ⟨w5, hrun, hm5, hg5, hs5⟩ := hm.store (by unfold maxLen; omega) (show -9223372036854775808 ≤ q by have := HPQ.out.2.2.2.2; omega) (show q ≤ 9223372036854775807 by have := HPQ.out.2.2.2.2; omega) (HR2.out.2.below hw)
        clear hcn
        (try simp only [e1] at hK9)
        go_simp
        exact hK9 undef _ (hb.grown hg5 hb.size (fun q9 e9 => by cases e9; exact hBl)) hs5 trivial (hX9.ins37 hL9 e1 l31 hBl hm5 hg5 hs5 undef)
       case s38 =>
        intro L9 xs w' hb hT hX9 hL9 K9 hK9
        have h31 : ∃ b, (xs 31) = .map (some b) := (hT 31 (by kernel_rfl)).2
        have l31 : L9 31 = true := (hT 31 (by kernel_rfl)).1
        have h34 : True := (hT 34 (by kernel_rfl)).2
        have l34 : L9 34 = true := (hT 34 (by kernel_rfl)).1
        have h37 : True := (hT 37 (by kernel_rfl)).2
        have l37 : L9 37 = true := (hT 37 (by kernel_rfl)).1
        clear hT
        simp only [zFp, zAp, zLa, zLb, zLc, Nat.reduceAdd, zNz] at hK9 ⊢
        have hw := Flow.hwD HWW.out hb
        obtain ⟨bl, e1, hBl, hm⟩ := hX9.b.map l31
        have hmv := hX9.move38 l31 l34 l37
        rw [e1] at hmv
        (try simp only [e1] at hK9)
        go_simp
        exact hK9 _ _ hb (Stays.refl _) ⟨_, rfl⟩ hmv
       case s39 =>
        intro L9 xs w' hb hT hX9 K9 hK9
        have h30 : (xs 30) = .int .i64 (cB) := (hT 30 (by kernel_rfl)).2
        have h38 : ∃ b, (xs 38) = .map (some b) := (hT 38 (by kernel_rfl)).2
        have l38 : L9 38 = true := (hT 38 (by kernel_rfl)).1
        clear hT
        simp only [zFp, zAp, zLa, zLb, zLc, Nat.reduceAdd, zNz] at hK9 ⊢
        have hw := Flow.hwD HWW.out hb
        (try simp only [h30] at hK9)
        obtain ⟨e18, l11, l14, l17⟩ := hX9.b.move l38
        obtain ⟨bl, e1, hBl, hm⟩ := hX9.b.map l11
        rw [l14, l17] at hm
        rw [e1] at e18
        (try simp only [e18, e1] at hK9)
        have hsm := sum_any (HGD.out.below hw) (c := cB) (by have := HCB.out.2; omega) (by have := HCB.out.2; omega) hm (by omega)
        rw [← HNT.out.2.1, ← HNT.out.2.2.2.1] at hsm
        go_simp
        go_at_call 80
        refine hsm.mono ?_
        rintro e w3 ⟨v3, rfl, ⟨tv3, e3, ht3⟩, hb3⟩
        exact hK9 _ _ hb3 ⟨tv3, e3, World.ownsRow.mono ht3 hw.size⟩
       case s40 =>
        intro L9 xs w' hb hT hX9 K9 hK9
        have h23 : (xs 23) = .string NMB := (hT 23 (by kernel_rfl)).2
        have h39 : FormIn w' wd.heap.size (xs 39) NB TB := (hT 39 (by kernel_rfl)).2
        clear hT
        simp only [zFp, zAp, zLa, zLb, zLc, Nat.reduceAdd, zNz] at hK9 ⊢
        have hw := Flow.hwD HWW.out hb
        (try simp only [h23] at hK9)
        obtain ⟨tv3, e3, ht3⟩ := h39
        rw [← HNT.out.2.2.2.2.2] at e3
        (try simp only [e3] at hK9)
        go_simp
        exact hK9 _ _ (ZR _ _) ⟨tv3, rfl, ht3⟩
       case s41 =>
        intro L9 xs w' hb hT hX9 K9 hK9
        have h20 : ∃ tv, (xs 20) = .agg #[.string NMA, .string SA, tv] ∧ TermRow w' wd.heap.size tv TA := (hT 20 (by kernel_rfl)).2
        have h40 : ∃ tv, (xs 40) = .agg #[.string NMB, .string SB, tv] ∧ TermRow w' wd.heap.size tv TB := (hT 40 (by kernel_rfl)).2
        clear hT
        simp only [zFp, zAp, zLa, zLb, zLc, Nat.reduceAdd, zNz] at hK9 ⊢
        have hw := Flow.hwD HWW.out hb
        obtain ⟨ta, ea, hta⟩ := h20
        obtain ⟨tb, eb, htb⟩ := h40
        (try simp only [ea, eb] at hK9)
        go_simp
        exact hK9 _ _ ((ZR _ _).alloc (Nat.le_refl _) _) ⟨_, ta, tb, rfl, ZW _ _, hw.size, ownsRow_stays hta (Stays.of_below ((ZR _ _).alloc (Nat.le_refl _) _)), ownsRow_stays htb (Stays.of_below ((ZR _ _).alloc (Nat.le_refl _) _))⟩
      case fin =>
       intro xs w' hb hT hX9
       have hw := Flow.hwD HWW.out hb
       have h0 : (xs 0) = u5 := hT 0 (by rfl)
       have h41 : ∃ b ta tb, (xs 41) = .slice (some ⟨b, 0, none⟩) 2 2 ∧ w'.heap[b]? = some (.cells #[.string NMA, .string SA, ta, .string NMB, .string SB, tb] 80 (0, 0)) ∧ wd.heap.size ≤ b ∧ TermRow w' wd.heap.size ta TA ∧ TermRow w' wd.heap.size tb TB := hT 41 (by rfl)
       clear hT
       simp only [zFp, zAp, zLa, zLb, zLc, Nat.reduceAdd, zNz, FlowR.restL]
       obtain ⟨b6, ta, tb, e6, k6, hl6, hta, htb⟩ := h41
       simp only [h0, e6]
       clear h0 e6 hX9
       obtain ⟨tv, hc1, hc2, hc3⟩ := HRD.out.below hw
       have HC := ZH (ZN hc1 (ZN hc2 hc3))
       have HW14 := ZH hw
       have HK6 := ZH (ZN k6 (ZN hta htb))
       clear hb hw k6 hta htb hc1 hc2 hc3 hl6
       refine wpList_append_own _ rfl _ _ 71 rfl w1.heap.size 80 i0 _ 3 56 Tryz.underlying71 HI.out.1 HI.out.2.1 HI.out.2.2.1 HI.out.2.2.2 rfl (by decide) _ _ _ rfl HC.out.2.1 ⟨b6, 0, none⟩ 2 2 [.string NMA, .string SA, ta, .string NMB, .string SB, tb] rfl rfl ?c1 ?c2 ?c3 ?c4 ?c5 ?_
       case c1 => exact World.news_of_block HK6.out.1
       case c2 =>
        obtain ⟨xa, ya, za, ea⟩ := TermRow.shape HK6.out.2.1
        obtain ⟨xb, yb, zb, eb⟩ := TermRow.shape HK6.out.2.2
        simp [Value.oneCell', ea, eb]
       case c3 => have := HKC.out; unfold maxLen; omega
       case c4 => have := HKC.out; omega
       case c5 => have h1 := HB1D.out.size; have h2 := HW14.out.size; omega
       intro v7 w7 hown7 hg7 _
       have hle : w1.heap.size ≤ wd.heap.size := HB1D.out.size
       have hrow7 : ConRow w7 w1.heap.size v7 (consTo fs zs (k + 1)) := by
        rw [HZR.out.2.2.2.1, if_pos HBO.out]
        have e1 : conOf fs zs z = [⟨NMA, NA, TA⟩, ⟨NMB, NB, TB⟩] := by
         unfold conOf conMap conA conB
         rw [HZR.out.2.2.1, Int.toNat_natCast, ← HF.out.1, ← HY.out.1, ← HLE.out.1, ← HCC.out.1, ← HCC.out.2, ← HPQ.out.2.2.1, ← HPQ.out.1, ← HPQ.out.2.1, ← HNM.out.1, ← HNM.out.2, ← HNT.out.1, ← HNT.out.2.1, ← HNT.out.2.2.1, ← HNT.out.2.2.2.1]
        rw [e1]
        refine ConRow.two HC.out.1 HC.out.2.1 HC.out.2.2 (World.ownsRow.mono HK6.out.2.1 hle) (World.ownsRow.mono HK6.out.2.2 hle) ?_ hg7
        simp only []
        rw [← HNT.out.2.2.2.2.1, ← HNT.out.2.2.2.2.2]
        exact hown7
       have hb7 := (HB1D.out.trans (HW14.out.mono HB1D.out.size)).grown hg7 (by have h1 := HB1D.out.size; have h2 := HW14.out.size; omega) (fun q e => (World.ownsRow.lt HC.out.2.1 q e).1)
       have H7 := ZH (ZN hrow7 hb7)
       clear hown7 hg7 hb7 hrow7 hle
       go_wp2_with fail
       go_roundg (nz - (k + 1))
       case measure => have := HZR.out.2.2.2.2; omega
       case rel => exact ⟨k + 1, by have := HZR.out.2.2.2.2; omega, by congr 1, ZH H7.out.1, ZH H7.out.2⟩
   ·have e1 : ((k : Int) < (nz : Int)) = False := eq_false (by omega)
    obtain rfl : k = nz := by omega
    obtain ⟨tv, h1, h2, h3⟩ := hrow.out
    obtain ⟨ao2, c2, rfl, -⟩ := row_shape h2
    have HRW := ZH hrow.out
    clear hrow hbw h1 h2 h3
    go_wp2_with fail
    go_ret2
    rw [HVP.out]
    refine ⟨_, by rw [HC0.out.2]; rfl, fun _ => ?_, fun h => absurd HC0.out.2 h, HAL.out.trans (HBW.out.mono HAL.out.size)⟩
    obtain ⟨tv, h1, h2, h3⟩ := HRW.out
    have hle : w.heap.size ≤ w1.heap.size := (HAL.out.trans (HB1.out.mono HAL.out.size)).size
    exact ⟨tv, h1, World.ownsRow.mono h2 hle, fun j hj => World.ownsRow.mono (h3 j hj) hle⟩
 ·have e2 : (E == 0) = false := ZQ.2 hz
  have HZ0 := ZH hz
  clear hz
  go_wp2_with fail
  go_ret2
  rw [HVP.out]
  exact ⟨_, rfl, fun h => absurd h HZ0.out, fun _ => rfl, HAL.out.trans (HB1.out.mono HAL.out.size)⟩
end Go.Proofs.YtgofihilkobenaaGreatDoor
