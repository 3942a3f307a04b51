/- Variables. -/
import Derived.Test.YtgofihilkobenaaGreatDoorKM
import Derived.Test.YtgofihilkobenaaGreatDoorKL
import Derived.Laws.Concat
set_option maxRecDepth 100000
namespace Go.Proofs.YtgofihilkobenaaGreatDoor
open List renaming setIfInBounds_toArray → zLa, set_cons_zero → zLb, set_cons_succ → zLc
open FlowR renaming putSel → zFp
open Act renaming put → zAp
open Nat renaming zero_add → zNz
open Flow.Steps renaming cons → zSc, nil → zSn
open FlowR.Step renaming of → zSo
open Go.RowKit Go.Num Go.Flow Go.Dtm
set_option maxHeartbeats 8000000

/-- A dimension. -/
structure Dm where
 name : ByteArray
 nominal : Int
 lower : Int
 upper : Int
def dmCells (l : List Dm) : List Value := l.flatMap fun d => [.string d.name, .int .i64 d.nominal, .int .i64 d.lower, .int .i64 d.upper]
/-- What stands behind the name of a variable of a kind. -/
def suffix (k : Nat) : ByteArray := if k = 2 then ⟨#[46, 115, 105, 122, 101]⟩ else if k = 3 then ⟨#[46, 102, 111, 114, 109]⟩ else ⟨#[]⟩
/-- By how much a bonus widens. -/
def widen (zs : List Zn) (i k : Int) : Int := if (zoneOf zs i k).bonus = true then (zoneOf zs i 2).upper - (zoneOf zs i 2).lower else 0
def dimOf (fs : List Feat) (zs : List Zn) (p : Nat × Int) : Dm := ⟨(fs.getD p.1 Feat.none).name ++ suffix p.2.toNat, nominalOf fs p.1 p.2, (zoneOf zs p.1 p.2).lower - widen zs p.1 p.2, (zoneOf zs p.1 p.2).upper + widen zs p.1 p.2⟩
def dimsTo (fs : List Feat) (zs : List Zn) : List Dm := (varsTo fs zs fs.length).map (dimOf fs zs)
theorem infoDim : (Tryz.prog.info? 60).map (fun i => (i.zero, i.size, i.bytes)) = some (some (.agg #[.string ⟨#[]⟩, .int .i64 0, .int .i64 0, .int .i64 0]), 4, 40) := by kernel_rfl
theorem far_bound {n : Int} (h : far n = false) : -268435456 ≤ n ∧ n ≤ 268435456 := by
 unfold far at h
 rw [Bool.or_eq_false_iff, decide_eq_false_iff_not, decide_eq_false_iff_not] at h
 omega
theorem first_split {fs : List Feat} {zs : List Zn} (h : check fs zs = 0) : firstErr (featErr fs) fs.length 0 = 0 ∧ firstErr (zoneErr fs zs) zs.length 0 = 0 := by
 unfold check at h
 split at h
 ·cases h
 ·split at h
  ·next h1 => exact ⟨h1, h⟩
  ·next h1 => exact absurd h h1
/-- What is right of a zone. -/
theorem zone_right {fs : List Feat} {zs : List Zn} (h : check fs zs = 0) {j : Nat} (hj : j < zs.length) : (1 ≤ (zs.getD j Zn.none).kind ∧ (zs.getD j Zn.none).kind ≤ 3) ∧ (0 ≤ (zs.getD j Zn.none).feature ∧ (zs.getD j Zn.none).feature < (fs.length : Int)) ∧ (-268435456 ≤ (zs.getD j Zn.none).lower ∧ (zs.getD j Zn.none).lower ≤ 268435456) ∧ (-268435456 ≤ (zs.getD j Zn.none).upper ∧ (zs.getD j Zn.none).upper ≤ 268435456) ∧ (zs.getD j Zn.none).lower ≤ (zs.getD j Zn.none).upper := by
 have h1 := firstErr_zero (first_split h).2 j (Nat.zero_le _) (by omega)
 unfold zoneErr at h1
 simp only [] at h1
 split at h1
 ·cases h1
 ·next a =>
  split at h1
  ·cases h1
  ·next b =>
   split at h1
   ·cases h1
   ·split at h1
    ·cases h1
    ·next d =>
     split at h1
     ·cases h1
     ·next e =>
      have d1 : far (zs.getD j Zn.none).lower = false := by cases hh : far (zs.getD j Zn.none).lower <;> simp_all
      have d2 : far (zs.getD j Zn.none).upper = false := by cases hh : far (zs.getD j Zn.none).upper <;> simp_all
      exact ⟨by omega, by omega, far_bound d1, far_bound d2, by omega⟩
theorem zoneOf_bound {fs : List Feat} {zs : List Zn} (h : check fs zs = 0) (i k : Int) : (-268435456 ≤ (zoneOf zs i k).lower ∧ (zoneOf zs i k).lower ≤ 268435456) ∧ (-268435456 ≤ (zoneOf zs i k).upper ∧ (zoneOf zs i k).upper ≤ 268435456) ∧ (zoneOf zs i k).lower ≤ (zoneOf zs i k).upper := by
 unfold zoneOf
 split
 ·simp [Zn.none]
 ·next h0 =>
  have hlt := pos_le (p := fun j => isZone i k (zs.getD j Zn.none)) (n := zs.length) (k := 0)
  have hlt : zoneAt zs i k < ((0 + zs.length : Nat) : Int) := hlt
  exact (zone_right h (show (zoneAt zs i k).toNat < zs.length by omega)).2.2
theorem vars_mem {fs : List Feat} {zs : List Zn} : ∀ {n : Nat} {p : Nat × Int}, p ∈ varsTo fs zs n → p.1 < n ∧ 1 ≤ p.2 ∧ p.2 ≤ 3
 | 0, _, h => by simp [varsTo] at h
 | n + 1, p, h => by
  rw [varsTo, List.mem_append] at h
  rcases h with h | h
  ·have := vars_mem h; omega
  ·unfold varsAt at h
   simp only [List.mem_append, List.mem_cons] at h
   rcases h with (rfl | h) | h
   ·exact ⟨by simp, by simp, by simp⟩
   ·split at h
    ·simp at h; subst h; exact ⟨by simp, by simp, by simp⟩
    ·cases h
   ·split at h
    ·simp at h; subst h; exact ⟨by simp, by simp, by simp⟩
    ·cases h
/-- What is right of a feature. -/
theorem feat_right {fs : List Feat} {zs : List Zn} (h : check fs zs = 0) {j : Nat} (hj : j < fs.length) : (fs.getD j Feat.none).name.size ≤ 30 ∧ ((fs.getD j Feat.none).kind = 1 ∨ (fs.getD j Feat.none).kind = 2) ∧ (-268435456 ≤ (fs.getD j Feat.none).place ∧ (fs.getD j Feat.none).place ≤ 268435456) ∧ (-268435456 ≤ (fs.getD j Feat.none).wide ∧ (fs.getD j Feat.none).wide ≤ 268435456) := by
 have h1 := firstErr_zero (first_split h).1 j (Nat.zero_le _) (by omega)
 unfold featErr at h1
 simp only [] at h1
 split at h1
 ·cases h1
 ·next a =>
  split at h1
  ·cases h1
  ·split at h1
   ·cases h1
   ·next c =>
    split at h1
    ·cases h1
    ·split at h1
     ·cases h1
     ·split at h1
      ·cases h1
      ·next f =>
       have d1 : far (fs.getD j Feat.none).place = false := by cases hh : far (fs.getD j Feat.none).place <;> simp_all
       have d2 : far (fs.getD j Feat.none).wide = false := by cases hh : far (fs.getD j Feat.none).wide <;> simp_all
       have a2 : goodName (fs.getD j Feat.none).name = true := by cases hh : goodName (fs.getD j Feat.none).name <;> simp_all
       rw [good_of, Bool.and_eq_true, Bool.and_eq_true, decide_eq_true_iff] at a2
       exact ⟨a2.1.2, by omega, far_bound d1, far_bound d2⟩
theorem five_set {w : World} {b : Nat} {x0 x1 x2 x3 x4 : Value} {t : TypeId} (h : w.heap[b]? = some (.cells #[x0, x1, x2, x3, x4] t (0, 0))) (u v : Value) : ((w.setCell ⟨b, 2, none⟩ u).setCell ⟨b, 3, none⟩ v).heap[b]? = some (.cells #[x0, x1, u, v, x4] t (0, 0)) := by
 simp [World.setCell, Array.getElem?_modify, h]
theorem suf_cell (k : Nat) (hk : k < 4) : (#[Value.string ⟨#[]⟩, .string ⟨#[]⟩, .string ⟨#[46, 115, 105, 122, 101]⟩, .string ⟨#[46, 102, 111, 114, 109]⟩] : Array Value)[k]? = some (.string (suffix k)) := by
 match k, hk with
 | 0, _ => rfl
 | 1, _ => rfl
 | 2, _ => rfl
 | 3, _ => rfl
/-- What Variables hands back. -/
def VariablesPost (w : World) (fs : List Feat) (zs : List Zn) (e : Ending) (w' : World) : Prop := ∃ v, e = .returned (.tuple #[v, .int .i64 (check fs zs)]) ∧ (check fs zs = 0 → w'.ownsRow w.heap.size 60 4 v (dimsTo fs zs).length (dmCells (dimsTo fs zs))) ∧ (check fs zs ≠ 0 → v = .slice none 0 0) ∧ Below w.heap.size w w'
theorem Variables_any {w : World} {af : Option Addr} {cf : Nat} {az : Option Addr} {cz : Nat} {fs : List Feat} {zs : List Zn} (h : SchemeIn w af cf az cz fs zs) :
  Calls Tryz.prog 13 #[.agg #[.slice af fs.length cf, .slice az zs.length cz]] w (VariablesPost w fs zs) := by
 obtain ⟨n, hn⟩ : ∃ n, n = fs.length := ⟨_, rfl⟩
 obtain ⟨nz, hnz⟩ : ∃ n, n = zs.length := ⟨_, rfl⟩
 obtain ⟨wa, hwa⟩ : ∃ wa, wa = w.alloc (.cells #[.slice af n cf, .slice az nz cz] 26) := ⟨_, rfl⟩
 obtain ⟨ba, hba⟩ : ∃ b, b = w.heap.size := ⟨_, rfl⟩
 have hal : Below w.heap.size w wa := by rw [hwa]; exact (ZR _ w).alloc (Nat.le_refl _) _
 have k0 : wa.heap[ba]? = some (.cells #[.slice af n cf, .slice az nz cz] 26 (0, 0)) := by rw [hwa, hba]; exact ZW w _
 have s0 := ZI k0 0
 have s1 := ZI k0 1
 simp at s0 s1
 obtain ⟨E, hE⟩ : ∃ x, x = check fs zs := ⟨_, rfl⟩
 have hck := Check_any (h.below hal)
 rw [← hn, ← hnz, ← hE] at hck
 obtain ⟨V, hV⟩ : ∃ V, V = varsTo fs zs fs.length := ⟨_, rfl⟩
 have hvl := vars_len fs zs fs.length
 rw [← hV] at hvl
 have hvs := fun (hsm : check fs zs = 0) (W : World) (hW : SchemeIn W af cf az cz fs zs) => variables_any hW (by have := (check_small hsm).1; omega) (by have := (check_small hsm).2; omega)
 simp only [← hV] at hvs
 have hdz : dimsTo fs zs = V.map (dimOf fs zs) := by rw [hV]; rfl
 have HDZ := ZH hdz
 have HS := ZH (h.below hal)
 have HAL := ZH hal
 have HSC := ZH (ZN s0 s1)
 have HCK := ZH hck
 have HVS := ZH hvs
 have HE := ZH hE
 have HN := ZH (ZN hn hnz)
 have HV := ZH (ZN hV hvl)
 have HK0 := ZH k0
 have HW := ZH (ZN hwa hba)
 have hcap : n ≤ cf ∧ cf ≤ 9223372036854775807 := by rw [hn]; exact ⟨h.feats.1, h.feats.2.1⟩
 obtain ⟨i0, hi, hz0, hz1, hz2⟩ := info_parts infoDim
 have HI := ZH (ZN hi (ZN hz0 (ZN hz1 hz2)))
 have HBA := ZH (show ba < wa.heap.size from ZL k0)
 have HVP := ZH (show VariablesPost w fs zs = fun e w' => ∃ v, e = .returned (.tuple #[v, .int .i64 E]) ∧ (E = 0 → w'.ownsRow w.heap.size 60 4 v (dimsTo fs zs).length (dmCells (dimsTo fs zs))) ∧ (E ≠ 0 → v = .slice none 0 0) ∧ Below w.heap.size w w' by rw [hE]; rfl)
 rw [← hn, ← hnz]
 clear hal hwa hba k0 h hck hvs hE hn hnz hV hvl hi hz0 hz1 hz2 hdz
 go_enter Tryz.func13, Tryz.ntmps13
 go_upto_region 1 with fail
 rw [← HW.out.1, ← HW.out.2]
 clear HW
 go_wp2_with fail
 refine HCK.out.mono ?_
 rintro e w1 ⟨rfl, hb1⟩
 have s0 := ZJ hb1 HSC.out.1
 have s1 := ZJ hb1 HSC.out.2
 have HB1 := ZH hb1
 clear hb1
 by_cases hz : E = 0
 ·have e2 : (E == 0) = true := by rw [hz]; rfl
  have hc0 := HE.out.symm.trans hz
  have hv1 := HVS.out hc0 w1 (HS.out.below HB1.out)
  rw [← HN.out.1, ← HN.out.2] at hv1
  have HV1 := ZH hv1
  have HC0 := ZH (ZN hc0 hz)
  clear hz hc0 hv1
  go_wp2_with fail
  refine HV1.out.mono ?_
  rintro e w2 ⟨vv, rfl, hr2, hb2⟩
  obtain ⟨ao, vc, rfl, hin⟩ := hr2.reads
  obtain ⟨hc1, hc2, hc3⟩ := hin
  obtain ⟨nv, hnv⟩ : ∃ n, n = V.length := ⟨_, rfl⟩
  rw [← hnv] at hc1 hc3 ⊢
  unfold maxLen at hc2
  have HNV := ZH (show nv = V.length ∧ nv ≤ 48 from ⟨hnv, by have h1 := HV.out.2; have h2 := (check_small HC0.out.1).1; omega⟩)
  have HC3 := ZH hc3
  have hnv9 : nv ≤ 48 := HNV.out.2
  have HB2 := ZH (HB1.out.trans (hb2.mono HB1.out.size))
  clear hr2 hb2 hc3 hnv s0 s1
  go_wp2_with fail
  go_loopg [5, 22] nv (fun gk v x wr => ∃ k : Nat, k + gk = nv ∧ x = .int .i64 k ∧ Hid (wr.ownsRow w2.heap.size 60 4 v k (dmCells ((V.take k).map (dimOf fs zs)))) ∧ Hid (Below w2.heap.size w2 wr))
  case atStart => exact ⟨0, by omega, rfl, ZH (World.ownsRow_nil _ _ _ _), ZH (ZR _ _)⟩
  case round =>
   obtain ⟨k, hk, rfl, hrow, hbw⟩ := hrel
   have HBW := ZH (HB2.out.trans (hbw.out.mono HB2.out.size))
   have s0 := ZJ HBW.out HSC.out.1
   have s1 := ZJ HBW.out HSC.out.2
   by_cases hlt : k < nv
   ·have e1 : ((k : Int) < (nv : Int)) = True := eq_true (by omega)
    obtain ⟨b, o, rfl, -, hcc⟩ := HC3.out (by omega)
    obtain ⟨p, hp⟩ : ∃ p, p = V.getD k (0, 0) := ⟨_, rfl⟩
    have hx := hcc k hlt
    rw [← hp] at hx
    have hmem : p ∈ V := by
     have h1 : k < V.length := by have := HNV.out.1; omega
     rw [hp, List.getD_eq_getElem?_getD, List.getElem?_eq_getElem h1]
     exact List.getElem_mem h1
    obtain ⟨i, q⟩ := p
    have hvm := vars_mem (HV.out.1 ▸ hmem)
    obtain ⟨q, rfl⟩ : ∃ m : Nat, q = (m : Int) := ⟨q.toNat, by omega⟩
    have x0 := ZJ hbw.out hx.1
    have x1 := ZJ hbw.out hx.2
    have hk0 : (0 : Int) ≤ (k : Int) := by omega
    have hk1 : (k : Int) < (nv : Int) := by omega
    have hvm : i < n ∧ 1 ≤ q ∧ q ≤ 3 := by have := HN.out.1; omega
    have HVM := ZH hvm
    have HP := ZH (ZN hp hlt)
    clear hcc hx hp hmem hvm hlt
    go_upto_region 8 with fail
    obtain ⟨w3, hw3⟩ : ∃ x, x = wr.alloc (.cells #[.int .i64 (i : Int), .int .i64 (q : Int)] 120) := ⟨_, rfl⟩
    obtain ⟨bv, hbv⟩ : ∃ b, b = wr.heap.size := ⟨_, rfl⟩
    rw [← hw3, ← hbv]
    have hl3 : Below wr.heap.size wr w3 := by rw [hw3]; exact (ZR _ wr).alloc (Nat.le_refl _) _
    have kv : w3.heap[bv]? = some (.cells #[.int .i64 (i : Int), .int .i64 (q : Int)] 120 (0, 0)) := by rw [hw3, hbv]; exact ZW wr _
    have HR3 := ZH (row_below hrow.out hl3)
    have HB3 := ZH (HBW.out.trans (hl3.mono HBW.out.size))
    have HB23 := ZH (hbw.out.trans (hl3.mono hbw.out.size))
    have HKV := ZH kv
    have s0 := ZJ HB3.out HSC.out.1
    have s1 := ZJ HB3.out HSC.out.2
    have v0 := ZI kv 0
    have v1 := ZI kv 1
    simp at v0 v1
    have hz := zone_any (HS.out.below HB3.out) (by have := (check_small HC0.out.1).2; omega) (i : Int) (q : Int)
    rw [← HN.out.1, ← HN.out.2] at hz
    have HZ := ZH hz
    clear hw3 hbv hl3 kv hrow hbw HBW x0 x1 hk0 hk1 hz e1
    go_wp2_with fail
    refine HZ.out.mono ?_
    rintro e w4 ⟨rfl, hb4⟩
    obtain ⟨z, hzd⟩ : ∃ z, z = zoneOf zs (i : Int) (q : Int) := ⟨_, rfl⟩
    have hzb := zoneOf_bound HC0.out.1 (i : Int) (q : Int)
    rw [← hzd] at hzb ⊢
    have HZD := ZH (ZN hzd hzb)
    unfold zoneV
    have HR4 := ZH (row_below HR3.out hb4)
    have HB4 := ZH (HB3.out.trans (hb4.mono HB3.out.size))
    have HB24 := ZH (HB23.out.trans (hb4.mono HB23.out.size))
    have HKV4 := ZH ((hb4.block bv (ZL HKV.out)).trans HKV.out)
    clear hb4 hzd hzb s0 s1 v0 v1 HR3 HB3 HB23 HKV
    go_upto_region 9 with fail
    obtain ⟨w5, hw5⟩ : ∃ x, x = w4.alloc (.cells #[.int .i64 z.kind, .int .i64 z.feature, .int .i64 z.lower, .int .i64 z.upper, .bool z.bonus] 30) := ⟨_, rfl⟩
    obtain ⟨bz, hbz⟩ : ∃ b, b = w4.heap.size := ⟨_, rfl⟩
    rw [← hw5, ← hbz]
    have hl5 : Below w4.heap.size w4 w5 := by rw [hw5]; exact (ZR _ w4).alloc (Nat.le_refl _) _
    have kz : w5.heap[bz]? = some (.cells #[.int .i64 z.kind, .int .i64 z.feature, .int .i64 z.lower, .int .i64 z.upper, .bool z.bonus] 30 (0, 0)) := by rw [hw5, hbz]; exact ZW w4 _
    have HR5 := ZH (row_below HR4.out hl5)
    have HB5 := ZH (HB4.out.trans (hl5.mono HB4.out.size))
    have HB25 := ZH (HB24.out.trans (hl5.mono HB24.out.size))
    have HKV5 := ZH ((hl5.block bv (ZL HKV4.out)).trans HKV4.out)
    have HKZ := ZH kz
    have HGZ := ZH (show w2.heap.size ≤ bz ∧ wa.heap.size ≤ bz by rw [hbz]; exact ⟨HB24.out.size, HB4.out.size⟩)
    have z4 := ZI kz 4
    simp at z4
    have HSF := ZH (HS.out.below HB5.out)
    have hwi : widen zs (i : Int) (q : Int) = if z.bonus = true then (zoneOf zs (i : Int) 2).upper - (zoneOf zs (i : Int) 2).lower else 0 := by rw [HZD.out.1]; rfl
    obtain ⟨wi, hwd⟩ : ∃ x, x = widen zs (i : Int) (q : Int) := ⟨_, rfl⟩
    have HWI := ZH (ZN hwd (hwd.trans hwi))
    clear hw5 hbz hl5 kz HR4 HB4 HB24 HKV4 hwi hwd
    go_upto_if 36 with fail
    go_cut [10, 11, 12, 22] from 22 to 84 (fun _ _ _ x wx => x = .int .i64 (k : Int) ∧ wx.heap[bz]? = some (.cells #[.int .i64 z.kind, .int .i64 z.feature, .int .i64 (z.lower - wi), .int .i64 (z.upper + wi), .bool z.bonus] 30 (0, 0)) ∧ wx.heap[bv]? = some (.cells #[.int .i64 (i : Int), .int .i64 (q : Int)] 120 (0, 0)) ∧ wx.ownsRow w2.heap.size 60 4 u5 k (dmCells ((V.take k).map (dimOf fs zs))) ∧ Below w2.heap.size w2 wx)
    case first =>
     cases hbo : z.bonus with
     | false =>
      go_wp2_with fail
      go_meet
      have e0 : wi = 0 := by rw [HWI.out.2, hbo]; rfl
      refine ⟨rfl, ?_, HKV5.out, HR5.out, HB25.out⟩
      rw [e0, Int.sub_zero, Int.add_zero]
      exact HKZ.out
     | true =>
      have hz2 := zone_any HSF.out (by have := (check_small HC0.out.1).2; omega) (i : Int) 2
      rw [← HN.out.1, ← HN.out.2] at hz2
      have HZ2 := ZH hz2
      have s0 := ZJ HB5.out HSC.out.1
      have s1 := ZJ HB5.out HSC.out.2
      have v0 := ZI HKV5.out 0
      simp at v0
      have HBO := ZH hbo
      rw [hbo] at z4
      clear hz2 hbo
      go_wp2_with fail
      refine HZ2.out.mono ?_
      rintro e w6 ⟨rfl, hb6⟩
      obtain ⟨y, hy⟩ : ∃ z, z = zoneOf zs (i : Int) 2 := ⟨_, rfl⟩
      have hyb := zoneOf_bound HC0.out.1 (i : Int) 2
      rw [← hy] at hyb ⊢
      have hwi := HWI.out.2
      rw [HBO.out, if_pos rfl, ← hy] at hwi
      unfold zoneV
      have kz6 := (hb6.block bz (ZL HKZ.out)).trans HKZ.out
      have HR6 := ZH (row_below HR5.out hb6)
      have HB26 := ZH (HB25.out.trans (hb6.mono HB25.out.size))
      have HKV6 := ZH ((hb6.block bv (ZL HKV5.out)).trans HKV5.out)
      have HYB := ZH (ZN hwi hyb)
      have HKZ6 := ZH kz6
      clear hb6 hy hyb hwi kz6 s0 s1 v0 z4
      go_upto_region 11 with fail
      obtain ⟨w7, hw7⟩ : ∃ x, x = w6.alloc (.cells #[.int .i64 y.kind, .int .i64 y.feature, .int .i64 y.lower, .int .i64 y.upper, .bool y.bonus] 30) := ⟨_, rfl⟩
      obtain ⟨by7, hby⟩ : ∃ b, b = w6.heap.size := ⟨_, rfl⟩
      rw [← hw7, ← hby]
      have hl7 : Below w6.heap.size w6 w7 := by rw [hw7]; exact (ZR _ w6).alloc (Nat.le_refl _) _
      have ky : w7.heap[by7]? = some (.cells #[.int .i64 y.kind, .int .i64 y.feature, .int .i64 y.lower, .int .i64 y.upper, .bool y.bonus] 30 (0, 0)) := by rw [hw7, hby]; exact ZW w6 _
      have y2 := ZI ky 2
      have y3 := ZI ky 3
      simp at y2 y3
      have kz7 := (hl7.block bz (ZL HKZ6.out)).trans HKZ6.out
      have z2 := ZI kz7 2
      have z3 := ZI kz7 3
      have f2 := ZF kz7 2
      have f3 := ZF kz7 3
      simp at z2 z3
      have hR7 := row_below HR6.out hl7
      have hne := row_off hR7 kz7 (by decide)
      have hR8 : ((w7.setCell ⟨bz, 2, none⟩ (.int .i64 (z.lower - (y.upper - y.lower)))).setCell ⟨bz, 3, none⟩ (.int .i64 (z.upper + (y.upper - y.lower)))).ownsRow w2.heap.size 60 4 u5 k (dmCells ((V.take k).map (dimOf fs zs))) := by
       rcases hR7.2 with h1 | ⟨g, cap, cur, h1, h2, h3, h4⟩
       ·exact ⟨hR7.1, .inl h1⟩
       ·have hg : g ≠ bz := hne g (by rw [h1]; rfl)
        exact ⟨hR7.1, .inr ⟨g, cap, cur, h1, h2, (Below.heap_setCell _ _ _ _ hg).trans ((Below.heap_setCell _ _ _ _ hg).trans h3), h4⟩⟩
      have hnv : bv ≠ bz := by
       rintro rfl
       have := HKV6.out
       rw [HKZ6.out] at this
       simp at this
      have hkv7 := (hl7.block bv (ZL HKV6.out)).trans HKV6.out
      have hkv8 : ((w7.setCell ⟨bz, 2, none⟩ (.int .i64 (z.lower - (y.upper - y.lower)))).setCell ⟨bz, 3, none⟩ (.int .i64 (z.upper + (y.upper - y.lower)))).heap[bv]? = some (.cells #[.int .i64 (i : Int), .int .i64 (q : Int)] 120 (0, 0)) := (Below.heap_setCell _ _ _ _ hnv).trans ((Below.heap_setCell _ _ _ _ hnv).trans hkv7)
      have HF := ZH (ZN (five_set kz7 (.int .i64 (z.lower - (y.upper - y.lower))) (.int .i64 (z.upper + (y.upper - y.lower)))) (ZN hkv8 (ZN hR8 (((HB26.out.trans (hl7.mono HB26.out.size)).setCell (p := ⟨bz, 2, none⟩) HGZ.out.1 (.int .i64 (z.lower - (y.upper - y.lower)))).setCell (p := ⟨bz, 3, none⟩) HGZ.out.1 (.int .i64 (z.upper + (y.upper - y.lower)))))))
      have b1 := HYB.out.2
      have b2 := HZD.out.2
      clear hne hR7 hR8 hnv hkv7 hkv8 kz7 ky hw7 hby hl7
      go_wp2_with fail
      go_meet
      refine ⟨rfl, ?_, HF.out.2.1, HF.out.2.2.1, HF.out.2.2.2⟩
      rw [HYB.out.1]
      exact HF.out.1
    case rest =>
     obtain ⟨rfl, hkz, hkv, hr, hb⟩ := hcut
     have hkzc := hkz
     have HKV := ZH hkv
     have HR := ZH hr
     have HB2C := ZH hb
     have HBC := ZH (HB2.out.trans (hb.mono HB2.out.size))
     have HKA := ZH ((HBC.out.block ba HBA.out).trans HK0.out)
     clear hkz hkv hr hb z4 HR5 HB5 HB25 HKV5 HKZ
     have HKZ := ZH hkzc
     obtain ⟨fb, fo, rfl, hfl, hfc⟩ := HS.out.feats.2.2 (by have := HVM.out.1; have := HN.out.1; omega)
     have HX0 := ZH (hfc i (by have := HVM.out.1; have := HN.out.1; omega)).1
     obtain ⟨nm, hnm⟩ : ∃ x, x = (fs.getD i Feat.none).name := ⟨_, rfl⟩
     have hns := (feat_right HC0.out.1 (show i < fs.length by have := HVM.out.1; have := HN.out.1; omega)).1
     rw [← hnm] at HX0 hns
     obtain ⟨sf, hsf⟩ : ∃ x, x = suffix q := ⟨_, rfl⟩
     have hss : sf.size ≤ 5 := by
      rw [hsf]
      unfold suffix
      split
      ·decide
      ·split <;> decide
     obtain ⟨lo, hlo⟩ : ∃ x, x = z.lower - wi := ⟨_, rfl⟩
     obtain ⟨hi', hhi⟩ : ∃ x, x = z.upper + wi := ⟨_, rfl⟩
     rw [← hlo, ← hhi] at HKZ
     have HNM := ZH (ZN hnm (ZN hsf (ZN hlo hhi)))
     have HFB := ZH (ZN hns hss)
     have HWC := ZH (ZR wc.heap.size wc)
     have HBK := ZH (ZN HVM.out.1 hcap)
     clear hfc hfl hnm hsf hlo hhi hns hss hkzc
     go_upto_region 13 with fail
     refine FlowR.wp_region_sel (fun a b => Below a.heap.size a b) (fun a => ZR _ a) (fun _ _ _ h k => h.trans (k.mono h.size)) [0, 1, 2, 3, 4, 5, 6, 7, 8, 9, 10, 11, 12] [false, false, false, false, false, false, false, false, false, false, false, false, false, false] [true, true, true, true, true, true, true, true, true, true, true, true, true, false] (fun i9 v w' => match i9 with
      | 0 => v = .pointer (some ⟨ba, 0, none⟩)
      | 1 => v = .slice (some ⟨fb, fo, none⟩) n cf
      | 2 => v = .pointer (some ⟨bv, 0, none⟩)
      | 3 => v = .int .i64 (i : Int)
      | 4 => v = .pointer (some ⟨fb, fo + i * 6, none⟩)
      | 5 => v = .pointer (some ⟨fb, fo + i * 6, none⟩)
      | 6 => v = .string nm
      | 7 => ∃ b, v = .slice (some ⟨b, 0, none⟩) 4 4 ∧ w'.heap[b]? = some (.cells #[.string ⟨#[]⟩, .string ⟨#[]⟩, .string ⟨#[46, 115, 105, 122, 101]⟩, .string ⟨#[46, 102, 111, 114, 109]⟩] 9 (0, 0))
      | 8 => v = .pointer (some ⟨bv, 1, none⟩)
      | 9 => v = .int .i64 (q : Int)
      | 10 => ∃ b, v = .pointer (some ⟨b, q, none⟩) ∧ w'.heap[b]? = some (.cells #[.string ⟨#[]⟩, .string ⟨#[]⟩, .string ⟨#[46, 115, 105, 122, 101]⟩, .string ⟨#[46, 102, 111, 114, 109]⟩] 9 (0, 0))
      | 11 => v = .string sf
      | _ => v = .string (nm ++ sf)) rfl rfl (by kernel_rfl) (by kernel_rfl) (by kernel_rfl) (by kernel_rfl) ?st ?steps ?fin
     case st =>
      intro i9 v w1 w2 h hb
      match i9 with
      | 0 | 1 | 2 | 3 | 4 | 5 | 6 | 8 | 9 | 11 | 12 | _ + 13 => exact h
      | 7 => exact by obtain ⟨b, e, hk⟩ := (show ∃ b, v = .slice (some ⟨b, 0, none⟩) 4 4 ∧ w1.heap[b]? = some (.cells #[.string ⟨#[]⟩, .string ⟨#[]⟩, .string ⟨#[46, 115, 105, 122, 101]⟩, .string ⟨#[46, 102, 111, 114, 109]⟩] 9 (0, 0)) from h); exact ⟨b, e, (hb.block b (ZL hk)).trans hk⟩
      | 10 => exact by obtain ⟨b, e, hk⟩ := (show ∃ b, v = .pointer (some ⟨b, q, none⟩) ∧ w1.heap[b]? = some (.cells #[.string ⟨#[]⟩, .string ⟨#[]⟩, .string ⟨#[46, 115, 105, 122, 101]⟩, .string ⟨#[46, 102, 111, 114, 109]⟩] 9 (0, 0)) from h); exact ⟨b, e, (hb.block b (ZL hk)).trans hk⟩
     case steps =>
      refine zSc (zSo rfl ?s0) (zSc (zSo rfl ?s1) (zSc (zSo rfl ?s2) (zSc (zSo rfl ?s3) (zSc (zSo rfl ?s4) (zSc (zSo rfl ?s5) (zSc (zSo rfl ?s6) (zSc (zSo rfl ?s7) (zSc (zSo rfl ?s8) (zSc (zSo rfl ?s9) (zSc (zSo rfl ?s10) (zSc (zSo rfl ?s11) (zSc (zSo rfl ?s12) zSn))))))))))))
      case s0 | s2 | s8 =>
       intro xs w' hb hT K9 hK9
       clear hT
       simp only [zFp, zAp, zLa, zLb, zLc, Nat.reduceAdd, zNz] at hK9 ⊢
       have hw := Flow.hwD HWC.out hb
       go_simp
       exact hK9 _ _ (ZR _ _) rfl
      case s1 =>
       intro xs w' hb hT K9 hK9
       have h0 : (xs 0) = .pointer (some ⟨ba, 0, none⟩) := hT 0 (by kernel_rfl)
       clear hT
       simp only [zFp, zAp, zLa, zLb, zLc, Nat.reduceAdd, zNz] at hK9 ⊢
       have hw := Flow.hwD HWC.out hb
       have kb := (hw.block ba (ZL HKA.out)).trans HKA.out
       have y0 := ZI kb 0
       clear kb
       simp at y0
       (try simp only [h0] at hK9)
       go_simp
       exact hK9 _ _ (ZR _ _) rfl
      case s3 =>
       intro xs w' hb hT K9 hK9
       have h2 : (xs 2) = .pointer (some ⟨bv, 0, none⟩) := hT 2 (by kernel_rfl)
       clear hT
       simp only [zFp, zAp, zLa, zLb, zLc, Nat.reduceAdd, zNz] at hK9 ⊢
       have hw := Flow.hwD HWC.out hb
       have kb := (hw.block bv (ZL HKV.out)).trans HKV.out
       have y0 := ZI kb 0
       clear kb
       simp at y0
       (try simp only [h2] at hK9)
       go_simp
       exact hK9 _ _ (ZR _ _) rfl
      case s4 =>
       intro xs w' hb hT K9 hK9
       have h1 : (xs 1) = .slice (some ⟨fb, fo, none⟩) n cf := hT 1 (by kernel_rfl)
       have h3 : (xs 3) = .int .i64 (i : Int) := hT 3 (by kernel_rfl)
       clear hT
       simp only [zFp, zAp, zLa, zLb, zLc, Nat.reduceAdd, zNz] at hK9 ⊢
       have hw := Flow.hwD HWC.out hb
       (try simp only [h1] at hK9)
       (try simp only [h3] at hK9)
       have hi0 : (0 : Int) ≤ (i : Int) := by omega
       have hi1 : (i : Int) < (n : Int) := by have := HBK.out.1; omega
       go_simp
       exact hK9 _ _ (ZR _ _) rfl
      case s5 =>
       intro xs w' hb hT K9 hK9
       have h4 : (xs 4) = .pointer (some ⟨fb, fo + i * 6, none⟩) := hT 4 (by kernel_rfl)
       clear hT
       simp only [zFp, zAp, zLa, zLb, zLc, Nat.reduceAdd, zNz] at hK9 ⊢
       have hw := Flow.hwD HWC.out hb
       (try simp only [h4] at hK9)
       go_simp
       exact hK9 _ _ (ZR _ _) rfl
      case s6 =>
       intro xs w' hb hT K9 hK9
       have h5 : (xs 5) = .pointer (some ⟨fb, fo + i * 6, none⟩) := hT 5 (by kernel_rfl)
       clear hT
       simp only [zFp, zAp, zLa, zLb, zLc, Nat.reduceAdd, zNz] at hK9 ⊢
       have hw := Flow.hwD HWC.out hb
       (try simp only [h5] at hK9)
       have y0 := ZJ (HBC.out.trans (hw.mono HBC.out.size)) HX0.out
       go_simp
       exact hK9 _ _ (ZR _ _) rfl
      case s7 =>
       intro xs w' hb hT K9 hK9
       clear hT
       simp only [zFp, zAp, zLa, zLb, zLc, Nat.reduceAdd, zNz] at hK9 ⊢
       have hw := Flow.hwD HWC.out hb
       go_simp
       exact hK9 _ _ ((ZR _ _).alloc (Nat.le_refl _) _) ⟨_, rfl, ZW _ _⟩
      case s9 =>
       intro xs w' hb hT K9 hK9
       have h8 : (xs 8) = .pointer (some ⟨bv, 1, none⟩) := hT 8 (by kernel_rfl)
       clear hT
       simp only [zFp, zAp, zLa, zLb, zLc, Nat.reduceAdd, zNz] at hK9 ⊢
       have hw := Flow.hwD HWC.out hb
       have kb := (hw.block bv (ZL HKV.out)).trans HKV.out
       have y0 := ZI kb 1
       clear kb
       simp at y0
       (try simp only [h8] at hK9)
       go_simp
       exact hK9 _ _ (ZR _ _) rfl
      case s10 =>
       intro xs w' hb hT K9 hK9
       have h7 : ∃ b, (xs 7) = .slice (some ⟨b, 0, none⟩) 4 4 ∧ w'.heap[b]? = some (.cells #[.string ⟨#[]⟩, .string ⟨#[]⟩, .string ⟨#[46, 115, 105, 122, 101]⟩, .string ⟨#[46, 102, 111, 114, 109]⟩] 9 (0, 0)) := hT 7 (by kernel_rfl)
       have h9 : (xs 9) = .int .i64 (q : Int) := hT 9 (by kernel_rfl)
       clear hT
       simp only [zFp, zAp, zLa, zLb, zLc, Nat.reduceAdd, zNz] at hK9 ⊢
       have hw := Flow.hwD HWC.out hb
       (try simp only [h9] at hK9)
       obtain ⟨b7, e7, k7⟩ := h7
       (try simp only [e7] at hK9)
       have hi0 : (0 : Int) ≤ (q : Int) := by omega
       have hi1 : (q : Int) < 4 := by have := HVM.out; omega
       go_simp
       exact hK9 _ _ (ZR _ _) ⟨b7, by simp, k7⟩
      case s11 =>
       intro xs w' hb hT K9 hK9
       have h10 : ∃ b, (xs 10) = .pointer (some ⟨b, q, none⟩) ∧ w'.heap[b]? = some (.cells #[.string ⟨#[]⟩, .string ⟨#[]⟩, .string ⟨#[46, 115, 105, 122, 101]⟩, .string ⟨#[46, 102, 111, 114, 109]⟩] 9 (0, 0)) := hT 10 (by kernel_rfl)
       clear hT
       simp only [zFp, zAp, zLa, zLb, zLc, Nat.reduceAdd, zNz] at hK9 ⊢
       have hw := Flow.hwD HWC.out hb
       obtain ⟨b7, e7, k7⟩ := h10
       (try simp only [e7] at hK9)
       have y0 := (ZI k7 q).trans (suf_cell q (by have := HVM.out; omega))
       rw [← HNM.out.2.1] at y0
       clear k7
       go_simp
       exact hK9 _ _ (ZR _ _) rfl
      case s12 =>
       intro xs w' hb hT K9 hK9
       have h6 : (xs 6) = .string nm := hT 6 (by kernel_rfl)
       have h11 : (xs 11) = .string sf := hT 11 (by kernel_rfl)
       clear hT
       simp only [zFp, zAp, zLa, zLb, zLc, Nat.reduceAdd, zNz] at hK9 ⊢
       have hw := Flow.hwD HWC.out hb
       (try simp only [h6] at hK9)
       (try simp only [h11] at hK9)
       have hz1 : ¬ 9223372036854775807 < nm.size + sf.size := by have := HFB.out; omega
       go_simp
       exact hK9 _ _ (ZR _ _) rfl
     case fin =>
      intro xs w' hb hT
      have hw := Flow.hwD HWC.out hb
      have h12 : (xs 12) = .string (nm ++ sf) := hT 12 (by rfl)
      clear hT
      simp only [zFp, zAp, zLa, zLb, zLc, Nat.reduceAdd, zNz, FlowR.restL, FlowR.orM, Bool.false_or]
      obtain ⟨NM, hNM⟩ : ∃ x, x = nm ++ sf := ⟨_, rfl⟩
      rw [← hNM] at h12
      simp only [h12]
      have HNN := ZH hNM
      have HW3 := ZH hw
      clear h12 hNM hw hb
      go_upto_region 14 with fail
      have hdl : (dmCells ((V.take (k + 1)).map (dimOf fs zs))) = dmCells ((V.take k).map (dimOf fs zs)) ++ [.string NM, .int .i64 (nominalOf fs i (q : Int)), .int .i64 lo, .int .i64 hi'] := by
       have hkl : k < V.length := by have h1 := HP.out.2; have h2 := HNV.out.1; omega
       have hgk : V[k]? = some (i, (q : Int)) := by
        rw [HP.out.1, List.getD_eq_getElem?_getD, List.getElem?_eq_getElem hkl]
        rfl
       rw [List.take_add_one, hgk, List.map_append]
       unfold dmCells
       rw [List.flatMap_append]
       have e9 : dimOf fs zs (i, (q : Int)) = ⟨NM, nominalOf fs i (q : Int), lo, hi'⟩ := by
        unfold dimOf
        rw [HNN.out, HNM.out.1, HNM.out.2.1, HNM.out.2.2.1, HNM.out.2.2.2, HZD.out.1, HWI.out.1, Int.toNat_natCast]
       simp [e9]
      obtain ⟨nom, hnom⟩ : ∃ x, x = nominalOf fs i (q : Int) := ⟨_, rfl⟩
      have hnomc := fun (W : World) (hW : SchemeIn W (some ⟨fb, fo, none⟩) cf az cz fs zs) => nominal_any hW (show i < fs.length by have := HVM.out.1; have := HN.out.1; omega) (q : Int)
      rw [← hnom] at hdl
      simp only [← hnom, ← HN.out.1, ← HN.out.2] at hnomc
      have HNO := ZH hnomc
      have HDL := ZH hdl
      have HW4 := ZH (ZR w'.heap.size w')
      have HBC2 := ZH (HBC.out.trans (HW3.out.mono HBC.out.size))
      have HB2C2 := ZH (HB2C.out.trans (HW3.out.mono HB2C.out.size))
      have HKA2 := ZH ((HW3.out.block ba (ZL HKA.out)).trans HKA.out)
      have HKV2 := ZH ((HW3.out.block bv (ZL HKV.out)).trans HKV.out)
      have HKZ2 := ZH ((HW3.out.block bz (ZL HKZ.out)).trans HKZ.out)
      have HR2 := ZH (row_below HR.out HW3.out)
      clear hnom hnomc hdl HKA HKV HKZ HR
      generalize w' = wd at *
      generalize xs 12 = x12 at *
      generalize xs = xs0 at *
      refine FlowR.wp_region_sel (fun a b => Below a.heap.size a b) (fun a => ZR _ a) (fun _ _ _ h k => h.trans (k.mono h.size)) [0, 1, 2, 3, 4, 5, 6, 7, 8, 9, 10] [false, false, false, false, false, false, false, false, false, false, false, false, false] [true, true, true, true, true, true, true, true, true, true, true, false, false] (fun i9 v w' => match i9 with
       | 0 => v = u5
       | 1 => v = .string NM
       | 2 => v = .agg #[.slice (some ⟨fb, fo, none⟩) n cf, .slice az nz cz]
       | 3 => v = .agg #[.int .i64 (i : Int), .int .i64 (q : Int)]
       | 4 => v = .int .i64 nom
       | 5 => v = .pointer (some ⟨bz, 2, none⟩)
       | 6 => v = .int .i64 lo
       | 7 => v = .pointer (some ⟨bz, 3, none⟩)
       | 8 => v = .int .i64 hi'
       | 9 => v = .agg #[.string NM, .int .i64 nom, .int .i64 lo, .int .i64 hi']
       | _ => ∃ b, v = .slice (some ⟨b, 0, none⟩) 1 1 ∧ w'.heap[b]? = some (.cells #[.string NM, .int .i64 nom, .int .i64 lo, .int .i64 hi'] 60 (0, 0)) ∧ wd.heap.size ≤ b) rfl rfl (by kernel_rfl) (by kernel_rfl) (by kernel_rfl) (by kernel_rfl) ?st ?steps ?fin
      case st =>
       intro i9 v w1 w2 h hb
       match i9 with
       | 0 | 1 | 2 | 3 | 4 | 5 | 6 | 7 | 8 | 9 => exact h
       | 10 | _ + 11 => exact by obtain ⟨b, e, hk, hl⟩ := (show ∃ b, v = .slice (some ⟨b, 0, none⟩) 1 1 ∧ w1.heap[b]? = some (.cells #[.string NM, .int .i64 nom, .int .i64 lo, .int .i64 hi'] 60 (0, 0)) ∧ wd.heap.size ≤ b from h); exact ⟨b, e, (hb.block b (ZL hk)).trans hk, hl⟩
      case steps =>
       refine zSc (zSo rfl ?s0) (zSc (zSo rfl ?s1) (zSc (zSo rfl ?s2) (zSc (zSo rfl ?s3) (zSc (zSo rfl ?s4) (zSc (zSo rfl ?s5) (zSc (zSo rfl ?s6) (zSc (zSo rfl ?s7) (zSc (zSo rfl ?s8) (zSc (zSo rfl ?s9) (zSc (zSo rfl ?s10) zSn))))))))))
       case s0 | s1 | s5 | s7 =>
        intro xs w' hb hT K9 hK9
        clear hT
        simp only [zFp, zAp, zLa, zLb, zLc, Nat.reduceAdd, zNz] at hK9 ⊢
        have hw := Flow.hwD HW4.out hb
        go_simp
        exact hK9 _ _ (ZR _ _) rfl
       case s2 =>
        intro xs w' hb hT K9 hK9
        clear hT
        simp only [zFp, zAp, zLa, zLb, zLc, Nat.reduceAdd, zNz] at hK9 ⊢
        have hw := Flow.hwD HW4.out hb
        have kb := (hw.block ba (ZL HKA2.out)).trans HKA2.out
        have y0 := ZI kb 0
        have y1 := ZI kb 1
        clear kb
        simp at y0 y1
        go_simp
        exact hK9 _ _ (ZR _ _) rfl
       case s3 =>
        intro xs w' hb hT K9 hK9
        clear hT
        simp only [zFp, zAp, zLa, zLb, zLc, Nat.reduceAdd, zNz] at hK9 ⊢
        have hw := Flow.hwD HW4.out hb
        have kb := (hw.block bv (ZL HKV2.out)).trans HKV2.out
        have y0 := ZI kb 0
        have y1 := ZI kb 1
        clear kb
        simp at y0 y1
        go_simp
        exact hK9 _ _ (ZR _ _) rfl
       case s4 =>
        intro xs w' hb hT K9 hK9
        have h2 : (xs 2) = .agg #[.slice (some ⟨fb, fo, none⟩) n cf, .slice az nz cz] := hT 2 (by kernel_rfl)
        have h3 : (xs 3) = .agg #[.int .i64 (i : Int), .int .i64 (q : Int)] := hT 3 (by kernel_rfl)
        clear hT
        simp only [zFp, zAp, zLa, zLb, zLc, Nat.reduceAdd, zNz] at hK9 ⊢
        have hw := Flow.hwD HW4.out hb
        (try simp only [h2] at hK9)
        (try simp only [h3] at hK9)
        go_simp
        go_at_call 56
        refine (HNO.out _ (HS.out.below (HBC2.out.trans (hw.mono HBC2.out.size)))).mono ?_
        rintro e w3 ⟨rfl, hb3⟩
        exact hK9 _ _ hb3 rfl
       case s6 =>
        intro xs w' hb hT K9 hK9
        have h5 : (xs 5) = .pointer (some ⟨bz, 2, none⟩) := hT 5 (by kernel_rfl)
        clear hT
        simp only [zFp, zAp, zLa, zLb, zLc, Nat.reduceAdd, zNz] at hK9 ⊢
        have hw := Flow.hwD HW4.out hb
        have kb := (hw.block bz (ZL HKZ2.out)).trans HKZ2.out
        have y0 := ZI kb 2
        clear kb
        simp at y0
        (try simp only [h5] at hK9)
        go_simp
        exact hK9 _ _ (ZR _ _) rfl
       case s8 =>
        intro xs w' hb hT K9 hK9
        have h7 : (xs 7) = .pointer (some ⟨bz, 3, none⟩) := hT 7 (by kernel_rfl)
        clear hT
        simp only [zFp, zAp, zLa, zLb, zLc, Nat.reduceAdd, zNz] at hK9 ⊢
        have hw := Flow.hwD HW4.out hb
        have kb := (hw.block bz (ZL HKZ2.out)).trans HKZ2.out
        have y0 := ZI kb 3
        clear kb
        simp at y0
        (try simp only [h7] at hK9)
        go_simp
        exact hK9 _ _ (ZR _ _) rfl
       case s9 =>
        intro xs w' hb hT K9 hK9
        have h1 : (xs 1) = .string NM := hT 1 (by kernel_rfl)
        have h4 : (xs 4) = .int .i64 nom := hT 4 (by kernel_rfl)
        have h6 : (xs 6) = .int .i64 lo := hT 6 (by kernel_rfl)
        have h8 : (xs 8) = .int .i64 hi' := hT 8 (by kernel_rfl)
        clear hT
        simp only [zFp, zAp, zLa, zLb, zLc, Nat.reduceAdd, zNz] at hK9 ⊢
        have hw := Flow.hwD HW4.out hb
        (try simp only [h1] at hK9)
        (try simp only [h4] at hK9)
        (try simp only [h6] at hK9)
        (try simp only [h8] at hK9)
        go_simp
        exact hK9 _ _ (ZR _ _) rfl
       case s10 =>
        intro xs w' hb hT K9 hK9
        have h9 : (xs 9) = .agg #[.string NM, .int .i64 nom, .int .i64 lo, .int .i64 hi'] := hT 9 (by kernel_rfl)
        clear hT
        simp only [zFp, zAp, zLa, zLb, zLc, Nat.reduceAdd, zNz] at hK9 ⊢
        have hw := Flow.hwD HW4.out hb
        (try simp only [h9] at hK9)
        go_simp
        exact hK9 _ _ ((ZR _ _).alloc (Nat.le_refl _) _) ⟨_, rfl, ZW _ _, by have h1 := (ZR wd.heap.size wd).drew.size; have h2 := hw.size; omega⟩
      case fin =>
       intro xs w' hb hT
       have hw := Flow.hwD HW4.out hb
       have h0 : (xs 0) = u5 := hT 0 (by rfl)
       have h10 : ∃ b, (xs 10) = .slice (some ⟨b, 0, none⟩) 1 1 ∧ w'.heap[b]? = some (.cells #[.string NM, .int .i64 nom, .int .i64 lo, .int .i64 hi'] 60 (0, 0)) ∧ wd.heap.size ≤ b := hT 10 (by rfl)
       clear hT
       simp only [zFp, zAp, zLa, zLb, zLc, Nat.reduceAdd, zNz, FlowR.restL, FlowR.orM, Bool.false_or]
       obtain ⟨b6, e6, k6, hl6⟩ := h10
       simp only [h0, e6]
       clear h0 e6 hb
       have TT := ZH (row_below HR2.out hw)
       have HW7 := ZH hw
       have HK6 := ZH (ZN k6 hl6)
       clear hw k6 hl6
       refine wpList_append_own _ rfl _ _ 31 rfl w2.heap.size 60 i0 _ 4 40 Tryz.underlying31 HI.out.1 HI.out.2.1 HI.out.2.2.1 HI.out.2.2.2 rfl (by decide) _ _ _ rfl TT.out ⟨b6, 0, none⟩ 1 1 [.string NM, .int .i64 nom, .int .i64 lo, .int .i64 hi'] rfl rfl ?c1 ?c2 ?c3 ?c4 ?c5 ?_
       case c1 => exact World.news_of_block HK6.out.1
       case c2 => simp [Value.oneCell']
       case c3 => have := HP.out.2; have := HNV.out.2; unfold maxLen; omega
       case c4 => have := HP.out.2; have := HNV.out.2; omega
       case c5 => have h1 := HB2C2.out.size; have h2 := HW7.out.size; omega
       intro v7 w7 hown7 hg7 _
       have hb7 := (HB2C2.out.trans (HW7.out.mono HB2C2.out.size)).grown hg7 (by have h1 := HB2C2.out.size; have h2 := HW7.out.size; omega) (fun q e => (World.ownsRow.lt TT.out q e).1)
       have H7 := ZH (ZN hown7 hb7)
       clear hown7 hg7 hb7
       go_wp2_with fail
       go_roundg (nv - (k + 1))
       case measure => have := HP.out.2; omega
       case rel => exact ⟨k + 1, by have := HP.out.2; omega, by congr 1, ZH (by rw [HDL.out]; exact H7.out.1), ZH H7.out.2⟩
   ·have e1 : ((k : Int) < (nv : Int)) = False := eq_false (by omega)
    obtain rfl : k = nv := by omega
    obtain ⟨ao2, c2, rfl, -⟩ := row_shape hrow.out
    have HRW := ZH hrow.out
    clear hrow hbw
    go_wp2_with fail
    go_ret2
    rw [HVP.out]
    refine ⟨_, by rw [HC0.out.2]; rfl, fun _ => ?_, fun h => absurd HC0.out.2 h, HAL.out.trans (HBW.out.mono HAL.out.size)⟩
    rw [HDZ.out, List.length_map, ← HNV.out.1]
    have := HRW.out
    rw [show V.take k = V by rw [HNV.out.1]; exact List.take_length] at this
    exact World.ownsRow.mono this (HAL.out.trans (HB2.out.mono HAL.out.size)).size
 ·have e2 : (E == 0) = false := ZQ.2 hz
  have HZ0 := ZH hz
  clear hz
  go_wp2_with fail
  go_ret2
  rw [HVP.out]
  exact ⟨_, rfl, fun h => absurd h HZ0.out, fun _ => rfl, HAL.out.trans (HB1.out.mono HAL.out.size)⟩
end Go.Proofs.YtgofihilkobenaaGreatDoor
