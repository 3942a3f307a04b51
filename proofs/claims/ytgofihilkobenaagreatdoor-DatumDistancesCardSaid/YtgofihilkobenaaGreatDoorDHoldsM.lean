/- Holds. -/
import Derived.Test.YtgofihilkobenaaGreatDoorKO
set_option maxRecDepth 100000
namespace Go.Proofs.YtgofihilkobenaaGreatDoor
open List renaming setIfInBounds_toArray → zLa, set_cons_zero → zLb, set_cons_succ → zLc
open FlowR renaming putSel → zFp
open Act renaming put → zAp
open Nat renaming zero_add → zNz
open Flow.Steps renaming cons → zSc, nil → zSn
open FlowR.Step renaming of → zSo
open Go.RowKit Go.Num Go.Flow Go.Dtm
set_option maxHeartbeats 8000000

theorem pos_mem {p : Nat → Bool} {n j : Nat} (hj : j < n) (hp : p j = true) : 0 ≤ pos p n 0 := by
 rcases pos_cases p n 0 with ⟨h, h2⟩ | ⟨i, h, h1, h2, -⟩
 ·have := h2 j (Nat.zero_le _) (by omega)
  rw [hp] at this
  cases this
 ·omega
theorem var_mem {V : List (Nat × Int)} {i : Nat} {k : Int} (h : (i, k) ∈ V) : 0 ≤ varAt V i k := by
 obtain ⟨j, hj, he⟩ := List.getElem_of_mem h
 refine pos_mem (j := j) hj ?_
 unfold isVar
 rw [List.getD_eq_getElem?_getD, List.getElem?_eq_getElem hj]
 simp [he]
theorem varAt_lt (l : List (Nat × Int)) (i k : Int) (h : 0 ≤ varAt l i k) : varAt l i k < l.length := by
 unfold varAt at *
 rcases pos_cases (fun j => isVar i k (l.getD j (0, 0))) l.length 0 with ⟨h1, -⟩ | ⟨m, h1, -, h2, -⟩ <;> omega
theorem varsTo_has {fs : List Feat} {zs : List Zn} {i : Nat} {p : Nat × Int} : ∀ {n : Nat}, i < n → p ∈ varsAt fs zs i → p ∈ varsTo fs zs n
 | 0, h, _ => by omega
 | n + 1, h, hp => by
  rw [varsTo, List.mem_append]
  by_cases e : i = n
  ·subst e; exact .inr hp
  ·exact .inl (varsTo_has (by omega) hp)
theorem zoneAt_mem {zs : List Zn} {j : Nat} (hj : j < zs.length) : 0 ≤ zoneAt zs (zs.getD j Zn.none).feature (zs.getD j Zn.none).kind := by
 refine pos_mem (j := j) hj ?_
 unfold isZone
 simp
/-- The variables of a zone. -/
theorem zone_vars {fs : List Feat} {zs : List Zn} (h : check fs zs = 0) {j : Nat} (hj : j < zs.length) : 0 ≤ varAt (varsTo fs zs fs.length) (zs.getD j Zn.none).feature (zs.getD j Zn.none).kind ∧ ((zs.getD j Zn.none).bonus = true → 0 ≤ varAt (varsTo fs zs fs.length) (zs.getD j Zn.none).feature 2) := by
 have hr := zone_right h hj
 have hza := zoneAt_mem hj
 have h1 := firstErr_zero (first_split h).2 j (Nat.zero_le _) (by omega)
 obtain ⟨z, hz⟩ : ∃ z, z = zs.getD j Zn.none := ⟨_, rfl⟩
 unfold zoneErr at h1
 simp only [] at h1
 rw [← hz] at h1 hr hza ⊢
 obtain ⟨i, hi⟩ : ∃ i : Nat, z.feature = (i : Int) := ⟨z.feature.toNat, by omega⟩
 rw [hi, Int.toNat_natCast] at h1
 rw [hi] at hr hza ⊢
 have hin : i < fs.length := by omega
 split at h1
 ·cases h1
 ·split at h1
  ·cases h1
  ·split at h1
   ·cases h1
   ·next c =>
    refine ⟨?_, fun hb => ?_⟩
    ·have hk : z.kind = 1 ∨ z.kind = 2 ∨ z.kind = 3 := by omega
     rcases hk with hk | hk | hk
     ·rw [hk]
      exact var_mem (varsTo_has hin (by unfold varsAt; simp))
     ·rw [hk]
      have : (fs.getD i Feat.none).kind = 2 := by
       apply Classical.byContradiction
       intro hne
       exact c (.inl ⟨hk, hne⟩)
      exact var_mem (varsTo_has hin (by unfold varsAt; rw [if_pos this]; simp))
     ·rw [hk] at hza ⊢
      exact var_mem (varsTo_has hin (by unfold varsAt; rw [if_pos hza]; simp))
    ·have : (fs.getD i Feat.none).kind = 2 := by
      apply Classical.byContradiction
      intro hne
      exact c (.inr (.inr ⟨hb, .inr hne⟩))
     exact var_mem (varsTo_has hin (by unfold varsAt; rw [if_pos this]; simp))
def holdsErr (fs : List Feat) (zs : List Zn) (vals : List ByteArray) : Int := if check fs zs ≠ 0 then check fs zs else if vals.length ≠ (varsTo fs zs fs.length).length then 13 else readsErr vals
def badZone (fs : List Feat) (zs : List Zn) (rs : List Rat) (j : Nat) : Bool := !keepsZ fs zs (varsTo fs zs fs.length) rs (zs.getD j Zn.none)
def badVar (fs : List Feat) (zs : List Zn) (V : List (Nat × Int)) (rs : List Rat) (j : Nat) : Bool := !decide (0 ≤ zoneAt zs (V.getD j (0, 0)).1 (V.getD j (0, 0)).2) && decide (cmpQ (rs.getD j 0) ((nominalOf fs (V.getD j (0, 0)).1 (V.getD j (0, 0)).2 : Int) : Rat) ≠ 0)
/-- Whether values hold, and what does not. -/
def holdsQ (fs : List Feat) (zs : List Zn) (rs : List Rat) : Bool × Int :=
 if 0 ≤ pos (badZone fs zs rs) zs.length 0 then (false, pos (badZone fs zs rs) zs.length 0)
 else if 0 ≤ pos (badVar fs zs (varsTo fs zs fs.length) rs) (varsTo fs zs fs.length).length 0 then (false, -1) else (true, 0)
def holdsAns (fs : List Feat) (zs : List Zn) (vals : List ByteArray) : Bool × Int := if holdsErr fs zs vals ≠ 0 then (false, 0) else holdsQ fs zs (readsVal vals)
theorem reads_len (l : List ByteArray) : (readsVal l).length = l.length := by unfold readsVal; rw [List.length_map]
theorem TxtIn.below {w w' : World} {v : Value} {l : List ByteArray} (h : TxtIn w v l) (hb : Below w.heap.size w w') : TxtIn w' v l := by
 obtain ⟨ao, c, e, h1, h2, h3⟩ := h
 refine ⟨ao, c, e, h1, h2, fun h0 => ?_⟩
 obtain ⟨b, off, ea, hl, hc⟩ := h3 h0
 exact ⟨b, off, ea, Nat.lt_of_lt_of_le hl hb.size, fun j hj => ZJ hb (hc j hj)⟩
theorem Holds_any {w : World} (hg : Glob w) {af : Option Addr} {cf : Nat} {az : Option Addr} {cz : Nat} {fs : List Feat} {zs : List Zn} (h : SchemeIn w af cf az cz fs zs) {al : Option Addr} {cl : Nat} {vals : List ByteArray} (hv : TxtIn w (.slice al vals.length cl) vals) {M : Nat} (hM : ∀ s, s ∈ vals → s.size ≤ M) (hM2 : M ≤ 90000) :
  Calls Tryz.prog 19 #[.agg #[.slice af fs.length cf, .slice az zs.length cz], .slice al vals.length cl] w fun e w' => e = .returned (.tuple #[.bool (holdsAns fs zs vals).1, .int .i64 (holdsAns fs zs vals).2, .int .i64 (holdsErr fs zs vals)]) ∧ Below w.heap.size w w' := by
 obtain ⟨V, hV⟩ : ∃ V, V = varsTo fs zs fs.length := ⟨_, rfl⟩
 obtain ⟨n, hn⟩ : ∃ n, n = fs.length := ⟨_, rfl⟩
 obtain ⟨nz, hnz⟩ : ∃ n, n = zs.length := ⟨_, rfl⟩
 obtain ⟨nl, hnl⟩ : ∃ n, n = vals.length := ⟨_, rfl⟩
 obtain ⟨nv, hnv⟩ : ∃ n, n = V.length := ⟨_, rfl⟩
 have hvn := vars_len fs zs fs.length
 rw [← hV, ← hnv] at hvn
 obtain ⟨E, hE⟩ : ∃ x, x = check fs zs := ⟨_, rfl⟩
 obtain ⟨HE, hHE⟩ : ∃ x, x = holdsErr fs zs vals := ⟨_, rfl⟩
 obtain ⟨AN, hAN⟩ : ∃ x, x = holdsAns fs zs vals := ⟨_, rfl⟩
 have HHE := ZH (show HE = if E ≠ 0 then E else if nl ≠ nv then 13 else readsErr vals by rw [hHE, hE, hnl, hnv, hV]; rfl)
 have HAN := ZH (show AN = if HE ≠ 0 then (false, 0) else holdsQ fs zs (readsVal vals) by rw [hAN, hHE]; rfl)
 obtain ⟨wa, hwa⟩ : ∃ wa, wa = w.alloc (.cells #[.slice af n cf, .slice az nz cz] 26) := ⟨_, rfl⟩
 obtain ⟨ba, hba⟩ : ∃ b, b = w.heap.size := ⟨_, rfl⟩
 have hal : Below w.heap.size w wa := by rw [hwa]; exact (ZR _ w).alloc (Nat.le_refl _) _
 have k0 : wa.heap[ba]? = some (.cells #[.slice af n cf, .slice az nz cz] 26 (0, 0)) := by rw [hwa, hba]; exact ZW w _
 have s0 := ZI k0 0
 have s1 := ZI k0 1
 simp at s0 s1
 have hck := Check_any (h.below hal)
 rw [← hn, ← hnz, ← hE] at hck
 have hvs := fun (hsm : check fs zs = 0) (W : World) (hW : SchemeIn W af cf az cz fs zs) => variables_any hW (by have := (check_small hsm).1; omega) (by have := (check_small hsm).2; omega)
 simp only [← hV] at hvs
 simp only [← hn, ← hnz] at hvs
 have hcapz : nz ≤ cz ∧ cz ≤ 9223372036854775807 := by rw [hnz]; exact ⟨h.zones.1, h.zones.2.1⟩
 have hcapl : nl ≤ cl ∧ cl ≤ 9223372036854775807 := by
  obtain ⟨ao', c', e', h1, h2, -⟩ := hv
  simp only [Value.slice.injEq, true_and] at e'
  rw [hnl, e'.2]
  exact ⟨h1, h2⟩
 have hrd := fun (W : World) (hW : Glob W) (hV : TxtIn W (.slice al vals.length cl) vals) (hll : vals.length ≤ 100000) => Reads_any vals hll hW hV (by omega) hM
 simp only [← hnl] at hrd
 have HS := ZH (h.below hal)
 have HAL := ZH hal
 have HG := ZH (hg.below hal)
 have HVT := ZH (hv.below hal)
 have HSC := ZH (ZN s0 s1)
 have HCK := ZH hck
 have HVS := ZH hvs
 have HRD := ZH hrd
 have HEE := ZH hE
 have HN := ZH (ZN hn (ZN hnz (ZN hnl (ZN hnv (ZN hV hvn)))))
 have HM2 := ZH hM2
 have HBA := ZH k0
 have HW := ZH (ZN hwa hba)
 rw [← hn, ← hnz, ← hnl, ← hHE, ← hAN]
 clear hwa hba hal k0 h hck hvs hrd hE hn hnz hnl hnv hV hvn hg hv hM hM2 hHE hAN
 go_enter Tryz.func19, Tryz.ntmps19
 go_upto_region 1 with fail
 rw [← HW.out.1, ← HW.out.2]
 clear HW
 go_wp2_with fail
 refine HCK.out.mono ?_
 rintro e w1 ⟨rfl, hb1⟩
 have s0 := ZJ hb1 HSC.out.1
 have s1 := ZJ hb1 HSC.out.2
 have HB1 := ZH hb1
 clear hb1
 by_cases hz : E = 0
 ·have e2 : (E == 0) = true := by rw [hz]; rfl
  have hc0 := HEE.out.symm.trans hz
  have HC0 := ZH (ZN hc0 (check_small hc0))
  have HV1 := ZH (HVS.out hc0 w1 (HS.out.below HB1.out))
  rw [if_neg (by rw [hz]; simp)] at HHE
  clear hz hc0
  go_wp2_with fail
  refine HV1.out.mono ?_
  rintro e w2 ⟨vv, rfl, hr2, hb2⟩
  obtain ⟨ao, vc, rfl, hin⟩ := hr2.reads
  rw [← HN.out.2.2.2.1]
  obtain ⟨hc1, hc2, hc3⟩ := hin
  rw [← HN.out.2.2.2.1] at hc1 hc3
  unfold maxLen at hc2
  have hnv9 : nv ≤ 48 := by have h1 := HN.out; have h2 := HC0.out.2.1; omega
  have HC3 := ZH hc3
  have HB2 := ZH (HB1.out.trans (hb2.mono HB1.out.size))
  have s0 := ZJ HB2.out HSC.out.1
  have s1 := ZJ HB2.out HSC.out.2
  clear hr2 hb2 hc3
  by_cases hle : nl = nv
  ·have e3 : ((nl : Int) != (nv : Int)) = false := by rw [hle]; simp
   rw [if_neg (by rw [hle]; simp)] at HHE
   have HRC := ZH (HRD.out w2 (HG.out.below HB2.out) (by rw [HN.out.2.2.1]; exact HVT.out.below HB2.out) (by have h1 := HN.out; omega))
   have HLE := ZH hle
   clear hle
   go_wp2_with fail
   refine HRC.out.mono ?_
   rintro e w3 ⟨v3, rfl, hr3, hn3, hb3⟩
   have HB3 := ZH (HB2.out.trans (hb3.mono HB2.out.size))
   have HB23 := ZH hb3
   have s0 := ZJ HB3.out HSC.out.1
   have s1 := ZJ HB3.out HSC.out.2
   obtain ⟨RE, hRE⟩ : ∃ x, x = readsErr vals := ⟨_, rfl⟩
   rw [← hRE] at hr3 hn3 HHE ⊢
   clear hRE hb3
   by_cases hre : RE = 0
   ·have e4 : (RE == 0) = true := by rw [hre]; rfl
    have e4n : (RE != 0) = false := by rw [hre]; rfl
    obtain ⟨rs, hrs⟩ : ∃ x, x = readsVal vals := ⟨_, rfl⟩
    have hrl := reads_len vals
    have hr4 := hr3 hre
    rw [← hrs] at hrl hr4
    obtain ⟨ar, rfl, hra⟩ := hr4.at (by have h1 := HN.out; have h2 := HLE.out; omega)
    have hrn : rs.length = nv := by have h1 := HN.out.2.2.1; have h2 := HLE.out; omega
    rw [hrn] at hra ⊢
    have HRA := ZH hra
    have HRN := ZH (ZN hrn hrs)
    have HH0 := ZH (HHE.out.trans hre)
    rw [HH0.out, if_neg (by simp), ← hrs] at HAN
    clear hr3 hn3 hrl hr4 hra hrn hrs hre
    obtain ⟨p, hp⟩ : ∃ p, p = badZone fs zs rs := ⟨_, rfl⟩
    have HP := ZH hp
    clear hp
    go_wp2_with fail
    clear s0 s1
    go_loopg [40] nz (fun gk x wr => ∃ k : Nat, k + gk = nz ∧ x = .int .i64 k ∧ Hid (∀ j, j < k → p j = false) ∧ Hid (Below wa.heap.size wa wr) ∧ Hid (Below w3.heap.size w3 wr))
    case atStart => exact ⟨0, by omega, rfl, ZH (fun j hj => absurd hj (by omega)), HB3, ZH (ZR _ _)⟩
    case round =>
     obtain ⟨k, hk, rfl, hno, hbw, hb3w⟩ := hrel
     have s0 := ZJ hbw.out HSC.out.1
     have s1 := ZJ hbw.out HSC.out.2
     have hnz9 : nz ≤ 32 := by have h1 := HN.out; have h2 := HC0.out.2.2; omega
     by_cases hlt : k < nz
     ·have e5 : ((k : Int) < (nz : Int)) = True := eq_true (by omega)
      obtain ⟨bo, o, rfl, hlo, hco⟩ := HS.out.zones.2.2 (by have := HN.out.2.1; omega)
      obtain ⟨z, hzd⟩ : ∃ z, z = zs.getD k Zn.none := ⟨_, rfl⟩
      have hkz : k < zs.length := by have := HN.out.2.1; omega
      have hx := hco k hkz
      have hzr := zone_right HC0.out.1 hkz
      have hzv := zone_vars HC0.out.1 hkz
      have hl1 := varAt_lt (varsTo fs zs fs.length) (zs.getD k Zn.none).feature (zs.getD k Zn.none).kind hzv.1
      have hl2 := fun hb => varAt_lt (varsTo fs zs fs.length) (zs.getD k Zn.none).feature 2 (hzv.2 hb)
      have hVl : (varsTo fs zs fs.length).length = rs.length := by rw [← HN.out.2.2.2.2.1, ← HN.out.2.2.2.1, HRN.out.1]
      rw [hVl] at hl1
      simp only [hVl] at hl2
      rw [← hzd] at hx hzr hzv hl1 hl2
      have hpk : p k = !keepsZ fs zs (varsTo fs zs fs.length) rs z := by rw [HP.out, hzd]; rfl
      obtain ⟨KB, hKB⟩ : ∃ x, x = keepsZ fs zs (varsTo fs zs fs.length) rs z := ⟨_, rfl⟩
      rw [← hKB] at hpk
      have x0 := ZJ hbw.out hx.1
      have x1 := ZJ hbw.out hx.2.1
      have x2 := ZJ hbw.out hx.2.2.1
      have x3 := ZJ hbw.out hx.2.2.2.1
      have x4 := ZJ hbw.out hx.2.2.2.2
      have hk0 : (0 : Int) ≤ (k : Int) := by omega
      have hk1 : (k : Int) < (nz : Int) := by omega
      have HZR := ZH (ZN hzr (ZN hzv (ZN hl1 hl2)))
      have HPK := ZH (ZN hpk (ZN hKB hlt))
      clear hx hzr hzv hl1 hl2 hVl hkz hpk hKB hzd hlt hco
      go_upto_region 13 with fail
      obtain ⟨w4, hw4⟩ : ∃ x, x = wr.alloc (.cells #[.int .i64 z.kind, .int .i64 z.feature, .int .i64 z.lower, .int .i64 z.upper, .bool z.bonus] 30) := ⟨_, rfl⟩
      obtain ⟨bz, hbz⟩ : ∃ b, b = wr.heap.size := ⟨_, rfl⟩
      rw [← hw4, ← hbz]
      have hl4 : Below wr.heap.size wr w4 := by rw [hw4]; exact (ZR _ wr).alloc (Nat.le_refl _) _
      have kz : w4.heap[bz]? = some (.cells #[.int .i64 z.kind, .int .i64 z.feature, .int .i64 z.lower, .int .i64 z.upper, .bool z.bonus] 30 (0, 0)) := by rw [hw4, hbz]; exact ZW wr _
      have z0 := ZI kz 0
      have z1 := ZI kz 1
      have z2 := ZI kz 2
      have z3 := ZI kz 3
      have z4 := ZI kz 4
      simp at z0 z1 z2 z3 z4
      have HW4 := ZH (hbw.out.trans (hl4.mono hbw.out.size))
      have HW34 := ZH (hb3w.out.trans (hl4.mono hb3w.out.size))
      have hkp := keeps_any (M := M + 2) (HS.out.below HW4.out) HC0.out.1 (HRA.out.below HW34.out) (by omega) (by have := HM2.out; omega) HZR.out.1.2.1 HZR.out.1.2.2.1 HZR.out.1.2.2.2.1 ⟨HZR.out.2.1.1, HZR.out.2.2.1⟩ (fun hb => ⟨HZR.out.2.1.2 hb, HZR.out.2.2.2 hb⟩)
      rw [HRN.out.1, ← HPK.out.2.1, ← HN.out.1, ← HN.out.2.1] at hkp
      have s0 := ZJ HW4.out HSC.out.1
      have s1 := ZJ HW4.out HSC.out.2
      have HKP := ZH (show Calls Tryz.prog 63 #[.agg #[.slice af n cf, .slice (some ⟨bo, o, none⟩) nz cz], .agg #[.int .i64 z.kind, .int .i64 z.feature, .int .i64 z.lower, .int .i64 z.upper, .bool z.bonus], .slice ar nv nv] w4 fun e w' => e = .returned (.bool KB) ∧ Below w4.heap.size w4 w' from hkp)
      clear hkp hw4 hbz hl4 kz hbw hb3w x0 x1 x2 x3 x4
      go_wp2_with fail
      refine HKP.out.mono ?_
      rintro e w5 ⟨rfl, hb5⟩
      have HW5 := ZH (HW4.out.trans (hb5.mono HW4.out.size))
      have HW35 := ZH (HW34.out.trans (hb5.mono HW34.out.size))
      clear hb5 s0 s1 z0 z1 z2 z3 z4
      cases KB with
      | true =>
       go_wp2_with fail
       go_roundg (nz - (k + 1))
       case measure => have := HPK.out.2.2; omega
       case rel =>
        refine ⟨k + 1, by have := HPK.out.2.2; omega, by congr 1, ZH fun j hj => ?_, HW5, HW35⟩
        by_cases h : j < k
        ·exact hno.out j h
        ·obtain rfl : j = k := by omega
         exact HPK.out.1
      | false =>
       have HQ := ZH (pos_some (p := p) (n := nz) (k := 0) (i := k) (Nat.zero_le _) (by have := HPK.out.2.2; omega) (fun j _ h => hno.out j h) HPK.out.1)
       go_wp2_with fail
       go_ret3
       have hq : holdsQ fs zs rs = (false, (k : Int)) := by
        unfold holdsQ
        rw [← HP.out, ← HN.out.2.1, HQ.out, if_pos (by omega)]
       exact ⟨by rw [HAN.out, hq, HH0.out]; rfl, HAL.out.trans (HW5.out.mono HAL.out.size)⟩
     ·have e5 : ((k : Int) < (nz : Int)) = False := eq_false (by omega)
      obtain rfl : k = nz := by omega
      have HPN := ZH (pos_none (p := p) (n := k) (k := 0) (fun j _ h => hno.out j (by omega)))
      obtain ⟨r, hr⟩ : ∃ r, r = badVar fs zs V rs := ⟨_, rfl⟩
      have HR := ZH hr
      have HBW := hbw
      have HB3W := hb3w
      clear hr hbw hb3w hno
      go_wp2_with fail
      clear s0 s1
      go_loopg [54] nv (fun gk x wr => ∃ m : Nat, m + gk = nv ∧ x = .int .i64 m ∧ Hid (∀ j, j < m → r j = false) ∧ Hid (Below wa.heap.size wa wr) ∧ Hid (Below w3.heap.size w3 wr) ∧ Hid (Below w2.heap.size w2 wr))
      case atStart => exact ⟨0, by omega, rfl, ZH (fun j hj => absurd hj (by omega)), HBW, HB3W, ZH (HB23.out.trans (HB3W.out.mono HB23.out.size))⟩
      case round =>
       obtain ⟨m, hm, rfl, hno2, hbw2, hb3w2, hb2w2⟩ := hrel
       have s0 := ZJ hbw2.out HSC.out.1
       have s1 := ZJ hbw2.out HSC.out.2
       by_cases hlt : m < nv
       ·have e6 : ((m : Int) < (nv : Int)) = True := eq_true (by omega)
        obtain ⟨b, o, rfl, -, hcc⟩ := HC3.out (by omega)
        obtain ⟨q, hq⟩ : ∃ q, q = V.getD m (0, 0) := ⟨_, rfl⟩
        have hx := hcc m hlt
        rw [← hq] at hx
        have hmem : q ∈ V := by
         have h1 : m < V.length := by have := HN.out.2.2.2.1; omega
         rw [hq, List.getD_eq_getElem?_getD, List.getElem?_eq_getElem h1]
         exact List.getElem_mem h1
        have hvm := vars_mem (HN.out.2.2.2.2.1 ▸ hmem)
        obtain ⟨i, kk⟩ := q
        have x0 := ZJ hb2w2.out hx.1
        have x1 := ZJ hb2w2.out hx.2
        have hk0 : (0 : Int) ≤ (m : Int) := by omega
        have hk1 : (m : Int) < (nv : Int) := by omega
        have HVM := ZH hvm
        have HQ := ZH (ZN hq hlt)
        clear hcc hx hq hmem hvm hlt
        go_upto_region 19 with fail
        obtain ⟨w4, hw4⟩ : ∃ x, x = wr.alloc (.cells #[.int .i64 (i : Int), .int .i64 kk] 120) := ⟨_, rfl⟩
        obtain ⟨bv, hbv⟩ : ∃ b, b = wr.heap.size := ⟨_, rfl⟩
        rw [← hw4, ← hbv]
        have hl4 : Below wr.heap.size wr w4 := by rw [hw4]; exact (ZR _ wr).alloc (Nat.le_refl _) _
        have kv : w4.heap[bv]? = some (.cells #[.int .i64 (i : Int), .int .i64 kk] 120 (0, 0)) := by rw [hw4, hbv]; exact ZW wr _
        have HW4 := ZH (hbw2.out.trans (hl4.mono hbw2.out.size))
        have HW34 := ZH (hb3w2.out.trans (hl4.mono hb3w2.out.size))
        have HW24 := ZH (hb2w2.out.trans (hl4.mono hb2w2.out.size))
        have HKV := ZH kv
        have s0 := ZJ HW4.out HSC.out.1
        have s1 := ZJ HW4.out HSC.out.2
        have v0 := ZI kv 0
        have v1 := ZI kv 1
        simp at v0 v1
        have hz2 := zone_any (HS.out.below HW4.out) (by have := HC0.out.2.2; omega) (i : Int) kk
        rw [← HN.out.1, ← HN.out.2.1] at hz2
        have HZ2 := ZH hz2
        clear hw4 hbv hl4 kv hz2 x0 x1 hk0 hk1 hbw2 hb3w2 hb2w2
        go_wp2_with fail
        refine HZ2.out.mono ?_
        rintro e w5 ⟨rfl, hb5⟩
        generalize zoneOf zs (i : Int) kk = y at *
        unfold zoneV
        obtain ⟨ib, hib⟩ : ∃ x, x = decide (0 ≤ zoneAt zs (i : Int) kk) := ⟨_, rfl⟩
        rw [← hib]
        have HIB := ZH hib
        have HW5 := ZH (HW4.out.trans (hb5.mono HW4.out.size))
        have HW35 := ZH (HW34.out.trans (hb5.mono HW34.out.size))
        have HW25 := ZH (HW24.out.trans (hb5.mono HW24.out.size))
        have HKV5 := ZH ((hb5.block bv (ZL HKV.out)).trans HKV.out)
        clear hib hb5 s0 s1 v0 v1
        go_upto_region 20 with fail
        obtain ⟨w6, hw6⟩ : ∃ x, x = w5.alloc (.cells #[.int .i64 y.kind, .int .i64 y.feature, .int .i64 y.lower, .int .i64 y.upper, .bool y.bonus] 30) := ⟨_, rfl⟩
        rw [← hw6]
        have hl6 : Below w5.heap.size w5 w6 := by rw [hw6]; exact (ZR _ w5).alloc (Nat.le_refl _) _
        have HW6 := ZH (HW5.out.trans (hl6.mono HW5.out.size))
        have HW36 := ZH (HW35.out.trans (hl6.mono HW35.out.size))
        have HW26 := ZH (HW25.out.trans (hl6.mono HW25.out.size))
        have HKV6 := ZH ((hl6.block bv (ZL HKV5.out)).trans HKV5.out)
        have HKA6 := ZH ((HW6.out.block ba (ZL HBA.out)).trans HBA.out)
        have HR66 := ZH (ZR w6.heap.size w6)
        obtain ⟨rb, ro, rfl, -, hrc⟩ := HRA.out.2.2 (by have h1 := HRN.out.1; have h2 := HQ.out.2; omega)
        obtain ⟨q1, hq1⟩ : ∃ x, x = rs.getD m 0 := ⟨_, rfl⟩
        have hx := (hrc m (by have h1 := HRN.out.1; have h2 := HQ.out.2; omega)).below HW36.out
        rw [← hq1] at hx
        obtain ⟨s1', a1, c1, l1, s2', a2, c2, l2, y0, y1, y2, y3, hrt⟩ := hx
        have HY := ZH (ZN y0 (ZN y1 (ZN y2 y3)))
        have HRT := ZH hrt
        obtain ⟨nom, hnom⟩ : ∃ x, x = nominalOf fs i kk := ⟨_, rfl⟩
        have hin : i < fs.length := HVM.out.1
        have hnb := nominal_bound HC0.out.1 hin kk
        have hnc := fun (W : World) (hW : SchemeIn W af cf az cz fs zs) => nominal_any hW hin kk
        simp only [← hnom, ← HN.out.1, ← HN.out.2.1] at hnc
        rw [← hnom] at hnb
        obtain ⟨nb, hnbb⟩ : ∃ x, x = decide (cmpQ q1 (nom : Rat) ≠ 0) := ⟨_, rfl⟩
        have HNC := ZH hnc
        have HNB := ZH hnb
        have HBB := ZH hnbb
        have HRM := ZH (show r m = (!ib && nb) by rw [HR.out]; unfold badVar; rw [← HQ.out.1, ← HIB.out, ← hq1]; simp only []; rw [← hnom, ← hnbb])
        have HMB := ZH (show (0 : Int) ≤ (m : Int) ∧ (m : Int) < (nv : Int) by have := HQ.out.2; omega)
        clear hw6 hl6 hrc hq1 y0 y1 y2 y3 hrt hnom hin hnb hnc hnbb
        refine FlowR.wp_region_sel (fun a b => Below a.heap.size a b) (fun a => ZR _ a) (fun _ _ _ h k => h.trans (k.mono h.size)) [0, 1, 2, 3, 4, 5, 6, 7, 8, 9, 10, 11, 12, 13] [false, false, false, false, false, false, false, false, false, false, false, false, false, false] [true, true, true, true, true, true, true, true, true, true, true, true, true, true] (fun i9 v w' => match i9 with
         | 0 => v = .bool ib
         | 1 => v = .bool (!ib)
         | 2 => v = .bool (!ib)
         | 3 => (!ib) = true → v = .slice (some ⟨rb, ro, none⟩) nv nv
         | 4 => (!ib) = true → v = .int .i64 (m : Int)
         | 5 => (!ib) = true → v = .pointer (some ⟨rb, ro + m * 4, none⟩)
         | 6 => (!ib) = true → v = .agg #[.bool s1', .slice a1 c1 l1, .bool s2', .slice a2 c2 l2]
         | 7 => (!ib) = true → v = .agg #[.slice af n cf, .slice az k cz]
         | 8 => (!ib) = true → v = .agg #[.int .i64 (i : Int), .int .i64 kk]
         | 9 => (!ib) = true → v = .int .i64 nom
         | 10 => (!ib) = true → RtIn w' v (nom : Rat) 2
         | 11 => (!ib) = true → v = .int .i64 (cmpQ q1 (nom : Rat))
         | 12 => (!ib) = true → v = .bool (nb)
         | _ => v = .bool ((!ib) && nb)) rfl rfl (by kernel_rfl) (by kernel_rfl) (by kernel_rfl) (by kernel_rfl) ?st ?steps ?fin
        case st =>
         intro i9 v u1 u2 h hb
         match i9 with
         | 0 | 1 | 2 | 3 | 4 | 5 | 6 | 7 | 8 | 9 | 11 | 12 | 13 | _ + 14 => exact h
         | 10 => exact fun hq => ((show (!ib) = true → RtIn u1 v (nom : Rat) 2 from h) hq).below hb
        case steps =>
         refine zSc (zSo rfl ?s0) (zSc (zSo rfl ?s1) (zSc (zSo rfl ?s2) (zSc (zSo rfl ?s3) (zSc (zSo rfl ?s4) (zSc (zSo rfl ?s5) (zSc (zSo rfl ?s6) (zSc (zSo rfl ?s7) (zSc (zSo rfl ?s8) (zSc (zSo rfl ?s9) (zSc (zSo rfl ?s10) (zSc (zSo rfl ?s11) (zSc (zSo rfl ?s12) (zSc (zSo rfl ?s13) zSn)))))))))))))
         case s0 =>
          intro xs w' hb hT K9 hK9
          clear hT
          simp only [zFp, zAp, zLa, zLb, zLc, Nat.reduceAdd, zNz] at hK9 ⊢
          have hw := Flow.hwD HR66.out hb
          go_simp
          exact hK9 _ _ (ZR _ _) rfl
         case s1 =>
          intro xs w' hb hT K9 hK9
          have h0 : (xs 0) = .bool ib := hT 0 (by kernel_rfl)
          clear hT
          simp only [zFp, zAp, zLa, zLb, zLc, Nat.reduceAdd, zNz] at hK9 ⊢
          have hw := Flow.hwD HR66.out hb
          (try simp only [h0] at hK9)
          go_simp
          exact hK9 _ _ (ZR _ _) rfl
         case s2 =>
          intro xs w' hb hT K9 hK9
          have h1 : (xs 1) = .bool (!ib) := hT 1 (by kernel_rfl)
          clear hT
          simp only [zFp, zAp, zLa, zLb, zLc, Nat.reduceAdd, zNz] at hK9 ⊢
          have hw := Flow.hwD HR66.out hb
          (try simp only [h1] at hK9)
          go_simp
          exact hK9 _ _ (ZR _ _) rfl
         case s3 | s4 =>
          intro xs w' hb hT K9 hK9
          have h2 : (xs 2) = .bool (!ib) := hT 2 (by kernel_rfl)
          clear hT
          simp only [zFp, zAp, zLa, zLb, zLc, Nat.reduceAdd, zNz] at hK9 ⊢
          have hw := Flow.hwD HR66.out hb
          by_cases hg : (!ib) = true
          ·rw [hg] at h2
           (try simp only [h2] at hK9)
           go_simp
           exact hK9 _ _ (ZR _ _) (fun _ => rfl)
          ·have hg' : (!ib) = false := eq_false_of_ne_true hg
           rw [hg'] at h2
           (try simp only [h2] at hK9)
           go_simp
           exact hK9 _ _ (ZR _ _) (fun h => absurd h hg)
         case s5 =>
          intro xs w' hb hT K9 hK9
          have h2 : (xs 2) = .bool (!ib) := hT 2 (by kernel_rfl)
          have h3 : (!ib) = true → (xs 3) = .slice (some ⟨rb, ro, none⟩) nv nv := hT 3 (by kernel_rfl)
          have h4 : (!ib) = true → (xs 4) = .int .i64 (m : Int) := hT 4 (by kernel_rfl)
          clear hT
          simp only [zFp, zAp, zLa, zLb, zLc, Nat.reduceAdd, zNz] at hK9 ⊢
          have hw := Flow.hwD HR66.out hb
          by_cases hg : (!ib) = true
          ·rw [hg] at h2
           replace h3 := h3 hg
           replace h4 := h4 hg
           (try simp only [h2] at hK9)
           (try simp only [h3] at hK9)
           (try simp only [h4] at hK9)
           have g0 := HMB.out.1
           have g9 := HMB.out.2
           go_simp
           exact hK9 _ _ (ZR _ _) (fun _ => rfl)
          ·have hg' : (!ib) = false := eq_false_of_ne_true hg
           rw [hg'] at h2
           (try simp only [h2] at hK9)
           clear h3 h4
           go_simp
           exact hK9 _ _ (ZR _ _) (fun h => absurd h hg)
         case s6 =>
          intro xs w' hb hT K9 hK9
          have h2 : (xs 2) = .bool (!ib) := hT 2 (by kernel_rfl)
          have h5 : (!ib) = true → (xs 5) = .pointer (some ⟨rb, ro + m * 4, none⟩) := hT 5 (by kernel_rfl)
          clear hT
          simp only [zFp, zAp, zLa, zLb, zLc, Nat.reduceAdd, zNz] at hK9 ⊢
          have hw := Flow.hwD HR66.out hb
          by_cases hg : (!ib) = true
          ·rw [hg] at h2
           replace h5 := h5 hg
           (try simp only [h2] at hK9)
           (try simp only [h5] at hK9)
           have y0 := ZJ hw HY.out.1
           have y1 := ZJ hw HY.out.2.1
           have y2 := ZJ hw HY.out.2.2.1
           have y3 := ZJ hw HY.out.2.2.2
           go_simp
           exact hK9 _ _ (ZR _ _) (fun _ => rfl)
          ·have hg' : (!ib) = false := eq_false_of_ne_true hg
           rw [hg'] at h2
           (try simp only [h2] at hK9)
           clear h5
           go_simp
           exact hK9 _ _ (ZR _ _) (fun h => absurd h hg)
         case s7 =>
          intro xs w' hb hT K9 hK9
          have h2 : (xs 2) = .bool (!ib) := hT 2 (by kernel_rfl)
          clear hT
          simp only [zFp, zAp, zLa, zLb, zLc, Nat.reduceAdd, zNz] at hK9 ⊢
          have hw := Flow.hwD HR66.out hb
          by_cases hg : (!ib) = true
          ·rw [hg] at h2
           have kb := (hw.block ba (ZL HKA6.out)).trans HKA6.out
           have y0 := ZI kb 0
           have y1 := ZI kb 1
           clear kb
           simp at y0 y1
           (try simp only [h2] at hK9)
           go_simp
           exact hK9 _ _ (ZR _ _) (fun _ => rfl)
          ·have hg' : (!ib) = false := eq_false_of_ne_true hg
           rw [hg'] at h2
           (try simp only [h2] at hK9)
           go_simp
           exact hK9 _ _ (ZR _ _) (fun h => absurd h hg)
         case s8 =>
          intro xs w' hb hT K9 hK9
          have h2 : (xs 2) = .bool (!ib) := hT 2 (by kernel_rfl)
          clear hT
          simp only [zFp, zAp, zLa, zLb, zLc, Nat.reduceAdd, zNz] at hK9 ⊢
          have hw := Flow.hwD HR66.out hb
          by_cases hg : (!ib) = true
          ·rw [hg] at h2
           have kb := (hw.block bv (ZL HKV6.out)).trans HKV6.out
           have y0 := ZI kb 0
           have y1 := ZI kb 1
           clear kb
           simp at y0 y1
           (try simp only [h2] at hK9)
           go_simp
           exact hK9 _ _ (ZR _ _) (fun _ => rfl)
          ·have hg' : (!ib) = false := eq_false_of_ne_true hg
           rw [hg'] at h2
           (try simp only [h2] at hK9)
           go_simp
           exact hK9 _ _ (ZR _ _) (fun h => absurd h hg)
         case s9 =>
          intro xs w' hb hT K9 hK9
          have h2 : (xs 2) = .bool (!ib) := hT 2 (by kernel_rfl)
          have h7 : (!ib) = true → (xs 7) = .agg #[.slice af n cf, .slice az k cz] := hT 7 (by kernel_rfl)
          have h8 : (!ib) = true → (xs 8) = .agg #[.int .i64 (i : Int), .int .i64 kk] := hT 8 (by kernel_rfl)
          clear hT
          simp only [zFp, zAp, zLa, zLb, zLc, Nat.reduceAdd, zNz] at hK9 ⊢
          have hw := Flow.hwD HR66.out hb
          by_cases hg : (!ib) = true
          ·rw [hg] at h2
           replace h7 := h7 hg
           replace h8 := h8 hg
           (try simp only [h2] at hK9)
           (try simp only [h7] at hK9)
           (try simp only [h8] at hK9)
           go_simp
           go_at_call 56
           refine (HNC.out _ (HS.out.below (HW6.out.trans (hw.mono HW6.out.size)))).mono ?_
           rintro e w3 ⟨rfl, hb3⟩
           exact hK9 _ _ hb3 (fun _ => rfl)
          ·have hg' : (!ib) = false := eq_false_of_ne_true hg
           rw [hg'] at h2
           (try simp only [h2] at hK9)
           clear h7 h8
           go_simp
           exact hK9 _ _ (ZR _ _) (fun h => absurd h hg)
         case s10 =>
          intro xs w' hb hT K9 hK9
          have h2 : (xs 2) = .bool (!ib) := hT 2 (by kernel_rfl)
          have h9 : (!ib) = true → (xs 9) = .int .i64 nom := hT 9 (by kernel_rfl)
          clear hT
          simp only [zFp, zAp, zLa, zLb, zLc, Nat.reduceAdd, zNz] at hK9 ⊢
          have hw := Flow.hwD HR66.out hb
          by_cases hg : (!ib) = true
          ·rw [hg] at h2
           replace h9 := h9 hg
           (try simp only [h2] at hK9)
           (try simp only [h9] at hK9)
           go_simp
           go_at_call 26
           refine (ratFrom_any (by have := HNB.out; omega) (by have := HNB.out; omega)).mono ?_
           rintro e w3 ⟨v3, rfl, hi3, hb3⟩
           exact hK9 _ _ hb3 (fun _ => hi3)
          ·have hg' : (!ib) = false := eq_false_of_ne_true hg
           rw [hg'] at h2
           (try simp only [h2] at hK9)
           clear h9
           go_simp
           exact hK9 _ _ (ZR _ _) (fun h => absurd h hg)
         case s11 =>
          intro xs w' hb hT K9 hK9
          have h2 : (xs 2) = .bool (!ib) := hT 2 (by kernel_rfl)
          have h6 : (!ib) = true → (xs 6) = .agg #[.bool s1', .slice a1 c1 l1, .bool s2', .slice a2 c2 l2] := hT 6 (by kernel_rfl)
          have h10 : (!ib) = true → RtIn w' (xs 10) (nom : Rat) 2 := hT 10 (by kernel_rfl)
          clear hT
          simp only [zFp, zAp, zLa, zLb, zLc, Nat.reduceAdd, zNz] at hK9 ⊢
          have hw := Flow.hwD HR66.out hb
          by_cases hg : (!ib) = true
          ·rw [hg] at h2
           replace h6 := h6 hg
           replace h10 := h10 hg
           (try simp only [h2] at hK9)
           (try simp only [h6] at hK9)
           go_simp
           go_at_call 64
           refine (ratCompare_any (HRT.out.below hw) h10 (by omega) (by omega) (by have := HM2.out; omega)).mono ?_
           rintro e w3 ⟨rfl, hb3⟩
           exact hK9 _ _ hb3 (fun _ => rfl)
          ·have hg' : (!ib) = false := eq_false_of_ne_true hg
           rw [hg'] at h2
           (try simp only [h2] at hK9)
           clear h6 h10
           go_simp
           exact hK9 _ _ (ZR _ _) (fun h => absurd h hg)
         case s12 =>
          intro xs w' hb hT K9 hK9
          have h2 : (xs 2) = .bool (!ib) := hT 2 (by kernel_rfl)
          have h11 : (!ib) = true → (xs 11) = .int .i64 (cmpQ q1 (nom : Rat)) := hT 11 (by kernel_rfl)
          clear hT
          simp only [zFp, zAp, zLa, zLb, zLc, Nat.reduceAdd, zNz] at hK9 ⊢
          have hw := Flow.hwD HR66.out hb
          by_cases hg : (!ib) = true
          ·rw [hg] at h2
           replace h11 := h11 hg
           (try simp only [h2] at hK9)
           (try simp only [h11] at hK9)
           go_simp
           exact hK9 _ _ (ZR _ _) (fun _ => (congrArg Value.bool (by rw [HBB.out]; exact bne_dec)))
          ·have hg' : (!ib) = false := eq_false_of_ne_true hg
           rw [hg'] at h2
           (try simp only [h2] at hK9)
           clear h11
           go_simp
           exact hK9 _ _ (ZR _ _) (fun h => absurd h hg)
         case s13 =>
          intro xs w' hb hT K9 hK9
          have h2 : (xs 2) = .bool (!ib) := hT 2 (by kernel_rfl)
          have h12 : (!ib) = true → (xs 12) = .bool (nb) := hT 12 (by kernel_rfl)
          clear hT
          simp only [zFp, zAp, zLa, zLb, zLc, Nat.reduceAdd, zNz] at hK9 ⊢
          have hw := Flow.hwD HR66.out hb
          by_cases hg : (!ib) = true
          ·rw [hg] at h2
           replace h12 := h12 hg
           (try simp only [h2] at hK9)
           (try simp only [h12] at hK9)
           go_simp
           exact hK9 _ _ (ZR _ _) (by simp [ hg])
          ·have hg' : (!ib) = false := eq_false_of_ne_true hg
           rw [hg'] at h2
           clear h12
           (try simp only [h2] at hK9)
           go_simp
           exact hK9 _ _ (ZR _ _) (by simp [ hg'])
        case fin =>
         intro xs w' hb hT
         have hw := Flow.hwD HR66.out hb
         have h13 : (xs 13) = .bool ((!ib) && nb) := hT 13 (by rfl)
         clear hT
         simp only [zFp, zAp, zLa, zLb, zLc, Nat.reduceAdd, zNz, FlowR.restL, FlowR.orM, Bool.false_or]
         simp only [h13]
         refine wpList_nil ?_
         have HF := ZH (ZN (HW6.out.trans (hw.mono HW6.out.size)) (ZN (HW36.out.trans (hw.mono HW36.out.size)) (HW26.out.trans (hw.mono HW26.out.size))))
         clear h13 hw hb
         cases hbd : (!ib && nb) with
         | true =>
          have HQ2 := ZH (pos_some (p := r) (n := nv) (k := 0) (i := m) (Nat.zero_le _) (by have := HQ.out.2; omega) (fun j _ h => hno2.out j h) (HRM.out.trans hbd))
          have hq : holdsQ fs zs rs = (false, -1) := by
           unfold holdsQ
           rw [← HP.out, ← HN.out.2.1, HPN.out, if_neg (by omega), ← HN.out.2.2.2.2.1, ← HR.out, ← HN.out.2.2.2.1, HQ2.out, if_pos (by omega)]
          have HHQ := ZH hq
          clear hbd hq
          go_wp2_with fail
          go_ret3
          exact ⟨by rw [HAN.out, HHQ.out, HH0.out]; rfl, HAL.out.trans (HF.out.1.mono HAL.out.size)⟩
         | false =>
          have HRF := ZH (HRM.out.trans hbd)
          clear hbd
          go_wp2_with fail
          go_roundg (nv - (m + 1))
          case measure => have := HQ.out.2; omega
          case rel =>
           refine ⟨m + 1, by have := HQ.out.2; omega, by congr 1, ZH fun j hj => ?_, ZH HF.out.1, ZH HF.out.2.1, ZH HF.out.2.2⟩
           by_cases h : j < m
           ·exact hno2.out j h
           ·obtain rfl : j = m := by omega
            exact HRF.out
       ·have e6 : ((m : Int) < (nv : Int)) = False := eq_false (by omega)
        obtain rfl : m = nv := by omega
        have HPM := ZH (pos_none (p := r) (n := m) (k := 0) (fun j _ h => hno2.out j (by omega)))
        have hq : holdsQ fs zs rs = (true, 0) := by
         unfold holdsQ
         rw [← HP.out, ← HN.out.2.1, HPN.out, if_neg (by omega), ← HN.out.2.2.2.2.1, ← HR.out, ← HN.out.2.2.2.1, HPM.out, if_neg (by omega)]
        have HHQ := ZH hq
        clear hq
        go_wp2_with fail
        go_ret3
        exact ⟨by rw [HAN.out, HHQ.out, HH0.out]; rfl, HAL.out.trans (hbw2.out.mono HAL.out.size)⟩
   ·have e4 : (RE == 0) = false := ZQ.2 hre
    have e4n : (RE != 0) = true := by simpa using hre
    have hh : HE = RE := HHE.out
    rw [hh, if_pos hre] at HAN
    have hv3 := hn3 hre
    subst hv3
    have HHX := ZH hh
    clear hre hr3 hn3 hh
    go_wp2_with fail
    go_ret3
    exact ⟨by rw [HAN.out, HHX.out]; rfl, HAL.out.trans (HB3.out.mono HAL.out.size)⟩
  ·have e3 : ((nl : Int) != (nv : Int)) = true := by
    simp
    omega
   rw [if_pos hle] at HHE
   rw [HHE.out, if_pos (by decide)] at HAN
   clear hle
   go_wp2_with fail
   go_ret3
   exact ⟨by rw [HAN.out, HHE.out]; rfl, HAL.out.trans (HB2.out.mono HAL.out.size)⟩
 ·have e2 : (E == 0) = false := ZQ.2 hz
  rw [if_pos hz] at HHE
  rw [HHE.out, if_pos hz] at HAN
  clear hz
  go_wp2_with fail
  go_ret3
  exact ⟨by rw [HAN.out, HHE.out]; rfl, HAL.out.trans (HB1.out.mono HAL.out.size)⟩
end Go.Proofs.YtgofihilkobenaaGreatDoor
