/- The document's model: far, zone, limits, chain. -/
import Derived.Test.YtgofihilkobenaaGreatDoorKL
set_option maxRecDepth 100000
namespace Go.Proofs.YtgofihilkobenaaGreatDoor
open Go.RowKit Go.Num Go.Flow Go.Dtm
set_option maxHeartbeats 8000000

theorem qfar_any (n : Int) (w : World) : Calls Tryz.prog 58 #[.int .i64 n] w fun e w' => e = .returned (.bool (far n)) ∧ Below w.heap.size w w' := by
 by_cases h1 : 268435456 < n
 ·have e1 : (268435456 < n) = True := eq_true h1
  have HF := ZH (show far n = true by unfold far; rw [ZT h1, Bool.or_true])
  clear h1
  go_enter Tryz.func58, Tryz.ntmps58
  go_wp2_with fail
  go_ret
  exact ⟨by rw [HF.out]; rfl, ZR _ _⟩
 ·have e1 : (268435456 < n) = False := eq_false h1
  have HF := ZH (show far n = decide (n < -268435456) by unfold far; rw [ZU h1, Bool.or_false])
  clear h1
  go_enter Tryz.func58, Tryz.ntmps58
  go_wp2_with fail
  go_ret
  exact ⟨by rw [HF.out]; rfl, ZR _ _⟩
theorem qzone_any {w : World} {af : Option Addr} {cf : Nat} {az : Option Addr} {cz : Nat} {fs : List Feat} {zs : List Zn} (h : SchemeIn w af cf az cz fs zs) (hsm : zs.length ≤ 1000000) (i k : Int) :
  Calls Tryz.prog 59 #[.agg #[.slice af fs.length cf, .slice az zs.length cz], .int .i64 i, .int .i64 k] w fun e w' => e = .returned (.int .i64 (zoneAt zs i k)) ∧ Below w.heap.size w w' := by
 obtain ⟨n, hn⟩ : ∃ n, n = fs.length := ⟨_, rfl⟩
 obtain ⟨nz, hnz⟩ : ∃ n, n = zs.length := ⟨_, rfl⟩
 obtain ⟨wa, hwa⟩ : ∃ wa, wa = w.alloc (.cells #[.slice af n cf, .slice az nz cz] 26) := ⟨_, rfl⟩
 obtain ⟨ba, hba⟩ : ∃ b, b = w.heap.size := ⟨_, rfl⟩
 have hal : Below w.heap.size w wa := by rw [hwa]; exact (ZR _ w).alloc (Nat.le_refl _) _
 have k0 : wa.heap[ba]? = some (.cells #[.slice af n cf, .slice az nz cz] 26 (0, 0)) := by rw [hwa, hba]; exact ZW w _
 have s1 := ZI k0 1
 simp at s1
 obtain ⟨p, hp⟩ : ∃ p, p = fun j => isZone i k (zs.getD j Zn.none) := ⟨_, rfl⟩
 have HZA := ZH (show zoneAt zs i k = pos p nz 0 by rw [hp, hnz]; rfl)
 have HP := ZH hp
 have hcap : zs.length ≤ cz ∧ cz ≤ 9223372036854775807 := ⟨h.zones.1, h.zones.2.1⟩
 have hzz := (h.below hal).zones.2.2
 rw [← hnz] at hcap hsm hzz ⊢
 rw [← hn]
 have HZ := ZH hzz
 have HAL := ZH hal
 have HW := ZH (ZN hwa hba)
 clear hal hwa hba k0 hn hnz h hp hzz
 go_enter Tryz.func59, Tryz.ntmps59
 go_upto_region 1 with fail
 rw [← HW.out.1, ← HW.out.2]
 clear HW
 go_wp2_with fail
 clear s1
 go_loopw [12] (fun x wr => ∃ m : Nat, m ≤ nz ∧ x = .int .i64 m ∧ Hid (∀ j, j < m → p j = false) ∧ Hid (Below wa.heap.size wa wr)) (fun x _ => nz - (intOf x).toNat)
 case atStart => exact ⟨0, Nat.zero_le _, rfl, ZH (fun j hj => absurd hj (by omega)), ZH (ZR _ _)⟩
 case round =>
  obtain ⟨m, hmn, rfl, hno, hbw⟩ := hrel
  by_cases hlt : m < nz
  ·have e1 : ((m : Int) < (nz : Int)) = True := eq_true (by omega)
   obtain ⟨b, o, rfl, hl, hc⟩ := HZ.out (by omega)
   have HX := hc m hlt
   obtain ⟨z, hz⟩ : ∃ z, z = zs.getD m Zn.none := ⟨_, rfl⟩
   rw [← hz] at HX
   have x0 := ZJ hbw.out HX.1
   have x1 := ZJ hbw.out HX.2.1
   have x2 := ZJ hbw.out HX.2.2.1
   have x3 := ZJ hbw.out HX.2.2.2.1
   have x4 := ZJ hbw.out HX.2.2.2.2
   have hi0 : (0 : Int) ≤ (m : Int) := by omega
   have hi1 : (m : Int) < (nz : Int) := by omega
   have HPM := ZH (show p m = isZone i k z by rw [HP.out, hz])
   clear HX hc hz
   go_upto_region 4 with fail
   obtain ⟨w1, hw1⟩ : ∃ x, x = wr.alloc (.cells #[.int .i64 z.kind, .int .i64 z.feature, .int .i64 z.lower, .int .i64 z.upper, .bool z.bonus] 30) := ⟨_, rfl⟩
   obtain ⟨bz, hbz⟩ : ∃ b, b = wr.heap.size := ⟨_, rfl⟩
   rw [← hw1, ← hbz]
   have hl1 : Below wr.heap.size wr w1 := by rw [hw1]; exact (ZR _ wr).alloc (Nat.le_refl _) _
   have kz : w1.heap[bz]? = some (.cells #[.int .i64 z.kind, .int .i64 z.feature, .int .i64 z.lower, .int .i64 z.upper, .bool z.bonus] 30 (0, 0)) := by rw [hw1, hbz]; exact ZW wr _
   have c0 := ZI kz 0
   have c1 := ZI kz 1
   simp at c0 c1
   have HB1 := ZH (hbw.out.trans (hl1.mono hbw.out.size))
   clear x0 x1 x2 x3 x4 hw1 hbz hl1 kz
   by_cases h1 : z.feature = i
   ·have e2 : (z.feature == i) = true := by rw [h1]; exact beq_self_eq_true _
    by_cases h2 : z.kind = k
    ·have e3 : (z.kind == k) = true := by rw [h2]; exact beq_self_eq_true _
     have HQ := ZH (pos_some (p := p) (n := nz) (k := 0) (i := m) (Nat.zero_le _) (by omega) (fun j _ h => hno.out j h) (by rw [HPM.out]; unfold isZone; rw [ZT h1, ZT h2]; rfl))
     clear h1 h2
     go_wp2_with fail
     go_ret
     exact ⟨by rw [HZA.out, HQ.out]; rfl, HAL.out.trans (HB1.out.mono HAL.out.size)⟩
    ·have e3 : (z.kind == k) = false := ZQ.2 h2
     have HPF := ZH (show p m = false by rw [HPM.out]; unfold isZone; rw [ZU h2, Bool.and_false])
     clear h1 h2
     go_wp2_with fail
     refine ⟨⟨m + 1, hlt, by congr 1, ZH fun j hj => ?_, HB1⟩, by simp [intOf]; omega⟩
     by_cases h : j < m
     ·exact hno.out j h
     ·obtain rfl : j = m := by omega
      exact HPF.out
   ·have e2 : (z.feature == i) = false := ZQ.2 h1
    have HPF := ZH (show p m = false by rw [HPM.out]; unfold isZone; rw [ZU h1, Bool.false_and])
    clear h1
    go_wp2_with fail
    refine ⟨⟨m + 1, hlt, by congr 1, ZH fun j hj => ?_, HB1⟩, by simp [intOf]; omega⟩
    by_cases h : j < m
    ·exact hno.out j h
    ·obtain rfl : j = m := by omega
     exact HPF.out
  ·have e1 : ((m : Int) < (nz : Int)) = False := eq_false (by omega)
   obtain rfl : m = nz := by omega
   have HN := ZH (pos_none (p := p) (n := m) (k := 0) (fun j _ h => hno.out j (by omega)))
   go_wp2_with fail
   go_ret
   exact ⟨by rw [HZA.out, HN.out]; rfl, HAL.out.trans (hbw.out.mono HAL.out.size)⟩
end Go.Proofs.YtgofihilkobenaaGreatDoor
/- The document's model: limits, chain. -/
set_option maxRecDepth 100000
namespace Go.Proofs.YtgofihilkobenaaGreatDoor
open Go.RowKit Go.Num Go.Flow Go.Dtm
set_option maxHeartbeats 8000000

theorem qlimits_any {w : World} {af : Option Addr} {cf : Nat} {az : Option Addr} {cz : Nat} {fs : List Feat} {zs : List Zn} (h : SchemeIn w af cf az cz fs zs) (hsm : zs.length ≤ 1000000) (i k : Int) :
  Calls Tryz.prog 66 #[.agg #[.slice af fs.length cf, .slice az zs.length cz], .int .i64 i, .int .i64 k] w fun e w' => e = .returned (.tuple #[.int .i64 (zoneOf zs i k).lower, .int .i64 (zoneOf zs i k).upper]) ∧ Below w.heap.size w w' := by
 obtain ⟨n, hn⟩ : ∃ n, n = fs.length := ⟨_, rfl⟩
 obtain ⟨nz, hnz⟩ : ∃ n, n = zs.length := ⟨_, rfl⟩
 obtain ⟨wa, hwa⟩ : ∃ wa, wa = w.alloc (.cells #[.slice af n cf, .slice az nz cz] 26) := ⟨_, rfl⟩
 obtain ⟨ba, hba⟩ : ∃ b, b = w.heap.size := ⟨_, rfl⟩
 have hal : Below w.heap.size w wa := by rw [hwa]; exact (ZR _ w).alloc (Nat.le_refl _) _
 have k0 : wa.heap[ba]? = some (.cells #[.slice af n cf, .slice az nz cz] 26 (0, 0)) := by rw [hwa, hba]; exact ZW w _
 have s0 := ZI k0 0
 have s1 := ZI k0 1
 simp at s0 s1
 have hzo := qzone_any (h.below hal) hsm i k
 have HZO := ZH (show zoneOf zs i k = if zoneAt zs i k < 0 then Zn.none else zs.getD (zoneAt zs i k).toNat Zn.none from rfl)
 have hlt := pos_le (p := fun j => isZone i k (zs.getD j Zn.none)) (n := zs.length) (k := 0)
 rw [show pos (fun j => isZone i k (zs.getD j Zn.none)) zs.length 0 = zoneAt zs i k from rfl] at hlt
 obtain ⟨r, hr⟩ : ∃ r, r = zoneAt zs i k := ⟨_, rfl⟩
 obtain ⟨z, hz⟩ : ∃ z, z = zoneOf zs i k := ⟨_, rfl⟩
 rw [← hr] at hzo HZO hlt
 rw [← hz] at HZO ⊢
 have hcap : zs.length ≤ cz ∧ cz ≤ 9223372036854775807 := ⟨h.zones.1, h.zones.2.1⟩
 have hzz := h.zones.2.2
 rw [← hn, ← hnz] at hzo
 rw [← hnz] at hcap hsm hlt hzz ⊢
 rw [← hn]
 have HC := ZH hzo
 have HZ := ZH hzz
 have HAL := ZH hal
 have HSC := ZH (ZN s0 s1)
 have HW := ZH (ZN hwa hba)
 clear hal hwa hba k0 hn hnz h hzz hzo hr hz
 go_enter Tryz.func66, Tryz.ntmps66
 go_upto_region 1 with fail
 rw [← HW.out.1, ← HW.out.2]
 clear HW
 go_wp2_with fail
 refine HC.out.mono ?_
 rintro e w1 ⟨rfl, hb1⟩
 have s1 := ZJ hb1 HSC.out.2
 have HB1 := ZH (HAL.out.trans (hb1.mono HAL.out.size))
 clear s0 hb1
 by_cases hneg : 0 ≤ r
 ·have e1 : ((0 : Int) ≤ r) = True := eq_true hneg
  obtain ⟨m, rfl⟩ : ∃ m : Nat, r = (m : Int) := ⟨r.toNat, by omega⟩
  have hm : m < nz := by omega
  obtain ⟨b, o, rfl, -, hc⟩ := HZ.out (by omega)
  have HX := hc m hm
  rw [if_neg (by omega), Int.toNat_natCast] at HZO
  rw [← HZO.out] at HX
  have x2 := ZJ HB1.out HX.2.2.1
  have x3 := ZJ HB1.out HX.2.2.2.1
  have hm0 : (0 : Int) ≤ (m : Int) := by omega
  have hm1 : (m : Int) < (nz : Int) := by omega
  clear HX hc hneg hlt
  go_upto_region 3 with fail
  go_quiet (fail)
  go_wp2_with fail
  go_ret2
  exact ⟨rfl, HB1.out.trans ((below_drawn w1 _).mono HB1.out.size)⟩
 ·have e1 : ((0 : Int) ≤ r) = False := eq_false hneg
  rw [if_pos (by omega)] at HZO
  clear hneg
  go_wp2_with fail
  go_ret2
  exact ⟨by rw [HZO.out]; rfl, HB1.out⟩
theorem qchain_any {w : World} {af : Option Addr} {cf : Nat} {az : Option Addr} {cz : Nat} {fs : List Feat} {zs : List Zn} (h : SchemeIn w af cf az cz fs zs) (hd : Down fs) (hsf : fs.length ≤ 1000) {i : Int} (hi : i < (fs.length : Int)) :
  Calls Tryz.prog 40 #[.agg #[.slice af fs.length cf, .slice az zs.length cz], .int .i64 i] w fun e w' => ∃ v, e = .returned v ∧ IntRow w' w.heap.size v (chainOf fs fs.length i) ∧ Below w.heap.size w w' := by
 obtain ⟨n, hn⟩ : ∃ n, n = fs.length := ⟨_, rfl⟩
 obtain ⟨nz, hnz⟩ : ∃ n, n = zs.length := ⟨_, rfl⟩
 obtain ⟨wa, hwa⟩ : ∃ wa, wa = w.alloc (.cells #[.slice af n cf, .slice az nz cz] 26) := ⟨_, rfl⟩
 obtain ⟨ba, hba⟩ : ∃ b, b = w.heap.size := ⟨_, rfl⟩
 have hal : Below w.heap.size w wa := by rw [hwa]; exact (ZR _ w).alloc (Nat.le_refl _) _
 have k0 : wa.heap[ba]? = some (.cells #[.slice af n cf, .slice az nz cz] 26 (0, 0)) := by rw [hwa, hba]; exact ZW w _
 have s0 := ZI k0 0
 simp at s0
 obtain ⟨C, hC⟩ : ∃ C, C = chainOf fs fs.length i := ⟨_, rfl⟩
 rw [← hC]
 have HS := ZH (h.below hal)
 have HAL := ZH hal
 have HSC := ZH s0
 have hcap : fs.length ≤ cf ∧ cf ≤ 9223372036854775807 := ⟨h.feats.1, h.feats.2.1⟩
 obtain ⟨i0, hi0, hz0, hz1, hz2⟩ := info_parts infoInt
 have HI := ZH (ZN hi0 (ZN hz0 (ZN hz1 hz2)))
 have HD := ZH hd
 have HN := ZH hn
 rw [← hn] at hC hcap hsf hi ⊢
 rw [← hnz]
 have HW := ZH (ZN hwa hba)
 have HC := ZH hC
 clear hal hwa hba k0 hn hnz h hi0 hz0 hz1 hz2 hd hC
 go_enter Tryz.func40, Tryz.ntmps40
 go_upto_region 1 with fail
 rw [← HW.out.1, ← HW.out.2]
 clear HW
 go_wp2_with fail
 clear s0
 go_loopg [5, 1] (i + 1).toNat (fun gk v x wr => ∃ (q : Int) (acc : List Int) (f : Nat), x = .int .i64 q ∧ (q + 1).toNat = gk ∧ q < (n : Int) ∧ f ≤ n ∧ (q + 1).toNat ≤ f ∧ Hid (acc.length + f ≤ n ∧ acc ++ chainOf fs f q = C ∧ IntRow wr wa.heap.size v acc) ∧ Hid (Below wa.heap.size wa wr))
 case atStart => exact ⟨i, [], n, rfl, rfl, hi, Nat.le_refl _, by omega, ZH ⟨by simp, by rw [HC.out]; rfl, World.ownsRow_nil _ _ _ _⟩, ZH (ZR _ _)⟩
 case round =>
  obtain ⟨q, acc, f, rfl, rfl, hq, hfn, hqf, hr, hbw⟩ := hrel
  by_cases hlt : 0 ≤ q
  ·have e1 : ((0 : Int) ≤ q) = True := eq_true hlt
   obtain ⟨k, rfl⟩ : ∃ k : Nat, q = (k : Int) := ⟨q.toNat, by omega⟩
   obtain ⟨f, rfl⟩ : ∃ g, f = g + 1 := ⟨f - 1, by omega⟩
   obtain ⟨b, o, rfl, hlb, hcc⟩ := HS.out.feats.2.2 (by rw [← HN.out]; omega)
   obtain ⟨x, hx⟩ : ∃ x, x = (fs.getD k Feat.none).datum := ⟨_, rfl⟩
   have x3 := (hcc k (by rw [← HN.out]; omega)).2.2.2.1
   rw [← hx] at x3
   have hdn := HD.out k (by rw [← HN.out]; omega)
   rw [← hx] at hdn
   have hcs : chainOf fs (f + 1) (k : Int) = (k : Int) :: chainOf fs f x := by rw [hx]; show (if (0 : Int) ≤ (k : Int) then _ else _) = _; rw [if_pos hlt]; rfl
   have hr1 := hr.out.1
   have hr2 := hr.out.2.1
   rw [hcs] at hr2
   have HR := ZH (ZN hr1 (ZN hr2 hr.out.2.2))
   have HLT := ZH (ZN hdn (ZN hlt (ZN hfn hqf)))
   have hq0 : (0 : Int) ≤ (k : Int) := hlt
   have hq1 : (k : Int) < (n : Int) := hq
   have HX3 := ZH x3
   clear x3 hcc hx hdn hcs hr1 hr2 hr hfn hqf
   go_wp2_with (at_builtin; refine wpList_append_own _ rfl _ _ 89 rfl wa.heap.size 3 i0 _ 1 8 Tryz.underlying89 HI.out.1 HI.out.2.1 HI.out.2.2.1 HI.out.2.2.2 rfl (by decide) _ _ _ rfl (World.ownsRow.alloc HR.out.2.2 _) ⟨wr.heap.size, 0, none⟩ 1 1 [.int .i64 (k : Int)] rfl rfl ?c1 ?c2 ?c3 ?c4 ?c5 ?_)
   case c1 => exact World.news_of_block (ZW wr _)
   case c2 => simp [Value.oneCell']
   case c3 => have := HR.out.1; unfold maxLen; omega
   case c4 => have := HR.out.1; omega
   case c5 => have := hbw.out.size; simp; omega
   intro v2 w2 hown2 hg2 _
   have hb2 := (hbw.out.alloc (by have := hbw.out.size; omega) (.cells #[.int .i64 (k : Int)] 3)).grown hg2 (by have := hbw.out.size; simp; omega) (fun q e => (World.ownsRow.lt HR.out.2.2 q e).1)
   have s0 := ZJ hb2 HSC.out
   have x3 := ZJ hb2 HX3.out
   have HR2 := ZH (ZN (IntRow.snoc hown2) hb2)
   clear hown2 hb2 hg2
   go_wp2_with fail
   go_roundg (x + 1).toNat
   case measure => have := HLT.out.1; omega
   case rel =>
    refine ⟨x, acc ++ [(k : Int)], f, rfl, rfl, by have := HLT.out.1; omega, by have := HLT.out.2.2.1; omega, by have := HLT.out.1; have := HLT.out.2.2.2; omega, ZH ⟨?_, ?_, HR2.out.1⟩, ZH HR2.out.2⟩
    ·rw [List.length_append, List.length_singleton]
     have := HR.out.1
     omega
    ·rw [List.append_assoc]
     exact HR.out.2.1
  ·have e1 : ((0 : Int) ≤ q) = False := eq_false hlt
   have hfin : acc = C := by
    have := hr.out.2.1
    cases f with
    | zero => rw [chainOf, List.append_nil] at this; exact this
    | succ f => rw [chainOf, if_neg hlt, List.append_nil] at this; exact this
   have HF := ZH (ZN hfin hr.out.2.2)
   clear hfin hr
   go_wp2_with fail
   go_ret
   exact ⟨_, rfl, by rw [← HF.out.1]; exact World.ownsRow.mono HF.out.2 HAL.out.size, HAL.out.trans (hbw.out.mono HAL.out.size)⟩
end Go.Proofs.YtgofihilkobenaaGreatDoor
/- The document's model: feature. -/
set_option maxRecDepth 100000
namespace Go.Proofs.YtgofihilkobenaaGreatDoor
open Go.RowKit Go.Num Go.Flow Go.Dtm
set_option maxHeartbeats 8000000

theorem qfeature_any {w : World} {af : Option Addr} {cf : Nat} {az : Option Addr} {cz : Nat} {fs : List Feat} {zs : List Zn} {i : Nat} (h : SchemeIn w af cf az cz fs zs) (hi : i < fs.length) (hsm : fs.length ≤ 1000000) :
  Calls Tryz.prog 57 #[.agg #[.slice af fs.length cf, .slice az zs.length cz], .int .i64 (i : Int)] w fun e w' => e = .returned (.int .i64 (featErr fs i)) ∧ Below w.heap.size w w' := by
 obtain ⟨f, hf⟩ : ∃ f, f = fs.getD i Feat.none := ⟨_, rfl⟩
 obtain ⟨n, hn⟩ : ∃ n, n = fs.length := ⟨_, rfl⟩
 obtain ⟨nz, hnz⟩ : ∃ n, n = zs.length := ⟨_, rfl⟩
 have herr : featErr fs i = if goodName f.name = false then 11 else if (fs.take i).any (fun g => g.name.toList == f.name.toList) = true then 9 else if f.kind ≠ 1 ∧ f.kind ≠ 2 then 12 else if f.axis < 0 ∨ 2 < f.axis ∨ f.datum < -1 ∨ (i : Int) ≤ f.datum then 2 else if 0 ≤ f.datum ∧ (fs.getD f.datum.toNat Feat.none).axis ≠ f.axis then 17 else if far f.place = true ∨ far f.wide = true ∨ (f.kind = 2 ∧ f.wide < 1) then 2 else if f.kind = 1 ∧ f.wide ≠ 0 then 3 else 0 := by unfold featErr; rw [hf]
 have HERR := ZH herr
 clear herr
 obtain ⟨bo, o, rfl, hlo, hco⟩ := h.feats.2.2 (by omega)
 have HX := hco i hi
 rw [← hf] at HX
 have hcap : fs.length ≤ cf ∧ cf ≤ 9223372036854775807 := ⟨h.feats.1, h.feats.2.1⟩
 rw [← hn] at hi hsm hcap hco ⊢
 rw [← hnz]
 obtain ⟨wb, hwb⟩ : ∃ wb, wb = w.alloc (.cells #[.slice (some ⟨bo, o, none⟩) n cf, .slice az nz cz] 26) := ⟨_, rfl⟩
 obtain ⟨ba, hba⟩ : ∃ b, b = w.heap.size := ⟨_, rfl⟩
 have hlb : Below w.heap.size w wb := by rw [hwb]; exact (ZR _ w).alloc (Nat.le_refl _) _
 obtain ⟨wa, hwa⟩ : ∃ wa, wa = wb.alloc (.cells #[.string f.name, .int .i64 f.kind, .int .i64 f.axis, .int .i64 f.datum, .int .i64 f.place, .int .i64 f.wide] 28) := ⟨_, rfl⟩
 obtain ⟨bf, hbf⟩ : ∃ b, b = wb.heap.size := ⟨_, rfl⟩
 have hlab : Below wb.heap.size wb wa := by rw [hwa]; exact (ZR _ wb).alloc (Nat.le_refl _) _
 have k1 : wa.heap[bf]? = some (.cells #[.string f.name, .int .i64 f.kind, .int .i64 f.axis, .int .i64 f.datum, .int .i64 f.place, .int .i64 f.wide] 28 (0, 0)) := by rw [hwa, hbf]; exact ZW wb _
 have k0 : wb.heap[ba]? = some (.cells #[.slice (some ⟨bo, o, none⟩) n cf, .slice az nz cz] 26 (0, 0)) := by rw [hwb, hba]; exact ZW w _
 have ka := (hlab.block ba (ZL k0)).trans k0
 have hal := hlb.trans (hlab.mono hlb.size)
 have t0 := ZI k0 0
 have s0 := ZI ka 0
 have s1 := ZI ka 1
 have c0 := ZI k1 0
 have c1 := ZI k1 1
 have c2 := ZI k1 2
 have c3 := ZI k1 3
 have c4 := ZI k1 4
 have c5 := ZI k1 5
 simp at t0 s0 s1 c0 c1 c2 c3 c4 c5
 have x0 := ZJ hlb HX.1
 have x1 := ZJ hlb HX.2.1
 have x2 := ZJ hlb HX.2.2.1
 have x3 := ZJ hlb HX.2.2.2.1
 have x4 := ZJ hlb HX.2.2.2.2.1
 have x5 := ZJ hlb HX.2.2.2.2.2
 have HAL := ZH hal
 have HC := ZH (show FeatAt wa bf 0 f from ⟨c0, c1, c2, c3, c4, c5⟩)
 have HSC := ZH (ZN s0 s1)
 have HFS := ZH (h.feats.below hal)
 have HCO := ZH hco
 have HW := ZH (ZN hwb (ZN hba (ZN hwa hbf)))
 have HLN := ZH (ZN hn (ZN hsm (ZN hcap hlo)))
 have hi0 : (0 : Int) ≤ (i : Int) := by omega
 have hi1 : (i : Int) < (n : Int) := by omega
 clear h hlo hco HX hcap hf hn hnz hwb hba hwa hbf hlb hlab k0 k1 ka hal s0 s1 c0 c1 c2 c3 c4 c5
 go_enter Tryz.func57, Tryz.ntmps57
 go_upto_region 1 with fail
 rw [← HW.out.1, ← HW.out.2.1]
 go_upto_region 2 with fail
 rw [← HW.out.2.2.1, ← HW.out.2.2.2]
 clear HW x0 x1 x2 x3 x4 x5 t0
 have HB0 := ZH (ZR wa.heap.size wa)
 go_upto_region 2 with fail
 have HX1 := ZH (HB0.out)
 have hx := HB0.out
 have x0 := ZJ hx HC.out.1
 have x1 := ZJ hx HC.out.2.1
 have x2 := ZJ hx HC.out.2.2.1
 have x3 := ZJ hx HC.out.2.2.2.1
 have x4 := ZJ hx HC.out.2.2.2.2.1
 have x5 := ZJ hx HC.out.2.2.2.2.2
 have s0 := ZJ hx HSC.out.1
 have s1 := ZJ hx HSC.out.2
 simp only [Nat.zero_add] at x1 x2 x3 x4 x5
 clear hx
 go_cut [27] from 8 to 26 (fun c wx => c = .bool (decide (goodName f.name = false)) ∧ Below wa.heap.size wa wx)
 case first =>
  have HN := ZH (isName_any f.name wa)
  cases hn : isName f.name with
  | false =>
   rw [hn] at HN
   go_wp2_with fail
   refine HN.out.mono ?_
   rintro e w1 ⟨rfl, hb1⟩
   go_wp2_with fail
   go_meet
   exact ⟨congrArg Value.bool (by rw [ZT (p := goodName f.name = false) (by rw [good_of, hn]; rfl)]), hb1⟩
  | true =>
   rw [hn] at HN
   by_cases h2 : f.name.size ≤ 30
   ·have e2 : ((30 : Int) < (f.name.size : Int)) = False := eq_false (by omega)
    go_wp2_with fail
    refine HN.out.mono ?_
    rintro e w1 ⟨rfl, hb1⟩
    have x0 := ZJ hb1 x0
    have HD := ZH (contains_dot f.name w1)
    have HB1' := ZH hb1
    clear hb1
    go_wp2_with fail
    refine HD.out.mono ?_
    rintro e w2 ⟨rfl, rfl⟩
    cases hd : dotless f.name with
    | true =>
     go_wp2_with fail
     go_meet
     exact ⟨congrArg Value.bool (by rw [ZU (p := goodName f.name = false) (by rw [good_of, hn, hd, ZT h2]; simp)]), HB1'.out⟩
    | false =>
     go_wp2_with fail
     go_meet
     exact ⟨congrArg Value.bool (by rw [ZT (p := goodName f.name = false) (by rw [good_of, hd, Bool.and_false])]), HB1'.out⟩
   ·have e2 : ((30 : Int) < (f.name.size : Int)) = True := eq_true (by omega)
    go_wp2_with fail
    refine HN.out.mono ?_
    rintro e w1 ⟨rfl, hb1⟩
    have x0 := ZJ hb1 x0
    have HB1' := ZH hb1
    clear hb1
    go_wp2_with fail
    go_meet
    exact ⟨congrArg Value.bool (by rw [ZT (p := goodName f.name = false) (by rw [good_of, hn, ZU h2]; rfl)]), HB1'.out⟩
 case rest =>
  obtain ⟨rfl, hbx⟩ := hcut
  have HB1 := ZH hbx
  clear hbx
  by_cases hX : goodName f.name = false
  ·have HE := ZH (show featErr fs i = 11 by rw [HERR.out, if_pos hX])
   rw [ZT hX]
   clear hX
   go_wp2_with fail
   go_ret
   exact ⟨by rw [HE.out]; rfl, HAL.out.trans (HB1.out.mono HAL.out.size)⟩
  ·rw [ZU hX]
   have HN1 := ZH hX
   clear hX
   go_upto_region 4 with fail
   have hx := HB1.out
   have x0 := ZJ hx HC.out.1
   have x1 := ZJ hx HC.out.2.1
   have x2 := ZJ hx HC.out.2.2.1
   have x3 := ZJ hx HC.out.2.2.2.1
   have x4 := ZJ hx HC.out.2.2.2.2.1
   have x5 := ZJ hx HC.out.2.2.2.2.2
   have s0 := ZJ hx HSC.out.1
   have s1 := ZJ hx HSC.out.2
   simp only [Nat.zero_add] at x1 x2 x3 x4 x5
   clear hx
   have hq0 : (i : Int) ≤ (n : Int) := by omega
   have hq1 : (i : Int) ≤ (cf : Int) := by have := HLN.out.2.2.1.1; omega
   obtain ⟨q, hqd⟩ : ∃ q : Nat → Bool, q = fun j => (fs.getD j Feat.none).name.toList == f.name.toList := ⟨_, rfl⟩
   have HQD := ZH hqd
   clear hqd
   go_wp2_with fail
   clear x0 x1 x2 x3 x4 x5 s0 s1 hq0 hq1
   go_loopw [33] (fun x wr => ∃ m : Nat, m ≤ i ∧ x = .int .i64 m ∧ Hid (∀ j, j < m → q j = false) ∧ Hid (Below wa.heap.size wa wr)) (fun x _ => i - (intOf x).toNat)
   case atStart => exact ⟨0, Nat.zero_le _, rfl, ZH (fun j hj => absurd hj (by omega)), HB1⟩
   case round =>
    obtain ⟨m, hmi, rfl, hno, hbw⟩ := hrel
    by_cases hlt : m < i
    ·have e1 : ((m : Int) < (i : Int)) = True := eq_true (by omega)
     obtain ⟨y, hy⟩ : ∃ y, y = fs.getD m Feat.none := ⟨_, rfl⟩
     have HX := HCO.out m (by omega)
     rw [← hy] at HX
     have hB := HAL.out.trans (hbw.out.mono HAL.out.size)
     have y0 := ZJ hB HX.1
     have y1 := ZJ hB HX.2.1
     have y2 := ZJ hB HX.2.2.1
     have y3 := ZJ hB HX.2.2.2.1
     have y4 := ZJ hB HX.2.2.2.2.1
     have y5 := ZJ hB HX.2.2.2.2.2
     have hm0 : (0 : Int) ≤ (m : Int) := by omega
     have hm1 : (m : Int) < (i : Int) := by omega
     have HQM := ZH (show q m = (y.name.toList == f.name.toList) by rw [HQD.out, hy])
     clear HX hB hy
     go_upto_region 7 with fail
     obtain ⟨w1, hw1⟩ : ∃ x, x = wr.alloc (.cells #[.string y.name, .int .i64 y.kind, .int .i64 y.axis, .int .i64 y.datum, .int .i64 y.place, .int .i64 y.wide] 28) := ⟨_, rfl⟩
     obtain ⟨by', hby⟩ : ∃ b, b = wr.heap.size := ⟨_, rfl⟩
     rw [← hw1, ← hby]
     have hl1 : Below wr.heap.size wr w1 := by rw [hw1]; exact (ZR _ wr).alloc (Nat.le_refl _) _
     have ky : w1.heap[by']? = some (.cells #[.string y.name, .int .i64 y.kind, .int .i64 y.axis, .int .i64 y.datum, .int .i64 y.place, .int .i64 y.wide] 28 (0, 0)) := by rw [hw1, hby]; exact ZW wr _
     have c0 := ZI ky 0
     simp at c0
     have HB1' := ZH (hbw.out.trans (hl1.mono hbw.out.size))
     have x0 := ZJ HB1'.out HC.out.1
     clear y0 y1 y2 y3 y4 y5 hw1 hby hl1 ky
     cases hqm : (y.name.toList == f.name.toList) with
     | true =>
      have HE := ZH (show featErr fs i = 9 by
       rw [HERR.out, if_neg HN1.out, if_pos]
       rw [List.any_eq_true]
       have hlm : m < fs.length := by have := HLN.out.1; omega
       refine ⟨fs[m], ?_, ?_⟩
       ·rw [List.mem_take_iff_getElem]
        exact ⟨m, by have := HLN.out.1; omega, rfl⟩
       ·have h := HQM.out
        rw [hqm, HQD.out] at h
        simp only [List.getD_eq_getElem?_getD, List.getElem?_eq_getElem hlm, Option.getD_some] at h
        exact h)
      go_wp2_with fail
      go_ret
      exact ⟨by rw [HE.out]; rfl, HAL.out.trans (HB1'.out.mono HAL.out.size)⟩
     | false =>
      go_wp2_with fail
      refine ⟨⟨m + 1, hlt, by congr 1, ZH fun j hj => ?_, HB1'⟩, by simp [intOf]; omega⟩
      by_cases h : j < m
      ·exact hno.out j h
      ·obtain rfl : j = m := by omega
       rw [HQM.out, hqm]
    ·have e1 : ((m : Int) < (i : Int)) = False := eq_false (by omega)
     obtain rfl : m = i := by omega
     have HB2 := ZH hbw.out
     have HN2 := ZH (show ¬ ((fs.take m).any (fun g => g.name.toList == f.name.toList) = true) by
      intro h
      obtain ⟨x, hx, hq⟩ := List.any_eq_true.1 h
      obtain ⟨j, hj, rfl⟩ := List.mem_take_iff_getElem.1 hx
      have h2 := hno.out j (by omega)
      rw [HQD.out] at h2
      simp only [List.getD_eq_getElem?_getD, List.getElem?_eq_getElem (show j < fs.length by omega), Option.getD_some] at h2
      rw [h2] at hq
      cases hq)
     clear hno hbw
     go_upto_region 10 with fail
     have HX3 := ZH (HB2.out)
     have hx := HB2.out
     have x0 := ZJ hx HC.out.1
     have x1 := ZJ hx HC.out.2.1
     have x2 := ZJ hx HC.out.2.2.1
     have x3 := ZJ hx HC.out.2.2.2.1
     have x4 := ZJ hx HC.out.2.2.2.2.1
     have x5 := ZJ hx HC.out.2.2.2.2.2
     have s0 := ZJ hx HSC.out.1
     have s1 := ZJ hx HSC.out.2
     simp only [Nat.zero_add] at x1 x2 x3 x4 x5
     clear hx
     go_cut [43] from 44 to 51 (fun c wx => c = .bool (decide (f.kind ≠ 1 ∧ f.kind ≠ 2)) ∧ Below wa.heap.size wa wx)
     case first =>
      by_cases h1 : f.kind = 1
      ·have e1 : (f.kind == 1) = true := by rw [h1]; rfl
       have K1 := ZH h1
       clear h1
       go_wp2_with fail
       go_meet
       exact ⟨congrArg Value.bool (by rw [ZU (p := f.kind ≠ 1 ∧ f.kind ≠ 2) (fun h => h.1 K1.out)]), HB2.out⟩
      ·have e1 : (f.kind == 1) = false := ZQ.2 h1
       have K1 := ZH h1
       clear h1
       by_cases h2 : f.kind = 2
       ·have e2 : (f.kind == 2) = true := by rw [h2]; rfl
        have K2 := ZH h2
        clear h2
        go_wp2_with fail
        go_meet
        exact ⟨congrArg Value.bool (by rw [ZU (p := f.kind ≠ 1 ∧ f.kind ≠ 2) (fun h => h.2 K2.out)]; first | rfl | simp [K2.out]), HB2.out⟩
       ·have e2 : (f.kind == 2) = false := ZQ.2 h2
        have K2 := ZH h2
        clear h2
        go_wp2_with fail
        go_meet
        exact ⟨congrArg Value.bool (by rw [ZT (p := f.kind ≠ 1 ∧ f.kind ≠ 2) (⟨K1.out, K2.out⟩)]; first | rfl | simp [K1.out, K2.out]), HB2.out⟩
     case rest =>
      obtain ⟨rfl, hbx⟩ := hcut
      have HB3 := ZH hbx
      clear hbx
      by_cases hX : f.kind ≠ 1 ∧ f.kind ≠ 2
      ·have HE := ZH (show featErr fs m = 12 by rw [HERR.out, if_neg HN1.out, if_neg HN2.out, if_pos hX])
       rw [ZT hX]
       clear hX
       go_wp2_with fail
       go_ret
       exact ⟨by rw [HE.out]; rfl, HAL.out.trans (HB3.out.mono HAL.out.size)⟩
      ·rw [ZU hX]
       have HN3 := ZH hX
       clear hX
       go_upto_region 12 with fail
       have HX4 := ZH (HB3.out)
       have hx := HB3.out
       have x0 := ZJ hx HC.out.1
       have x1 := ZJ hx HC.out.2.1
       have x2 := ZJ hx HC.out.2.2.1
       have x3 := ZJ hx HC.out.2.2.2.1
       have x4 := ZJ hx HC.out.2.2.2.2.1
       have x5 := ZJ hx HC.out.2.2.2.2.2
       have s0 := ZJ hx HSC.out.1
       have s1 := ZJ hx HSC.out.2
       simp only [Nat.zero_add] at x1 x2 x3 x4 x5
       clear hx
       go_cut [52] from 53 to 71 (fun c wx => c = .bool (decide (f.axis < 0 ∨ 2 < f.axis ∨ f.datum < -1 ∨ (m : Int) ≤ f.datum)) ∧ Below wa.heap.size wa wx)
       case first =>
        by_cases h1 : f.axis < 0
        ·have e1 : (f.axis < 0) = True := eq_true h1
         go_wp2_with fail
         go_meet
         exact ⟨congrArg Value.bool (by rw [ZT (p := f.axis < 0 ∨ 2 < f.axis ∨ f.datum < -1 ∨ (m : Int) ≤ f.datum) (.inl h1)]), HB3.out⟩
        ·have e1 : (f.axis < 0) = False := eq_false h1
         by_cases h2 : 2 < f.axis
         ·have e2 : (2 < f.axis) = True := eq_true h2
          go_wp2_with fail
          go_meet
          exact ⟨congrArg Value.bool (by rw [ZT (p := f.axis < 0 ∨ 2 < f.axis ∨ f.datum < -1 ∨ (m : Int) ≤ f.datum) (.inr (.inl h2))]), HB3.out⟩
         ·have e2 : (2 < f.axis) = False := eq_false h2
          by_cases h3 : f.datum < -1
          ·have e3 : (f.datum < -1) = True := eq_true h3
           go_wp2_with fail
           go_meet
           exact ⟨congrArg Value.bool (by rw [ZT (p := f.axis < 0 ∨ 2 < f.axis ∨ f.datum < -1 ∨ (m : Int) ≤ f.datum) (.inr (.inr (.inl h3)))]), HB3.out⟩
          ·have e3 : (f.datum < -1) = False := eq_false h3
           by_cases h4 : (m : Int) ≤ f.datum
           ·have e4 : ((m : Int) ≤ f.datum) = True := eq_true h4
            go_wp2_with fail
            go_meet
            exact ⟨congrArg Value.bool (by rw [ZT (p := f.axis < 0 ∨ 2 < f.axis ∨ f.datum < -1 ∨ (m : Int) ≤ f.datum) (.inr (.inr (.inr h4)))]), HB3.out⟩
           ·have e4 : ((m : Int) ≤ f.datum) = False := eq_false h4
            go_wp2_with fail
            go_meet
            exact ⟨congrArg Value.bool (by rw [ZU (p := f.axis < 0 ∨ 2 < f.axis ∨ f.datum < -1 ∨ (m : Int) ≤ f.datum) (by omega)]), HB3.out⟩
       case rest =>
        obtain ⟨rfl, hbx⟩ := hcut
        have HB4 := ZH hbx
        clear hbx
        by_cases hX : f.axis < 0 ∨ 2 < f.axis ∨ f.datum < -1 ∨ (m : Int) ≤ f.datum
        ·have HE := ZH (show featErr fs m = 2 by rw [HERR.out, if_neg HN1.out, if_neg HN2.out, if_neg HN3.out, if_pos hX])
         rw [ZT hX]
         clear hX
         go_wp2_with fail
         go_ret
         exact ⟨by rw [HE.out]; rfl, HAL.out.trans (HB4.out.mono HAL.out.size)⟩
        ·rw [ZU hX]
         have HN4 := ZH hX
         clear hX
         go_upto_region 14 with fail
         have HX5 := ZH (HB4.out)
         have hx := HB4.out
         have x0 := ZJ hx HC.out.1
         have x1 := ZJ hx HC.out.2.1
         have x2 := ZJ hx HC.out.2.2.1
         have x3 := ZJ hx HC.out.2.2.2.1
         have x4 := ZJ hx HC.out.2.2.2.2.1
         have x5 := ZJ hx HC.out.2.2.2.2.2
         have s0 := ZJ hx HSC.out.1
         have s1 := ZJ hx HSC.out.2
         simp only [Nat.zero_add] at x1 x2 x3 x4 x5
         clear hx
         go_cut [72] from 73 to 87 (fun c wx => c = .bool (decide (0 ≤ f.datum ∧ (fs.getD f.datum.toNat Feat.none).axis ≠ f.axis)) ∧ Below wa.heap.size wa wx)
         case first =>
          by_cases h1 : 0 ≤ f.datum
          ·have e1 : ((0 : Int) ≤ f.datum) = True := eq_true h1
           obtain ⟨d, hd⟩ : ∃ d : Nat, d = f.datum.toNat := ⟨_, rfl⟩
           have hdi : f.datum = (d : Int) := by omega
           have hlt : d < m := by have := HN4.out; omega
           have HX := HCO.out d (by omega)
           obtain ⟨v, hv⟩ : ∃ v, v = (fs.getD d Feat.none).axis := ⟨_, rfl⟩
           have y2 := ZJ (HAL.out.trans (HB4.out.mono HAL.out.size)) HX.2.2.1
           rw [← hv] at y2
           have HV := ZH (show (fs.getD f.datum.toNat Feat.none).axis = v by rw [hv, hd])
           have HDD := ZH hdi
           have hd0 : (0 : Int) ≤ (d : Int) := by omega
           have hd1 : (d : Int) < (n : Int) := by omega
           rw [hdi] at x3
           clear HX hd hdi h1 e1 hv
           by_cases h2 : v = f.axis
           ·have e2 : (v == f.axis) = true := by rw [h2]; exact beq_self_eq_true _
            have K2 := ZH h2
            clear h2
            go_quiet (fail)
            go_wp2_with fail
            go_meet
            exact ⟨congrArg Value.bool (by rw [ZU (p := 0 ≤ f.datum ∧ (fs.getD f.datum.toNat Feat.none).axis ≠ f.axis) (fun h => h.2 (HV.out.trans K2.out))]; first | rfl | simp [K2.out]), HB4.out.trans ((below_drawn wc _).mono HB4.out.size)⟩
           ·have e2 : (v == f.axis) = false := ZQ.2 h2
            have K2 := ZH h2
            clear h2
            go_quiet (fail)
            go_wp2_with fail
            go_meet
            exact ⟨congrArg Value.bool (by rw [ZT (p := 0 ≤ f.datum ∧ (fs.getD f.datum.toNat Feat.none).axis ≠ f.axis) (⟨by have := HDD.out; omega, fun h => K2.out (HV.out.symm.trans h)⟩)]; first | rfl | simp [K2.out]), HB4.out.trans ((below_drawn wc _).mono HB4.out.size)⟩
          ·have e1 : ((0 : Int) ≤ f.datum) = False := eq_false h1
           go_quiet (fail)
           go_wp2_with fail
           go_meet
           exact ⟨congrArg Value.bool (by rw [ZU (p := 0 ≤ f.datum ∧ (fs.getD f.datum.toNat Feat.none).axis ≠ f.axis) (fun h => by omega)]), HB4.out.trans ((below_drawn wc _).mono HB4.out.size)⟩
         case rest =>
          obtain ⟨rfl, hbx⟩ := hcut
          have HB5 := ZH hbx
          clear hbx
          by_cases hX : 0 ≤ f.datum ∧ (fs.getD f.datum.toNat Feat.none).axis ≠ f.axis
          ·have HE := ZH (show featErr fs m = 17 by rw [HERR.out, if_neg HN1.out, if_neg HN2.out, if_neg HN3.out, if_neg HN4.out, if_pos hX])
           rw [ZT hX]
           clear hX
           go_wp2_with fail
           go_ret
           exact ⟨by rw [HE.out]; rfl, HAL.out.trans (HB5.out.mono HAL.out.size)⟩
          ·rw [ZU hX]
           have HN5 := ZH hX
           clear hX
           go_upto_region 16 with fail
           have HX6 := ZH (HB5.out)
           have hx := HB5.out
           have x0 := ZJ hx HC.out.1
           have x1 := ZJ hx HC.out.2.1
           have x2 := ZJ hx HC.out.2.2.1
           have x3 := ZJ hx HC.out.2.2.2.1
           have x4 := ZJ hx HC.out.2.2.2.2.1
           have x5 := ZJ hx HC.out.2.2.2.2.2
           have s0 := ZJ hx HSC.out.1
           have s1 := ZJ hx HSC.out.2
           simp only [Nat.zero_add] at x1 x2 x3 x4 x5
           clear hx
           go_cut [88] from 89 to 106 (fun c wx => c = .bool (decide (far f.place = true ∨ far f.wide = true ∨ (f.kind = 2 ∧ f.wide < 1))) ∧ Below wa.heap.size wa wx)
           case first =>
            have HP := ZH (qfar_any f.place wc)
            cases hp : far f.place with
            | true =>
             rw [hp] at HP
             go_wp2_with fail
             refine HP.out.mono ?_
             rintro e w1 ⟨rfl, hb1⟩
             have HB1' := ZH (HB5.out.trans (hb1.mono HB5.out.size))
             clear hb1
             go_wp2_with fail
             go_meet
             exact ⟨congrArg Value.bool (by rw [ZT (p := far f.place = true ∨ far f.wide = true ∨ (f.kind = 2 ∧ f.wide < 1)) (.inl hp)]), HB1'.out⟩
            | false =>
             rw [hp] at HP
             go_wp2_with fail
             refine HP.out.mono ?_
             rintro e w1 ⟨rfl, hb1⟩
             have x1 := ZJ hb1 x1
             have x5 := ZJ hb1 x5
             have HB1' := ZH (HB5.out.trans (hb1.mono HB5.out.size))
             clear hb1
             have HP2 := ZH (qfar_any f.wide w1)
             cases hp2 : far f.wide with
             | true =>
              rw [hp2] at HP2
              go_wp2_with fail
              refine HP2.out.mono ?_
              rintro e w2 ⟨rfl, hb1⟩
              have HB2' := ZH (HB1'.out.trans (hb1.mono HB1'.out.size))
              clear hb1
              go_wp2_with fail
              go_meet
              exact ⟨congrArg Value.bool (by rw [ZT (p := far f.place = true ∨ far f.wide = true ∨ (f.kind = 2 ∧ f.wide < 1)) (.inr (.inl hp2))]), HB2'.out⟩
             | false =>
              rw [hp2] at HP2
              go_wp2_with fail
              refine HP2.out.mono ?_
              rintro e w2 ⟨rfl, hb1⟩
              have x1 := ZJ hb1 x1
              have x5 := ZJ hb1 x5
              have HB2' := ZH (HB1'.out.trans (hb1.mono HB1'.out.size))
              clear hb1
              by_cases h1 : f.kind = 2
              ·have e1 : (f.kind == 2) = true := by rw [h1]; rfl
               have K1 := ZH h1
               clear h1
               by_cases h2 : f.wide < 1
               ·have e2 : (f.wide < 1) = True := eq_true h2
                go_wp2_with fail
                go_meet
                exact ⟨congrArg Value.bool (by rw [ZT (p := far f.place = true ∨ far f.wide = true ∨ (f.kind = 2 ∧ f.wide < 1)) (.inr (.inr ⟨K1.out, h2⟩))]), HB2'.out⟩
               ·have e2 : (f.wide < 1) = False := eq_false h2
                go_wp2_with fail
                go_meet
                exact ⟨congrArg Value.bool (by rw [ZU (p := far f.place = true ∨ far f.wide = true ∨ (f.kind = 2 ∧ f.wide < 1)) (by rw [hp, hp2]; exact fun h => h.elim (by simp) (fun h => h.elim (by simp) (fun h => by have := h.2; omega)))]), HB2'.out⟩
              ·have e1 : (f.kind == 2) = false := ZQ.2 h1
               go_wp2_with fail
               go_meet
               exact ⟨congrArg Value.bool (by rw [ZU (p := far f.place = true ∨ far f.wide = true ∨ (f.kind = 2 ∧ f.wide < 1)) (by rw [hp, hp2]; exact fun h => h.elim (by simp) (fun h => h.elim (by simp) (fun h => h1 h.1)))]), HB2'.out⟩
           case rest =>
            obtain ⟨rfl, hbx⟩ := hcut
            have HB6 := ZH hbx
            clear hbx
            by_cases hX : far f.place = true ∨ far f.wide = true ∨ (f.kind = 2 ∧ f.wide < 1)
            ·have HE := ZH (show featErr fs m = 2 by rw [HERR.out, if_neg HN1.out, if_neg HN2.out, if_neg HN3.out, if_neg HN4.out, if_neg HN5.out, if_pos hX])
             rw [ZT hX]
             clear hX
             go_wp2_with fail
             go_ret
             exact ⟨by rw [HE.out]; rfl, HAL.out.trans (HB6.out.mono HAL.out.size)⟩
            ·rw [ZU hX]
             have HN6 := ZH hX
             clear hX
             go_upto_region 18 with fail
             have HX7 := ZH (HB6.out)
             have hx := HB6.out
             have x0 := ZJ hx HC.out.1
             have x1 := ZJ hx HC.out.2.1
             have x2 := ZJ hx HC.out.2.2.1
             have x3 := ZJ hx HC.out.2.2.2.1
             have x4 := ZJ hx HC.out.2.2.2.2.1
             have x5 := ZJ hx HC.out.2.2.2.2.2
             have s0 := ZJ hx HSC.out.1
             have s1 := ZJ hx HSC.out.2
             simp only [Nat.zero_add] at x1 x2 x3 x4 x5
             clear hx
             go_cut [107] from 108 to 115 (fun c wx => c = .bool (decide (f.kind = 1 ∧ f.wide ≠ 0)) ∧ Below wa.heap.size wa wx)
             case first =>
              by_cases h1 : f.kind = 1
              ·have e1 : (f.kind == 1) = true := by rw [h1]; rfl
               have K1 := ZH h1
               clear h1
               by_cases h2 : f.wide = 0
               ·have e2 : (f.wide == 0) = true := by rw [h2]; rfl
                have K2 := ZH h2
                clear h2
                go_wp2_with fail
                go_meet
                exact ⟨congrArg Value.bool (by rw [ZU (p := f.kind = 1 ∧ f.wide ≠ 0) (fun h => h.2 K2.out)]; first | rfl | simp [K2.out]), HB6.out⟩
               ·have e2 : (f.wide == 0) = false := ZQ.2 h2
                have K2 := ZH h2
                clear h2
                go_wp2_with fail
                go_meet
                exact ⟨congrArg Value.bool (by rw [ZT (p := f.kind = 1 ∧ f.wide ≠ 0) (⟨K1.out, K2.out⟩)]; first | rfl | simp [K2.out]), HB6.out⟩
              ·have e1 : (f.kind == 1) = false := ZQ.2 h1
               go_wp2_with fail
               go_meet
               exact ⟨congrArg Value.bool (by rw [ZU (p := f.kind = 1 ∧ f.wide ≠ 0) (fun h => h1 h.1)]), HB6.out⟩
             case rest =>
              obtain ⟨rfl, hbx⟩ := hcut
              have HB7 := ZH hbx
              clear hbx
              by_cases hX : f.kind = 1 ∧ f.wide ≠ 0
              ·have HE := ZH (show featErr fs m = 3 by rw [HERR.out, if_neg HN1.out, if_neg HN2.out, if_neg HN3.out, if_neg HN4.out, if_neg HN5.out, if_neg HN6.out, if_pos hX])
               rw [ZT hX]
               clear hX
               go_wp2_with fail
               go_ret
               exact ⟨by rw [HE.out]; rfl, HAL.out.trans (HB7.out.mono HAL.out.size)⟩
              ·rw [ZU hX]
               have HN7 := ZH hX
               clear hX
               have HE := ZH (show featErr fs m = 0 by rw [HERR.out, if_neg HN1.out, if_neg HN2.out, if_neg HN3.out, if_neg HN4.out, if_neg HN5.out, if_neg HN6.out, if_neg HN7.out])
               go_wp2_with fail
               go_ret
               exact ⟨by rw [HE.out]; rfl, HAL.out.trans (HB7.out.mono HAL.out.size)⟩
end Go.Proofs.YtgofihilkobenaaGreatDoor
