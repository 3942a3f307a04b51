/- A clone behaves as the disk does, and neither changes the other one: the walk. -/
import Derived.Test.YtlhnjdoicolkkaaClone
import Derived.Test.YtlhnjdoicolkkaaRuns
set_option maxRecDepth 100000
namespace Go.Proofs.Ytlhnjdoicolkkaa
open Go.RowKit Go.Dsk Go.Maps Go.WideMaps
set_option maxHeartbeats 4000000

theorem dr_clone {R : SP} {w0 w : World} {bd : Nat} {m : M} (hR : Nice R) (h : Dr R w0 w bd m) :
    Calls Try.prog 36 #[.pointer (some ⟨bd, 0, none⟩)] w fun e w' => ∃ bo m0, e = .returned (.pointer (some ⟨bo, 0, none⟩)) ∧ SimE m0 m ∧ m0.wt = m.wt ∧ Has w0 w' (Star (DiskP bo m0) (Star (DiskP bd m) R)) := by
  have hwt := dr_wt h
  refine dr_quiet h fun loc S bn bm sl bs lft hr => (Clone_rep hr hwt).mono ?_
  rintro e w' ⟨bo, m0, S', rfl, hs, hw, hS, hd, hb⟩
  exact ⟨bo, m0, rfl, hs, hw, h.new (Nice.star (nice_disk _ _) hR) hb hS ⟨hd, by omega⟩⟩
theorem nice_all {bd bc p : Nat} {md mc mm : M} {v : Value} {xs : List Int} : Nice (DiskP bd md) ∧ Nice (DiskP bc mc) ∧ Nice (MdlP p mm) ∧ Nice (NumP v xs) := ⟨nice_disk _ _, nice_disk _ _, nice_mdl _ _, nice_num _ _⟩

theorem clones_small {w : World} {ao : Option Addr} {c : Nat} {l : List ActV} {ao' : Option Addr} {c' : Nat} {more : List ActV} (hb : ActsBody w ao c l) (hb' : ActsBody w ao' c' more) (hf : fewB l = true) (hf' : fewB more = true) (hl : l.length ≤ 20) (hl' : more.length ≤ 20) :
    Calls Try.prog 9 #[.slice ao l.length c, .slice ao' more.length c'] w fun e w' => e = .returned (.bool true) ∧ Below w.heap.size w w' := by
  have HB := Lib.hid hb
  have HF := Lib.hid hf
  have HB' := Lib.hid hb'
  have HF' := Lib.hid hf'
  clear hb hf hb' hf'
  have i1 : ((20 : Int) < (l.length : Int)) = False := by simp; omega
  have i2 : ((20 : Int) < (more.length : Int)) = False := by simp; omega
  go_enter Try.func9, Try.ntmps9
  go_wp2_with fail
  refine (known_any _).mono ?_
  rintro e v0 ⟨rfl, hb0⟩
  have HB0 := Lib.hid hb0
  clear hb0
  have hfew := few_any (HB.out.below HB0.out) (by unfold maxLen; omega)
  rw [HF.out] at hfew
  go_wp2_with fail
  refine hfew.mono ?_
  rintro e w' ⟨rfl, rfl⟩
  clear hfew
  have hfew := few_any (HB'.out.below HB0.out) (by unfold maxLen; omega)
  rw [HF'.out] at hfew
  go_wp2_with fail
  refine hfew.mono ?_
  rintro e w' ⟨rfl, rfl⟩
  clear hfew
  go_wp2_with fail
  refine (dr_new Nice.nil (Has.start HB0.out) 100 (by omega) (by omega)).mono ?_
  rintro e v1 ⟨bd, rfl, h⟩
  have h2 := (mr_new (nice_dn _ _) h 100).left
  obtain ⟨p, hp⟩ : ∃ p, p = v1.heap.size := ⟨_, rfl⟩
  rw [← hp] at h2
  have D0 := Lib.hid h2
  have HPP := Lib.hid hp
  clear h h2 hp
  go_wp2_with fail
  rw [← HPP.out]
  clear HPP
  go_loopw [8] (fun i wr => ∃ (k : Nat) (m : M), k ≤ l.length ∧ i = .int .i64 k ∧ m.wt ≤ k + 1 ∧ m.files.length ≤ k + 1 ∧ Duo Nil w wr bd m p m) (fun i _ => l.length - (intOf i).toNat)
  case atStart => exact ⟨0, _, Nat.zero_le _, rfl, by simp [M.wt, M.new], by simp [M.new], D0.out⟩
  case round =>
    obtain ⟨k, m, hk, rfl, hwt, hfs, hD⟩ := hrel
    have DD := Lib.hid hD
    clear hD D0
    by_cases hlt : k < l.length
    · obtain ⟨b, off, rfl, hbl, hcs⟩ : ∃ b off, ao = some ⟨b, off, none⟩ ∧ b < w.heap.size ∧ ∀ j, j < l.length → (l.getD j ActV.none).At w b (off + j * 5) ∧ (l.getD j ActV.none).Fits w := by
        rcases HB.out with ⟨_, _, rfl⟩ | ⟨_, _, rfl⟩ | h
        · simp at hlt
        · simp at hlt
        · exact h
      obtain ⟨hat, hft⟩ := hcs k hlt
      have hsm := fewB_at HF.out hlt
      clear hcs
      generalize l.getD k ActV.none = x at hat hft hsm
      have FT0 := Lib.hid hft
      have HAT := Lib.hid hat
      obtain ⟨s1, s2, s3, _⟩ := hsm
      have SM : x.small = true := by simp [ActV.small, s1, s2, s3]
      have HSM := Lib.hid SM
      clear hft SM s3 hat
      obtain ⟨kind, name, dst, number, ao2, cap2, sc⟩ := x
      obtain ⟨x0, x1, x2, x3, x4⟩ := HAT.out.below hbl DD.out.below
      simp only at x0 x1 x2 x3 x4 s1 s2
      have hw2 := actOn_wt (dr_ok DD.out) kind name.data.toList dst.data.toList number sc
      have hf2 := actOn_files m kind name.data.toList dst.data.toList number sc
      generalize hre : m.actOn kind name.data.toList dst.data.toList number sc = rm at hw2 hf2
      obtain ⟨r, m2⟩ := rm
      simp only at hw2 hf2
      have HRE := Lib.hid hre
      clear hre
      have hk0 : (0 : Int) ≤ (k : Int) := by omega
      have hk1 : (k : Int) < (l.length : Int) := by omega
      go_wp2_with fail
      refine (duo_act Nice.nil DD.out ⟨kind, name, dst, number, ao2, cap2, sc⟩ (FT0.out.below DD.out.below) HSM.out (by omega) HRE.out).mono ?_
      rintro e w3 ⟨rfl, hd3⟩
      obtain ⟨q0, q1, q2, q3, q4⟩ := HAT.out.below hbl hd3.below
      simp only at q0 q1 q2 q3 q4
      have D3 := Lib.hid hd3
      clear hd3
      go_wp2_with fail
      refine (duo_mact Nice.nil D3.out (dr_ok DD.out) (by omega) (by omega) ⟨kind, name, dst, number, ao2, cap2, sc⟩ FT0.out HSM.out HRE.out).mono ?_
      rintro e w4 ⟨rfl, hd4⟩
      have D4 := Lib.hid hd4
      clear hd4
      go_wp2_with fail
      go_roundw
      case rel => exact ⟨k + 1, m2, by omega, by go_num, by omega, by omega, D4.out⟩
      case measure => simp [intOf]; omega
    · have hkl : (k : Int) = (l.length : Int) := by omega
      obtain rfl : k = l.length := by omega
      clear hlt hkl
      go_wp2_with fail
      refine (dr_clone (Nice.star (nice_mdl _ _) Nice.nil) DD.out).mono ?_
      rintro e w2 ⟨bc, m0, rfl, hsim, hw0, h2⟩
      have D2 := Lib.hid (h2.perm (l := [DiskP bc m0, DiskP bd m, MdlP p m]) (l' := [DiskP bc m0, MdlP p m, DiskP bd m]) (List.Perm.cons _ (List.Perm.swap _ _ _)))
      have SIM := Lib.hid hsim
      clear h2 hsim
      go_wp2_with fail
      refine (agrees_any (R := Stars [DiskP bd m]) (Nice.star (nice_disk _ _) Nice.nil) D2.out (sim_same SIM.out (dr_ok D2.out)) (dr_ok DD.out) (by omega)).mono ?_
      rintro e w3 ⟨rfl, h3⟩
      have D3 := Lib.hid (num_new (nice_stars (l := [DiskP bc m0, MdlP p m, DiskP bd m]) (by simp [nice_disk, nice_mdl])) h3)
      clear h3 DD D2
      go_wp2_with fail
      have hwc : m0.wt ≤ 21 := by omega
      have hwt' : m.wt ≤ 21 := by omega
      have hfs' : m.files.length ≤ 21 := by omega
      clear hwt hfs hw0
      go_loopw [10, 11] (fun vv i wr => ∃ (k : Nat) (v : Value), v = vv ∧ k ≤ more.length ∧ i = .int .i64 k ∧ SimE (upto m0 more k) (upto m more k) ∧ (upto m0 more k).wt ≤ 21 + k ∧ (∀ j, j < k → (actV (upto m more j) (more.getD j ActV.none)).1 = (actV (upto m0 more j) (more.getD j ActV.none)).1) ∧ Has w wr (Stars [NumP v (errs m0 more k), DiskP bc (upto m0 more k), MdlP p m, DiskP bd m])) (fun _ i _ => more.length - (intOf i).toNat)
      case atStart => exact ⟨0, _, rfl, Nat.zero_le _, rfl, SIM.out, hwc, fun j hj => absurd hj (Nat.not_lt_zero _), D3.out⟩
      case round =>
        obtain ⟨k, v, rfl, hk, rfl, hsm, hwk, hes, hD⟩ := hrel
        have D4 := Lib.hid hD
        have SM2 := Lib.hid hsm
        have HES := Lib.hid hes
        clear hD hsm hes D3 SIM
        by_cases hlt : k < more.length
        · obtain ⟨b, off, rfl, hbl, hcs⟩ : ∃ b off, ao' = some ⟨b, off, none⟩ ∧ b < w.heap.size ∧ ∀ j, j < more.length → (more.getD j ActV.none).At w b (off + j * 5) ∧ (more.getD j ActV.none).Fits w := by
            rcases HB'.out with ⟨_, _, rfl⟩ | ⟨_, _, rfl⟩ | h
            · simp at hlt
            · simp at hlt
            · exact h
          obtain ⟨hat, hft⟩ := hcs k hlt
          have hsm := fewB_at HF'.out hlt
          have hsu := sim_upto hlt SM2.out (dr_ok D4.out.left)
          have hu := upto_succ (m := m0) hlt
          have he : errs m0 more (k + 1) = errs m0 more k ++ [(actV (upto m0 more k) (more.getD k ActV.none)).1] := rfl
          have hel := errs_length m0 more k
          have hnext : SimE (upto m0 more (k + 1)) (upto m more (k + 1)) ∧ (∀ j, j < k + 1 → (actV (upto m more j) (more.getD j ActV.none)).1 = (actV (upto m0 more j) (more.getD j ActV.none)).1) := by
            refine ⟨hsu.2, fun j hj => ?_⟩
            by_cases e : j = k
            · subst e; exact hsu.1
            · exact HES.out j (by omega)
          have HN := Lib.hid hnext
          clear hcs hsu hnext
          obtain ⟨x, hx⟩ : ∃ x, x = more.getD k ActV.none := ⟨_, rfl⟩
          rw [← hx] at hat hft hsm hu he
          obtain ⟨mk, hmk⟩ : ∃ mk, mk = upto m0 more k := ⟨_, rfl⟩
          obtain ⟨xs, hxs⟩ : ∃ xs, xs = errs m0 more k := ⟨_, rfl⟩
          rw [← hmk] at hu he hwk D4
          rw [← hxs] at he hel D4
          have FT0 := Lib.hid hft
          have HAT := Lib.hid hat
          obtain ⟨s1, s2, s3, _⟩ := hsm
          have SM : x.small = true := by simp [ActV.small, s1, s2, s3]
          have HSM := Lib.hid SM
          clear hft SM s3 hat hx hmk hxs
          obtain ⟨kind, name, dst, number, ao2, cap2, sc⟩ := x
          obtain ⟨x0, x1, x2, x3, x4⟩ := HAT.out.below hbl D4.out.below
          simp only at x0 x1 x2 x3 x4 s1 s2
          have hw2 := actOn_wt (dr_ok D4.out.left) kind name.data.toList dst.data.toList number sc
          generalize hre : mk.actOn kind name.data.toList dst.data.toList number sc = rm at hw2
          obtain ⟨r, m2⟩ := rm
          simp only at hw2
          have hu2 : upto m0 more (k + 1) = m2 := hu.trans (congrArg Prod.snd hre)
          have he2 : errs m0 more (k + 1) = xs ++ [r] := he.trans (congrArg (fun z => xs ++ [z]) (congrArg Prod.fst hre))
          have HU := Lib.hid (And.intro hu2 he2)
          have HRE := Lib.hid hre
          obtain ⟨i0, hi, hz0, hz1, hz2⟩ := info_parts infoErr
          have HINF := Lib.hid (And.intro hi (And.intro hz0 (And.intro hz1 hz2)))
          clear hre hu he hu2 he2 hi hz0 hz1 hz2
          have hk0 : (0 : Int) ≤ (k : Int) := by omega
          have hk1 : (k : Int) < (more.length : Int) := by omega
          go_wp2_with fail
          refine (dr_act (R := Stars [NumP v xs, MdlP p m, DiskP bd m]) (nice_stars (by simp [nice_num, nice_mdl, nice_disk])) D4.out.left ⟨kind, name, dst, number, ao2, cap2, sc⟩ (FT0.out.below D4.out.below) HSM.out (by omega) HRE.out).mono ?_
          rintro e w5 ⟨rfl, hd5⟩
          have D5 := Lib.hid hd5.left
          clear hd5
          go_wp2_with (at_builtin; refine wpList_append_lies _ rfl _ _ 65 rfl 0 26 i0 _ 1 8 Try.underlying65 HINF.out.1 HINF.out.2.1 HINF.out.2.2.1 HINF.out.2.2.2 rfl (by decide) _ _ _ rfl ((num_row D5.out).alloc _) ⟨w5.heap.size, 0, none⟩ 1 1 [.int .i64 r] rfl rfl ?c1 ?c2 (by decide) ?c3 ?c4 ?c5 _ rfl ?_)
          case c1 => exact World.news_of_block (heap_alloc_new w5 _)
          case c2 => simp [Value.oneCell']
          case c3 => unfold maxLen; omega
          case c4 => omega
          case c5 => simp
          intro g cap w6 hown hgrow hat6 hlt6
          have hN : Nice (Stars [DiskP bc m2, MdlP p m, DiskP bd m]) := nice_stars (by simp [nice_mdl, nice_disk])
          rw [← hel] at hown
          have h6 := num_grown hN (D5.out.moved (Nice.star (nice_num _ _) hN) ((Below.refl _ _).alloc (Nat.le_refl _) _)) hown hgrow (hat6.imp id (fun e => e.trans (by simp)))
          rw [hel] at h6
          have D6 := Lib.hid h6
          clear h6 hown hgrow hat6 hlt6
          go_wp2_with fail
          go_roundw
          case rel => exact ⟨k + 1, _, rfl, by omega, by go_num, HN.out.1, by rw [HU.out.1]; omega, HN.out.2, by rw [HU.out.1, HU.out.2]; exact D6.out⟩
          case measure => simp [intOf]; omega
        · obtain rfl : k = more.length := by omega
          obtain ⟨mc, hmc⟩ : ∃ mc, mc = upto m0 more more.length := ⟨_, rfl⟩
          obtain ⟨xs, hxs⟩ : ∃ xs, xs = errs m0 more more.length := ⟨_, rfl⟩
          rw [← hmc] at hwk SM2 D4
          rw [← hxs] at D4
          have hxe : ∀ j, j < more.length → xs.getD j 0 = (actV (upto m more j) (more.getD j ActV.none)).1 := fun j hj => by
            rw [hxs, errs_get _ _ hj]
            exact (HES.out j hj).symm
          have HXE := Lib.hid hxe
          have hxl : xs.length = more.length := by rw [hxs]; exact errs_length _ _ _
          clear hxe HES hmc hxs hlt
          go_wp2_with fail
          refine (agrees_any (R := Stars [NumP v xs, DiskP bc mc]) (nice_stars (by simp [nice_num, nice_disk])) (D4.out.perm (perm_a _ _ _ _)) (Same.refl _) (dr_ok (D4.out.perm (perm_a _ _ _ _))) (by omega)).mono ?_
          rintro e w5 ⟨rfl, h5⟩
          have D5 := Lib.hid h5
          clear h5 D4
          go_wp2_with fail
          go_loopw [12] (fun i wr => ∃ k : Nat, k ≤ more.length ∧ i = .int .i64 k ∧ (upto m more k).wt ≤ 21 + k ∧ (upto m more k).files.length ≤ 21 + k ∧ Duo (Stars [NumP v xs, DiskP bc mc]) w wr bd (upto m more k) p (upto m more k)) (fun i _ => more.length - (intOf i).toNat)
          case atStart => exact ⟨0, Nat.zero_le _, rfl, hwt', hfs', D5.out⟩
          case round =>
            obtain ⟨k, hk, rfl, hwk2, hfk, hD⟩ := hrel
            have D6 := Lib.hid hD
            clear hD D5
            by_cases hlt : k < more.length
            · obtain ⟨b, off, rfl, hbl, hcs⟩ : ∃ b off, ao' = some ⟨b, off, none⟩ ∧ b < w.heap.size ∧ ∀ j, j < more.length → (more.getD j ActV.none).At w b (off + j * 5) ∧ (more.getD j ActV.none).Fits w := by
                rcases HB'.out with ⟨_, _, rfl⟩ | ⟨_, _, rfl⟩ | h
                · simp at hlt
                · simp at hlt
                · exact h
              obtain ⟨hat, hft⟩ := hcs k hlt
              have hsm := fewB_at HF'.out hlt
              have hu := upto_succ (m := m) hlt
              have hxk := HXE.out k hlt
              clear hcs
              obtain ⟨x, hx⟩ : ∃ x, x = more.getD k ActV.none := ⟨_, rfl⟩
              rw [← hx] at hat hft hsm hu hxk
              obtain ⟨mk, hmk⟩ : ∃ mk, mk = upto m more k := ⟨_, rfl⟩
              rw [← hmk] at hu hwk2 hfk hxk D6
              have FT0 := Lib.hid hft
              have HAT := Lib.hid hat
              obtain ⟨s1, s2, s3, _⟩ := hsm
              have SM : x.small = true := by simp [ActV.small, s1, s2, s3]
              have HSM := Lib.hid SM
              clear hft SM s3 hat hx hmk
              obtain ⟨kind, name, dst, number, ao2, cap2, sc⟩ := x
              obtain ⟨x0, x1, x2, x3, x4⟩ := HAT.out.below hbl D6.out.below
              simp only at x0 x1 x2 x3 x4 s1 s2
              have hw2 := actOn_wt (dr_ok D6.out) kind name.data.toList dst.data.toList number sc
              have hf2 := actOn_files mk kind name.data.toList dst.data.toList number sc
              generalize hre : mk.actOn kind name.data.toList dst.data.toList number sc = rm at hw2 hf2
              obtain ⟨r, m2⟩ := rm
              simp only at hw2 hf2
              have hu2 : upto m more (k + 1) = m2 := hu.trans (congrArg Prod.snd hre)
              have hxr : xs.getD k 0 = r := hxk.trans (congrArg Prod.fst hre)
              have HU := Lib.hid hu2
              have HRE := Lib.hid hre
              obtain ⟨g, cpv, hve, hcv1, hcv2, hgl, hgc⟩ := num_at (D6.out.perm (perm_b _ _ _ _)) (k := k) (by omega)
              rw [hxl] at hve hcv1
              subst hve
              have hnum : ∀ {wx : World} {ma mb : M}, Duo (Stars [NumP (.slice (some ⟨g, 0, none⟩) more.length cpv) xs, DiskP bc mc]) w wx bd ma p mb → wx.cell? ⟨g, k, none⟩ = some (.int .i64 r) := fun h => by
                obtain ⟨g2, _, e, _, _, _, hc⟩ := num_at (h.perm (perm_b _ _ _ _)) (k := k) (by omega)
                simp only [Value.slice.injEq, Option.some.injEq, Addr.mk.injEq] at e
                obtain ⟨⟨rfl, _⟩, _⟩ := e
                rw [hc, hxr]
              have HNUM := @hnum
              clear hre hu hu2 hxr hxk hgc
              have hk0 : (0 : Int) ≤ (k : Int) := by omega
              have hk1 : (k : Int) < (more.length : Int) := by omega
              have t1 : (r != r) = false := by simp
              go_wp2_with fail
              refine (duo_mact (nice_stars (by simp [nice_num, nice_disk])) D6.out (dr_ok D6.out) (by omega) (by omega) ⟨kind, name, dst, number, ao2, cap2, sc⟩ FT0.out HSM.out HRE.out).mono ?_
              rintro e w7 ⟨rfl, hd7⟩
              obtain ⟨q0, q1, q2, q3, q4⟩ := HAT.out.below hbl hd7.below
              simp only at q0 q1 q2 q3 q4
              have q5 := HNUM hd7
              have D7 := Lib.hid hd7
              clear hd7
              go_wp2_with fail
              refine (duo_act (nice_stars (by simp [nice_num, nice_disk])) D7.out ⟨kind, name, dst, number, ao2, cap2, sc⟩ (FT0.out.below D7.out.below) HSM.out (by omega) HRE.out).mono ?_
              rintro e w8 ⟨rfl, hd8⟩
              have z5 := HNUM hd8
              have D8 := Lib.hid hd8
              clear hd8
              go_wp2_with fail
              go_roundw
              case rel => exact ⟨k + 1, by omega, by go_num, by rw [HU.out]; omega, by rw [HU.out]; omega, by rw [HU.out]; exact D8.out⟩
              case measure => simp [intOf]; omega
            · obtain rfl : k = more.length := by omega
              go_wp2_with fail
              refine (agrees_any (nice_stars (by simp [nice_num, nice_disk])) D6.out (Same.refl _) (dr_ok D6.out) (by omega)).mono ?_
              rintro e w7 ⟨rfl, h7⟩
              have D7 := Lib.hid (h7.perm (l := [DiskP bd (upto m more more.length), MdlP p (upto m more more.length), NumP v xs, DiskP bc mc]) (perm_c _ _ _ _))
              clear h7
              go_wp2_with fail
              refine (agrees_any (R := Stars [NumP v xs, DiskP bd (upto m more more.length)]) (nice_stars (by simp [nice_num, nice_disk])) D7.out (sim_same SM2.out (dr_ok D7.out)) (dr_ok D6.out) (by omega)).mono ?_
              rintro e w8 ⟨rfl, h8⟩
              have HB8 := Lib.hid h8.below
              clear h8
              go_wp2_with fail
              go_ret
              exact ⟨rfl, HB8.out⟩

theorem clones_great {w : World} {ao : Option Addr} {c : Nat} {l : List ActV} {ao' : Option Addr} {c' : Nat} {more : List ActV} (hb : ActsBody w ao c l) (hb' : ActsBody w ao' c' more) (hl : l.length ≤ maxLen) (hl' : more.length ≤ maxLen) (hq : ¬ (fewB l = true ∧ fewB more = true ∧ l.length ≤ 20 ∧ more.length ≤ 20)) :
    Calls Try.prog 9 #[.slice ao l.length c, .slice ao' more.length c'] w fun e w' => e = .returned (.bool true) ∧ Below w.heap.size w w' := by
  have HB := Lib.hid hb
  have HB' := Lib.hid hb'
  have HL := Lib.hid hl
  have HL' := Lib.hid hl'
  clear hb hb' hl hl'
  cases hf : fewB l with
  | false =>
    clear hq
    go_enter Try.func9, Try.ntmps9
    go_wp2_with fail
    refine (known_any _).mono ?_
    rintro e v0 ⟨rfl, hb0⟩
    have HB0 := Lib.hid hb0
    clear hb0
    have hfew := few_any (HB.out.below HB0.out) HL.out
    rw [hf] at hfew
    go_wp2_with fail
    refine hfew.mono ?_
    rintro e w' ⟨rfl, rfl⟩
    clear hfew
    go_wp2_with fail
    refine (known_any _).mono ?_
    rintro e v1 ⟨rfl, hb1⟩
    have HB1 := Lib.hid hb1
    clear hb1
    go_wp2_with fail
    go_ret
    exact ⟨rfl, HB0.out.trans (HB1.out.mono HB0.out.size)⟩
  | true =>
    cases hf' : fewB more with
    | false =>
      clear hq
      go_enter Try.func9, Try.ntmps9
      go_wp2_with fail
      refine (known_any _).mono ?_
      rintro e v0 ⟨rfl, hb0⟩
      have HB0 := Lib.hid hb0
      clear hb0
      have hfew := few_any (HB.out.below HB0.out) HL.out
      rw [hf] at hfew
      go_wp2_with fail
      refine hfew.mono ?_
      rintro e w' ⟨rfl, rfl⟩
      clear hfew
      have hfew := few_any (HB'.out.below HB0.out) HL'.out
      rw [hf'] at hfew
      go_wp2_with fail
      refine hfew.mono ?_
      rintro e w' ⟨rfl, rfl⟩
      clear hfew
      go_wp2_with fail
      refine (known_any _).mono ?_
      rintro e v1 ⟨rfl, hb1⟩
      have HB1 := Lib.hid hb1
      clear hb1
      go_wp2_with fail
      go_ret
      exact ⟨rfl, HB0.out.trans (HB1.out.mono HB0.out.size)⟩
    | true =>
      have hq2 : (20 < l.length) ∨ (l.length ≤ 20 ∧ 20 < more.length) := by
        simp only [hf, hf', true_and] at hq
        omega
      clear hq
      rcases hq2 with h1 | ⟨h1, h2⟩
      · have i1 : ((20 : Int) < (l.length : Int)) = True := by simp; omega
        go_enter Try.func9, Try.ntmps9
        go_wp2_with fail
        refine (known_any _).mono ?_
        rintro e v0 ⟨rfl, hb0⟩
        have HB0 := Lib.hid hb0
        clear hb0
        have hfew := few_any (HB.out.below HB0.out) HL.out
        rw [hf] at hfew
        go_wp2_with fail
        refine hfew.mono ?_
        rintro e w' ⟨rfl, rfl⟩
        clear hfew
        have hfew := few_any (HB'.out.below HB0.out) HL'.out
        rw [hf'] at hfew
        go_wp2_with fail
        refine hfew.mono ?_
        rintro e w' ⟨rfl, rfl⟩
        clear hfew
        go_wp2_with fail
        refine (known_any _).mono ?_
        rintro e v1 ⟨rfl, hb1⟩
        have HB1 := Lib.hid hb1
        clear hb1
        go_wp2_with fail
        go_ret
        exact ⟨rfl, HB0.out.trans (HB1.out.mono HB0.out.size)⟩
      · have i1 : ((20 : Int) < (l.length : Int)) = False := by simp; omega
        have i2 : ((20 : Int) < (more.length : Int)) = True := by simp; omega
        go_enter Try.func9, Try.ntmps9
        go_wp2_with fail
        refine (known_any _).mono ?_
        rintro e v0 ⟨rfl, hb0⟩
        have HB0 := Lib.hid hb0
        clear hb0
        have hfew := few_any (HB.out.below HB0.out) HL.out
        rw [hf] at hfew
        go_wp2_with fail
        refine hfew.mono ?_
        rintro e w' ⟨rfl, rfl⟩
        clear hfew
        have hfew := few_any (HB'.out.below HB0.out) HL'.out
        rw [hf'] at hfew
        go_wp2_with fail
        refine hfew.mono ?_
        rintro e w' ⟨rfl, rfl⟩
        clear hfew
        go_wp2_with fail
        refine (known_any _).mono ?_
        rintro e v1 ⟨rfl, hb1⟩
        have HB1 := Lib.hid hb1
        clear hb1
        go_wp2_with fail
        go_ret
        exact ⟨rfl, HB0.out.trans (HB1.out.mono HB0.out.size)⟩
theorem said_DiskClones (w : World) (ao : Option Addr) (c : Nat) (l : List ActV) (hb : ActsBody w ao c l) (hl : l.length ≤ maxLen) (ao' : Option Addr) (c' : Nat) (more : List ActV) (hb' : ActsBody w ao' c' more) (hl' : more.length ≤ maxLen) :
    Calls Try.prog 9 #[.slice ao l.length c, .slice ao' more.length c'] w fun e w' => e = .returned (.bool true) ∧ Below w.heap.size w w' := by
  by_cases hq : fewB l = true ∧ fewB more = true ∧ l.length ≤ 20 ∧ more.length ≤ 20
  · exact clones_small hb hb' hq.1 hq.2.1 hq.2.2.1 hq.2.2.2
  · exact clones_great hb hb' hl hl' hq
end Go.Proofs.Ytlhnjdoicolkkaa
