/- Each call returns what the definitions say: the walk. -/
import Derived.Test.YtlhnjdoicolkkaaKnown
import Derived.Test.YtlhnjdoicolkkaaAgr
set_option maxRecDepth 100000
namespace Go.Dsk
theorem startAll_files : ∀ (l : Dir) (fs : List Fl) (sc : List Int), (startAll fs sc l).1.length = fs.length
  | [], _, _ => rfl
  | x :: r, fs, sc => by
    have h1 := startAll_files r (startOne (fs, sc) x).1 (startOne (fs, sc) x).2
    have h2 : (startOne (fs, sc) x).1.length = fs.length := by simp [startOne]
    have e : startAll fs sc (x :: r) = startAll (startOne (fs, sc) x).1 (startOne (fs, sc) x).2 r := rfl
    rw [e, h1, h2]
theorem append_files (m : M) (a d : Bs) : (m.append a d).2.files.length ≤ m.files.length + 1 := by
  unfold M.append
  split
  · exact Nat.le_succ _
  split
  · exact Nat.le_succ _
  split
  · exact Nat.le_succ _
  split
  · exact Nat.le_succ _
  split
  · simp only [M.added, setFile, List.length_set, counted_files]; exact Nat.le_succ _
  · simp [M.added, setFile, M.fresh, M.apply, counted_files]
theorem actOn_files (m : M) (kind : Int) (a b : Bs) (num : Int) (sc : List Int) : (m.actOn kind a b num sc).2.files.length ≤ m.files.length + 1 := by
  unfold M.actOn
  split
  · unfold M.sync
    split
    · exact Nat.le_succ _
    split
    · exact Nat.le_succ _
    split
    · rw [counted_files]; exact Nat.le_succ _
    · simp [setFile]
  split
  · unfold M.rename
    split
    · exact Nat.le_succ _
    split
    · exact Nat.le_succ _
    split
    · exact Nat.le_succ _
    · simp only [M.apply, counted_files]; exact Nat.le_succ _
  split
  · unfold M.remove
    split
    · exact Nat.le_succ _
    split
    · exact Nat.le_succ _
    · simp only [M.apply, counted_files]; exact Nat.le_succ _
  split
  · unfold M.publish
    split
    · exact Nat.le_succ _
    split
    · rw [counted_files]; exact Nat.le_succ _
    · simp only [counted_files]; exact Nat.le_succ _
  split
  · unfold M.setLimit
    split
    · exact Nat.le_succ _
    · exact Nat.le_succ _
  split
  · exact Nat.le_succ _
  split
  · unfold M.start
    split
    · exact Nat.le_succ _
    · simp only [startAll_files]; exact Nat.le_succ _
  · exact append_files m a b
end Go.Dsk
namespace Go.Proofs.Ytlhnjdoicolkkaa
open Go.RowKit Go.Dsk Go.Maps Go.WideMaps
set_option maxHeartbeats 2000000

theorem nice_dn (bd : Nat) (m : M) : Nice (Star (DiskP bd m) Nil) := Nice.star (nice_disk _ _) Nice.nil
theorem nice_mn (p : Nat) (m : M) : Nice (Star (MdlP p m) Nil) := Nice.star (nice_mdl _ _) Nice.nil
theorem duo_act {R : SP} {w0 w : World} {bd p : Nat} {md mm : M} (hR : Nice R) (h : Duo R w0 w bd md p mm) (x : ActV) (hf : x.Fits w) (hx : x.small = true) (hwt : md.wt < 1073741822) {r : Int} {m' : M} (he : md.actOn x.kind x.name.data.toList x.to.data.toList x.number x.sc = (r, m')) :
    Calls Try.prog 25 #[.pointer (some ⟨bd, 0, none⟩), x.value] w fun e w' => e = .returned (.int .i64 r) ∧ Duo R w0 w' bd m' p mm :=
  dr_act (Nice.star (nice_mdl _ _) hR) h x hf hx hwt he
theorem duo_mact {R : SP} {w0 w : World} {bd p : Nat} {md mm : M} (hR : Nice R) (h : Duo R w0 w bd md p mm) (hok : mm.Ok) (hwt : mm.wt < 1073741821) (hfl : mm.files.length < 1073741822) (x : ActV) (hf : x.Fits w0) (hx : x.small = true) {r : Int} {m' : M} (he : mm.actOn x.kind x.name.data.toList x.to.data.toList x.number x.sc = (r, m')) :
    Calls Try.prog 27 #[.pointer (some ⟨p, 0, none⟩), x.value] w fun e w' => e = .returned (.int .i64 r) ∧ Duo R w0 w' bd md p m' :=
  (mr_act (Nice.star (nice_disk _ _) hR) h.left hok hwt hfl x hf hx he).mono fun _ _ ⟨a, b⟩ => ⟨a, b.left⟩

theorem calls_small {w : World} {cap : Int} {ao : Option Addr} {c : Nat} {l : List ActV} (h0 : 0 ≤ cap) (h1 : cap ≤ 255) (hb : ActsBody w ao c l) (hf : fewB l = true) :
    Calls Try.prog 7 #[.int .u8 cap, .slice ao l.length c] w fun e w' => e = .returned (.bool true) ∧ Below w.heap.size w w' := by
  have hl : l.length ≤ 40 := by unfold fewB at hf; simp at hf; exact hf.2
  have HB := Lib.hid hb
  have HF := Lib.hid hf
  clear hb hf
  go_enter Try.func7, Try.ntmps7
  go_wp2_with fail
  refine (known_any _).mono ?_
  rintro e v0 ⟨rfl, hb0⟩
  have HB0 := Lib.hid hb0
  clear hb0
  have hfew := few_any (HB.out.below HB0.out) (by unfold maxLen; omega)
  rw [HF.out] at hfew
  go_wp2_with fail
  refine hfew.mono ?_
  rintro e w' ⟨rfl, rfl⟩
  clear hfew
  go_wp2_with fail
  refine (dr_new Nice.nil (Has.start HB0.out) (cap % 201) (by omega) (by omega)).mono ?_
  rintro e v1 ⟨bd, rfl, h⟩
  have D0 := Lib.hid (mr_new (nice_dn _ _) h (cap % 201)).left
  clear h
  go_wp2_with fail
  refine (agrees_any Nice.nil D0.out (Same.refl _) (dr_ok D0.out) (by simp [M.wt, M.new])).mono ?_
  rintro e v2 ⟨rfl, h⟩
  obtain ⟨p, hp⟩ : ∃ p, p = v1.heap.size := ⟨_, rfl⟩
  rw [← hp] at h
  have D1 := Lib.hid h
  have HPP := Lib.hid hp
  clear h hp
  rw [← HPP.out]
  clear HPP D0
  go_wp2_with fail
  go_loopw [8] (fun i wr => ∃ (k : Nat) (m : M), k ≤ l.length ∧ i = .int .i64 k ∧ m.wt ≤ k + 1 ∧ m.files.length ≤ k + 1 ∧ Duo Nil w wr bd m p m) (fun i _ => l.length - (intOf i).toNat)
  case atStart => exact ⟨0, _, Nat.zero_le _, rfl, by simp [M.wt, M.new], by simp [M.new], D1.out⟩
  case round =>
    obtain ⟨k, m, hk, rfl, hwt, hfs, hD⟩ := hrel
    have DD := Lib.hid hD
    clear hD
    by_cases hlt : k < l.length
    · obtain ⟨b, off, rfl, hbl, hcs⟩ : ∃ b off, ao = some ⟨b, off, none⟩ ∧ b < w.heap.size ∧ ∀ j, j < l.length → (l.getD j ActV.none).At w b (off + j * 5) ∧ (l.getD j ActV.none).Fits w := by
        rcases HB.out with ⟨_, _, rfl⟩ | ⟨_, _, rfl⟩ | h
        · simp at hlt
        · simp at hlt
        · exact h
      obtain ⟨hat, hft⟩ := hcs k hlt
      have hsm := fewB_at HF.out hlt
      clear hcs
      generalize l.getD k ActV.none = x at hat hft hsm
      have FT0 := Lib.hid hft
      have HAT := Lib.hid hat
      obtain ⟨s1, s2, s3, _⟩ := hsm
      have SM : x.small = true := by simp [ActV.small, s1, s2, s3]
      have HSM := Lib.hid SM
      clear hft SM s3 hat
      obtain ⟨kind, name, dst, number, ao2, cap2, sc⟩ := x
      obtain ⟨x0, x1, x2, x3, x4⟩ := HAT.out.below hbl DD.out.below
      simp only at x0 x1 x2 x3 x4 s1 s2
      have hw2 := actOn_wt (dr_ok DD.out) kind name.data.toList dst.data.toList number sc
      have hf2 := actOn_files m kind name.data.toList dst.data.toList number sc
      generalize hre : m.actOn kind name.data.toList dst.data.toList number sc = rm at hw2 hf2
      obtain ⟨r, m2⟩ := rm
      simp only at hw2 hf2
      have HRE := Lib.hid hre
      clear hre
      have hk0 : (0 : Int) ≤ (k : Int) := by omega
      have hk1 : (k : Int) < (l.length : Int) := by omega
      have t1 : (r != r) = false := by simp
      go_upto_region 10 with fail
      go_region_held3 (fun w' => w'.cell? ⟨b, off + k * 5, none⟩ = some (.int .u8 kind) ∧ w'.cell? ⟨b, off + k * 5 + 1, none⟩ = some (.string name) ∧ w'.cell? ⟨b, off + k * 5 + 2, none⟩ = some (.string dst) ∧ w'.cell? ⟨b, off + k * 5 + 3, none⟩ = some (.int .i8 number) ∧ w'.cell? ⟨b, off + k * 5 + 4, none⟩ = some (.slice ao2 sc.length cap2)) (go_keep)
        (first
          | (go_at_call 25
             refine (duo_act Nice.nil (duo_moved Nice.nil DD.out (Below.refl _ _).drew) ⟨kind, name, dst, number, ao2, cap2, sc⟩ ((FT0.out.below DD.out.below).below (Below.refl _ _).drew) HSM.out (by omega) HRE.out).mono ?_
             rintro e w3 ⟨rfl, hd3⟩
             obtain ⟨q0, q1, q2, q3, q4⟩ := HAT.out.below hbl hd3.below
             simp only at q0 q1 q2 q3 q4
             have D3 := Lib.hid hd3
             clear hd3)
          | (go_at_call 27
             refine (duo_mact Nice.nil D3.out (dr_ok DD.out) (by omega) (by omega) ⟨kind, name, dst, number, ao2, cap2, sc⟩ FT0.out HSM.out HRE.out).mono ?_
             rintro e w4 ⟨rfl, hd4⟩
             obtain ⟨z0, z1, z2, z3, z4⟩ := HAT.out.below hbl hd4.below
             simp only at z0 z1 z2 z3 z4
             have D4 := Lib.hid hd4
             clear hd4)
          | (go_at_call 26
             refine (agrees_any Nice.nil D4.out (Same.refl _) (dr_ok D4.out) (by omega)).mono ?_
             rintro e w5 ⟨rfl, hd5⟩
             obtain ⟨c0, c1, c2, c3, c4⟩ := HAT.out.below hbl hd5.below
             simp only at c0 c1 c2 c3 c4
             have D5 := Lib.hid hd5
             clear hd5))
      go_wp2_with fail
      go_roundw
      case rel => exact ⟨k + 1, m2, by omega, by go_num, by omega, by omega, D5.out⟩
      case measure => simp [intOf]; omega
    · go_wp2_with fail
      go_ret
      exact ⟨rfl, DD.out.below⟩
theorem calls_great {w : World} {cap : Int} {ao : Option Addr} {c : Nat} {l : List ActV} (hl : l.length ≤ maxLen) (hb : ActsBody w ao c l) (hf : fewB l = false) :
    Calls Try.prog 7 #[.int .u8 cap, .slice ao l.length c] w fun e w' => e = .returned (.bool true) ∧ Below w.heap.size w w' := by
  have HB := Lib.hid hb
  have HF := Lib.hid hf
  have HL := Lib.hid hl
  clear hb hf hl
  go_enter Try.func7, Try.ntmps7
  go_wp2_with fail
  refine (known_any _).mono ?_
  rintro e v0 ⟨rfl, hb0⟩
  have HB0 := Lib.hid hb0
  clear hb0
  have hfew := few_any (HB.out.below HB0.out) HL.out
  rw [HF.out] at hfew
  go_wp2_with fail
  refine hfew.mono ?_
  rintro e w' ⟨rfl, rfl⟩
  clear hfew
  go_wp2_with fail
  refine (known_any _).mono ?_
  rintro e v1 ⟨rfl, hb1⟩
  have HB1 := Lib.hid hb1
  clear hb1
  go_wp2_with fail
  go_ret
  exact ⟨rfl, HB0.out.trans (HB1.out.mono HB0.out.size)⟩
theorem said_DiskCalls (w : World) (cap : Int) (hw : (Lit.int .u8 cap).wf = true) (ao : Option Addr) (c : Nat) (l : List ActV) (hb : ActsBody w ao c l) (hl : l.length ≤ maxLen) :
    Calls Try.prog 7 #[.int .u8 cap, .slice ao l.length c] w fun e w' => e = .returned (.bool true) ∧ Below w.heap.size w w' := by
  obtain ⟨h0, h1⟩ := in_u8 hw
  cases hf : fewB l with
  | true => exact calls_small h0 h1 hb hf
  | false => exact calls_great hl hb hf
end Go.Proofs.Ytlhnjdoicolkkaa
