/- The example of the chapter: what the plain definitions say of it. -/
import Derived.Test.YtgofihilkobenaaGreatDoorDConsM
import Derived.Laws.StructEq
set_option maxRecDepth 100000
namespace Go.Proofs.YtgofihilkobenaaGreatDoor
open Go.RowKit Go.Num Go.Flow Go.Dtm
set_option maxHeartbeats 4000000

def exF : List Feat := [⟨⟨#[97]⟩, 1, 0, -1, 0, 0⟩, ⟨⟨#[104]⟩, 2, 0, 0, 10000, 2000⟩]
def exZ : List Zn := [⟨2, 1, 0, 20, false⟩, ⟨1, 1, -50, 50, true⟩]
theorem ex_check : check exF exZ = 0 := by kernel_rfl
theorem ex_dims : (dimsTo exF exZ).map (fun d => (d.name.data, d.nominal, d.lower, d.upper)) = [(#[97], 0, 0, 0), (#[104], 10000, -70, 70), (#[104, 46, 115, 105, 122, 101], 2000, 0, 20)] := by kernel_rfl
theorem ex_cons : (consTo exF exZ 2).map (fun c => c.const) = [[45, 56, 48, 53, 48], [49, 49, 57, 53, 48]] := by kernel_rfl
def exV1 : List ByteArray := [⟨#[48]⟩, ⟨#[49, 48, 48, 54, 48]⟩, ⟨#[50, 48, 49, 48]⟩]
def exV2 : List ByteArray := [⟨#[48]⟩, ⟨#[49, 48, 48, 54, 49]⟩, ⟨#[50, 48, 49, 48]⟩]
theorem ex_err1 : holdsErr exF exZ exV1 = 0 := by kernel_rfl
theorem ex_err2 : holdsErr exF exZ exV2 = 0 := by kernel_rfl
theorem ex_holds1 : holdsAns exF exZ exV1 = (true, 0) := by kernel_rfl
theorem ex_holds2 : holdsAns exF exZ exV2 = (false, 1) := by kernel_rfl
end Go.Proofs.YtgofihilkobenaaGreatDoor
/- Equality of dimensions, terms and keys. -/
set_option maxRecDepth 100000
namespace Go.Proofs.YtgofihilkobenaaGreatDoor
open Go.RowKit Go.Num Go.Flow Go.Dtm
set_option maxHeartbeats 4000000

theorem dim_struct : Tryz.prog.underlying 60 = some (.struct (Tryz.prog.fieldsOf 60)) := by kernel_rfl
theorem dim_stood : Tryz.prog.stoodInHeld 60 = false := by kernel_rfl
theorem dim_guard : Tryz.prog.eqGuardType Tryz.prog.depth 60 = false := by kernel_rfl
def dmEq (a b : Dm) : Bool := (a.name.toList == b.name.toList) && ((a.nominal == b.nominal) && ((a.lower == b.lower) && (a.upper == b.upper)))
def dmV (a : Dm) : Value := .agg #[.string a.name, .int .i64 a.nominal, .int .i64 a.lower, .int .i64 a.upper]
theorem eq_dim (a b : Dm) (w : World) : (binOp .eql 60 (.agg #[.string a.name, .int .i64 a.nominal, .int .i64 a.lower, .int .i64 a.upper]) (.agg #[.string b.name, .int .i64 b.nominal, .int .i64 b.lower, .int .i64 b.upper])).run Tryz.prog w = .ok (.bool (dmEq a b)) w := by
 rw [run_eql_struct, run_equalIn_agg w 9999 60 _ _ dim_struct dim_stood]
 unfold Program.fieldsOf dmEq
 rw [Tryz.underlying60]
 cases h0 : a.name.toList == b.name.toList <;> cases h1 : a.nominal == b.nominal <;> cases h2 : a.lower == b.lower <;> cases h3 : a.upper == b.upper <;> simp_all [go_sem, Tryz.underlying3, Tryz.underlying9]
theorem neq_dim (a b : Dm) (w : World) : (binOp .neq 60 (.agg #[.string a.name, .int .i64 a.nominal, .int .i64 a.lower, .int .i64 a.upper]) (.agg #[.string b.name, .int .i64 b.nominal, .int .i64 b.lower, .int .i64 b.upper])).run Tryz.prog w = .ok (.bool (!dmEq a b)) w := by
 rw [run_neq_struct, run_equalIn_agg w 9999 60 _ _ dim_struct dim_stood]
 unfold Program.fieldsOf dmEq
 rw [Tryz.underlying60]
 cases h0 : a.name.toList == b.name.toList <;> cases h1 : a.nominal == b.nominal <;> cases h2 : a.lower == b.lower <;> cases h3 : a.upper == b.upper <;> simp_all [go_sem, Tryz.underlying3, Tryz.underlying9]
theorem term_struct : Tryz.prog.underlying 146 = some (.struct (Tryz.prog.fieldsOf 146)) := by kernel_rfl
theorem term_stood : Tryz.prog.stoodInHeld 146 = false := by kernel_rfl
theorem term_guard : Tryz.prog.eqGuardType Tryz.prog.depth 146 = false := by kernel_rfl
theorem neq_term (x y : Int) (s t : ByteArray) (w : World) : (binOp .neq 146 (.agg #[.int .i64 x, .string s]) (.agg #[.int .i64 y, .string t])).run Tryz.prog w = .ok (.bool (!((x == y) && (s.toList == t.toList)))) w := by
 rw [run_neq_struct, run_equalIn_agg w 9999 146 _ _ term_struct term_stood]
 unfold Program.fieldsOf
 rw [Tryz.underlying146]
 cases h0 : x == y <;> cases h1 : s.toList == t.toList <;> simp_all [go_sem, Tryz.underlying3]
theorem key_struct : Tryz.prog.underlying 88 = some (.struct (Tryz.prog.fieldsOf 88)) := by kernel_rfl
theorem key_stood : Tryz.prog.stoodInHeld 88 = false := by kernel_rfl
theorem key_guard : Tryz.prog.eqGuardType Tryz.prog.depth 88 = false := by kernel_rfl
theorem eq_key (x y u v : Int) (w : World) : (binOp .eql 88 (.agg #[.int .i64 x, .int .i64 y]) (.agg #[.int .i64 u, .int .i64 v])).run Tryz.prog w = .ok (.bool ((x == u) && (y == v))) w := by
 rw [run_eql_struct, run_equalIn_agg w 9999 88 _ _ key_struct key_stood]
 unfold Program.fieldsOf
 rw [Tryz.underlying88]
 cases h0 : x == u <;> cases h1 : y == v <;> simp_all [go_sem, Tryz.underlying3]
end Go.Proofs.YtgofihilkobenaaGreatDoor
/- Rows of dimensions and of constraints, read. -/
set_option maxRecDepth 100000
namespace Go.Proofs.YtgofihilkobenaaGreatDoor
open Go.RowKit Go.Num Go.Flow Go.Dtm
set_option maxHeartbeats 4000000

def Dm.none : Dm := ⟨⟨#[]⟩, 0, 0, 0⟩
def Cn.none : Cn := ⟨⟨#[]⟩, [], []⟩
/-- A slice of dimensions, to be read. -/
def DimsIn (w : World) (ao : Option Addr) (c : Nat) (l : List Dm) : Prop := l.length ≤ c ∧ c ≤ maxLen ∧ (0 < l.length → ∃ g o, ao = some ⟨g, o, none⟩ ∧ g < w.heap.size ∧ ∀ j, j < l.length → w.cell? ⟨g, o + j * 4, none⟩ = some (.string (l.getD j Dm.none).name) ∧ w.cell? ⟨g, o + j * 4 + 1, none⟩ = some (.int .i64 (l.getD j Dm.none).nominal) ∧ w.cell? ⟨g, o + j * 4 + 2, none⟩ = some (.int .i64 (l.getD j Dm.none).lower) ∧ w.cell? ⟨g, o + j * 4 + 3, none⟩ = some (.int .i64 (l.getD j Dm.none).upper))
theorem DimsIn.below {w w' : World} {ao : Option Addr} {c : Nat} {l : List Dm} (h : DimsIn w ao c l) (hb : Below w.heap.size w w') : DimsIn w' ao c l := by
 refine ⟨h.1, h.2.1, fun h0 => ?_⟩
 obtain ⟨g, o, e, hl, hc⟩ := h.2.2 h0
 exact ⟨g, o, e, Nat.lt_of_lt_of_le hl hb.size, fun j hj => ⟨ZJ hb (hc j hj).1, ZJ hb (hc j hj).2.1, ZJ hb (hc j hj).2.2.1, ZJ hb (hc j hj).2.2.2⟩⟩
theorem dims_read {w : World} {B : Nat} {v : Value} {l : List Dm} (h : w.ownsRow B 60 4 v l.length (dmCells l)) : ∃ ao c, v = .slice ao l.length c ∧ DimsIn w ao c l := by
 obtain ⟨ao, c, e, h1, h2, h3⟩ := row_cells h
 refine ⟨ao, c, e, h1, h2, fun h0 => ?_⟩
 obtain ⟨g, rfl, hg, hc⟩ := h3 h0
 refine ⟨g, 0, rfl, hg, fun j hj => ?_⟩
 have k := fun r (hr : r < 4) => flat_at (fun d : Dm => [.string d.name, .int .i64 d.nominal, .int .i64 d.lower, .int .i64 d.upper]) 4 (fun _ => rfl) l j hj r hr
 have e1 : l.getD j Dm.none = l[j] := by rw [List.getD_eq_getElem?_getD, List.getElem?_eq_getElem hj]; rfl
 rw [e1, Nat.zero_add]
 exact ⟨hc _ _ (k 0 (by omega)), hc _ _ (k 1 (by omega)), hc _ _ (k 2 (by omega)), hc _ _ (k 3 (by omega))⟩
/-- A slice of constraints, to be read. -/
def ConsIn (w : World) (B : Nat) (ao : Option Addr) (c : Nat) (l : List Cn) : Prop := l.length ≤ c ∧ c ≤ maxLen ∧ (0 < l.length → ∃ g, ao = some ⟨g, 0, none⟩ ∧ g < w.heap.size ∧ ∀ j, j < l.length → ∃ tv, w.cell? ⟨g, j * 3, none⟩ = some (.string (l.getD j Cn.none).name) ∧ w.cell? ⟨g, j * 3 + 1, none⟩ = some (.string ⟨(l.getD j Cn.none).const.toArray⟩) ∧ w.cell? ⟨g, j * 3 + 2, none⟩ = some tv ∧ TermRow w B tv (l.getD j Cn.none).terms)
theorem ConRow.reads {w : World} {B : Nat} {v : Value} {l : List Cn} (h : ConRow w B v l) : ∃ ao c, v = .slice ao l.length c ∧ ConsIn w B ao c l := by
 obtain ⟨tv, h1, h2, h3⟩ := h
 obtain ⟨ao, c, e, p1, p2, p3⟩ := row_cells h2
 refine ⟨ao, c, e, p1, p2, fun h0 => ?_⟩
 obtain ⟨g, rfl, hg, hc⟩ := p3 h0
 refine ⟨g, rfl, hg, fun j hj => ?_⟩
 have hz : j < (l.zip tv).length := by rw [List.length_zip, h1]; omega
 have k := fun r (hr : r < 3) => flat_at (fun p : Cn × Value => [.string p.1.name, .string ⟨p.1.const.toArray⟩, p.2]) 3 (fun _ => rfl) (l.zip tv) j hz r hr
 have hj2 : j < tv.length := by omega
 have e1 : l.getD j Cn.none = l[j] := by rw [List.getD_eq_getElem?_getD, List.getElem?_eq_getElem hj]; rfl
 have e2 : tv.getD j (.slice none 0 0) = tv[j] := by rw [List.getD_eq_getElem?_getD, List.getElem?_eq_getElem hj2]; rfl
 have e3 : l.getD j ⟨⟨#[]⟩, [], []⟩ = l[j] := by rw [List.getD_eq_getElem?_getD, List.getElem?_eq_getElem hj]; rfl
 have ht := h3 j hj
 rw [e2, e3] at ht
 rw [e1]
 rw [List.getElem_zip] at k
 exact ⟨tv[j], hc _ _ (k 0 (by omega)), hc _ _ (k 1 (by omega)), hc _ _ (k 2 (by omega)), ht⟩
theorem ConsIn.below {w w' : World} {B : Nat} {ao : Option Addr} {c : Nat} {l : List Cn} (h : ConsIn w B ao c l) (hb : Below w.heap.size w w') : ConsIn w' B ao c l := by
 refine ⟨h.1, h.2.1, fun h0 => ?_⟩
 obtain ⟨g, e, hl, hc⟩ := h.2.2 h0
 refine ⟨g, e, Nat.lt_of_lt_of_le hl hb.size, fun j hj => ?_⟩
 obtain ⟨tv, a1, a2, a3, a4⟩ := hc j hj
 exact ⟨tv, ZJ hb a1, ZJ hb a2, ZJ hb a3, a4.below hb⟩
theorem txt3 {w : World} {b : Nat} {s0 s1 s2 : ByteArray} {t : TypeId} (h : w.heap[b]? = some (.cells #[.string s0, .string s1, .string s2] t (0, 0))) : TxtIn w (.slice (some ⟨b, 0, none⟩) 3 3) [s0, s1, s2] := by
 refine ⟨_, _, rfl, Nat.le_refl _, by unfold maxLen; omega, fun _ => ⟨b, 0, rfl, ZL h, fun j hj => ?_⟩⟩
 have hj : j < 3 := hj
 rw [Nat.zero_add, ZI h]
 match j, hj with
 | 0, _ => rfl
 | 1, _ => rfl
 | 2, _ => rfl
end Go.Proofs.YtgofihilkobenaaGreatDoor
/- The example of the chapter: known. -/
set_option maxRecDepth 100000
namespace Go.Proofs.YtgofihilkobenaaGreatDoor
open Go.RowKit Go.Num Go.Flow Go.Dtm
set_option maxHeartbeats 8000000

theorem Example_any (w : World) : Calls Tryz.prog 53 #[] w fun e w' => ∃ af az, e = .returned (.agg #[.slice (some af) 2 2, .slice (some az) 2 2]) ∧ SchemeIn w' (some af) 2 (some az) 2 exF exZ ∧ Below w.heap.size w w' := by
 obtain ⟨k0, k1, k2⟩ := three_made w #[.slice (some ⟨w.heap.size + 1, 0, none⟩) 2 2, .slice (some ⟨w.heap.size + 1 + 1, 0, none⟩) 2 2] #[.string ⟨#[97]⟩, .int .i64 1, .int .i64 0, .int .i64 (-1), .int .i64 0, .int .i64 0, .string ⟨#[104]⟩, .int .i64 2, .int .i64 0, .int .i64 0, .int .i64 10000, .int .i64 2000] #[.int .i64 2, .int .i64 1, .int .i64 0, .int .i64 20, .bool false, .int .i64 1, .int .i64 1, .int .i64 (-50), .int .i64 50, .bool true] 26 28 30
 have hal := (((ZR _ w).alloc (Nat.le_refl _) (.cells #[.slice (some ⟨w.heap.size + 1, 0, none⟩) 2 2, .slice (some ⟨w.heap.size + 1 + 1, 0, none⟩) 2 2] 26)).alloc (by simp) (.cells #[.string ⟨#[97]⟩, .int .i64 1, .int .i64 0, .int .i64 (-1), .int .i64 0, .int .i64 0, .string ⟨#[104]⟩, .int .i64 2, .int .i64 0, .int .i64 0, .int .i64 10000, .int .i64 2000] 28)).alloc (by simp; omega) (.cells #[.int .i64 2, .int .i64 1, .int .i64 0, .int .i64 20, .bool false, .int .i64 1, .int .i64 1, .int .i64 (-50), .int .i64 50, .bool true] 30)
 have HK := ZH (ZN k0 (ZN k1 (ZN k2 hal)))
 clear k0 k1 k2 hal
 go_enter Tryz.func53, Tryz.ntmps53
 go_wp2_with fail
 obtain ⟨wx, hwx⟩ : ∃ x, x = ((w.alloc (.cells #[.slice (some ⟨w.heap.size + 1, 0, none⟩) 2 2, .slice (some ⟨w.heap.size + 1 + 1, 0, none⟩) 2 2] 26)).alloc (.cells #[.string ⟨#[97]⟩, .int .i64 1, .int .i64 0, .int .i64 (-1), .int .i64 0, .int .i64 0, .string ⟨#[104]⟩, .int .i64 2, .int .i64 0, .int .i64 0, .int .i64 10000, .int .i64 2000] 28)).alloc (.cells #[.int .i64 2, .int .i64 1, .int .i64 0, .int .i64 20, .bool false, .int .i64 1, .int .i64 1, .int .i64 (-50), .int .i64 50, .bool true] 30) := ⟨_, rfl⟩
 rw [← hwx] at HK ⊢
 obtain ⟨k0, k1, k2, hal⟩ := HK.out
 have z0 := ZI k0 0
 have z1 := ZI k0 1
 simp at z0 z1
 clear hwx
 refine bodyPost_ret (v := .agg #[.slice (some ⟨w.heap.size + 1, 0, none⟩) 2 2, .slice (some ⟨w.heap.size + 1 + 1, 0, none⟩) 2 2]) (by simp [results, Tryz.results53, go_sem, z0, z1]) rfl ⟨_, _, rfl, ⟨⟨Nat.le_refl _, by unfold maxLen; omega, fun _ => ⟨_, 0, rfl, ZL k1, fun j hj => ?_⟩⟩, ⟨Nat.le_refl _, by unfold maxLen; omega, fun _ => ⟨_, 0, rfl, ZL k2, fun j hj => ?_⟩⟩⟩, hal⟩
 ·have hj : j < 2 := hj
  match j, hj with
  | 0, _ => exact ⟨ZI k1 0, ZI k1 1, ZI k1 2, ZI k1 3, ZI k1 4, ZI k1 5⟩
  | 1, _ => exact ⟨ZI k1 6, ZI k1 7, ZI k1 8, ZI k1 9, ZI k1 10, ZI k1 11⟩
 ·have hj : j < 2 := hj
  match j, hj with
  | 0, _ => exact ⟨ZI k2 0, ZI k2 1, ZI k2 2, ZI k2 3, ZI k2 4⟩
  | 1, _ => exact ⟨ZI k2 5, ZI k2 6, ZI k2 7, ZI k2 8, ZI k2 9⟩
theorem ex_dlen : (dimsTo exF exZ).length = 3 := by kernel_rfl
theorem ex_d1 : (dimsTo exF exZ).getD 1 Dm.none = ⟨⟨#[104]⟩, 10000, -70, 70⟩ := by kernel_rfl
theorem ex_d2 : ((dimsTo exF exZ).getD 2 Dm.none).name = ⟨#[104, 46, 115, 105, 122, 101]⟩ := by kernel_rfl
theorem ex_clen : (consTo exF exZ exZ.length).length = 2 := by kernel_rfl
theorem ex_c0 : ((consTo exF exZ exZ.length).getD 0 Cn.none).const = [45, 56, 48, 53, 48] := by kernel_rfl
theorem ex_c1 : ((consTo exF exZ exZ.length).getD 1 Cn.none).const = [49, 49, 57, 53, 48] := by kernel_rfl
theorem known_any {w : World} (hg : Glob w) : Calls Tryz.prog 12 #[] w fun e w' => e = .returned (.bool true) ∧ Below w.heap.size w w' := by
 have HG := ZH hg
 clear hg
 go_enter Tryz.func12, Tryz.ntmps12
 go_wp2_with fail
 refine (Example_any w).mono ?_
 rintro e w1 ⟨af, az, rfl, hs1, hb1⟩
 have hv := Variables_any hs1
 unfold VariablesPost at hv
 rw [ex_check] at hv
 have HV := ZH hv
 have HB1 := ZH hb1
 clear hv hs1 hb1
 go_wp2_with fail
 refine HV.out.mono ?_
 rintro e w2 ⟨vd, rfl, hvd, -, hb2⟩
 obtain ⟨ao, cd, rfl, hdi⟩ := dims_read (hvd trivial)
 obtain ⟨g1, e1⟩ : ∃ L, L = dimsTo exF exZ := ⟨_, rfl⟩
 have hd0 := ex_dlen
 have hd1 := ex_d1
 have hd2 := ex_d2
 rw [← e1] at hdi hd0 hd1 hd2 ⊢
 have HB2 := ZH (HB1.out.trans (hb2.mono HB1.out.size))
 have HDI := ZH (ZN hdi (ZN hd0 (ZN hd1 hd2)))
 rw [hd0]
 clear hb2 hvd hdi e1 hd0 hd1 hd2
 go_wp2_with fail
 refine (Example_any w2).mono ?_
 rintro e w3 ⟨af3, az3, rfl, hs3, hb3⟩
 have HB3 := ZH (HB2.out.trans (hb3.mono HB2.out.size))
 have HD3 := ZH (HDI.out.1.below hb3)
 have hv := Constraints_any (HG.out.below HB3.out) hs3
 unfold ConsPost at hv
 rw [ex_check] at hv
 have HV3 := ZH hv
 clear hv hs3 hb3
 go_wp2_with fail
 refine HV3.out.mono ?_
 rintro e w4 ⟨vc, rfl, hvc, -, hb4⟩
 obtain ⟨ac, cc, rfl, hci⟩ := (hvc trivial).reads
 obtain ⟨g2, e2⟩ : ∃ L, L = consTo exF exZ exZ.length := ⟨_, rfl⟩
 have hc0 := ex_clen
 have hc1 := ex_c0
 have hc2 := ex_c1
 rw [← e2] at hci hc0 hc1 hc2 ⊢
 have HB4 := ZH (HB3.out.trans (hb4.mono HB3.out.size))
 have HD4 := ZH (HD3.out.below hb4)
 have HCI := ZH (ZN hci (ZN hc0 (ZN hc1 hc2)))
 rw [hc0]
 clear hb4 hvc hci e2 hc0 hc1 hc2
 go_wp2_with fail
 refine (Example_any w4).mono ?_
 rintro e w5 ⟨af5, az5, rfl, hs5, hb5⟩
 have HB5 := ZH (HB4.out.trans (hb5.mono HB4.out.size))
 have HD5 := ZH (HD4.out.below hb5)
 have HC5 := ZH (HCI.out.1.below hb5)
 have k5 := ZW w5 (.cells #[.string ⟨#[48]⟩, .string ⟨#[49, 48, 48, 54, 48]⟩, .string ⟨#[50, 48, 49, 48]⟩] 40)
 have l5 : Below w5.heap.size w5 (w5.alloc (.cells #[.string ⟨#[48]⟩, .string ⟨#[49, 48, 48, 54, 48]⟩, .string ⟨#[50, 48, 49, 48]⟩] 40)) := (ZR _ w5).alloc (Nat.le_refl _) _
 have hh := Holds_any (M := 5) ((HG.out.below HB5.out).below l5) (hs5.below l5) (vals := exV1) (txt3 k5) (by
  intro s hs
  unfold exV1 at hs
  simp only [List.mem_cons, List.not_mem_nil, or_false] at hs
  rcases hs with rfl | rfl | rfl <;> decide) (by omega)
 rw [ex_holds1, ex_err1] at hh
 have HH1 := ZH hh
 have HL5 := ZH l5
 clear hh k5 l5 hs5 hb5
 go_wp2_with fail
 refine HH1.out.mono ?_
 rintro e w6 ⟨rfl, hb6⟩
 have l6 := HL5.out.trans (hb6.mono HL5.out.size)
 have HB6 := ZH (HB5.out.trans (l6.mono HB5.out.size))
 have HD6 := ZH (HD5.out.below l6)
 have HC6 := ZH (HC5.out.below l6)
 clear hb6 l6
 go_wp2_with fail
 refine (Example_any w6).mono ?_
 rintro e w7 ⟨af7, az7, rfl, hs7, hb7⟩
 have HB7 := ZH (HB6.out.trans (hb7.mono HB6.out.size))
 have HD7 := ZH (HD6.out.below hb7)
 have HC7 := ZH (HC6.out.below hb7)
 have k7 := ZW w7 (.cells #[.string ⟨#[48]⟩, .string ⟨#[49, 48, 48, 54, 49]⟩, .string ⟨#[50, 48, 49, 48]⟩] 40)
 have l7 : Below w7.heap.size w7 (w7.alloc (.cells #[.string ⟨#[48]⟩, .string ⟨#[49, 48, 48, 54, 49]⟩, .string ⟨#[50, 48, 49, 48]⟩] 40)) := (ZR _ w7).alloc (Nat.le_refl _) _
 have hh := Holds_any (M := 5) ((HG.out.below HB7.out).below l7) (hs7.below l7) (vals := exV2) (txt3 k7) (by
  intro s hs
  unfold exV2 at hs
  simp only [List.mem_cons, List.not_mem_nil, or_false] at hs
  rcases hs with rfl | rfl | rfl <;> decide) (by omega)
 rw [ex_holds2, ex_err2] at hh
 have HH2 := ZH hh
 have HL7 := ZH l7
 clear hh k7 l7 hs7 hb7
 go_wp2_with fail
 refine HH2.out.mono ?_
 rintro e w8 ⟨rfl, hb8⟩
 have l8 := HL7.out.trans (hb8.mono HL7.out.size)
 have HB8 := ZH (HB7.out.trans (l8.mono HB7.out.size))
 obtain ⟨g, o, rfl, -, hdc⟩ := (HD7.out.below l8).2.2 (by rw [HDI.out.2.1]; omega)
 obtain ⟨gc, rfl, -, hcc⟩ := (HC7.out.below l8).2.2 (by rw [HCI.out.2.1]; omega)
 obtain ⟨x0, x1, x2, x3⟩ := hdc 1 (by rw [HDI.out.2.1]; omega)
 rw [HDI.out.2.2.1] at x0 x1 x2 x3
 have y0 := (hdc 2 (by rw [HDI.out.2.1]; omega)).1
 rw [HDI.out.2.2.2] at y0
 obtain ⟨t0, -, u1, -, -⟩ := hcc 0 (by rw [HCI.out.2.1]; omega)
 obtain ⟨t1, -, u2, -, -⟩ := hcc 1 (by rw [HCI.out.2.1]; omega)
 rw [HCI.out.2.2.1] at u1
 rw [HCI.out.2.2.2] at u2
 simp only [Nat.one_mul, Nat.zero_mul, Nat.zero_add] at x0 x1 x2 x3 y0 u1 u2
 have hcd : 3 ≤ cd ∧ cd ≤ 9223372036854775807 := by have := HD7.out.1; have h2 := HD7.out.2.1; rw [HDI.out.2.1] at this; exact ⟨this, h2⟩
 have hcc2 : 2 ≤ cc ∧ cc ≤ 9223372036854775807 := by have := HC7.out.1; have h2 := HC7.out.2.1; rw [HCI.out.2.1] at this; exact ⟨this, h2⟩
 have heq := fun W => eq_dim ⟨⟨#[104]⟩, 10000, -70, 70⟩ ⟨⟨#[104]⟩, 10000, -70, 70⟩ W
 have hdm : dmEq ⟨⟨#[104]⟩, 10000, -70, 70⟩ ⟨⟨#[104]⟩, 10000, -70, 70⟩ = true := by kernel_rfl
 simp only [hdm] at heq
 have hgd := dim_guard
 clear hb8 l8 hdc hcc hdm
 go_wp2_with fail
 go_ret
 exact ⟨rfl, HB8.out⟩
end Go.Proofs.YtgofihilkobenaaGreatDoor
