/- The document's model beside other things; act upon it. -/
import Derived.Test.YtlhnjdoicolkkaaMdl7
import Derived.Test.YtlhnjdoicolkkaaSep
import Derived.Test.YtlhnjdoicolkkaaAct
set_option maxRecDepth 100000
namespace Go.Proofs.Ytlhnjdoicolkkaa
open Go.RowKit Go.Dsk Go.Maps Go.WideMaps
set_option maxHeartbeats 1000000
set_option linter.unusedVariables false

def MdlP (p : Nat) (m : M) : SP := fun U w => ∃ T, (∀ i, U i ↔ T i ∨ i = p) ∧ MAt T w p m
theorem nice_mdl (p : Nat) (m : M) : Nice (MdlP p m) where
  lt h i hi := by
    obtain ⟨T, hu, vf, vn, vd, vp, hr⟩ := h
    rcases (hu i).1 hi with h | rfl
    · exact hr.lt i h
    · exact hr.plt
  keep h hf hd := by
    obtain ⟨T, hu, vf, vn, vd, vp, hr⟩ := h
    exact ⟨T, hu, vf, vn, vd, vp, hr.keep hf (fun i hi => hd i ((hu i).2 (.inl hi))) (hd _ ((hu _).2 (.inr rfl)))⟩

section
variable {w0 w : World} {p : Nat} {m : M} {R : SP}
abbrev Mr (R : SP) (w0 w : World) (p : Nat) (m : M) : Prop := Has w0 w (Star (MdlP p m) R)
theorem mr_step (hR : Nice R) (h : Mr R w0 w p m) {f : FuncId} {args : Array Value} {Q : Ending → Prop} {m' : M}
    (hc : ∀ T vf vn vd vp, MRep T w p vf vn vd vp m → w0.heap.size ≤ p → Calls Try.prog f args w fun e w' => Q e ∧ MAfter T w p m' w') : Calls Try.prog f args w fun e w' => Q e ∧ Mr R w0 w' p m' := by
  have hp : w0.heap.size ≤ p := by
    obtain ⟨_, U, hU, S, T, hu, hd, ⟨T1, hu1, _⟩, _⟩ := h
    exact hU p ((hu p).2 (.inl ((hu1 p).2 (.inr rfl))))
  exact Has.pair (h.does hR (Q := fun e S w => Q e ∧ MdlP p m' S w) (fun S hS => by
    obtain ⟨T, hu, vf, vn, vd, vp, hr⟩ := hS
    refine (hc T vf vn vd vp hr hp).mono ?_
    rintro e w' ⟨hq, T', h1, h2, h3⟩
    refine ⟨fun i => T' i ∨ i = p, ?_, ⟨hq, T', fun i => Iff.rfl, h2⟩, h3.mono (fun i hi => (hu i).2 (.inr hi))⟩
    rintro i (hi | rfl)
    · rcases h1 i hi with h | h
      · exact .inl ((hu i).2 (.inl h))
      · exact .inr h
    · exact .inl ((hu i).2 (.inr rfl))))
theorem mr_quiet (h : Mr R w0 w p m) {Q : Prop} (hc : ∀ T vf vn vd vp, MRep T w p vf vn vd vp m → Q) : Q :=
  Has.quiet h (fun S hS => by
    obtain ⟨T, hu, vf, vn, vd, vp, hr⟩ := hS
    exact hc T vf vn vd vp hr)
/-- A new model. -/
theorem mr_new (hR : Nice R) (h : Has w0 w R) (c : Int) : Mr R w0 (w.alloc (.cells #[.int .i64 c, .int .i64 (-1), .bool false, .slice none 0 0, .slice none 0 0, .slice none 0 0, .slice none 0 0] 56)) w.heap.size (M.new c) := by
  refine h.new hR ((Below.refl _ _).alloc (Nat.le_refl _) _) (S := fun i => i = w.heap.size) (fun i hi => by omega) ⟨fun _ => False, fun i => by simp, ?_⟩
  exact ⟨_, _, _, _, fun g hg => False.elim hg, id, heap_alloc_new w _, row_nil _ _ _, row_nil _ _ _, row_nil _ _ _, row_nil _ _ _⟩
end

/-- The numbers of an act that came in, for the model's script. -/
theorem scriptIn_body {w0 w1 : World} {ao : Option Addr} {cap : Nat} {sc : List Int} {p : Nat} (hb : IntsBody w0 ao cap sc) (h1 : sc.length ≤ cap) (h2 : cap ≤ maxLen) (hp : w0.heap.size ≤ p) (hbl : Below w0.heap.size w0 w1) : ScriptIn w1 p ao cap sc := by
  refine ⟨h1, h2, fun h0 => ?_⟩
  rcases hb with ⟨_, _, rfl⟩ | ⟨_, _, rfl⟩ | ⟨b, off, rfl, hlt, hc⟩
  · simp at h0
  · simp at h0
  · exact ⟨b, off, by omega, Nat.lt_of_lt_of_le hlt hbl.size, rfl, fun j hj => (hbl.cell (p := ⟨b, off + j, none⟩) hlt).trans (hc j hj)⟩

theorem mstart_any {T : Nat → Prop} {w : World} {p : Nat} {vf vn vd vp : Value} {m : M} (h : MRep T w p vf vn vd vp m) (hok : m.Ok) (hwt : m.wt < 1073741821) (hfl : m.files.length ≤ 1073741822) (ao : Option Addr) (cap : Nat) (sc : List Int) (hsc : ScriptIn w p ao cap sc) :
    Calls Try.prog 51 #[.pointer (some ⟨p, 0, none⟩), .slice ao sc.length cap] w fun e w' => e = .returned (.tuple #[]) ∧ MAfter T w p (m.start sc) w' := by
  cases hd : m.down with
  | true => exact mstart_down h hok hwt hfl hd ao cap sc hsc
  | false => rw [start_up sc hd]; exact mstart_up h hd _
theorem bb (w : World) (o : Obj) : Below w.heap.size w (w.alloc o) := (Below.refl _ _).alloc (Nat.le_refl _) _
theorem ScriptIn.below {w w' : World} {p : Nat} {ao : Option Addr} {cap : Nat} {sc : List Int} (h : ScriptIn w p ao cap sc) (hb : Below w.heap.size w w') : ScriptIn w' p ao cap sc := by
  obtain ⟨h1, h2, h3⟩ := h
  refine ⟨h1, h2, fun h0 => ?_⟩
  obtain ⟨g, off, hg, hl, e, hc⟩ := h3 h0
  exact ⟨g, off, hg, Nat.lt_of_lt_of_le hl hb.size, e, fun j hj => (hb.cell (p := ⟨g, off + j, none⟩) hl).trans (hc j hj)⟩
theorem fr_bb {S : Nat → Prop} (w : World) (o : Obj) : Fr S w (w.alloc o) := (Fr.refl S w).alloc o
theorem mact_0 {T : Nat → Prop} {w : World} {p : Nat} {vf vn vd vp : Value} {m : M} (h : MRep T w p vf vn vd vp m) (hok : m.Ok) (hwt : m.wt < 1073741821) (hfl : m.files.length < 1073741822) {kind number : Int} {name dst : ByteArray} {ao : Option Addr} {cap : Nat} {sc : List Int} (h0 : 0 ≤ kind) (h1 : kind ≤ 255) (hn : name.size ≤ 50) (ht : dst.size ≤ 50) (n0 : -128 ≤ number) (n1 : number ≤ 127) (hsi : ScriptIn w p ao cap sc) (hk : kind % 11 = 0) {r : Int} {m' : M} (he : m.actOn kind name.data.toList dst.data.toList number sc = (r, m')) :
    Calls Try.prog 27 #[.pointer (some ⟨p, 0, none⟩), .agg #[.int .u8 kind, .string name, .string dst, .int .i8 number, .slice ao sc.length cap]] w fun e w' => e = .returned (.int .i64 r) ∧ MAfter T w p m' w' := by
  simp [M.actOn, hk] at he
  have HR := Lib.hid h
  have HOK := Lib.hid hok
  have HE := Lib.hid he
  have hsb := hsi.below (bb w (.cells #[.int .u8 kind, .string name, .string dst, .int .i8 number, .slice ao sc.length cap] 48))
  have HSI := Lib.hid hsb
  have hra := h.below (bb w (.cells #[.int .u8 kind, .string name, .string dst, .int .i8 number, .slice ao sc.length cap] 48))
  have HRA := Lib.hid hra
  clear h hok he hsi hsb hra
  go_enter Try.func27, Try.ntmps27
  go_wp2_with fail
  refine (mappend_any HRA.out HOK.out (by omega) (by omega) name dst (by unfold maxLen; omega) (by omega)).mono ?_
  rintro e w' ⟨rfl, ha⟩
  have HA := Lib.hid ha
  clear ha
  go_wp2_with fail
  go_ret
  rw [HE.out] at HA ⊢
  exact ⟨rfl, HA.out.back (fr_bb w _)⟩
theorem mact_1 {T : Nat → Prop} {w : World} {p : Nat} {vf vn vd vp : Value} {m : M} (h : MRep T w p vf vn vd vp m) (hok : m.Ok) (hwt : m.wt < 1073741821) (hfl : m.files.length < 1073741822) {kind number : Int} {name dst : ByteArray} {ao : Option Addr} {cap : Nat} {sc : List Int} (h0 : 0 ≤ kind) (h1 : kind ≤ 255) (hn : name.size ≤ 50) (ht : dst.size ≤ 50) (n0 : -128 ≤ number) (n1 : number ≤ 127) (hsi : ScriptIn w p ao cap sc) (hk : kind % 11 = 1) {r : Int} {m' : M} (he : m.actOn kind name.data.toList dst.data.toList number sc = (r, m')) :
    Calls Try.prog 27 #[.pointer (some ⟨p, 0, none⟩), .agg #[.int .u8 kind, .string name, .string dst, .int .i8 number, .slice ao sc.length cap]] w fun e w' => e = .returned (.int .i64 r) ∧ MAfter T w p m' w' := by
  simp [M.actOn, hk] at he
  have HR := Lib.hid h
  have HOK := Lib.hid hok
  have HE := Lib.hid he
  have hsb := hsi.below (bb w (.cells #[.int .u8 kind, .string name, .string dst, .int .i8 number, .slice ao sc.length cap] 48))
  have HSI := Lib.hid hsb
  have hra := h.below (bb w (.cells #[.int .u8 kind, .string name, .string dst, .int .i8 number, .slice ao sc.length cap] 48))
  have HRA := Lib.hid hra
  clear h hok he hsi hsb hra
  go_enter Try.func27, Try.ntmps27
  go_wp2_with fail
  refine (msync_any HRA.out HOK.out (by omega) name).mono ?_
  rintro e w' ⟨rfl, ha⟩
  have HA := Lib.hid ha
  clear ha
  go_wp2_with fail
  go_ret
  rw [HE.out] at HA ⊢
  exact ⟨rfl, HA.out.back (fr_bb w _)⟩
theorem mact_2 {T : Nat → Prop} {w : World} {p : Nat} {vf vn vd vp : Value} {m : M} (h : MRep T w p vf vn vd vp m) (hok : m.Ok) (hwt : m.wt < 1073741821) (hfl : m.files.length < 1073741822) {kind number : Int} {name dst : ByteArray} {ao : Option Addr} {cap : Nat} {sc : List Int} (h0 : 0 ≤ kind) (h1 : kind ≤ 255) (hn : name.size ≤ 50) (ht : dst.size ≤ 50) (n0 : -128 ≤ number) (n1 : number ≤ 127) (hsi : ScriptIn w p ao cap sc) (hk : kind % 11 = 2) {r : Int} {m' : M} (he : m.actOn kind name.data.toList dst.data.toList number sc = (r, m')) :
    Calls Try.prog 27 #[.pointer (some ⟨p, 0, none⟩), .agg #[.int .u8 kind, .string name, .string dst, .int .i8 number, .slice ao sc.length cap]] w fun e w' => e = .returned (.int .i64 r) ∧ MAfter T w p m' w' := by
  simp [M.actOn, hk] at he
  have HR := Lib.hid h
  have HOK := Lib.hid hok
  have HE := Lib.hid he
  have hsb := hsi.below (bb w (.cells #[.int .u8 kind, .string name, .string dst, .int .i8 number, .slice ao sc.length cap] 48))
  have HSI := Lib.hid hsb
  have hra := h.below (bb w (.cells #[.int .u8 kind, .string name, .string dst, .int .i8 number, .slice ao sc.length cap] 48))
  have HRA := Lib.hid hra
  clear h hok he hsi hsb hra
  go_enter Try.func27, Try.ntmps27
  go_wp2_with fail
  refine (mrename_any HRA.out HOK.out (by omega) name dst (by unfold maxLen; omega)).mono ?_
  rintro e w' ⟨rfl, ha⟩
  have HA := Lib.hid ha
  clear ha
  go_wp2_with fail
  go_ret
  rw [HE.out] at HA ⊢
  exact ⟨rfl, HA.out.back (fr_bb w _)⟩
theorem mact_3 {T : Nat → Prop} {w : World} {p : Nat} {vf vn vd vp : Value} {m : M} (h : MRep T w p vf vn vd vp m) (hok : m.Ok) (hwt : m.wt < 1073741821) (hfl : m.files.length < 1073741822) {kind number : Int} {name dst : ByteArray} {ao : Option Addr} {cap : Nat} {sc : List Int} (h0 : 0 ≤ kind) (h1 : kind ≤ 255) (hn : name.size ≤ 50) (ht : dst.size ≤ 50) (n0 : -128 ≤ number) (n1 : number ≤ 127) (hsi : ScriptIn w p ao cap sc) (hk : kind % 11 = 3) {r : Int} {m' : M} (he : m.actOn kind name.data.toList dst.data.toList number sc = (r, m')) :
    Calls Try.prog 27 #[.pointer (some ⟨p, 0, none⟩), .agg #[.int .u8 kind, .string name, .string dst, .int .i8 number, .slice ao sc.length cap]] w fun e w' => e = .returned (.int .i64 r) ∧ MAfter T w p m' w' := by
  simp [M.actOn, hk] at he
  have HR := Lib.hid h
  have HOK := Lib.hid hok
  have HE := Lib.hid he
  have hsb := hsi.below (bb w (.cells #[.int .u8 kind, .string name, .string dst, .int .i8 number, .slice ao sc.length cap] 48))
  have HSI := Lib.hid hsb
  have hra := h.below (bb w (.cells #[.int .u8 kind, .string name, .string dst, .int .i8 number, .slice ao sc.length cap] 48))
  have HRA := Lib.hid hra
  clear h hok he hsi hsb hra
  go_enter Try.func27, Try.ntmps27
  go_wp2_with fail
  refine (mremove_any HRA.out HOK.out (by omega) name).mono ?_
  rintro e w' ⟨rfl, ha⟩
  have HA := Lib.hid ha
  clear ha
  go_wp2_with fail
  go_ret
  rw [HE.out] at HA ⊢
  exact ⟨rfl, HA.out.back (fr_bb w _)⟩
theorem mact_4 {T : Nat → Prop} {w : World} {p : Nat} {vf vn vd vp : Value} {m : M} (h : MRep T w p vf vn vd vp m) (hok : m.Ok) (hwt : m.wt < 1073741821) (hfl : m.files.length < 1073741822) {kind number : Int} {name dst : ByteArray} {ao : Option Addr} {cap : Nat} {sc : List Int} (h0 : 0 ≤ kind) (h1 : kind ≤ 255) (hn : name.size ≤ 50) (ht : dst.size ≤ 50) (n0 : -128 ≤ number) (n1 : number ≤ 127) (hsi : ScriptIn w p ao cap sc) (hk : kind % 11 = 4) {r : Int} {m' : M} (he : m.actOn kind name.data.toList dst.data.toList number sc = (r, m')) :
    Calls Try.prog 27 #[.pointer (some ⟨p, 0, none⟩), .agg #[.int .u8 kind, .string name, .string dst, .int .i8 number, .slice ao sc.length cap]] w fun e w' => e = .returned (.int .i64 r) ∧ MAfter T w p m' w' := by
  simp [M.actOn, hk] at he
  have HR := Lib.hid h
  have HOK := Lib.hid hok
  have HE := Lib.hid he
  have hsb := hsi.below (bb w (.cells #[.int .u8 kind, .string name, .string dst, .int .i8 number, .slice ao sc.length cap] 48))
  have HSI := Lib.hid hsb
  have hra := h.below (bb w (.cells #[.int .u8 kind, .string name, .string dst, .int .i8 number, .slice ao sc.length cap] 48))
  have HRA := Lib.hid hra
  clear h hok he hsi hsb hra
  go_enter Try.func27, Try.ntmps27
  go_wp2_with fail
  refine (mpublish_any HRA.out HOK.out).mono ?_
  rintro e w' ⟨rfl, ha⟩
  have HA := Lib.hid ha
  clear ha
  go_wp2_with fail
  go_ret
  rw [HE.out] at HA ⊢
  exact ⟨rfl, HA.out.back (fr_bb w _)⟩
theorem mact_5 {T : Nat → Prop} {w : World} {p : Nat} {vf vn vd vp : Value} {m : M} (h : MRep T w p vf vn vd vp m) (hok : m.Ok) (hwt : m.wt < 1073741821) (hfl : m.files.length < 1073741822) {kind number : Int} {name dst : ByteArray} {ao : Option Addr} {cap : Nat} {sc : List Int} (h0 : 0 ≤ kind) (h1 : kind ≤ 255) (hn : name.size ≤ 50) (ht : dst.size ≤ 50) (n0 : -128 ≤ number) (n1 : number ≤ 127) (hsi : ScriptIn w p ao cap sc) (hk : kind % 11 = 5) {r : Int} {m' : M} (he : m.actOn kind name.data.toList dst.data.toList number sc = (r, m')) :
    Calls Try.prog 27 #[.pointer (some ⟨p, 0, none⟩), .agg #[.int .u8 kind, .string name, .string dst, .int .i8 number, .slice ao sc.length cap]] w fun e w' => e = .returned (.int .i64 r) ∧ MAfter T w p m' w' := by
  simp [M.actOn, hk] at he
  have HR := Lib.hid h
  have HOK := Lib.hid hok
  have HE := Lib.hid he
  have hsb := hsi.below (bb w (.cells #[.int .u8 kind, .string name, .string dst, .int .i8 number, .slice ao sc.length cap] 48))
  have HSI := Lib.hid hsb
  have hra := h.below (bb w (.cells #[.int .u8 kind, .string name, .string dst, .int .i8 number, .slice ao sc.length cap] 48))
  have HRA := Lib.hid hra
  have z1 := hra.fr 1
  have k2 := hra.c2
  have k1 := hra.c1
  cases hd : m.down with
  | true =>
    rw [hd] at k2
    have HD := Lib.hid hd
    clear h hok he hsi hsb hra hd
    go_enter Try.func27, Try.ntmps27
    go_wp2_with fail
    go_ret
    have e := HE.out
    simp [M.setLimit, HD.out] at e
    obtain ⟨rfl, rfl⟩ := e
    exact ⟨rfl, HRA.out.after.back (fr_bb w _)⟩
  | false =>
    rw [hd] at k2
    have HD := Lib.hid hd
    clear h hok he hsi hsb hra hd
    go_enter Try.func27, Try.ntmps27
    go_wp2_with fail
    go_ret
    have e := HE.out
    unfold M.setLimit at e
    rw [if_neg (by rw [HD.out]; simp)] at e
    obtain ⟨rfl, rfl⟩ := Prod.mk.inj e
    obtain ⟨g1, g2⟩ := HRA.out.scalar 1 (.int .i64 (max number (-1))) (m' := { m with limit := max number (-1) }) rfl rfl rfl rfl rfl
    exact ⟨rfl, g1.after.back ((fr_bb w _).trans g2)⟩
theorem mact_6 {T : Nat → Prop} {w : World} {p : Nat} {vf vn vd vp : Value} {m : M} (h : MRep T w p vf vn vd vp m) (hok : m.Ok) (hwt : m.wt < 1073741821) (hfl : m.files.length < 1073741822) {kind number : Int} {name dst : ByteArray} {ao : Option Addr} {cap : Nat} {sc : List Int} (h0 : 0 ≤ kind) (h1 : kind ≤ 255) (hn : name.size ≤ 50) (ht : dst.size ≤ 50) (n0 : -128 ≤ number) (n1 : number ≤ 127) (hsi : ScriptIn w p ao cap sc) (hk : kind % 11 = 6) {r : Int} {m' : M} (he : m.actOn kind name.data.toList dst.data.toList number sc = (r, m')) :
    Calls Try.prog 27 #[.pointer (some ⟨p, 0, none⟩), .agg #[.int .u8 kind, .string name, .string dst, .int .i8 number, .slice ao sc.length cap]] w fun e w' => e = .returned (.int .i64 r) ∧ MAfter T w p m' w' := by
  simp [M.actOn, hk] at he
  have HR := Lib.hid h
  have HOK := Lib.hid hok
  have HE := Lib.hid he
  have hsb := hsi.below (bb w (.cells #[.int .u8 kind, .string name, .string dst, .int .i8 number, .slice ao sc.length cap] 48))
  have HSI := Lib.hid hsb
  have hra := h.below (bb w (.cells #[.int .u8 kind, .string name, .string dst, .int .i8 number, .slice ao sc.length cap] 48))
  have HRA := Lib.hid hra
  have z2 := hra.fr 2
  have k2 := hra.c2
  clear h hok he hsi hsb hra
  go_enter Try.func27, Try.ntmps27
  go_wp2_with fail
  go_ret
  obtain ⟨rfl, rfl⟩ := HE.out
  obtain ⟨g1, g2⟩ := HRA.out.scalar 2 (.bool true) (m' := m.crash) rfl rfl rfl rfl rfl
  exact ⟨rfl, g1.after.back ((fr_bb w _).trans g2)⟩
theorem mact_7 {T : Nat → Prop} {w : World} {p : Nat} {vf vn vd vp : Value} {m : M} (h : MRep T w p vf vn vd vp m) (hok : m.Ok) (hwt : m.wt < 1073741821) (hfl : m.files.length < 1073741822) {kind number : Int} {name dst : ByteArray} {ao : Option Addr} {cap : Nat} {sc : List Int} (h0 : 0 ≤ kind) (h1 : kind ≤ 255) (hn : name.size ≤ 50) (ht : dst.size ≤ 50) (n0 : -128 ≤ number) (n1 : number ≤ 127) (hsi : ScriptIn w p ao cap sc) (hk : kind % 11 = 7) {r : Int} {m' : M} (he : m.actOn kind name.data.toList dst.data.toList number sc = (r, m')) :
    Calls Try.prog 27 #[.pointer (some ⟨p, 0, none⟩), .agg #[.int .u8 kind, .string name, .string dst, .int .i8 number, .slice ao sc.length cap]] w fun e w' => e = .returned (.int .i64 r) ∧ MAfter T w p m' w' := by
  simp [M.actOn, hk] at he
  have HR := Lib.hid h
  have HOK := Lib.hid hok
  have HE := Lib.hid he
  have hsb := hsi.below (bb w (.cells #[.int .u8 kind, .string name, .string dst, .int .i8 number, .slice ao sc.length cap] 48))
  have HSI := Lib.hid hsb
  have hra := h.below (bb w (.cells #[.int .u8 kind, .string name, .string dst, .int .i8 number, .slice ao sc.length cap] 48))
  have HRA := Lib.hid hra
  clear h hok he hsi hsb hra
  go_enter Try.func27, Try.ntmps27
  go_wp2_with fail
  refine (mstart_any HRA.out HOK.out (by omega) (by omega) ao cap sc HSI.out).mono ?_
  rintro e w' ⟨rfl, ha⟩
  have HA := Lib.hid ha
  clear ha
  go_wp2_with fail
  go_ret
  obtain ⟨rfl, rfl⟩ := HE.out
  exact ⟨rfl, HA.out.back (fr_bb w _)⟩
theorem mact_8 {T : Nat → Prop} {w : World} {p : Nat} {vf vn vd vp : Value} {m : M} (h : MRep T w p vf vn vd vp m) (hok : m.Ok) (hwt : m.wt < 1073741821) (hfl : m.files.length < 1073741822) {kind number : Int} {name dst : ByteArray} {ao : Option Addr} {cap : Nat} {sc : List Int} (h0 : 0 ≤ kind) (h1 : kind ≤ 255) (hn : name.size ≤ 50) (ht : dst.size ≤ 50) (n0 : -128 ≤ number) (n1 : number ≤ 127) (hsi : ScriptIn w p ao cap sc) (hk : kind % 11 = 8) {r : Int} {m' : M} (he : m.actOn kind name.data.toList dst.data.toList number sc = (r, m')) :
    Calls Try.prog 27 #[.pointer (some ⟨p, 0, none⟩), .agg #[.int .u8 kind, .string name, .string dst, .int .i8 number, .slice ao sc.length cap]] w fun e w' => e = .returned (.int .i64 r) ∧ MAfter T w p m' w' := by
  simp [M.actOn, hk] at he
  have HR := Lib.hid h
  have HOK := Lib.hid hok
  have HE := Lib.hid he
  have hsb := hsi.below (bb w (.cells #[.int .u8 kind, .string name, .string dst, .int .i8 number, .slice ao sc.length cap] 48))
  have HSI := Lib.hid hsb
  have hra := h.below (bb w (.cells #[.int .u8 kind, .string name, .string dst, .int .i8 number, .slice ao sc.length cap] 48))
  have HRA := Lib.hid hra
  clear h hok he hsi hsb hra
  go_enter Try.func27, Try.ntmps27
  go_wp2_with fail
  refine (mappend_any HRA.out HOK.out (by omega) (by omega) name dst (by unfold maxLen; omega) (by omega)).mono ?_
  rintro e w' ⟨rfl, ha⟩
  have HA := Lib.hid ha
  clear ha
  go_wp2_with fail
  go_ret
  rw [HE.out] at HA ⊢
  exact ⟨rfl, HA.out.back (fr_bb w _)⟩
theorem mact_9 {T : Nat → Prop} {w : World} {p : Nat} {vf vn vd vp : Value} {m : M} (h : MRep T w p vf vn vd vp m) (hok : m.Ok) (hwt : m.wt < 1073741821) (hfl : m.files.length < 1073741822) {kind number : Int} {name dst : ByteArray} {ao : Option Addr} {cap : Nat} {sc : List Int} (h0 : 0 ≤ kind) (h1 : kind ≤ 255) (hn : name.size ≤ 50) (ht : dst.size ≤ 50) (n0 : -128 ≤ number) (n1 : number ≤ 127) (hsi : ScriptIn w p ao cap sc) (hk : kind % 11 = 9) {r : Int} {m' : M} (he : m.actOn kind name.data.toList dst.data.toList number sc = (r, m')) :
    Calls Try.prog 27 #[.pointer (some ⟨p, 0, none⟩), .agg #[.int .u8 kind, .string name, .string dst, .int .i8 number, .slice ao sc.length cap]] w fun e w' => e = .returned (.int .i64 r) ∧ MAfter T w p m' w' := by
  simp [M.actOn, hk] at he
  have HR := Lib.hid h
  have HOK := Lib.hid hok
  have HE := Lib.hid he
  have hsb := hsi.below (bb w (.cells #[.int .u8 kind, .string name, .string dst, .int .i8 number, .slice ao sc.length cap] 48))
  have HSI := Lib.hid hsb
  have hra := h.below (bb w (.cells #[.int .u8 kind, .string name, .string dst, .int .i8 number, .slice ao sc.length cap] 48))
  have HRA := Lib.hid hra
  clear h hok he hsi hsb hra
  go_enter Try.func27, Try.ntmps27
  go_wp2_with fail
  refine (mappend_any HRA.out HOK.out (by omega) (by omega) name dst (by unfold maxLen; omega) (by omega)).mono ?_
  rintro e w' ⟨rfl, ha⟩
  have HA := Lib.hid ha
  clear ha
  go_wp2_with fail
  go_ret
  rw [HE.out] at HA ⊢
  exact ⟨rfl, HA.out.back (fr_bb w _)⟩
theorem mact_10 {T : Nat → Prop} {w : World} {p : Nat} {vf vn vd vp : Value} {m : M} (h : MRep T w p vf vn vd vp m) (hok : m.Ok) (hwt : m.wt < 1073741821) (hfl : m.files.length < 1073741822) {kind number : Int} {name dst : ByteArray} {ao : Option Addr} {cap : Nat} {sc : List Int} (h0 : 0 ≤ kind) (h1 : kind ≤ 255) (hn : name.size ≤ 50) (ht : dst.size ≤ 50) (n0 : -128 ≤ number) (n1 : number ≤ 127) (hsi : ScriptIn w p ao cap sc) (hk : kind % 11 = 10) {r : Int} {m' : M} (he : m.actOn kind name.data.toList dst.data.toList number sc = (r, m')) :
    Calls Try.prog 27 #[.pointer (some ⟨p, 0, none⟩), .agg #[.int .u8 kind, .string name, .string dst, .int .i8 number, .slice ao sc.length cap]] w fun e w' => e = .returned (.int .i64 r) ∧ MAfter T w p m' w' := by
  simp [M.actOn, hk] at he
  have HR := Lib.hid h
  have HOK := Lib.hid hok
  have HE := Lib.hid he
  have hsb := hsi.below (bb w (.cells #[.int .u8 kind, .string name, .string dst, .int .i8 number, .slice ao sc.length cap] 48))
  have HSI := Lib.hid hsb
  have hra := h.below (bb w (.cells #[.int .u8 kind, .string name, .string dst, .int .i8 number, .slice ao sc.length cap] 48))
  have HRA := Lib.hid hra
  clear h hok he hsi hsb hra
  go_enter Try.func27, Try.ntmps27
  go_wp2_with fail
  refine (mappend_any HRA.out HOK.out (by omega) (by omega) name dst (by unfold maxLen; omega) (by omega)).mono ?_
  rintro e w' ⟨rfl, ha⟩
  have HA := Lib.hid ha
  clear ha
  go_wp2_with fail
  go_ret
  rw [HE.out] at HA ⊢
  exact ⟨rfl, HA.out.back (fr_bb w _)⟩
theorem mact_any {T : Nat → Prop} {w : World} {p : Nat} {vf vn vd vp : Value} {m : M} (h : MRep T w p vf vn vd vp m) (hok : m.Ok) (hwt : m.wt < 1073741821) (hfl : m.files.length < 1073741822) {kind number : Int} {name dst : ByteArray} {ao : Option Addr} {cap : Nat} {sc : List Int} (h0 : 0 ≤ kind) (h1 : kind ≤ 255) (hn : name.size ≤ 50) (ht : dst.size ≤ 50) (n0 : -128 ≤ number) (n1 : number ≤ 127) (hsi : ScriptIn w p ao cap sc) {r : Int} {m' : M} (he : m.actOn kind name.data.toList dst.data.toList number sc = (r, m')) :
    Calls Try.prog 27 #[.pointer (some ⟨p, 0, none⟩), .agg #[.int .u8 kind, .string name, .string dst, .int .i8 number, .slice ao sc.length cap]] w fun e w' => e = .returned (.int .i64 r) ∧ MAfter T w p m' w' := by
  rcases (show kind % 11 = 0 ∨ kind % 11 = 1 ∨ kind % 11 = 2 ∨ kind % 11 = 3 ∨ kind % 11 = 4 ∨ kind % 11 = 5 ∨ kind % 11 = 6 ∨ kind % 11 = 7 ∨ kind % 11 = 8 ∨ kind % 11 = 9 ∨ kind % 11 = 10 by omega) with k | k | k | k | k | k | k | k | k | k | k
  · exact mact_0 h hok hwt hfl h0 h1 hn ht n0 n1 hsi k he
  · exact mact_1 h hok hwt hfl h0 h1 hn ht n0 n1 hsi k he
  · exact mact_2 h hok hwt hfl h0 h1 hn ht n0 n1 hsi k he
  · exact mact_3 h hok hwt hfl h0 h1 hn ht n0 n1 hsi k he
  · exact mact_4 h hok hwt hfl h0 h1 hn ht n0 n1 hsi k he
  · exact mact_5 h hok hwt hfl h0 h1 hn ht n0 n1 hsi k he
  · exact mact_6 h hok hwt hfl h0 h1 hn ht n0 n1 hsi k he
  · exact mact_7 h hok hwt hfl h0 h1 hn ht n0 n1 hsi k he
  · exact mact_8 h hok hwt hfl h0 h1 hn ht n0 n1 hsi k he
  · exact mact_9 h hok hwt hfl h0 h1 hn ht n0 n1 hsi k he
  · exact mact_10 h hok hwt hfl h0 h1 hn ht n0 n1 hsi k he

section
variable {w0 w : World} {p : Nat} {m : M} {R : SP}
theorem mr_act (hR : Nice R) (h : Mr R w0 w p m) (hok : m.Ok) (hwt : m.wt < 1073741821) (hfl : m.files.length < 1073741822) (x : ActV) (hf : x.Fits w0) (hx : x.small = true) {r : Int} {m' : M} (he : m.actOn x.kind x.name.data.toList x.to.data.toList x.number x.sc = (r, m')) :
    Calls Try.prog 27 #[.pointer (some ⟨p, 0, none⟩), x.value] w fun e w' => e = .returned (.int .i64 r) ∧ Mr R w0 w' p m' := by
  obtain ⟨hn, ht, hs⟩ := small_at hx
  obtain ⟨h0, h1, _, _, n0, n1, hi, _, c1, c2⟩ := hf
  exact mr_step hR h (fun T vf vn vd vp hr hp => mact_any hr hok hwt hfl h0 h1 hn ht n0 n1 (scriptIn_body hi c1 c2 hp h.below) he)
end
end Go.Proofs.Ytlhnjdoicolkkaa
