/- act: one act that came in, upon a disk of the call's own. -/
import Derived.Test.YtlhnjdoicolkkaaFew
import Derived.Test.YtlhnjdoicolkkaaActPure
set_option maxRecDepth 100000
namespace Go.Proofs.Ytlhnjdoicolkkaa
open Go.RowKit Go.Dsk Go.Maps Go.WideMaps
set_option maxHeartbeats 1000000
set_option linter.unusedVariables false

theorem small_at {x : ActV} (h : x.small = true) : x.name.size ≤ 50 ∧ x.to.size ≤ 50 ∧ x.sc.length ≤ 12 := by
  unfold ActV.small at h
  simpa only [Bool.and_eq_true, decide_eq_true_eq] using h

theorem act_0 {w0 w : World} {bd : Nat} {m : M} (h : Dk w0 w bd m) {kind number : Int} {name dst : ByteArray} {ao : Option Addr} {cap : Nat} {sc : List Int} (h0 : 0 ≤ kind) (h1 : kind ≤ 255) (hn : name.size ≤ 50) (ht : dst.size ≤ 50) (hs : sc.length ≤ 12) (n0 : -128 ≤ number) (n1 : number ≤ 127) (hi : IntsBody w ao cap sc) (hk : kind % 11 = 0)
    {r : Int} {m' : M} (he : m.actOn kind name.data.toList dst.data.toList number sc = (r, m')) (hw : m'.wt < 1073741823) :
    Calls Try.prog 25 #[.pointer (some ⟨bd, 0, none⟩), .agg #[.int .u8 kind, .string name, .string dst, .int .i8 number, .slice ao sc.length cap]] w fun e w' => e = .returned (.int .i64 r) ∧ Dk w0 w' bd m' := by
  simp [M.actOn, hk] at he
  have H := Lib.hid h
  have HE := Lib.hid he
  have HI := Lib.hid hi
  have HW := Lib.hid hw
  clear h he hi hw
  go_enter Try.func25, Try.ntmps25
  go_wp2_with fail
  refine ((H.out.alloc _).append name dst (by omega) (by omega) HE.out HW.out).mono ?_
  rintro e w' ⟨rfl, hd⟩
  have HD := Lib.hid hd
  clear hd
  go_wp2_with fail
  go_ret
  exact ⟨rfl, HD.out⟩
theorem act_1 {w0 w : World} {bd : Nat} {m : M} (h : Dk w0 w bd m) {kind number : Int} {name dst : ByteArray} {ao : Option Addr} {cap : Nat} {sc : List Int} (h0 : 0 ≤ kind) (h1 : kind ≤ 255) (hn : name.size ≤ 50) (ht : dst.size ≤ 50) (hs : sc.length ≤ 12) (n0 : -128 ≤ number) (n1 : number ≤ 127) (hi : IntsBody w ao cap sc) (hk : kind % 11 = 1)
    {r : Int} {m' : M} (he : m.actOn kind name.data.toList dst.data.toList number sc = (r, m')) (hw : m'.wt < 1073741823) :
    Calls Try.prog 25 #[.pointer (some ⟨bd, 0, none⟩), .agg #[.int .u8 kind, .string name, .string dst, .int .i8 number, .slice ao sc.length cap]] w fun e w' => e = .returned (.int .i64 r) ∧ Dk w0 w' bd m' := by
  simp [M.actOn, hk] at he
  have H := Lib.hid h
  have HE := Lib.hid he
  have HI := Lib.hid hi
  have HW := Lib.hid hw
  clear h he hi hw
  go_enter Try.func25, Try.ntmps25
  go_wp2_with fail
  refine ((H.out.alloc _).sync name (by omega) HE.out HW.out).mono ?_
  rintro e w' ⟨rfl, hd⟩
  have HD := Lib.hid hd
  clear hd
  go_wp2_with fail
  go_ret
  exact ⟨rfl, HD.out⟩
theorem act_2 {w0 w : World} {bd : Nat} {m : M} (h : Dk w0 w bd m) {kind number : Int} {name dst : ByteArray} {ao : Option Addr} {cap : Nat} {sc : List Int} (h0 : 0 ≤ kind) (h1 : kind ≤ 255) (hn : name.size ≤ 50) (ht : dst.size ≤ 50) (hs : sc.length ≤ 12) (n0 : -128 ≤ number) (n1 : number ≤ 127) (hi : IntsBody w ao cap sc) (hk : kind % 11 = 2)
    {r : Int} {m' : M} (he : m.actOn kind name.data.toList dst.data.toList number sc = (r, m')) (hw : m'.wt < 1073741823) :
    Calls Try.prog 25 #[.pointer (some ⟨bd, 0, none⟩), .agg #[.int .u8 kind, .string name, .string dst, .int .i8 number, .slice ao sc.length cap]] w fun e w' => e = .returned (.int .i64 r) ∧ Dk w0 w' bd m' := by
  simp [M.actOn, hk] at he
  have H := Lib.hid h
  have HE := Lib.hid he
  have HI := Lib.hid hi
  have HW := Lib.hid hw
  clear h he hi hw
  go_enter Try.func25, Try.ntmps25
  go_wp2_with fail
  refine ((H.out.alloc _).rename name dst (by omega) (by omega) HE.out HW.out).mono ?_
  rintro e w' ⟨rfl, hd⟩
  have HD := Lib.hid hd
  clear hd
  go_wp2_with fail
  go_ret
  exact ⟨rfl, HD.out⟩
theorem act_3 {w0 w : World} {bd : Nat} {m : M} (h : Dk w0 w bd m) {kind number : Int} {name dst : ByteArray} {ao : Option Addr} {cap : Nat} {sc : List Int} (h0 : 0 ≤ kind) (h1 : kind ≤ 255) (hn : name.size ≤ 50) (ht : dst.size ≤ 50) (hs : sc.length ≤ 12) (n0 : -128 ≤ number) (n1 : number ≤ 127) (hi : IntsBody w ao cap sc) (hk : kind % 11 = 3)
    {r : Int} {m' : M} (he : m.actOn kind name.data.toList dst.data.toList number sc = (r, m')) (hw : m'.wt < 1073741823) :
    Calls Try.prog 25 #[.pointer (some ⟨bd, 0, none⟩), .agg #[.int .u8 kind, .string name, .string dst, .int .i8 number, .slice ao sc.length cap]] w fun e w' => e = .returned (.int .i64 r) ∧ Dk w0 w' bd m' := by
  simp [M.actOn, hk] at he
  have H := Lib.hid h
  have HE := Lib.hid he
  have HI := Lib.hid hi
  have HW := Lib.hid hw
  clear h he hi hw
  go_enter Try.func25, Try.ntmps25
  go_wp2_with fail
  refine ((H.out.alloc _).remove name (by omega) HE.out HW.out).mono ?_
  rintro e w' ⟨rfl, hd⟩
  have HD := Lib.hid hd
  clear hd
  go_wp2_with fail
  go_ret
  exact ⟨rfl, HD.out⟩
theorem act_4 {w0 w : World} {bd : Nat} {m : M} (h : Dk w0 w bd m) {kind number : Int} {name dst : ByteArray} {ao : Option Addr} {cap : Nat} {sc : List Int} (h0 : 0 ≤ kind) (h1 : kind ≤ 255) (hn : name.size ≤ 50) (ht : dst.size ≤ 50) (hs : sc.length ≤ 12) (n0 : -128 ≤ number) (n1 : number ≤ 127) (hi : IntsBody w ao cap sc) (hk : kind % 11 = 4)
    {r : Int} {m' : M} (he : m.actOn kind name.data.toList dst.data.toList number sc = (r, m')) (hw : m'.wt < 1073741823) :
    Calls Try.prog 25 #[.pointer (some ⟨bd, 0, none⟩), .agg #[.int .u8 kind, .string name, .string dst, .int .i8 number, .slice ao sc.length cap]] w fun e w' => e = .returned (.int .i64 r) ∧ Dk w0 w' bd m' := by
  simp [M.actOn, hk] at he
  have H := Lib.hid h
  have HE := Lib.hid he
  have HI := Lib.hid hi
  have HW := Lib.hid hw
  clear h he hi hw
  go_enter Try.func25, Try.ntmps25
  go_wp2_with fail
  refine ((H.out.alloc _).publish HE.out HW.out).mono ?_
  rintro e w' ⟨rfl, hd⟩
  have HD := Lib.hid hd
  clear hd
  go_wp2_with fail
  go_ret
  exact ⟨rfl, HD.out⟩
theorem act_5 {w0 w : World} {bd : Nat} {m : M} (h : Dk w0 w bd m) {kind number : Int} {name dst : ByteArray} {ao : Option Addr} {cap : Nat} {sc : List Int} (h0 : 0 ≤ kind) (h1 : kind ≤ 255) (hn : name.size ≤ 50) (ht : dst.size ≤ 50) (hs : sc.length ≤ 12) (n0 : -128 ≤ number) (n1 : number ≤ 127) (hi : IntsBody w ao cap sc) (hk : kind % 11 = 5)
    {r : Int} {m' : M} (he : m.actOn kind name.data.toList dst.data.toList number sc = (r, m')) (hw : m'.wt < 1073741823) :
    Calls Try.prog 25 #[.pointer (some ⟨bd, 0, none⟩), .agg #[.int .u8 kind, .string name, .string dst, .int .i8 number, .slice ao sc.length cap]] w fun e w' => e = .returned (.int .i64 r) ∧ Dk w0 w' bd m' := by
  simp [M.actOn, hk] at he
  have H := Lib.hid h
  have HE := Lib.hid he
  have HI := Lib.hid hi
  have HW := Lib.hid hw
  clear h he hi hw
  go_enter Try.func25, Try.ntmps25
  go_wp2_with fail
  refine ((H.out.alloc _).limit number (by omega) HE.out HW.out).mono ?_
  rintro e w' ⟨rfl, hd⟩
  have HD := Lib.hid hd
  clear hd
  go_wp2_with fail
  go_ret
  exact ⟨rfl, HD.out⟩
theorem act_6 {w0 w : World} {bd : Nat} {m : M} (h : Dk w0 w bd m) {kind number : Int} {name dst : ByteArray} {ao : Option Addr} {cap : Nat} {sc : List Int} (h0 : 0 ≤ kind) (h1 : kind ≤ 255) (hn : name.size ≤ 50) (ht : dst.size ≤ 50) (hs : sc.length ≤ 12) (n0 : -128 ≤ number) (n1 : number ≤ 127) (hi : IntsBody w ao cap sc) (hk : kind % 11 = 6)
    {r : Int} {m' : M} (he : m.actOn kind name.data.toList dst.data.toList number sc = (r, m')) (hw : m'.wt < 1073741823) :
    Calls Try.prog 25 #[.pointer (some ⟨bd, 0, none⟩), .agg #[.int .u8 kind, .string name, .string dst, .int .i8 number, .slice ao sc.length cap]] w fun e w' => e = .returned (.int .i64 r) ∧ Dk w0 w' bd m' := by
  simp [M.actOn, hk] at he
  have H := Lib.hid h
  have HE := Lib.hid he
  have HI := Lib.hid hi
  have HW := Lib.hid hw
  clear h he hi hw
  go_enter Try.func25, Try.ntmps25
  go_wp2_with fail
  refine ((H.out.alloc _).crash).mono ?_
  rintro e w' ⟨rfl, hd⟩
  obtain ⟨rfl, rfl⟩ := HE.out
  have HD := Lib.hid hd
  clear hd
  go_wp2_with fail
  go_ret
  exact ⟨rfl, HD.out⟩
theorem act_7 {w0 w : World} {bd : Nat} {m : M} (h : Dk w0 w bd m) {kind number : Int} {name dst : ByteArray} {ao : Option Addr} {cap : Nat} {sc : List Int} (h0 : 0 ≤ kind) (h1 : kind ≤ 255) (hn : name.size ≤ 50) (ht : dst.size ≤ 50) (hs : sc.length ≤ 12) (n0 : -128 ≤ number) (n1 : number ≤ 127) (hi : IntsBody w ao cap sc) (hk : kind % 11 = 7)
    {r : Int} {m' : M} (he : m.actOn kind name.data.toList dst.data.toList number sc = (r, m')) (hw : m'.wt < 1073741823) :
    Calls Try.prog 25 #[.pointer (some ⟨bd, 0, none⟩), .agg #[.int .u8 kind, .string name, .string dst, .int .i8 number, .slice ao sc.length cap]] w fun e w' => e = .returned (.int .i64 r) ∧ Dk w0 w' bd m' := by
  simp [M.actOn, hk] at he
  have H := Lib.hid h
  have HE := Lib.hid he
  have HI := Lib.hid hi
  have HW := Lib.hid hw
  clear h he hi hw
  go_enter Try.func25, Try.ntmps25
  go_wp2_with fail
  refine ((H.out.alloc _).start ao sc.length cap sc (HI.out.at (by omega) (((Below.refl _ _).alloc (Nat.le_refl _) _)))).mono ?_
  rintro e w' ⟨rfl, hd⟩
  obtain ⟨rfl, rfl⟩ := HE.out
  have HD := Lib.hid hd
  clear hd
  go_wp2_with fail
  go_ret
  exact ⟨rfl, HD.out⟩
theorem act_8 {w0 w : World} {bd : Nat} {m : M} (h : Dk w0 w bd m) {kind number : Int} {name dst : ByteArray} {ao : Option Addr} {cap : Nat} {sc : List Int} (h0 : 0 ≤ kind) (h1 : kind ≤ 255) (hn : name.size ≤ 50) (ht : dst.size ≤ 50) (hs : sc.length ≤ 12) (n0 : -128 ≤ number) (n1 : number ≤ 127) (hi : IntsBody w ao cap sc) (hk : kind % 11 = 8)
    {r : Int} {m' : M} (he : m.actOn kind name.data.toList dst.data.toList number sc = (r, m')) (hw : m'.wt < 1073741823) :
    Calls Try.prog 25 #[.pointer (some ⟨bd, 0, none⟩), .agg #[.int .u8 kind, .string name, .string dst, .int .i8 number, .slice ao sc.length cap]] w fun e w' => e = .returned (.int .i64 r) ∧ Dk w0 w' bd m' := by
  simp [M.actOn, hk] at he
  have H := Lib.hid h
  have HE := Lib.hid he
  have HI := Lib.hid hi
  have HW := Lib.hid hw
  clear h he hi hw
  go_enter Try.func25, Try.ntmps25
  go_wp2_with fail
  refine ((H.out.alloc _).append name dst (by omega) (by omega) HE.out HW.out).mono ?_
  rintro e w' ⟨rfl, hd⟩
  have HD := Lib.hid hd
  clear hd
  go_wp2_with fail
  go_ret
  exact ⟨rfl, HD.out⟩
theorem act_9 {w0 w : World} {bd : Nat} {m : M} (h : Dk w0 w bd m) {kind number : Int} {name dst : ByteArray} {ao : Option Addr} {cap : Nat} {sc : List Int} (h0 : 0 ≤ kind) (h1 : kind ≤ 255) (hn : name.size ≤ 50) (ht : dst.size ≤ 50) (hs : sc.length ≤ 12) (n0 : -128 ≤ number) (n1 : number ≤ 127) (hi : IntsBody w ao cap sc) (hk : kind % 11 = 9)
    {r : Int} {m' : M} (he : m.actOn kind name.data.toList dst.data.toList number sc = (r, m')) (hw : m'.wt < 1073741823) :
    Calls Try.prog 25 #[.pointer (some ⟨bd, 0, none⟩), .agg #[.int .u8 kind, .string name, .string dst, .int .i8 number, .slice ao sc.length cap]] w fun e w' => e = .returned (.int .i64 r) ∧ Dk w0 w' bd m' := by
  simp [M.actOn, hk] at he
  have H := Lib.hid h
  have HE := Lib.hid he
  have HI := Lib.hid hi
  have HW := Lib.hid hw
  clear h he hi hw
  go_enter Try.func25, Try.ntmps25
  go_wp2_with fail
  refine ((H.out.alloc _).append name dst (by omega) (by omega) HE.out HW.out).mono ?_
  rintro e w' ⟨rfl, hd⟩
  have HD := Lib.hid hd
  clear hd
  go_wp2_with fail
  go_ret
  exact ⟨rfl, HD.out⟩
theorem act_10 {w0 w : World} {bd : Nat} {m : M} (h : Dk w0 w bd m) {kind number : Int} {name dst : ByteArray} {ao : Option Addr} {cap : Nat} {sc : List Int} (h0 : 0 ≤ kind) (h1 : kind ≤ 255) (hn : name.size ≤ 50) (ht : dst.size ≤ 50) (hs : sc.length ≤ 12) (n0 : -128 ≤ number) (n1 : number ≤ 127) (hi : IntsBody w ao cap sc) (hk : kind % 11 = 10)
    {r : Int} {m' : M} (he : m.actOn kind name.data.toList dst.data.toList number sc = (r, m')) (hw : m'.wt < 1073741823) :
    Calls Try.prog 25 #[.pointer (some ⟨bd, 0, none⟩), .agg #[.int .u8 kind, .string name, .string dst, .int .i8 number, .slice ao sc.length cap]] w fun e w' => e = .returned (.int .i64 r) ∧ Dk w0 w' bd m' := by
  simp [M.actOn, hk] at he
  have H := Lib.hid h
  have HE := Lib.hid he
  have HI := Lib.hid hi
  have HW := Lib.hid hw
  clear h he hi hw
  go_enter Try.func25, Try.ntmps25
  go_wp2_with fail
  refine ((H.out.alloc _).append name dst (by omega) (by omega) HE.out HW.out).mono ?_
  rintro e w' ⟨rfl, hd⟩
  have HD := Lib.hid hd
  clear hd
  go_wp2_with fail
  go_ret
  exact ⟨rfl, HD.out⟩

theorem act_dk {w0 w : World} {bd : Nat} {m : M} (h : Dk w0 w bd m) (x : ActV) (hf : x.Fits w) (hx : x.small = true) (hwt : m.wt < 1073741822) {r : Int} {m' : M} (he : m.actOn x.kind x.name.data.toList x.to.data.toList x.number x.sc = (r, m')) :
    Calls Try.prog 25 #[.pointer (some ⟨bd, 0, none⟩), x.value] w fun e w' => e = .returned (.int .i64 r) ∧ Dk w0 w' bd m' := by
  obtain ⟨hn, ht, hs⟩ := small_at hx
  obtain ⟨h0, h1, _, _, n0, n1, hi, _⟩ := hf
  have hw : m'.wt < 1073741823 := by
    have := actOn_wt h.ok x.kind x.name.data.toList x.to.data.toList x.number x.sc
    rw [he] at this
    simp only at this
    omega
  rcases (show x.kind % 11 = 0 ∨ x.kind % 11 = 1 ∨ x.kind % 11 = 2 ∨ x.kind % 11 = 3 ∨ x.kind % 11 = 4 ∨ x.kind % 11 = 5 ∨ x.kind % 11 = 6 ∨ x.kind % 11 = 7 ∨ x.kind % 11 = 8 ∨ x.kind % 11 = 9 ∨ x.kind % 11 = 10 by omega) with k | k | k | k | k | k | k | k | k | k | k
  · exact act_0 h h0 h1 hn ht hs n0 n1 hi k he hw
  · exact act_1 h h0 h1 hn ht hs n0 n1 hi k he hw
  · exact act_2 h h0 h1 hn ht hs n0 n1 hi k he hw
  · exact act_3 h h0 h1 hn ht hs n0 n1 hi k he hw
  · exact act_4 h h0 h1 hn ht hs n0 n1 hi k he hw
  · exact act_5 h h0 h1 hn ht hs n0 n1 hi k he hw
  · exact act_6 h h0 h1 hn ht hs n0 n1 hi k he hw
  · exact act_7 h h0 h1 hn ht hs n0 n1 hi k he hw
  · exact act_8 h h0 h1 hn ht hs n0 n1 hi k he hw
  · exact act_9 h h0 h1 hn ht hs n0 n1 hi k he hw
  · exact act_10 h h0 h1 hn ht hs n0 n1 hi k he hw
end Go.Proofs.Ytlhnjdoicolkkaa
