/- act upon a disk beside other things. -/
import Derived.Test.YtlhnjdoicolkkaaMAct
set_option maxRecDepth 100000
namespace Go.Proofs.Ytlhnjdoicolkkaa
open Go.RowKit Go.Dsk Go.Maps Go.WideMaps
set_option maxHeartbeats 1000000
set_option linter.unusedVariables false

theorem dact_0 {w0 w : World} {bd : Nat} {m : M} {R : SP} (hR : Nice R) (h : Dr R w0 w bd m) {kind number : Int} {name dst : ByteArray} {ao : Option Addr} {cap : Nat} {sc : List Int} (h0 : 0 ≤ kind) (h1 : kind ≤ 255) (hn : name.size ≤ 50) (ht : dst.size ≤ 50) (hs : sc.length ≤ 12) (n0 : -128 ≤ number) (n1 : number ≤ 127) (hi : IntsBody w ao cap sc) (hk : kind % 11 = 0)
    {r : Int} {m' : M} (he : m.actOn kind name.data.toList dst.data.toList number sc = (r, m')) (hw : m'.wt < 1073741823) :
    Calls Try.prog 25 #[.pointer (some ⟨bd, 0, none⟩), .agg #[.int .u8 kind, .string name, .string dst, .int .i8 number, .slice ao sc.length cap]] w fun e w' => e = .returned (.int .i64 r) ∧ Dr R w0 w' bd m' := by
  simp [M.actOn, hk] at he
  have H := Lib.hid h
  have HE := Lib.hid he
  have HI := Lib.hid hi
  have HW := Lib.hid hw
  clear h he hi hw
  go_enter Try.func25, Try.ntmps25
  go_wp2_with fail
  refine (dr_append hR (H.out.moved (Nice.star (nice_disk _ _) hR) (bb _ _)) name dst (by omega) (by omega) HE.out HW.out).mono ?_
  rintro e w' ⟨rfl, hd⟩
  have HD := Lib.hid hd
  clear hd
  go_wp2_with fail
  go_ret
  exact ⟨rfl, HD.out⟩
theorem dact_1 {w0 w : World} {bd : Nat} {m : M} {R : SP} (hR : Nice R) (h : Dr R w0 w bd m) {kind number : Int} {name dst : ByteArray} {ao : Option Addr} {cap : Nat} {sc : List Int} (h0 : 0 ≤ kind) (h1 : kind ≤ 255) (hn : name.size ≤ 50) (ht : dst.size ≤ 50) (hs : sc.length ≤ 12) (n0 : -128 ≤ number) (n1 : number ≤ 127) (hi : IntsBody w ao cap sc) (hk : kind % 11 = 1)
    {r : Int} {m' : M} (he : m.actOn kind name.data.toList dst.data.toList number sc = (r, m')) (hw : m'.wt < 1073741823) :
    Calls Try.prog 25 #[.pointer (some ⟨bd, 0, none⟩), .agg #[.int .u8 kind, .string name, .string dst, .int .i8 number, .slice ao sc.length cap]] w fun e w' => e = .returned (.int .i64 r) ∧ Dr R w0 w' bd m' := by
  simp [M.actOn, hk] at he
  have H := Lib.hid h
  have HE := Lib.hid he
  have HI := Lib.hid hi
  have HW := Lib.hid hw
  clear h he hi hw
  go_enter Try.func25, Try.ntmps25
  go_wp2_with fail
  refine (dr_sync hR (H.out.moved (Nice.star (nice_disk _ _) hR) (bb _ _)) name (by omega) HE.out HW.out).mono ?_
  rintro e w' ⟨rfl, hd⟩
  have HD := Lib.hid hd
  clear hd
  go_wp2_with fail
  go_ret
  exact ⟨rfl, HD.out⟩
theorem dact_2 {w0 w : World} {bd : Nat} {m : M} {R : SP} (hR : Nice R) (h : Dr R w0 w bd m) {kind number : Int} {name dst : ByteArray} {ao : Option Addr} {cap : Nat} {sc : List Int} (h0 : 0 ≤ kind) (h1 : kind ≤ 255) (hn : name.size ≤ 50) (ht : dst.size ≤ 50) (hs : sc.length ≤ 12) (n0 : -128 ≤ number) (n1 : number ≤ 127) (hi : IntsBody w ao cap sc) (hk : kind % 11 = 2)
    {r : Int} {m' : M} (he : m.actOn kind name.data.toList dst.data.toList number sc = (r, m')) (hw : m'.wt < 1073741823) :
    Calls Try.prog 25 #[.pointer (some ⟨bd, 0, none⟩), .agg #[.int .u8 kind, .string name, .string dst, .int .i8 number, .slice ao sc.length cap]] w fun e w' => e = .returned (.int .i64 r) ∧ Dr R w0 w' bd m' := by
  simp [M.actOn, hk] at he
  have H := Lib.hid h
  have HE := Lib.hid he
  have HI := Lib.hid hi
  have HW := Lib.hid hw
  clear h he hi hw
  go_enter Try.func25, Try.ntmps25
  go_wp2_with fail
  refine (dr_rename hR (H.out.moved (Nice.star (nice_disk _ _) hR) (bb _ _)) name dst (by omega) (by omega) HE.out HW.out).mono ?_
  rintro e w' ⟨rfl, hd⟩
  have HD := Lib.hid hd
  clear hd
  go_wp2_with fail
  go_ret
  exact ⟨rfl, HD.out⟩
theorem dact_3 {w0 w : World} {bd : Nat} {m : M} {R : SP} (hR : Nice R) (h : Dr R w0 w bd m) {kind number : Int} {name dst : ByteArray} {ao : Option Addr} {cap : Nat} {sc : List Int} (h0 : 0 ≤ kind) (h1 : kind ≤ 255) (hn : name.size ≤ 50) (ht : dst.size ≤ 50) (hs : sc.length ≤ 12) (n0 : -128 ≤ number) (n1 : number ≤ 127) (hi : IntsBody w ao cap sc) (hk : kind % 11 = 3)
    {r : Int} {m' : M} (he : m.actOn kind name.data.toList dst.data.toList number sc = (r, m')) (hw : m'.wt < 1073741823) :
    Calls Try.prog 25 #[.pointer (some ⟨bd, 0, none⟩), .agg #[.int .u8 kind, .string name, .string dst, .int .i8 number, .slice ao sc.length cap]] w fun e w' => e = .returned (.int .i64 r) ∧ Dr R w0 w' bd m' := by
  simp [M.actOn, hk] at he
  have H := Lib.hid h
  have HE := Lib.hid he
  have HI := Lib.hid hi
  have HW := Lib.hid hw
  clear h he hi hw
  go_enter Try.func25, Try.ntmps25
  go_wp2_with fail
  refine (dr_remove hR (H.out.moved (Nice.star (nice_disk _ _) hR) (bb _ _)) name (by omega) HE.out HW.out).mono ?_
  rintro e w' ⟨rfl, hd⟩
  have HD := Lib.hid hd
  clear hd
  go_wp2_with fail
  go_ret
  exact ⟨rfl, HD.out⟩
theorem dact_4 {w0 w : World} {bd : Nat} {m : M} {R : SP} (hR : Nice R) (h : Dr R w0 w bd m) {kind number : Int} {name dst : ByteArray} {ao : Option Addr} {cap : Nat} {sc : List Int} (h0 : 0 ≤ kind) (h1 : kind ≤ 255) (hn : name.size ≤ 50) (ht : dst.size ≤ 50) (hs : sc.length ≤ 12) (n0 : -128 ≤ number) (n1 : number ≤ 127) (hi : IntsBody w ao cap sc) (hk : kind % 11 = 4)
    {r : Int} {m' : M} (he : m.actOn kind name.data.toList dst.data.toList number sc = (r, m')) (hw : m'.wt < 1073741823) :
    Calls Try.prog 25 #[.pointer (some ⟨bd, 0, none⟩), .agg #[.int .u8 kind, .string name, .string dst, .int .i8 number, .slice ao sc.length cap]] w fun e w' => e = .returned (.int .i64 r) ∧ Dr R w0 w' bd m' := by
  simp [M.actOn, hk] at he
  have H := Lib.hid h
  have HE := Lib.hid he
  have HI := Lib.hid hi
  have HW := Lib.hid hw
  clear h he hi hw
  go_enter Try.func25, Try.ntmps25
  go_wp2_with fail
  refine (dr_publish hR (H.out.moved (Nice.star (nice_disk _ _) hR) (bb _ _)) HE.out HW.out).mono ?_
  rintro e w' ⟨rfl, hd⟩
  have HD := Lib.hid hd
  clear hd
  go_wp2_with fail
  go_ret
  exact ⟨rfl, HD.out⟩
theorem dact_5 {w0 w : World} {bd : Nat} {m : M} {R : SP} (hR : Nice R) (h : Dr R w0 w bd m) {kind number : Int} {name dst : ByteArray} {ao : Option Addr} {cap : Nat} {sc : List Int} (h0 : 0 ≤ kind) (h1 : kind ≤ 255) (hn : name.size ≤ 50) (ht : dst.size ≤ 50) (hs : sc.length ≤ 12) (n0 : -128 ≤ number) (n1 : number ≤ 127) (hi : IntsBody w ao cap sc) (hk : kind % 11 = 5)
    {r : Int} {m' : M} (he : m.actOn kind name.data.toList dst.data.toList number sc = (r, m')) (hw : m'.wt < 1073741823) :
    Calls Try.prog 25 #[.pointer (some ⟨bd, 0, none⟩), .agg #[.int .u8 kind, .string name, .string dst, .int .i8 number, .slice ao sc.length cap]] w fun e w' => e = .returned (.int .i64 r) ∧ Dr R w0 w' bd m' := by
  simp [M.actOn, hk] at he
  have H := Lib.hid h
  have HE := Lib.hid he
  have HI := Lib.hid hi
  have HW := Lib.hid hw
  clear h he hi hw
  go_enter Try.func25, Try.ntmps25
  go_wp2_with fail
  refine (dr_limit hR (H.out.moved (Nice.star (nice_disk _ _) hR) (bb _ _)) number (by omega) HE.out HW.out).mono ?_
  rintro e w' ⟨rfl, hd⟩
  have HD := Lib.hid hd
  clear hd
  go_wp2_with fail
  go_ret
  exact ⟨rfl, HD.out⟩
theorem dact_6 {w0 w : World} {bd : Nat} {m : M} {R : SP} (hR : Nice R) (h : Dr R w0 w bd m) {kind number : Int} {name dst : ByteArray} {ao : Option Addr} {cap : Nat} {sc : List Int} (h0 : 0 ≤ kind) (h1 : kind ≤ 255) (hn : name.size ≤ 50) (ht : dst.size ≤ 50) (hs : sc.length ≤ 12) (n0 : -128 ≤ number) (n1 : number ≤ 127) (hi : IntsBody w ao cap sc) (hk : kind % 11 = 6)
    {r : Int} {m' : M} (he : m.actOn kind name.data.toList dst.data.toList number sc = (r, m')) (hw : m'.wt < 1073741823) :
    Calls Try.prog 25 #[.pointer (some ⟨bd, 0, none⟩), .agg #[.int .u8 kind, .string name, .string dst, .int .i8 number, .slice ao sc.length cap]] w fun e w' => e = .returned (.int .i64 r) ∧ Dr R w0 w' bd m' := by
  simp [M.actOn, hk] at he
  have H := Lib.hid h
  have HE := Lib.hid he
  have HI := Lib.hid hi
  have HW := Lib.hid hw
  clear h he hi hw
  go_enter Try.func25, Try.ntmps25
  go_wp2_with fail
  refine (dr_crash hR (H.out.moved (Nice.star (nice_disk _ _) hR) (bb _ _))).mono ?_
  rintro e w' ⟨rfl, hd⟩
  obtain ⟨rfl, rfl⟩ := HE.out
  have HD := Lib.hid hd
  clear hd
  go_wp2_with fail
  go_ret
  exact ⟨rfl, HD.out⟩
theorem dact_7 {w0 w : World} {bd : Nat} {m : M} {R : SP} (hR : Nice R) (h : Dr R w0 w bd m) {kind number : Int} {name dst : ByteArray} {ao : Option Addr} {cap : Nat} {sc : List Int} (h0 : 0 ≤ kind) (h1 : kind ≤ 255) (hn : name.size ≤ 50) (ht : dst.size ≤ 50) (hs : sc.length ≤ 12) (n0 : -128 ≤ number) (n1 : number ≤ 127) (hi : IntsBody w ao cap sc) (hk : kind % 11 = 7)
    {r : Int} {m' : M} (he : m.actOn kind name.data.toList dst.data.toList number sc = (r, m')) (hw : m'.wt < 1073741823) :
    Calls Try.prog 25 #[.pointer (some ⟨bd, 0, none⟩), .agg #[.int .u8 kind, .string name, .string dst, .int .i8 number, .slice ao sc.length cap]] w fun e w' => e = .returned (.int .i64 r) ∧ Dr R w0 w' bd m' := by
  simp [M.actOn, hk] at he
  have H := Lib.hid h
  have HE := Lib.hid he
  have HI := Lib.hid hi
  have HW := Lib.hid hw
  clear h he hi hw
  go_enter Try.func25, Try.ntmps25
  go_wp2_with fail
  refine (dr_start hR (H.out.moved (Nice.star (nice_disk _ _) hR) (bb _ _)) ao sc.length cap sc (HI.out.at (by omega) (((Below.refl _ _).alloc (Nat.le_refl _) _)))).mono ?_
  rintro e w' ⟨rfl, hd⟩
  obtain ⟨rfl, rfl⟩ := HE.out
  have HD := Lib.hid hd
  clear hd
  go_wp2_with fail
  go_ret
  exact ⟨rfl, HD.out⟩
theorem dact_8 {w0 w : World} {bd : Nat} {m : M} {R : SP} (hR : Nice R) (h : Dr R w0 w bd m) {kind number : Int} {name dst : ByteArray} {ao : Option Addr} {cap : Nat} {sc : List Int} (h0 : 0 ≤ kind) (h1 : kind ≤ 255) (hn : name.size ≤ 50) (ht : dst.size ≤ 50) (hs : sc.length ≤ 12) (n0 : -128 ≤ number) (n1 : number ≤ 127) (hi : IntsBody w ao cap sc) (hk : kind % 11 = 8)
    {r : Int} {m' : M} (he : m.actOn kind name.data.toList dst.data.toList number sc = (r, m')) (hw : m'.wt < 1073741823) :
    Calls Try.prog 25 #[.pointer (some ⟨bd, 0, none⟩), .agg #[.int .u8 kind, .string name, .string dst, .int .i8 number, .slice ao sc.length cap]] w fun e w' => e = .returned (.int .i64 r) ∧ Dr R w0 w' bd m' := by
  simp [M.actOn, hk] at he
  have H := Lib.hid h
  have HE := Lib.hid he
  have HI := Lib.hid hi
  have HW := Lib.hid hw
  clear h he hi hw
  go_enter Try.func25, Try.ntmps25
  go_wp2_with fail
  refine (dr_append hR (H.out.moved (Nice.star (nice_disk _ _) hR) (bb _ _)) name dst (by omega) (by omega) HE.out HW.out).mono ?_
  rintro e w' ⟨rfl, hd⟩
  have HD := Lib.hid hd
  clear hd
  go_wp2_with fail
  go_ret
  exact ⟨rfl, HD.out⟩
theorem dact_9 {w0 w : World} {bd : Nat} {m : M} {R : SP} (hR : Nice R) (h : Dr R w0 w bd m) {kind number : Int} {name dst : ByteArray} {ao : Option Addr} {cap : Nat} {sc : List Int} (h0 : 0 ≤ kind) (h1 : kind ≤ 255) (hn : name.size ≤ 50) (ht : dst.size ≤ 50) (hs : sc.length ≤ 12) (n0 : -128 ≤ number) (n1 : number ≤ 127) (hi : IntsBody w ao cap sc) (hk : kind % 11 = 9)
    {r : Int} {m' : M} (he : m.actOn kind name.data.toList dst.data.toList number sc = (r, m')) (hw : m'.wt < 1073741823) :
    Calls Try.prog 25 #[.pointer (some ⟨bd, 0, none⟩), .agg #[.int .u8 kind, .string name, .string dst, .int .i8 number, .slice ao sc.length cap]] w fun e w' => e = .returned (.int .i64 r) ∧ Dr R w0 w' bd m' := by
  simp [M.actOn, hk] at he
  have H := Lib.hid h
  have HE := Lib.hid he
  have HI := Lib.hid hi
  have HW := Lib.hid hw
  clear h he hi hw
  go_enter Try.func25, Try.ntmps25
  go_wp2_with fail
  refine (dr_append hR (H.out.moved (Nice.star (nice_disk _ _) hR) (bb _ _)) name dst (by omega) (by omega) HE.out HW.out).mono ?_
  rintro e w' ⟨rfl, hd⟩
  have HD := Lib.hid hd
  clear hd
  go_wp2_with fail
  go_ret
  exact ⟨rfl, HD.out⟩
theorem dact_10 {w0 w : World} {bd : Nat} {m : M} {R : SP} (hR : Nice R) (h : Dr R w0 w bd m) {kind number : Int} {name dst : ByteArray} {ao : Option Addr} {cap : Nat} {sc : List Int} (h0 : 0 ≤ kind) (h1 : kind ≤ 255) (hn : name.size ≤ 50) (ht : dst.size ≤ 50) (hs : sc.length ≤ 12) (n0 : -128 ≤ number) (n1 : number ≤ 127) (hi : IntsBody w ao cap sc) (hk : kind % 11 = 10)
    {r : Int} {m' : M} (he : m.actOn kind name.data.toList dst.data.toList number sc = (r, m')) (hw : m'.wt < 1073741823) :
    Calls Try.prog 25 #[.pointer (some ⟨bd, 0, none⟩), .agg #[.int .u8 kind, .string name, .string dst, .int .i8 number, .slice ao sc.length cap]] w fun e w' => e = .returned (.int .i64 r) ∧ Dr R w0 w' bd m' := by
  simp [M.actOn, hk] at he
  have H := Lib.hid h
  have HE := Lib.hid he
  have HI := Lib.hid hi
  have HW := Lib.hid hw
  clear h he hi hw
  go_enter Try.func25, Try.ntmps25
  go_wp2_with fail
  refine (dr_append hR (H.out.moved (Nice.star (nice_disk _ _) hR) (bb _ _)) name dst (by omega) (by omega) HE.out HW.out).mono ?_
  rintro e w' ⟨rfl, hd⟩
  have HD := Lib.hid hd
  clear hd
  go_wp2_with fail
  go_ret
  exact ⟨rfl, HD.out⟩

theorem dr_act {w0 w : World} {bd : Nat} {m : M} {R : SP} (hR : Nice R) (h : Dr R w0 w bd m) (x : ActV) (hf : x.Fits w) (hx : x.small = true) (hwt : m.wt < 1073741822) {r : Int} {m' : M} (he : m.actOn x.kind x.name.data.toList x.to.data.toList x.number x.sc = (r, m')) :
    Calls Try.prog 25 #[.pointer (some ⟨bd, 0, none⟩), x.value] w fun e w' => e = .returned (.int .i64 r) ∧ Dr R w0 w' bd m' := by
  obtain ⟨hn, ht, hs⟩ := small_at hx
  obtain ⟨h0, h1, _, _, n0, n1, hi, _⟩ := hf
  have hw : m'.wt < 1073741823 := by
    have := actOn_wt (dr_ok h) x.kind x.name.data.toList x.to.data.toList x.number x.sc
    rw [he] at this
    simp only at this
    omega
  rcases (show x.kind % 11 = 0 ∨ x.kind % 11 = 1 ∨ x.kind % 11 = 2 ∨ x.kind % 11 = 3 ∨ x.kind % 11 = 4 ∨ x.kind % 11 = 5 ∨ x.kind % 11 = 6 ∨ x.kind % 11 = 7 ∨ x.kind % 11 = 8 ∨ x.kind % 11 = 9 ∨ x.kind % 11 = 10 by omega) with k | k | k | k | k | k | k | k | k | k | k
  · exact dact_0 hR h h0 h1 hn ht hs n0 n1 hi k he hw
  · exact dact_1 hR h h0 h1 hn ht hs n0 n1 hi k he hw
  · exact dact_2 hR h h0 h1 hn ht hs n0 n1 hi k he hw
  · exact dact_3 hR h h0 h1 hn ht hs n0 n1 hi k he hw
  · exact dact_4 hR h h0 h1 hn ht hs n0 n1 hi k he hw
  · exact dact_5 hR h h0 h1 hn ht hs n0 n1 hi k he hw
  · exact dact_6 hR h h0 h1 hn ht hs n0 n1 hi k he hw
  · exact dact_7 hR h h0 h1 hn ht hs n0 n1 hi k he hw
  · exact dact_8 hR h h0 h1 hn ht hs n0 n1 hi k he hw
  · exact dact_9 hR h h0 h1 hn ht hs n0 n1 hi k he hw
  · exact dact_10 hR h h0 h1 hn ht hs n0 n1 hi k he hw
end Go.Proofs.Ytlhnjdoicolkkaa
