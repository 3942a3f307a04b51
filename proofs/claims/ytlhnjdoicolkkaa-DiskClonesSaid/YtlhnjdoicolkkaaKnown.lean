/- The examples of the chapter that every statement asks first. -/
import Derived.Test.YtlhnjdoicolkkaaApi
set_option maxRecDepth 100000
namespace Go.Proofs.Ytlhnjdoicolkkaa
open Go.RowKit Go.Dsk Go.Maps Go.WideMaps
set_option maxHeartbeats 400000

/-- Numbers that have just been laid. -/
theorem ints_new (w : World) (sc : List Int) (hl : sc.length * 8 ≤ 140737488355328) : IntsAt (w.alloc (.cells (sc.map (Value.int .i64)).toArray 3)) (.slice (some ⟨w.heap.size, 0, none⟩) sc.length sc.length) sc := by
  refine ⟨hl, .inr (.inr ⟨w.heap.size, 0, sc.length, rfl, fun j hj => ?_⟩)⟩
  rw [block_cell (heap_alloc_new w _)]
  simp [List.getD_eq_getElem?_getD, hj]

def K1 : M := ((M.new 10).append [97] [97, 98, 99]).2
def K2 : M := (K1.sync [97]).2
def K3 : M := (K2.append [97] [100, 101]).2
def K4 : M := K3.publish.2
def K5 : M := K4.crash
def K6 : M := K5.start [0, 1, 1]
def K7 : M := (K6.setLimit 1).2
def K8 : M := (K7.append [98] [97, 98, 99]).2
def K9 : M := (K8.sync [98]).2
theorem k1 : (M.new 10).append [97] [97, 98, 99] = (0, K1) := rfl
theorem k2 : K1.sync [97] = (0, K2) := rfl
theorem k3 : K2.append [97] [100, 101] = (0, K3) := rfl
theorem k4 : K3.publish = (0, K4) := rfl
theorem k5 : K5.down = true := rfl
theorem k6 : K6.read [97] = ([97, 98, 99, 155], 0) := rfl
theorem k7 : K6.setLimit 1 = (0, K7) := rfl
theorem k8 : K7.append [98] [97, 98, 99] = (0, K8) := rfl
theorem k9 : K8.sync [98] = (32, K9) := rfl
theorem kw1 : K1.wt < 1073741823 := by decide
theorem kw2 : K2.wt < 1073741823 := by decide
theorem kw3 : K3.wt < 1073741823 := by decide
theorem kw4 : K4.wt < 1073741823 := by decide
theorem kw7 : K7.wt < 1073741823 := by decide
theorem kw8 : K8.wt < 1073741823 := by decide
theorem kw9 : K9.wt < 1073741823 := by decide

theorem known_any (w : World) : Calls Try.prog 11 #[] w fun e w' => e = .returned (.bool true) ∧ Below w.heap.size w w' := by
  go_enter Try.func11, Try.ntmps11
  go_wp2_with fail
  refine (New_dk 10 (by omega) (by omega) (Below.refl _ w)).mono ?_
  rintro e v1 ⟨bd, rfl, h1⟩
  have H1 := Lib.hid h1
  clear h1
  go_wp2_with fail
  refine (H1.out.append ⟨#[97]⟩ ⟨#[97, 98, 99]⟩ (by decide) (by decide) k1 kw1).mono ?_
  rintro e v2 ⟨rfl, h2⟩
  have H2 := Lib.hid h2
  clear h2
  go_wp2_with fail
  refine (H2.out.sync ⟨#[97]⟩ (by decide) k2 kw2).mono ?_
  rintro e v3 ⟨rfl, h3⟩
  have H3 := Lib.hid h3
  clear h3
  go_wp2_with fail
  refine (H3.out.append ⟨#[97]⟩ ⟨#[100, 101]⟩ (by decide) (by decide) k3 kw3).mono ?_
  rintro e v4 ⟨rfl, h4⟩
  have H4 := Lib.hid h4
  clear h4
  go_wp2_with fail
  refine (H4.out.publish k4 kw4).mono ?_
  rintro e v5 ⟨rfl, h5⟩
  have H5 := Lib.hid h5
  clear h5
  go_wp2_with fail
  refine (H5.out.crash).mono ?_
  rintro e v6 ⟨rfl, h6⟩
  have H6 := Lib.hid h6
  clear h6
  go_wp2_with fail
  refine (H6.out.down k5).mono ?_
  rintro e v6 ⟨rfl, rfl⟩
  go_wp2_with fail
  have hv := ints_new v6 [0, 1, 1] (by decide)
  have H6a := Lib.hid (H6.out.alloc (.cells #[.int .i64 0, .int .i64 1, .int .i64 1] 3))
  refine (H6a.out.start (some ⟨v6.heap.size, 0, none⟩) 3 3 [0, 1, 1] hv).mono ?_
  rintro e v7 ⟨rfl, h7⟩
  have H7 := Lib.hid (show Dk w v7 bd K6 from h7)
  clear h7 hv
  go_wp2_with fail
  refine (H7.out.read ⟨#[97]⟩ (by decide) k6).mono ?_
  rintro e v7' ⟨rfl, rfl⟩
  go_wp2_with fail
  refine (H7.out.limit 1 (by omega) k7 kw7).mono ?_
  rintro e v8 ⟨rfl, h8⟩
  have H8 := Lib.hid h8
  clear h8
  go_wp2_with fail
  refine (H8.out.append ⟨#[98]⟩ ⟨#[97, 98, 99]⟩ (by decide) (by decide) k8 kw8).mono ?_
  rintro e v9 ⟨rfl, h9⟩
  have H9 := Lib.hid h9
  clear h9
  go_wp2_with fail
  refine (H9.out.sync ⟨#[98]⟩ (by decide) k9 kw9).mono ?_
  rintro e v10 ⟨rfl, h10⟩
  have H10 := Lib.hid h10
  clear h10
  go_wp2_with fail
  go_ret
  exact ⟨rfl, H10.out.below⟩
end Go.Proofs.Ytlhnjdoicolkkaa
