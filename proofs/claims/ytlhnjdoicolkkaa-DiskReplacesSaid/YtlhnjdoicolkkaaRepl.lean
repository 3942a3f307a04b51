/- A file that is replaced is the old one or the new one behind a failure: the walk. -/
import Derived.Test.YtlhnjdoicolkkaaKnown
import Derived.Test.YtlhnjdoicolkkaaReplPure
import Derived.Test.YtlhnjdoicolkkaaInAt
set_option maxRecDepth 100000
namespace Go.Proofs.Ytlhnjdoicolkkaa
open Go.RowKit Go.Dsk Go.Maps Go.WideMaps
set_option maxHeartbeats 1000000

/-- The parameter x, which lies in a box of its own. -/
theorem box_at {w v : World} {lim : Int} {ao : Option Addr} {n c : Nat} (hb : Below (w.alloc (.cells #[.int .u8 lim, .slice ao n c] 41)).heap.size (w.alloc (.cells #[.int .u8 lim, .slice ao n c] 41)) v) :
    v.cell? ⟨w.heap.size, 0, none⟩ = some (.int .u8 lim) ∧ v.cell? ⟨w.heap.size, 1, none⟩ = some (.slice ao n c) :=
  ⟨(hb.cell (p := ⟨w.heap.size, 0, none⟩) (by simp)).trans (by simp only [World.cell?, heap_alloc_new]; rfl), (hb.cell (p := ⟨w.heap.size, 1, none⟩) (by simp)).trans (by simp only [World.cell?, heap_alloc_new]; rfl)⟩

section
variable {w : World} {old new : ByteArray} {ao : Option Addr} {c : Nat} {sc : List Int} {lim : Int}

theorem repl_0 (ho : old.size ≤ 50) (hn : new.size ≤ 50) (h0 : 0 ≤ lim) (h1 : lim ≤ 255) (hs : sc.length ≤ 12) (hb : IntsBody w ao c sc) (hL : lim % 6 = 0) :
    Calls Try.prog 5 #[.string old, .string new, .agg #[.int .u8 lim, .slice ao sc.length c]] w fun e w' => e = .returned (.bool true) ∧ Below w.heap.size w w' := by
  have HB := Lib.hid hb
  clear hb
  go_enter Try.func5, Try.ntmps5
  go_wp2_with fail
  refine (known_any _).mono ?_
  rintro e v0 ⟨rfl, hb0⟩
  have HB0 := Lib.hid hb0
  clear hb0
  obtain ⟨hxa, hxb⟩ := box_at HB0.out
  go_wp2_with fail
  refine (New_dk 200 (by omega) (by omega) HB0.out).mono ?_
  rintro e v1 ⟨bd, rfl, h⟩
  have D0 := Lib.hid h
  clear h hxa hxb
  obtain ⟨hxa, hxb⟩ := box_at D0.out.below
  go_wp2_with fail
  refine (D0.out.append ⟨#[97]⟩ old (by decide) (by omega) (show _ = ((0 : Int), (R1 old.data.toList)) from r1 old.data.toList (by rw [len_toList]; exact ho)) (by simp [M.wt, R1])).mono ?_
  rintro e v2 ⟨rfl, h⟩
  have D1 := Lib.hid h
  clear h hxa hxb
  obtain ⟨hxa, hxb⟩ := box_at D1.out.below
  go_wp2_with fail
  refine (D1.out.sync ⟨#[97]⟩ (by decide) (show _ = ((0 : Int), (R2 old.data.toList)) from r2 old.data.toList) (by simp [M.wt, R2])).mono ?_
  rintro e v3 ⟨rfl, h⟩
  have D2 := Lib.hid h
  clear h hxa hxb
  obtain ⟨hxa, hxb⟩ := box_at D2.out.below
  go_wp2_with fail
  refine (D2.out.publish (show _ = ((0 : Int), (R3 old.data.toList (-1))) from r3 old.data.toList) (by simp [M.wt, R3])).mono ?_
  rintro e v4 ⟨rfl, h⟩
  have D3 := Lib.hid h
  clear h hxa hxb
  obtain ⟨hxa, hxb⟩ := box_at D3.out.below
  go_wp2_with fail
  refine (D3.out.limit 0 (by omega) (show _ = ((0 : Int), (R3 old.data.toList 0)) from r3' old.data.toList 0 (by omega)) (by simp [M.wt, R3])).mono ?_
  rintro e v5 ⟨rfl, h⟩
  have D4 := Lib.hid h
  clear h hxa hxb
  obtain ⟨hxa, hxb⟩ := box_at D4.out.below
  go_wp2_with fail
  refine (D4.out.append ⟨#[98]⟩ new (by decide) (by omega) (show _ = ((32 : Int), (R4 old.data.toList new.data.toList 0 true)) from r4z old.data.toList new.data.toList (by rw [len_toList]; exact ho) (by rw [len_toList]; exact hn)) (by simp [M.wt, R4])).mono ?_
  rintro e v6 ⟨rfl, h⟩
  have D5 := Lib.hid h
  clear h hxa hxb
  obtain ⟨hxa, hxb⟩ := box_at D5.out.below
  go_wp2_with fail
  refine (D5.out.crash).mono ?_
  rintro e vc ⟨rfl, h⟩
  have DC := Lib.hid h
  clear h hxa hxb
  obtain ⟨hxa, hxb⟩ := box_at DC.out.below
  go_wp2_with fail
  refine (DC.out.start ao sc.length c sc (HB.out.at (by omega) (below_box DC.out.below))).mono ?_
  rintro e vs ⟨rfl, h⟩
  have DS := Lib.hid h
  clear h hxa hxb
  go_wp2_with fail
  refine (DS.out.read ⟨#[97]⟩ (by decide) (r4_read old.data.toList new.data.toList 0 true sc)).mono ?_
  rintro e vr ⟨rfl, rfl⟩
  simp only [mk_toList]
  go_wp2_with fail
  all_goals
    go_ret
    exact ⟨rfl, below_box DS.out.below⟩

theorem repl_1 (ho : old.size ≤ 50) (hn : new.size ≤ 50) (h0 : 0 ≤ lim) (h1 : lim ≤ 255) (hs : sc.length ≤ 12) (hb : IntsBody w ao c sc) (hL : lim % 6 = 1) :
    Calls Try.prog 5 #[.string old, .string new, .agg #[.int .u8 lim, .slice ao sc.length c]] w fun e w' => e = .returned (.bool true) ∧ Below w.heap.size w w' := by
  have HB := Lib.hid hb
  clear hb
  go_enter Try.func5, Try.ntmps5
  go_wp2_with fail
  refine (known_any _).mono ?_
  rintro e v0 ⟨rfl, hb0⟩
  have HB0 := Lib.hid hb0
  clear hb0
  obtain ⟨hxa, hxb⟩ := box_at HB0.out
  go_wp2_with fail
  refine (New_dk 200 (by omega) (by omega) HB0.out).mono ?_
  rintro e v1 ⟨bd, rfl, h⟩
  have D0 := Lib.hid h
  clear h hxa hxb
  obtain ⟨hxa, hxb⟩ := box_at D0.out.below
  go_wp2_with fail
  refine (D0.out.append ⟨#[97]⟩ old (by decide) (by omega) (show _ = ((0 : Int), (R1 old.data.toList)) from r1 old.data.toList (by rw [len_toList]; exact ho)) (by simp [M.wt, R1])).mono ?_
  rintro e v2 ⟨rfl, h⟩
  have D1 := Lib.hid h
  clear h hxa hxb
  obtain ⟨hxa, hxb⟩ := box_at D1.out.below
  go_wp2_with fail
  refine (D1.out.sync ⟨#[97]⟩ (by decide) (show _ = ((0 : Int), (R2 old.data.toList)) from r2 old.data.toList) (by simp [M.wt, R2])).mono ?_
  rintro e v3 ⟨rfl, h⟩
  have D2 := Lib.hid h
  clear h hxa hxb
  obtain ⟨hxa, hxb⟩ := box_at D2.out.below
  go_wp2_with fail
  refine (D2.out.publish (show _ = ((0 : Int), (R3 old.data.toList (-1))) from r3 old.data.toList) (by simp [M.wt, R3])).mono ?_
  rintro e v4 ⟨rfl, h⟩
  have D3 := Lib.hid h
  clear h hxa hxb
  obtain ⟨hxa, hxb⟩ := box_at D3.out.below
  go_wp2_with fail
  refine (D3.out.limit 1 (by omega) (show _ = ((0 : Int), (R3 old.data.toList 1)) from r3' old.data.toList 1 (by omega)) (by simp [M.wt, R3])).mono ?_
  rintro e v5 ⟨rfl, h⟩
  have D4 := Lib.hid h
  clear h hxa hxb
  obtain ⟨hxa, hxb⟩ := box_at D4.out.below
  go_wp2_with fail
  refine (D4.out.append ⟨#[98]⟩ new (by decide) (by omega) (show _ = ((0 : Int), (R4 old.data.toList new.data.toList 0 false)) from r4s old.data.toList new.data.toList 1 (by omega) (by rw [len_toList]; exact ho) (by rw [len_toList]; exact hn)) (by simp [M.wt, R4])).mono ?_
  rintro e v6 ⟨rfl, h⟩
  have D5 := Lib.hid h
  clear h hxa hxb
  obtain ⟨hxa, hxb⟩ := box_at D5.out.below
  go_wp2_with fail
  refine (D5.out.sync ⟨#[98]⟩ (by decide) (show _ = ((32 : Int), (R4 old.data.toList new.data.toList 0 true)) from r5z old.data.toList new.data.toList) (by simp [M.wt, R4])).mono ?_
  rintro e v7 ⟨rfl, h⟩
  have D6 := Lib.hid h
  clear h hxa hxb
  obtain ⟨hxa, hxb⟩ := box_at D6.out.below
  go_wp2_with fail
  refine (D6.out.crash).mono ?_
  rintro e vc ⟨rfl, h⟩
  have DC := Lib.hid h
  clear h hxa hxb
  obtain ⟨hxa, hxb⟩ := box_at DC.out.below
  go_wp2_with fail
  refine (DC.out.start ao sc.length c sc (HB.out.at (by omega) (below_box DC.out.below))).mono ?_
  rintro e vs ⟨rfl, h⟩
  have DS := Lib.hid h
  clear h hxa hxb
  go_wp2_with fail
  refine (DS.out.read ⟨#[97]⟩ (by decide) (r4_read old.data.toList new.data.toList 0 true sc)).mono ?_
  rintro e vr ⟨rfl, rfl⟩
  simp only [mk_toList]
  go_wp2_with fail
  all_goals
    go_ret
    exact ⟨rfl, below_box DS.out.below⟩

theorem repl_2 (ho : old.size ≤ 50) (hn : new.size ≤ 50) (h0 : 0 ≤ lim) (h1 : lim ≤ 255) (hs : sc.length ≤ 12) (hb : IntsBody w ao c sc) (hL : lim % 6 = 2) :
    Calls Try.prog 5 #[.string old, .string new, .agg #[.int .u8 lim, .slice ao sc.length c]] w fun e w' => e = .returned (.bool true) ∧ Below w.heap.size w w' := by
  have HB := Lib.hid hb
  clear hb
  go_enter Try.func5, Try.ntmps5
  go_wp2_with fail
  refine (known_any _).mono ?_
  rintro e v0 ⟨rfl, hb0⟩
  have HB0 := Lib.hid hb0
  clear hb0
  obtain ⟨hxa, hxb⟩ := box_at HB0.out
  go_wp2_with fail
  refine (New_dk 200 (by omega) (by omega) HB0.out).mono ?_
  rintro e v1 ⟨bd, rfl, h⟩
  have D0 := Lib.hid h
  clear h hxa hxb
  obtain ⟨hxa, hxb⟩ := box_at D0.out.below
  go_wp2_with fail
  refine (D0.out.append ⟨#[97]⟩ old (by decide) (by omega) (show _ = ((0 : Int), (R1 old.data.toList)) from r1 old.data.toList (by rw [len_toList]; exact ho)) (by simp [M.wt, R1])).mono ?_
  rintro e v2 ⟨rfl, h⟩
  have D1 := Lib.hid h
  clear h hxa hxb
  obtain ⟨hxa, hxb⟩ := box_at D1.out.below
  go_wp2_with fail
  refine (D1.out.sync ⟨#[97]⟩ (by decide) (show _ = ((0 : Int), (R2 old.data.toList)) from r2 old.data.toList) (by simp [M.wt, R2])).mono ?_
  rintro e v3 ⟨rfl, h⟩
  have D2 := Lib.hid h
  clear h hxa hxb
  obtain ⟨hxa, hxb⟩ := box_at D2.out.below
  go_wp2_with fail
  refine (D2.out.publish (show _ = ((0 : Int), (R3 old.data.toList (-1))) from r3 old.data.toList) (by simp [M.wt, R3])).mono ?_
  rintro e v4 ⟨rfl, h⟩
  have D3 := Lib.hid h
  clear h hxa hxb
  obtain ⟨hxa, hxb⟩ := box_at D3.out.below
  go_wp2_with fail
  refine (D3.out.limit 2 (by omega) (show _ = ((0 : Int), (R3 old.data.toList 2)) from r3' old.data.toList 2 (by omega)) (by simp [M.wt, R3])).mono ?_
  rintro e v5 ⟨rfl, h⟩
  have D4 := Lib.hid h
  clear h hxa hxb
  obtain ⟨hxa, hxb⟩ := box_at D4.out.below
  go_wp2_with fail
  refine (D4.out.append ⟨#[98]⟩ new (by decide) (by omega) (show _ = ((0 : Int), (R4 old.data.toList new.data.toList 1 false)) from r4s old.data.toList new.data.toList 2 (by omega) (by rw [len_toList]; exact ho) (by rw [len_toList]; exact hn)) (by simp [M.wt, R4])).mono ?_
  rintro e v6 ⟨rfl, h⟩
  have D5 := Lib.hid h
  clear h hxa hxb
  obtain ⟨hxa, hxb⟩ := box_at D5.out.below
  go_wp2_with fail
  refine (D5.out.sync ⟨#[98]⟩ (by decide) (show _ = ((0 : Int), (R5 old.data.toList new.data.toList 0 false)) from r5s old.data.toList new.data.toList 1 (by omega)) (by simp [M.wt, R5])).mono ?_
  rintro e v7 ⟨rfl, h⟩
  have D6 := Lib.hid h
  clear h hxa hxb
  obtain ⟨hxa, hxb⟩ := box_at D6.out.below
  go_wp2_with fail
  refine (D6.out.rename ⟨#[98]⟩ ⟨#[97]⟩ (by decide) (by decide) (show _ = ((32 : Int), (R6 old.data.toList new.data.toList 0 true)) from r6z old.data.toList new.data.toList) (by simp [M.wt, R6])).mono ?_
  rintro e v8 ⟨rfl, h⟩
  have D7 := Lib.hid h
  clear h hxa hxb
  obtain ⟨hxa, hxb⟩ := box_at D7.out.below
  go_wp2_with fail
  refine (D7.out.crash).mono ?_
  rintro e vc ⟨rfl, h⟩
  have DC := Lib.hid h
  clear h hxa hxb
  obtain ⟨hxa, hxb⟩ := box_at DC.out.below
  go_wp2_with fail
  refine (DC.out.start ao sc.length c sc (HB.out.at (by omega) (below_box DC.out.below))).mono ?_
  rintro e vs ⟨rfl, h⟩
  have DS := Lib.hid h
  clear h hxa hxb
  rcases r6_read old.data.toList new.data.toList 0 true sc with hrd | hrd
  · have HRD := Lib.hid hrd
    clear hrd
    go_wp2_with fail
    refine (DS.out.read ⟨#[97]⟩ (by decide) HRD.out).mono ?_
    rintro e vr ⟨rfl, rfl⟩
    simp only [mk_toList]
    go_wp2_with fail
    all_goals
      go_ret
      exact ⟨rfl, below_box DS.out.below⟩
  · have HRD := Lib.hid hrd
    clear hrd
    go_wp2_with fail
    refine (DS.out.read ⟨#[97]⟩ (by decide) HRD.out).mono ?_
    rintro e vr ⟨rfl, rfl⟩
    simp only [mk_toList]
    go_wp2_with fail
    go_ret
    exact ⟨rfl, below_box DS.out.below⟩

theorem repl_3 (ho : old.size ≤ 50) (hn : new.size ≤ 50) (h0 : 0 ≤ lim) (h1 : lim ≤ 255) (hs : sc.length ≤ 12) (hb : IntsBody w ao c sc) (hL : lim % 6 = 3) :
    Calls Try.prog 5 #[.string old, .string new, .agg #[.int .u8 lim, .slice ao sc.length c]] w fun e w' => e = .returned (.bool true) ∧ Below w.heap.size w w' := by
  have HB := Lib.hid hb
  clear hb
  go_enter Try.func5, Try.ntmps5
  go_wp2_with fail
  refine (known_any _).mono ?_
  rintro e v0 ⟨rfl, hb0⟩
  have HB0 := Lib.hid hb0
  clear hb0
  obtain ⟨hxa, hxb⟩ := box_at HB0.out
  go_wp2_with fail
  refine (New_dk 200 (by omega) (by omega) HB0.out).mono ?_
  rintro e v1 ⟨bd, rfl, h⟩
  have D0 := Lib.hid h
  clear h hxa hxb
  obtain ⟨hxa, hxb⟩ := box_at D0.out.below
  go_wp2_with fail
  refine (D0.out.append ⟨#[97]⟩ old (by decide) (by omega) (show _ = ((0 : Int), (R1 old.data.toList)) from r1 old.data.toList (by rw [len_toList]; exact ho)) (by simp [M.wt, R1])).mono ?_
  rintro e v2 ⟨rfl, h⟩
  have D1 := Lib.hid h
  clear h hxa hxb
  obtain ⟨hxa, hxb⟩ := box_at D1.out.below
  go_wp2_with fail
  refine (D1.out.sync ⟨#[97]⟩ (by decide) (show _ = ((0 : Int), (R2 old.data.toList)) from r2 old.data.toList) (by simp [M.wt, R2])).mono ?_
  rintro e v3 ⟨rfl, h⟩
  have D2 := Lib.hid h
  clear h hxa hxb
  obtain ⟨hxa, hxb⟩ := box_at D2.out.below
  go_wp2_with fail
  refine (D2.out.publish (show _ = ((0 : Int), (R3 old.data.toList (-1))) from r3 old.data.toList) (by simp [M.wt, R3])).mono ?_
  rintro e v4 ⟨rfl, h⟩
  have D3 := Lib.hid h
  clear h hxa hxb
  obtain ⟨hxa, hxb⟩ := box_at D3.out.below
  go_wp2_with fail
  refine (D3.out.limit 3 (by omega) (show _ = ((0 : Int), (R3 old.data.toList 3)) from r3' old.data.toList 3 (by omega)) (by simp [M.wt, R3])).mono ?_
  rintro e v5 ⟨rfl, h⟩
  have D4 := Lib.hid h
  clear h hxa hxb
  obtain ⟨hxa, hxb⟩ := box_at D4.out.below
  go_wp2_with fail
  refine (D4.out.append ⟨#[98]⟩ new (by decide) (by omega) (show _ = ((0 : Int), (R4 old.data.toList new.data.toList 2 false)) from r4s old.data.toList new.data.toList 3 (by omega) (by rw [len_toList]; exact ho) (by rw [len_toList]; exact hn)) (by simp [M.wt, R4])).mono ?_
  rintro e v6 ⟨rfl, h⟩
  have D5 := Lib.hid h
  clear h hxa hxb
  obtain ⟨hxa, hxb⟩ := box_at D5.out.below
  go_wp2_with fail
  refine (D5.out.sync ⟨#[98]⟩ (by decide) (show _ = ((0 : Int), (R5 old.data.toList new.data.toList 1 false)) from r5s old.data.toList new.data.toList 2 (by omega)) (by simp [M.wt, R5])).mono ?_
  rintro e v7 ⟨rfl, h⟩
  have D6 := Lib.hid h
  clear h hxa hxb
  obtain ⟨hxa, hxb⟩ := box_at D6.out.below
  go_wp2_with fail
  refine (D6.out.rename ⟨#[98]⟩ ⟨#[97]⟩ (by decide) (by decide) (show _ = ((0 : Int), (R6 old.data.toList new.data.toList 0 false)) from r6s old.data.toList new.data.toList 1 (by omega)) (by simp [M.wt, R6])).mono ?_
  rintro e v8 ⟨rfl, h⟩
  have D7 := Lib.hid h
  clear h hxa hxb
  obtain ⟨hxa, hxb⟩ := box_at D7.out.below
  go_wp2_with fail
  refine (D7.out.publish (show _ = ((32 : Int), (R6 old.data.toList new.data.toList 0 true)) from r7z old.data.toList new.data.toList) (by simp [M.wt, R6])).mono ?_
  rintro e v9 ⟨rfl, h⟩
  have D8 := Lib.hid h
  clear h hxa hxb
  obtain ⟨hxa, hxb⟩ := box_at D8.out.below
  go_wp2_with fail
  refine (D8.out.crash).mono ?_
  rintro e vc ⟨rfl, h⟩
  have DC := Lib.hid h
  clear h hxa hxb
  obtain ⟨hxa, hxb⟩ := box_at DC.out.below
  go_wp2_with fail
  refine (DC.out.start ao sc.length c sc (HB.out.at (by omega) (below_box DC.out.below))).mono ?_
  rintro e vs ⟨rfl, h⟩
  have DS := Lib.hid h
  clear h hxa hxb
  rcases r6_read old.data.toList new.data.toList 0 true sc with hrd | hrd
  · have HRD := Lib.hid hrd
    clear hrd
    go_wp2_with fail
    refine (DS.out.read ⟨#[97]⟩ (by decide) HRD.out).mono ?_
    rintro e vr ⟨rfl, rfl⟩
    simp only [mk_toList]
    go_wp2_with fail
    all_goals
      go_ret
      exact ⟨rfl, below_box DS.out.below⟩
  · have HRD := Lib.hid hrd
    clear hrd
    go_wp2_with fail
    refine (DS.out.read ⟨#[97]⟩ (by decide) HRD.out).mono ?_
    rintro e vr ⟨rfl, rfl⟩
    simp only [mk_toList]
    go_wp2_with fail
    go_ret
    exact ⟨rfl, below_box DS.out.below⟩

theorem repl_4 (ho : old.size ≤ 50) (hn : new.size ≤ 50) (h0 : 0 ≤ lim) (h1 : lim ≤ 255) (hs : sc.length ≤ 12) (hb : IntsBody w ao c sc) (hL : lim % 6 = 4) :
    Calls Try.prog 5 #[.string old, .string new, .agg #[.int .u8 lim, .slice ao sc.length c]] w fun e w' => e = .returned (.bool true) ∧ Below w.heap.size w w' := by
  have HB := Lib.hid hb
  clear hb
  go_enter Try.func5, Try.ntmps5
  go_wp2_with fail
  refine (known_any _).mono ?_
  rintro e v0 ⟨rfl, hb0⟩
  have HB0 := Lib.hid hb0
  clear hb0
  obtain ⟨hxa, hxb⟩ := box_at HB0.out
  go_wp2_with fail
  refine (New_dk 200 (by omega) (by omega) HB0.out).mono ?_
  rintro e v1 ⟨bd, rfl, h⟩
  have D0 := Lib.hid h
  clear h hxa hxb
  obtain ⟨hxa, hxb⟩ := box_at D0.out.below
  go_wp2_with fail
  refine (D0.out.append ⟨#[97]⟩ old (by decide) (by omega) (show _ = ((0 : Int), (R1 old.data.toList)) from r1 old.data.toList (by rw [len_toList]; exact ho)) (by simp [M.wt, R1])).mono ?_
  rintro e v2 ⟨rfl, h⟩
  have D1 := Lib.hid h
  clear h hxa hxb
  obtain ⟨hxa, hxb⟩ := box_at D1.out.below
  go_wp2_with fail
  refine (D1.out.sync ⟨#[97]⟩ (by decide) (show _ = ((0 : Int), (R2 old.data.toList)) from r2 old.data.toList) (by simp [M.wt, R2])).mono ?_
  rintro e v3 ⟨rfl, h⟩
  have D2 := Lib.hid h
  clear h hxa hxb
  obtain ⟨hxa, hxb⟩ := box_at D2.out.below
  go_wp2_with fail
  refine (D2.out.publish (show _ = ((0 : Int), (R3 old.data.toList (-1))) from r3 old.data.toList) (by simp [M.wt, R3])).mono ?_
  rintro e v4 ⟨rfl, h⟩
  have D3 := Lib.hid h
  clear h hxa hxb
  obtain ⟨hxa, hxb⟩ := box_at D3.out.below
  go_wp2_with fail
  refine (D3.out.limit 4 (by omega) (show _ = ((0 : Int), (R3 old.data.toList 4)) from r3' old.data.toList 4 (by omega)) (by simp [M.wt, R3])).mono ?_
  rintro e v5 ⟨rfl, h⟩
  have D4 := Lib.hid h
  clear h hxa hxb
  obtain ⟨hxa, hxb⟩ := box_at D4.out.below
  go_wp2_with fail
  refine (D4.out.append ⟨#[98]⟩ new (by decide) (by omega) (show _ = ((0 : Int), (R4 old.data.toList new.data.toList 3 false)) from r4s old.data.toList new.data.toList 4 (by omega) (by rw [len_toList]; exact ho) (by rw [len_toList]; exact hn)) (by simp [M.wt, R4])).mono ?_
  rintro e v6 ⟨rfl, h⟩
  have D5 := Lib.hid h
  clear h hxa hxb
  obtain ⟨hxa, hxb⟩ := box_at D5.out.below
  go_wp2_with fail
  refine (D5.out.sync ⟨#[98]⟩ (by decide) (show _ = ((0 : Int), (R5 old.data.toList new.data.toList 2 false)) from r5s old.data.toList new.data.toList 3 (by omega)) (by simp [M.wt, R5])).mono ?_
  rintro e v7 ⟨rfl, h⟩
  have D6 := Lib.hid h
  clear h hxa hxb
  obtain ⟨hxa, hxb⟩ := box_at D6.out.below
  go_wp2_with fail
  refine (D6.out.rename ⟨#[98]⟩ ⟨#[97]⟩ (by decide) (by decide) (show _ = ((0 : Int), (R6 old.data.toList new.data.toList 1 false)) from r6s old.data.toList new.data.toList 2 (by omega)) (by simp [M.wt, R6])).mono ?_
  rintro e v8 ⟨rfl, h⟩
  have D7 := Lib.hid h
  clear h hxa hxb
  obtain ⟨hxa, hxb⟩ := box_at D7.out.below
  go_wp2_with fail
  refine (D7.out.publish (show _ = ((0 : Int), (R7 old.data.toList new.data.toList 0 false)) from r7s old.data.toList new.data.toList 1 (by omega)) (by simp [M.wt, R7])).mono ?_
  rintro e v9 ⟨rfl, h⟩
  have D8 := Lib.hid h
  clear h hxa hxb
  obtain ⟨hxa, hxb⟩ := box_at D8.out.below
  go_wp2_with fail
  refine (D8.out.crash).mono ?_
  rintro e vc ⟨rfl, h⟩
  have DC := Lib.hid h
  clear h hxa hxb
  obtain ⟨hxa, hxb⟩ := box_at DC.out.below
  go_wp2_with fail
  refine (DC.out.start ao sc.length c sc (HB.out.at (by omega) (below_box DC.out.below))).mono ?_
  rintro e vs ⟨rfl, h⟩
  have DS := Lib.hid h
  clear h hxa hxb
  go_wp2_with fail
  refine (DS.out.read ⟨#[97]⟩ (by decide) (r7_read old.data.toList new.data.toList 0 false sc)).mono ?_
  rintro e vr ⟨rfl, rfl⟩
  simp only [mk_toList]
  go_wp2_with fail
  go_ret
  exact ⟨rfl, below_box DS.out.below⟩

theorem repl_5 (ho : old.size ≤ 50) (hn : new.size ≤ 50) (h0 : 0 ≤ lim) (h1 : lim ≤ 255) (hs : sc.length ≤ 12) (hb : IntsBody w ao c sc) (hL : lim % 6 = 5) :
    Calls Try.prog 5 #[.string old, .string new, .agg #[.int .u8 lim, .slice ao sc.length c]] w fun e w' => e = .returned (.bool true) ∧ Below w.heap.size w w' := by
  have HB := Lib.hid hb
  clear hb
  go_enter Try.func5, Try.ntmps5
  go_wp2_with fail
  refine (known_any _).mono ?_
  rintro e v0 ⟨rfl, hb0⟩
  have HB0 := Lib.hid hb0
  clear hb0
  obtain ⟨hxa, hxb⟩ := box_at HB0.out
  go_wp2_with fail
  refine (New_dk 200 (by omega) (by omega) HB0.out).mono ?_
  rintro e v1 ⟨bd, rfl, h⟩
  have D0 := Lib.hid h
  clear h hxa hxb
  obtain ⟨hxa, hxb⟩ := box_at D0.out.below
  go_wp2_with fail
  refine (D0.out.append ⟨#[97]⟩ old (by decide) (by omega) (show _ = ((0 : Int), (R1 old.data.toList)) from r1 old.data.toList (by rw [len_toList]; exact ho)) (by simp [M.wt, R1])).mono ?_
  rintro e v2 ⟨rfl, h⟩
  have D1 := Lib.hid h
  clear h hxa hxb
  obtain ⟨hxa, hxb⟩ := box_at D1.out.below
  go_wp2_with fail
  refine (D1.out.sync ⟨#[97]⟩ (by decide) (show _ = ((0 : Int), (R2 old.data.toList)) from r2 old.data.toList) (by simp [M.wt, R2])).mono ?_
  rintro e v3 ⟨rfl, h⟩
  have D2 := Lib.hid h
  clear h hxa hxb
  obtain ⟨hxa, hxb⟩ := box_at D2.out.below
  go_wp2_with fail
  refine (D2.out.publish (show _ = ((0 : Int), (R3 old.data.toList (-1))) from r3 old.data.toList) (by simp [M.wt, R3])).mono ?_
  rintro e v4 ⟨rfl, h⟩
  have D3 := Lib.hid h
  clear h hxa hxb
  obtain ⟨hxa, hxb⟩ := box_at D3.out.below
  go_wp2_with fail
  refine (D3.out.limit 5 (by omega) (show _ = ((0 : Int), (R3 old.data.toList 5)) from r3' old.data.toList 5 (by omega)) (by simp [M.wt, R3])).mono ?_
  rintro e v5 ⟨rfl, h⟩
  have D4 := Lib.hid h
  clear h hxa hxb
  obtain ⟨hxa, hxb⟩ := box_at D4.out.below
  go_wp2_with fail
  refine (D4.out.append ⟨#[98]⟩ new (by decide) (by omega) (show _ = ((0 : Int), (R4 old.data.toList new.data.toList 4 false)) from r4s old.data.toList new.data.toList 5 (by omega) (by rw [len_toList]; exact ho) (by rw [len_toList]; exact hn)) (by simp [M.wt, R4])).mono ?_
  rintro e v6 ⟨rfl, h⟩
  have D5 := Lib.hid h
  clear h hxa hxb
  obtain ⟨hxa, hxb⟩ := box_at D5.out.below
  go_wp2_with fail
  refine (D5.out.sync ⟨#[98]⟩ (by decide) (show _ = ((0 : Int), (R5 old.data.toList new.data.toList 3 false)) from r5s old.data.toList new.data.toList 4 (by omega)) (by simp [M.wt, R5])).mono ?_
  rintro e v7 ⟨rfl, h⟩
  have D6 := Lib.hid h
  clear h hxa hxb
  obtain ⟨hxa, hxb⟩ := box_at D6.out.below
  go_wp2_with fail
  refine (D6.out.rename ⟨#[98]⟩ ⟨#[97]⟩ (by decide) (by decide) (show _ = ((0 : Int), (R6 old.data.toList new.data.toList 2 false)) from r6s old.data.toList new.data.toList 3 (by omega)) (by simp [M.wt, R6])).mono ?_
  rintro e v8 ⟨rfl, h⟩
  have D7 := Lib.hid h
  clear h hxa hxb
  obtain ⟨hxa, hxb⟩ := box_at D7.out.below
  go_wp2_with fail
  refine (D7.out.publish (show _ = ((0 : Int), (R7 old.data.toList new.data.toList 1 false)) from r7s old.data.toList new.data.toList 2 (by omega)) (by simp [M.wt, R7])).mono ?_
  rintro e v9 ⟨rfl, h⟩
  have D8 := Lib.hid h
  clear h hxa hxb
  obtain ⟨hxa, hxb⟩ := box_at D8.out.below
  go_wp2_with fail
  refine (D8.out.crash).mono ?_
  rintro e vc ⟨rfl, h⟩
  have DC := Lib.hid h
  clear h hxa hxb
  obtain ⟨hxa, hxb⟩ := box_at DC.out.below
  go_wp2_with fail
  refine (DC.out.start ao sc.length c sc (HB.out.at (by omega) (below_box DC.out.below))).mono ?_
  rintro e vs ⟨rfl, h⟩
  have DS := Lib.hid h
  clear h hxa hxb
  go_wp2_with fail
  refine (DS.out.read ⟨#[97]⟩ (by decide) (r7_read old.data.toList new.data.toList 1 false sc)).mono ?_
  rintro e vr ⟨rfl, rfl⟩
  simp only [mk_toList]
  go_wp2_with fail
  go_ret
  exact ⟨rfl, below_box DS.out.below⟩

theorem repl_small (ho : old.size ≤ 50) (hn : new.size ≤ 50) (h0 : 0 ≤ lim) (h1 : lim ≤ 255) (hs : sc.length ≤ 12) (hb : IntsBody w ao c sc) : Calls Try.prog 5 #[.string old, .string new, .agg #[.int .u8 lim, .slice ao sc.length c]] w fun e w' => e = .returned (.bool true) ∧ Below w.heap.size w w' := by
  rcases (show lim % 6 = 0 ∨ lim % 6 = 1 ∨ lim % 6 = 2 ∨ lim % 6 = 3 ∨ lim % 6 = 4 ∨ lim % 6 = 5 by omega) with h | h | h | h | h | h
  · exact repl_0 ho hn h0 h1 hs hb h
  · exact repl_1 ho hn h0 h1 hs hb h
  · exact repl_2 ho hn h0 h1 hs hb h
  · exact repl_3 ho hn h0 h1 hs hb h
  · exact repl_4 ho hn h0 h1 hs hb h
  · exact repl_5 ho hn h0 h1 hs hb h

theorem repl_great (ho : old.size ≤ maxLen) (hn : new.size ≤ maxLen) (hs : sc.length ≤ maxLen) (hg : ¬ (old.size ≤ 50 ∧ new.size ≤ 50 ∧ sc.length ≤ 12)) : Calls Try.prog 5 #[.string old, .string new, .agg #[.int .u8 lim, .slice ao sc.length c]] w fun e w' => e = .returned (.bool true) ∧ Below w.heap.size w w' := by
  unfold maxLen at ho hn hs
  by_cases g1 : old.size ≤ 50
  · by_cases g2 : new.size ≤ 50
    · have g3 : ¬ sc.length ≤ 12 := fun h => hg ⟨g1, g2, h⟩
      clear hg
      go_enter Try.func5, Try.ntmps5
      go_wp2_with fail
      refine (known_any _).mono ?_
      rintro e v0 ⟨rfl, hb0⟩
      have HB0 := Lib.hid hb0
      clear hb0
      obtain ⟨hxa, hxb⟩ := box_at HB0.out
      go_wp2_with fail
      refine (known_any _).mono ?_
      rintro e v1 ⟨rfl, hb1⟩
      have HB1 := Lib.hid hb1
      clear hb1
      go_wp2_with fail
      go_ret
      exact ⟨rfl, below_box (HB0.out.trans (HB1.out.mono HB0.out.size))⟩
    · clear hg
      go_enter Try.func5, Try.ntmps5
      go_wp2_with fail
      refine (known_any _).mono ?_
      rintro e v0 ⟨rfl, hb0⟩
      have HB0 := Lib.hid hb0
      clear hb0
      obtain ⟨hxa, hxb⟩ := box_at HB0.out
      go_wp2_with fail
      refine (known_any _).mono ?_
      rintro e v1 ⟨rfl, hb1⟩
      have HB1 := Lib.hid hb1
      clear hb1
      go_wp2_with fail
      go_ret
      exact ⟨rfl, below_box (HB0.out.trans (HB1.out.mono HB0.out.size))⟩
  · clear hg
    go_enter Try.func5, Try.ntmps5
    go_wp2_with fail
    refine (known_any _).mono ?_
    rintro e v0 ⟨rfl, hb0⟩
    have HB0 := Lib.hid hb0
    clear hb0
    obtain ⟨hxa, hxb⟩ := box_at HB0.out
    go_wp2_with fail
    refine (known_any _).mono ?_
    rintro e v1 ⟨rfl, hb1⟩
    have HB1 := Lib.hid hb1
    clear hb1
    go_wp2_with fail
    go_ret
    exact ⟨rfl, below_box (HB0.out.trans (HB1.out.mono HB0.out.size))⟩
end
theorem said_DiskReplaces (w : World) (old : ByteArray) (ho : old.size ≤ maxLen) (new : ByteArray) (hn : new.size ≤ maxLen) (lim : Int) (ao : Option Addr) (c : Nat) (sc : List Int) (h0 : 0 ≤ lim) (h1 : lim ≤ 255) (hb : IntsBody w ao c sc) (hs : sc.length ≤ maxLen) :
    Calls Try.prog 5 #[.string old, .string new, .agg #[.int .u8 lim, .slice ao sc.length c]] w fun e w' => e = .returned (.bool true) ∧ Below w.heap.size w w' := by
  by_cases h : old.size ≤ 50 ∧ new.size ≤ 50 ∧ sc.length ≤ 12
  · exact repl_small h.1 h.2.1 h0 h1 h.2.2 hb
  · exact repl_great ho hn hs h
end Go.Proofs.Ytlhnjdoicolkkaa
