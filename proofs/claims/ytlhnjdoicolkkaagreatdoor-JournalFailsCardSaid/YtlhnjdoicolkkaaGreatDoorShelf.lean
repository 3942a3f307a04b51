/-
  DERIVED: THE SHELF's CONTRACTS AT THIS DUMP, IN PLAIN WORDS (tools/lay-plain.mjs out of 'YtlhnjdoicolkkaaGreatDoorShelfTry.lean', which tools/lay-shelf.mjs wrote): THE SAME DECLARATIONS UNDER THE SAME NAMES: 'import', 'namespace', 'open', 'def', 'theorem' AND NOTHING ELSE: no command of the shelf's: FOR A HAND-IN. Each laying: the table of numbers ('.._ren') and one theorem, a field a fact of the dump's own or the kernel's comparison; each contract: ONE APPLICATION.
-/
import Derived.Ground.GgwProg
import Derived.Ground.GgzProg
import Derived.Ground.Names2Prog
import Derived.Ground.SlgmProg
import Derived.Ground.SlgnProg
import Derived.Ground.SlmcProg
import Derived.Shelf.GgClosure.StringsIndexFunc
import Derived.Shelf.GgClosure.StringsIndexFuncTop
import Derived.Shelf.LaysC
import Derived.Shelf.LaysM
import Derived.Shelf.SlIter.Nil
import Derived.Shelf.SlMaps.Clone
import Derived.Shelf.Slices.Clone
import Derived.Shelf.Slices.In.SortNone
import Derived.Shelf.Slices.Turned
import Derived.Shelf.SlicesE.Clone
import Derived.Shelf.Small.Bits
import Derived.Shelf.Sort.Plain
import Derived.Shelf.SortM.Plain
import Derived.Shelf.SortM.SortNone
import Derived.Shelf.Strconv.Atoi
import Derived.Shelf.Strconv.AtoiAll
import Derived.Shelf.Strconv.AtoiErrFast
import Derived.Shelf.Strconv.AtoiFail
import Derived.Shelf.Strconv.AtoiInnerAll
import Derived.Shelf.Strconv.AtoiLong
import Derived.Shelf.Strconv.Clone
import Derived.Shelf.Strconv.ErrVarAll
import Derived.Shelf.Strconv.Itoa0
import Derived.Shelf.Strconv.Itoa1
import Derived.Shelf.Strconv.Itoa2
import Derived.Shelf.Strconv.Itoa3
import Derived.Shelf.Strconv.Lower
import Derived.Shelf.Strconv.ParseInt10
import Derived.Shelf.Strconv.ParseIntEmpty
import Derived.Shelf.Strconv.ParseUint10
import Derived.Shelf.Strconv.ParseUint10Any
import Derived.Shelf.Strconv.ParseUint10Empty
import Derived.Shelf.Strconv.RangeError
import Derived.Shelf.Strconv.SyntaxError
import Derived.Shelf.Strconv.ToError
import Derived.Shelf.Strconv.ToErrorRange
import Derived.Shelf.Strings.Builder1
import Derived.Shelf.Strings.BuilderF
import Derived.Shelf.Strings.BuilderK
import Derived.Test.YtlhnjdoicolkkaaGreatDoorProg
namespace Go.Proofs
open Go.Shelf
def Tryz.laysNm215_ren : Go.Shelf.Ren := ⟨fun | 15 => 76 | n => n, fun | 22 => 66 | 3 => 3 | 4 => 4 | n => n, fun | n => n⟩
theorem Tryz.laysNm215 : Go.Proofs.Lays2.n15 Tryz.prog Tryz.laysNm215_ren := {
  mixed := by kernel_rfl
  f15 := Tryz.func76.trans (congrArg some (by kernel_rfl))
  t3 := Tryz.underlying3
  a3 := Tryz.isAgg3
  z3 := Tryz.sizeOf3
  v3 := Tryz.zeroValue3
  t4 := Tryz.underlying4
  a4 := Tryz.isAgg4
  z4 := Tryz.sizeOf4
  v4 := Tryz.zeroValue4
  t22 := Tryz.underlying66
  a22 := Tryz.isAgg66
  z22 := Tryz.sizeOf66
  v22 := Tryz.zeroValue66
  i3 := by kernel_rfl }
open Go.RowKit Go.Lib in
/-- slices.Clone at []int: "Clone returns a copy of the slice. The elements are copied using assignment, so this is a shallow clone. The result may have additional unused capacity. The result preserves the nilness of s.": OF A SLICE THAT IS NOT nil IT RETURNS A SLICE THAT IS NOT nil, OF THE SAME ELEMENTS, IN MEMORY OF THE CALL's OWN: in the how-to's words (6f): 'w'.ownsRow B e 1 v' n cells': v' begins at the head of a row among the blocks from B on (B: the heap's size at the call), not frozen, whose first cells are the elements · 'Below B w w'': below B all is as it was. The capacity is whatever the run-time gives. 'zs': what the cells behind the slice's address hold; 'zs.take n': its elements. (LAID: no walk: one application.) -/
theorem Tryz.slices_Clone_int (b off n c : Nat) (zs : List Int) (w : World) (hz : n ≤ zs.length) (hbig : n * 8 ≤ 140737488355328) (hc : ∀ j, j < zs.length → w.cell? ⟨b, off + j, none⟩ = some (.int .i64 (zs.getD j 0))) :
    Calls Tryz.prog 76 #[.slice (some ⟨b, off, none⟩) n c] w fun e w' => ∃ v', e = .returned v' ∧ w'.ownsRow w.heap.size 3 1 v' n ((zs.take n).map (Value.int .i64)) ∧ v' ≠ .slice none 0 0 ∧ Below w.heap.size w w' := Any.slices_Clone_int Tryz.laysNm215 b off n c zs w hz hbig hc
open Go.RowKit Go.Lib in
/-- The same at nil: nil comes back; the world is as it was. (LAID: no walk: one application.) -/
theorem Tryz.slices_Clone_int_nil (n c : Nat) (w : World) :
    Calls Tryz.prog 76 #[.slice none n c] w fun e w' => e = .returned (.slice none 0 0) ∧ w' = w := Any.slices_Clone_int_nil Tryz.laysNm215 n c w
open Go.RowKit Go.Lib in
/-- The same at a slice of length 0 that is not nil, WHATEVER ITS ADDRESS (no cell is asked for): a slice that is not nil and owns nothing comes back. (LAID: no walk: one application.) -/
theorem Tryz.slices_Clone_int_zero (a : Addr) (c : Nat) (w : World) :
    Calls Tryz.prog 76 #[.slice (some a) 0 c] w fun e w' => ∃ v', e = .returned v' ∧ w'.ownsRow w.heap.size 3 1 v' 0 [] ∧ v' ≠ .slice none 0 0 ∧ Below w.heap.size w w' := Any.slices_Clone_int_zero Tryz.laysNm215 a c w
def Tryz.keys79_ren : Go.Shelf.Ren := ⟨fun | 7 => 79 | 10 => 113 | n => n, fun | 23 => 96 | 26 => 9 | 3 => 105 | 28 => 111 | 0 => 0 | 27 => 110 | 33 => 23 | 4 => 4 | n => n, fun | n => n⟩
theorem Tryz.keys79 : Go.Proofs.SlLaysZ.n7 Tryz.prog Tryz.keys79_ren := {
  mixed := by kernel_rfl
  f7 := ⟨Tryz.f79.name, by decide, Tryz.func79.trans (congrArg some (by kernel_rfl))⟩
  f10 := ⟨Tryz.f113.name, by decide, Tryz.func113.trans (congrArg some (by kernel_rfl))⟩
  t0 := Tryz.underlying0
  a0 := Tryz.isAgg0
  z0 := Tryz.sizeOf0
  v0 := Tryz.zeroValue0
  t4 := Tryz.underlying4
  a4 := Tryz.isAgg4
  z4 := Tryz.sizeOf4
  v4 := Tryz.zeroValue4
  t23 := Tryz.underlying96
  a23 := Tryz.isAgg96
  z23 := Tryz.sizeOf96
  v23 := Tryz.zeroValue96
  t26 := Tryz.underlying9
  a26 := Tryz.isAgg9
  z26 := Tryz.sizeOf9
  v26 := Tryz.zeroValue9
  t27 := Tryz.underlying110
  a27 := Tryz.isAgg110
  z27 := Tryz.sizeOf110
  v27 := Tryz.zeroValue110
  t28 := Tryz.underlying111
  a28 := Tryz.isAgg111
  z28 := Tryz.sizeOf111
  v28 := Tryz.zeroValue111
  t33 := Tryz.underlying23
  a33 := Tryz.isAgg23
  z33 := Tryz.sizeOf23
  v33 := Tryz.zeroValue23 }
def Tryz.sorted78_ren : Go.Shelf.Ren := ⟨fun | 6 => 78 | 8 => 111 | 9 => 112 | 11 => 127 | 13 => 129 | 12 => 128 | 23 => 147 | 24 => 148 | 14 => 138 | 15 => 139 | 16 => 140 | 17 => 141 | 18 => 142 | 19 => 143 | 20 => 144 | 21 => 145 | 22 => 146 | 25 => 155 | 26 => 156 | 27 => 157 | 28 => 158 | 29 => 159 | 30 => 160 | 31 => 163 | n => n, fun | 26 => 9 | 28 => 111 | 24 => 25 | 0 => 0 | 3 => 3 | 37 => 81 | 48 => 168 | 50 => 24 | 4 => 4 | 40 => 160 | 39 => 159 | 45 => 165 | 5 => 5 | 9 => 9 | 51 => 177 | 55 => 181 | 57 => 183 | 58 => 184 | 33 => 23 | n => n, fun | n => n⟩
theorem Tryz.sorted78 : Go.Proofs.SlLaysZ.n6 Tryz.prog Tryz.sorted78_ren := {
  mixed := by kernel_rfl
  f6 := ⟨Tryz.f78.name, by decide, Tryz.func78.trans (congrArg some (by kernel_rfl))⟩
  f8 := ⟨Tryz.f111.name, by decide, Tryz.func111.trans (congrArg some (by kernel_rfl))⟩
  f11 := ⟨Tryz.f127.name, by decide, Tryz.func127.trans (congrArg some (by kernel_rfl))⟩
  t0 := Tryz.underlying0
  a0 := Tryz.isAgg0
  z0 := Tryz.sizeOf0
  v0 := Tryz.zeroValue0
  t24 := Tryz.underlying25
  a24 := Tryz.isAgg25
  z24 := Tryz.sizeOf25
  v24 := Tryz.zeroValue25
  t26 := Tryz.underlying9
  a26 := Tryz.isAgg9
  z26 := Tryz.sizeOf9
  v26 := Tryz.zeroValue9
  t28 := Tryz.underlying111
  a28 := Tryz.isAgg111
  z28 := Tryz.sizeOf111
  v28 := Tryz.zeroValue111
  i26 := by kernel_rfl }
def Tryz.sort112_ren : Go.Shelf.Ren := ⟨fun | 6 => 112 | 8 => 129 | 9 => 128 | 19 => 147 | 20 => 148 | 21 => 138 | 22 => 139 | 23 => 140 | 24 => 141 | 25 => 142 | 26 => 143 | 27 => 144 | 28 => 145 | 29 => 146 | 36 => 155 | 31 => 156 | 32 => 157 | 37 => 158 | 38 => 159 | 39 => 160 | 41 => 163 | n => n, fun | 27 => 25 | 29 => 9 | 3 => 3 | 32 => 81 | 26 => 25 | 0 => 0 | 44 => 168 | 46 => 24 | 4 => 4 | 36 => 160 | 35 => 159 | 41 => 165 | 5 => 5 | 9 => 9 | 53 => 177 | 57 => 181 | 63 => 183 | 64 => 184 | n => n, fun | n => n⟩
theorem Tryz.sort112 : Go.Proofs.SlLaysM.n6 Tryz.prog Tryz.sort112_ren := {
  mixed := by kernel_rfl
  f6 := ⟨Tryz.f112.name, by decide, Tryz.func112.trans (congrArg some (by kernel_rfl))⟩
  f8 := Tryz.func129.trans (congrArg some (by kernel_rfl))
  f9 := ⟨Tryz.f128.name, by decide, Tryz.func128.trans (congrArg some (by kernel_rfl))⟩
  f19 := Tryz.func147.trans (congrArg some (by kernel_rfl))
  f20 := Tryz.func148.trans (congrArg some (by kernel_rfl))
  f21 := ⟨Tryz.f138.name, by decide, Tryz.func138.trans (congrArg some (by kernel_rfl))⟩
  f22 := ⟨Tryz.f139.name, by decide, Tryz.func139.trans (congrArg some (by kernel_rfl))⟩
  f23 := ⟨Tryz.f140.name, by decide, Tryz.func140.trans (congrArg some (by kernel_rfl))⟩
  f24 := ⟨Tryz.f141.name, by decide, Tryz.func141.trans (congrArg some (by kernel_rfl))⟩
  f25 := ⟨Tryz.f142.name, by decide, Tryz.func142.trans (congrArg some (by kernel_rfl))⟩
  f26 := ⟨Tryz.f143.name, by decide, Tryz.func143.trans (congrArg some (by kernel_rfl))⟩
  f27 := ⟨Tryz.f144.name, by decide, Tryz.func144.trans (congrArg some (by kernel_rfl))⟩
  f28 := ⟨Tryz.f145.name, by decide, Tryz.func145.trans (congrArg some (by kernel_rfl))⟩
  f29 := ⟨Tryz.f146.name, by decide, Tryz.func146.trans (congrArg some (by kernel_rfl))⟩
  f31 := Tryz.func156.trans (congrArg some (by kernel_rfl))
  f32 := Tryz.func157.trans (congrArg some (by kernel_rfl))
  f36 := ⟨Tryz.f155.name, by decide, Tryz.func155.trans (congrArg some (by kernel_rfl))⟩
  f37 := ⟨Tryz.f158.name, by decide, Tryz.func158.trans (congrArg some (by kernel_rfl))⟩
  f38 := ⟨Tryz.f159.name, by decide, Tryz.func159.trans (congrArg some (by kernel_rfl))⟩
  f39 := ⟨Tryz.f160.name, by decide, Tryz.func160.trans (congrArg some (by kernel_rfl))⟩
  f41 := ⟨Tryz.f163.name, by decide, Tryz.func163.trans (congrArg some (by kernel_rfl))⟩
  t0 := Tryz.underlying0
  a0 := Tryz.isAgg0
  z0 := Tryz.sizeOf0
  v0 := Tryz.zeroValue0
  t3 := Tryz.underlying3
  a3 := Tryz.isAgg3
  z3 := Tryz.sizeOf3
  v3 := Tryz.zeroValue3
  t4 := Tryz.underlying4
  a4 := Tryz.isAgg4
  z4 := Tryz.sizeOf4
  v4 := Tryz.zeroValue4
  t5 := Tryz.underlying5
  a5 := Tryz.isAgg5
  z5 := Tryz.sizeOf5
  v5 := Tryz.zeroValue5
  t9 := Tryz.underlying9
  a9 := Tryz.isAgg9
  z9 := Tryz.sizeOf9
  v9 := Tryz.zeroValue9
  t26 := Tryz.underlying25
  a26 := Tryz.isAgg25
  z26 := Tryz.sizeOf25
  v26 := Tryz.zeroValue25
  t27 := Tryz.underlying25
  a27 := Tryz.isAgg25
  z27 := Tryz.sizeOf25
  v27 := Tryz.zeroValue25
  t29 := Tryz.underlying9
  a29 := Tryz.isAgg9
  z29 := Tryz.sizeOf9
  v29 := Tryz.zeroValue9
  t32 := Tryz.underlying81
  a32 := Tryz.isAgg81
  z32 := Tryz.sizeOf81
  v32 := Tryz.zeroValue81
  t35 := Tryz.underlying159
  a35 := Tryz.isAgg159
  z35 := Tryz.sizeOf159
  v35 := Tryz.zeroValue159
  t36 := Tryz.underlying160
  a36 := Tryz.isAgg160
  z36 := Tryz.sizeOf160
  v36 := Tryz.zeroValue160
  t41 := Tryz.underlying165
  a41 := Tryz.isAgg165
  z41 := Tryz.sizeOf165
  v41 := Tryz.zeroValue165
  t44 := Tryz.underlying168
  a44 := Tryz.isAgg168
  z44 := Tryz.sizeOf168
  v44 := Tryz.zeroValue168
  t46 := Tryz.underlying24
  a46 := Tryz.isAgg24
  z46 := Tryz.sizeOf24
  v46 := Tryz.zeroValue24
  t53 := Tryz.underlying177
  a53 := Tryz.isAgg177
  z53 := Tryz.sizeOf177
  v53 := Tryz.zeroValue177
  t57 := Tryz.underlying181
  a57 := Tryz.isAgg181
  z57 := Tryz.sizeOf181
  v57 := Tryz.zeroValue181
  t63 := Tryz.underlying183
  a63 := Tryz.isAgg183
  z63 := Tryz.sizeOf183
  v63 := Tryz.zeroValue183
  t64 := Tryz.underlying184
  a64 := Tryz.isAgg184
  z64 := Tryz.sizeOf184
  v64 := Tryz.zeroValue184 }
def Tryz.cloneM_ren : Go.Shelf.Ren := ⟨fun | 5 => 80 | 7 => 114 | n => n, fun | 23 => 96 | 25 => 9 | 3 => 105 | 4 => 4 | 20 => 20 | n => n, fun | n => n⟩
theorem Tryz.cloneM : Go.Proofs.SlLaysW.n5 Tryz.prog Tryz.cloneM_ren := {
  mixed := by kernel_rfl
  f5 := ⟨Tryz.f80.name, by decide, Tryz.func80.trans (congrArg some (by kernel_rfl))⟩
  f7 := Tryz.func114.trans (congrArg some (by kernel_rfl))
  t4 := Tryz.underlying4
  a4 := Tryz.isAgg4
  z4 := Tryz.sizeOf4
  v4 := Tryz.zeroValue4
  t20 := Tryz.underlying20
  a20 := Tryz.isAgg20
  z20 := Tryz.sizeOf20
  v20 := Tryz.zeroValue20
  t23 := Tryz.underlying96
  a23 := Tryz.isAgg96
  z23 := Tryz.sizeOf96
  v23 := Tryz.zeroValue96 }
end Go.Proofs
