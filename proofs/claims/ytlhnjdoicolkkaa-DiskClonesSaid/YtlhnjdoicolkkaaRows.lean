/-
  No cell of these rows narrows 'for every input' (looked for: loops, veiled, ifaces, maps, wideKeys, modest, calm, conditions, laid).
  DERIVED. THE GIVEN ROWS OF THIS SEAT. 8 by the template 'for every input the law returns true; each argument reads behind the call as it read before'; 0 by the template 'total and deterministic' (their statements: YtlhnjdoicolkkaaTotals.lean).
  GIVEN WITH THE SEED: the statements are not yours to turn. If you find one false, say at which input.
  Laid BY PROGRAM, IN A SANDBOX (cutbox-rows.mjs): the forced cells as the released guide's own fill.sh prints them over the translation c932fb89a4b9b11b… (all of the seat's roots in one cut). By AI agents, Wed Nov 11 2026. No macro, syntax, notation, axiom, sorry.
-/
import Derived.Test.YtlhnjdoicolkkaaChecked
import GoSem.Claim
import GoSem.ClaimJoined
import GoSem.ClaimMapViews
import Derived.JoinedTies
import Derived.KernelRfl
namespace Go.Proofs.Ytlhnjdoicolkkaa
/- THE CELL 'sum', in the pinned program and in every row, IS THE sha256 OF THE DUMP (.gsa) THAT YtlhnjdoicolkkaaProg.lean LOADS. Nothing in Lean hashes anything: it is a label: what it is worth is what the hold of that sum in a sandbox is worth. -/
noncomputable def Try.pinned : Pinned := { name := "ytlhnjdoicolkkaa", sum := "c932fb89a4b9b11b5057b9bf8b7c89277c5f45906f6860afbe2574e5a9b0a631", checked := Try.checked }
namespace Rows
def none {H : Type} : Left H := { results := [], args := [] }

/-- 'dowellaw51.DiskPrefix': WHATEVER THE INPUT: true; the input reads as it did. -/
def diskPrefixSpec : ChangeSpec := { name := "diskPrefix", fn := fun _ => fun
  | [d1, d2, d3] => { results := [.lit (.bool true)], args := [d1, d2, d3] }
  | _ => none }
def diskPrefixRow : OpenClaim := { program := "ytlhnjdoicolkkaa", sum := "c932fb89a4b9b11b5057b9bf8b7c89277c5f45906f6860afbe2574e5a9b0a631", func := "dowel/dowellaw51.DiskPrefix", spec := "diskPrefix", inPlace := ["maps.clone"], unfollowed := true, recurses := true, apart := false }
def DiskPrefixSaid : Prop := diskPrefixRow.holds Try.pinned (OpenSpec.ofChange diskPrefixSpec)

/-- ITS FALSE NEIGHBOUR: 'it returns false'. Refute it at one input. -/
def diskPrefixWrong : ChangeSpec := { name := "diskPrefix", fn := fun _ => fun
  | [d1, d2, d3] => { results := [.lit (.bool false)], args := [d1, d2, d3] }
  | _ => none }
def DiskPrefixWrongFalsely : Prop := diskPrefixRow.holds Try.pinned (OpenSpec.ofChange diskPrefixWrong)

/-- 'dowellaw51.DiskLimits': WHATEVER THE INPUT: true; the input reads as it did. -/
def diskLimitsSpec : ChangeSpec := { name := "diskLimits", fn := fun _ => fun
  | [d1, d2] => { results := [.lit (.bool true)], args := [d1, d2] }
  | _ => none }
def diskLimitsRow : OpenClaim := { program := "ytlhnjdoicolkkaa", sum := "c932fb89a4b9b11b5057b9bf8b7c89277c5f45906f6860afbe2574e5a9b0a631", func := "dowel/dowellaw51.DiskLimits", spec := "diskLimits", inPlace := ["maps.clone"], unfollowed := true, recurses := true, apart := false }
def DiskLimitsSaid : Prop := diskLimitsRow.holds Try.pinned (OpenSpec.ofChange diskLimitsSpec)

/-- ITS FALSE NEIGHBOUR: 'it returns false'. Refute it at one input. -/
def diskLimitsWrong : ChangeSpec := { name := "diskLimits", fn := fun _ => fun
  | [d1, d2] => { results := [.lit (.bool false)], args := [d1, d2] }
  | _ => none }
def DiskLimitsWrongFalsely : Prop := diskLimitsRow.holds Try.pinned (OpenSpec.ofChange diskLimitsWrong)

/-- 'dowellaw51.DiskReplaces': WHATEVER THE INPUT: true; the input reads as it did. -/
def diskReplacesSpec : ChangeSpec := { name := "diskReplaces", fn := fun _ => fun
  | [d1, d2, d3] => { results := [.lit (.bool true)], args := [d1, d2, d3] }
  | _ => none }
def diskReplacesRow : OpenClaim := { program := "ytlhnjdoicolkkaa", sum := "c932fb89a4b9b11b5057b9bf8b7c89277c5f45906f6860afbe2574e5a9b0a631", func := "dowel/dowellaw51.DiskReplaces", spec := "diskReplaces", inPlace := ["maps.clone"], unfollowed := true, recurses := true, apart := false }
def DiskReplacesSaid : Prop := diskReplacesRow.holds Try.pinned (OpenSpec.ofChange diskReplacesSpec)

/-- ITS FALSE NEIGHBOUR: 'it returns false'. Refute it at one input. -/
def diskReplacesWrong : ChangeSpec := { name := "diskReplaces", fn := fun _ => fun
  | [d1, d2, d3] => { results := [.lit (.bool false)], args := [d1, d2, d3] }
  | _ => none }
def DiskReplacesWrongFalsely : Prop := diskReplacesRow.holds Try.pinned (OpenSpec.ofChange diskReplacesWrong)

/-- 'dowellaw51.DiskKeeps': WHATEVER THE INPUT: true; the input reads as it did. -/
def diskKeepsSpec : ChangeSpec := { name := "diskKeeps", fn := fun _ => fun
  | [d1, d2] => { results := [.lit (.bool true)], args := [d1, d2] }
  | _ => none }
def diskKeepsRow : OpenClaim := { program := "ytlhnjdoicolkkaa", sum := "c932fb89a4b9b11b5057b9bf8b7c89277c5f45906f6860afbe2574e5a9b0a631", func := "dowel/dowellaw51.DiskKeeps", spec := "diskKeeps", inPlace := ["maps.clone"], unfollowed := true, recurses := true, apart := false }
def DiskKeepsSaid : Prop := diskKeepsRow.holds Try.pinned (OpenSpec.ofChange diskKeepsSpec)

/-- ITS FALSE NEIGHBOUR: 'it returns false'. Refute it at one input. -/
def diskKeepsWrong : ChangeSpec := { name := "diskKeeps", fn := fun _ => fun
  | [d1, d2] => { results := [.lit (.bool false)], args := [d1, d2] }
  | _ => none }
def DiskKeepsWrongFalsely : Prop := diskKeepsRow.holds Try.pinned (OpenSpec.ofChange diskKeepsWrong)

/-- 'dowellaw51.DiskCalls': WHATEVER THE INPUT: true; the input reads as it did. -/
def diskCallsSpec : ChangeSpec := { name := "diskCalls", fn := fun _ => fun
  | [d1, d2] => { results := [.lit (.bool true)], args := [d1, d2] }
  | _ => none }
def diskCallsRow : OpenClaim := { program := "ytlhnjdoicolkkaa", sum := "c932fb89a4b9b11b5057b9bf8b7c89277c5f45906f6860afbe2574e5a9b0a631", func := "dowel/dowellaw51.DiskCalls", spec := "diskCalls", inPlace := ["maps.clone"], unfollowed := true, recurses := true, apart := false }
def DiskCallsSaid : Prop := diskCallsRow.holds Try.pinned (OpenSpec.ofChange diskCallsSpec)

/-- ITS FALSE NEIGHBOUR: 'it returns false'. Refute it at one input. -/
def diskCallsWrong : ChangeSpec := { name := "diskCalls", fn := fun _ => fun
  | [d1, d2] => { results := [.lit (.bool false)], args := [d1, d2] }
  | _ => none }
def DiskCallsWrongFalsely : Prop := diskCallsRow.holds Try.pinned (OpenSpec.ofChange diskCallsWrong)

/-- 'dowellaw51.DiskNames': WHATEVER THE INPUT: true; the input reads as it did. -/
def diskNamesSpec : ChangeSpec := { name := "diskNames", fn := fun _ => fun
  | [d1, d2, d3] => { results := [.lit (.bool true)], args := [d1, d2, d3] }
  | _ => none }
def diskNamesRow : OpenClaim := { program := "ytlhnjdoicolkkaa", sum := "c932fb89a4b9b11b5057b9bf8b7c89277c5f45906f6860afbe2574e5a9b0a631", func := "dowel/dowellaw51.DiskNames", spec := "diskNames", inPlace := ["maps.clone"], unfollowed := true, recurses := true, apart := false }
def DiskNamesSaid : Prop := diskNamesRow.holds Try.pinned (OpenSpec.ofChange diskNamesSpec)

/-- ITS FALSE NEIGHBOUR: 'it returns false'. Refute it at one input. -/
def diskNamesWrong : ChangeSpec := { name := "diskNames", fn := fun _ => fun
  | [d1, d2, d3] => { results := [.lit (.bool false)], args := [d1, d2, d3] }
  | _ => none }
def DiskNamesWrongFalsely : Prop := diskNamesRow.holds Try.pinned (OpenSpec.ofChange diskNamesWrong)

/-- 'dowellaw51.DiskClones': WHATEVER THE INPUT: true; the input reads as it did. -/
def diskClonesSpec : ChangeSpec := { name := "diskClones", fn := fun _ => fun
  | [d1, d2] => { results := [.lit (.bool true)], args := [d1, d2] }
  | _ => none }
def diskClonesRow : OpenClaim := { program := "ytlhnjdoicolkkaa", sum := "c932fb89a4b9b11b5057b9bf8b7c89277c5f45906f6860afbe2574e5a9b0a631", func := "dowel/dowellaw51.DiskClones", spec := "diskClones", inPlace := ["maps.clone"], unfollowed := true, recurses := true, apart := false }
def DiskClonesSaid : Prop := diskClonesRow.holds Try.pinned (OpenSpec.ofChange diskClonesSpec)

/-- ITS FALSE NEIGHBOUR: 'it returns false'. Refute it at one input. -/
def diskClonesWrong : ChangeSpec := { name := "diskClones", fn := fun _ => fun
  | [d1, d2] => { results := [.lit (.bool false)], args := [d1, d2] }
  | _ => none }
def DiskClonesWrongFalsely : Prop := diskClonesRow.holds Try.pinned (OpenSpec.ofChange diskClonesWrong)

/-- 'dowellaw51.DiskNil': WHATEVER THE INPUT: true; the input reads as it did. -/
def diskNilSpec : ChangeSpec := { name := "diskNil", fn := fun _ => fun
  | [d] => { results := [.lit (.bool true)], args := [d] }
  | _ => none }
def diskNilRow : OpenClaim := { program := "ytlhnjdoicolkkaa", sum := "c932fb89a4b9b11b5057b9bf8b7c89277c5f45906f6860afbe2574e5a9b0a631", func := "dowel/dowellaw51.DiskNil", spec := "diskNil", inPlace := ["maps.clone"], unfollowed := true, recurses := true, apart := false }
def DiskNilSaid : Prop := diskNilRow.holds Try.pinned (OpenSpec.ofChange diskNilSpec)

/-- ITS FALSE NEIGHBOUR: 'it returns false'. Refute it at one input. -/
def diskNilWrong : ChangeSpec := { name := "diskNil", fn := fun _ => fun
  | [d] => { results := [.lit (.bool false)], args := [d] }
  | _ => none }
def DiskNilWrongFalsely : Prop := diskNilRow.holds Try.pinned (OpenSpec.ofChange diskNilWrong)

/- THE SECOND FORM. 'bulk': how many values and letters a reading holds, each counted each time it is reached (what is shared counts as often as it is met; a slice's spare places count too). A statement '..UptoSaid' is the law's where the arguments, and the package variables that the reading takes, are together of bulk at most 1048576: NARROWER than '..Said'. Prove '..Said' where nothing that the law and all that it calls make is longer than what came in: it says more and counts as full. Else prove '..UptoSaid'. A law counts once. -/
mutual
def uptoBulk {H : Type} : DataW H → Nat
  | .lit (.string bytes) => bytes.length + 1
  | .lit _ => 1
  | .nil => 1
  | .ptr d => uptoBulk d + 1
  | .slice elems spare => uptoBulkAll elems + uptoBulkAll spare + 1
  | .agg parts => uptoBulkAll parts + 1
  | .iface _ d => uptoBulk d + 1
  | .map entries => uptoBulkEntries entries + 1
  | .held _ => 1
def uptoBulkAll {H : Type} : List (DataW H) → Nat
  | [] => 0
  | d :: r => uptoBulk d + uptoBulkAll r
def uptoBulkEntries {H : Type} : List (Lit × DataW H) → Nat
  | [] => 0
  | x :: r => uptoBulkEntry x + uptoBulkEntries r
def uptoBulkEntry {H : Type} : Lit × DataW H → Nat
  | (.string bytes, d) => bytes.length + uptoBulk d + 1
  | (_, d) => uptoBulk d + 1
 end
def uptoSmall : (H : Type) → List (DataW H) → Bool := fun _ ds => decide (uptoBulkAll ds ≤ 1048576)
def OpenSpec.upto (s : _root_.Go.ChangeSpec) : _root_.Go.OpenSpec := { _root_.Go.OpenSpec.ofChange s with cond := some uptoSmall }

/-- 'dowellaw51.DiskPrefix', WHERE WHAT IT READS IS OF BULK AT MOST 1048576: true; the input reads as it did. -/
def diskPrefixUptoRow : OpenClaim := { program := "ytlhnjdoicolkkaa", sum := "c932fb89a4b9b11b5057b9bf8b7c89277c5f45906f6860afbe2574e5a9b0a631", func := "dowel/dowellaw51.DiskPrefix", spec := "diskPrefix", inPlace := ["maps.clone"], unfollowed := true, recurses := true, apart := false, narrowed := true }
def DiskPrefixUptoSaid : Prop := diskPrefixUptoRow.holds Try.pinned (OpenSpec.upto diskPrefixSpec)

/-- 'dowellaw51.DiskLimits', WHERE WHAT IT READS IS OF BULK AT MOST 1048576: true; the input reads as it did. -/
def diskLimitsUptoRow : OpenClaim := { program := "ytlhnjdoicolkkaa", sum := "c932fb89a4b9b11b5057b9bf8b7c89277c5f45906f6860afbe2574e5a9b0a631", func := "dowel/dowellaw51.DiskLimits", spec := "diskLimits", inPlace := ["maps.clone"], unfollowed := true, recurses := true, apart := false, narrowed := true }
def DiskLimitsUptoSaid : Prop := diskLimitsUptoRow.holds Try.pinned (OpenSpec.upto diskLimitsSpec)

/-- 'dowellaw51.DiskReplaces', WHERE WHAT IT READS IS OF BULK AT MOST 1048576: true; the input reads as it did. -/
def diskReplacesUptoRow : OpenClaim := { program := "ytlhnjdoicolkkaa", sum := "c932fb89a4b9b11b5057b9bf8b7c89277c5f45906f6860afbe2574e5a9b0a631", func := "dowel/dowellaw51.DiskReplaces", spec := "diskReplaces", inPlace := ["maps.clone"], unfollowed := true, recurses := true, apart := false, narrowed := true }
def DiskReplacesUptoSaid : Prop := diskReplacesUptoRow.holds Try.pinned (OpenSpec.upto diskReplacesSpec)

/-- 'dowellaw51.DiskKeeps', WHERE WHAT IT READS IS OF BULK AT MOST 1048576: true; the input reads as it did. -/
def diskKeepsUptoRow : OpenClaim := { program := "ytlhnjdoicolkkaa", sum := "c932fb89a4b9b11b5057b9bf8b7c89277c5f45906f6860afbe2574e5a9b0a631", func := "dowel/dowellaw51.DiskKeeps", spec := "diskKeeps", inPlace := ["maps.clone"], unfollowed := true, recurses := true, apart := false, narrowed := true }
def DiskKeepsUptoSaid : Prop := diskKeepsUptoRow.holds Try.pinned (OpenSpec.upto diskKeepsSpec)

/-- 'dowellaw51.DiskCalls', WHERE WHAT IT READS IS OF BULK AT MOST 1048576: true; the input reads as it did. -/
def diskCallsUptoRow : OpenClaim := { program := "ytlhnjdoicolkkaa", sum := "c932fb89a4b9b11b5057b9bf8b7c89277c5f45906f6860afbe2574e5a9b0a631", func := "dowel/dowellaw51.DiskCalls", spec := "diskCalls", inPlace := ["maps.clone"], unfollowed := true, recurses := true, apart := false, narrowed := true }
def DiskCallsUptoSaid : Prop := diskCallsUptoRow.holds Try.pinned (OpenSpec.upto diskCallsSpec)

/-- 'dowellaw51.DiskNames', WHERE WHAT IT READS IS OF BULK AT MOST 1048576: true; the input reads as it did. -/
def diskNamesUptoRow : OpenClaim := { program := "ytlhnjdoicolkkaa", sum := "c932fb89a4b9b11b5057b9bf8b7c89277c5f45906f6860afbe2574e5a9b0a631", func := "dowel/dowellaw51.DiskNames", spec := "diskNames", inPlace := ["maps.clone"], unfollowed := true, recurses := true, apart := false, narrowed := true }
def DiskNamesUptoSaid : Prop := diskNamesUptoRow.holds Try.pinned (OpenSpec.upto diskNamesSpec)

/-- 'dowellaw51.DiskClones', WHERE WHAT IT READS IS OF BULK AT MOST 1048576: true; the input reads as it did. -/
def diskClonesUptoRow : OpenClaim := { program := "ytlhnjdoicolkkaa", sum := "c932fb89a4b9b11b5057b9bf8b7c89277c5f45906f6860afbe2574e5a9b0a631", func := "dowel/dowellaw51.DiskClones", spec := "diskClones", inPlace := ["maps.clone"], unfollowed := true, recurses := true, apart := false, narrowed := true }
def DiskClonesUptoSaid : Prop := diskClonesUptoRow.holds Try.pinned (OpenSpec.upto diskClonesSpec)

/-- 'dowellaw51.DiskNil', WHERE WHAT IT READS IS OF BULK AT MOST 1048576: true; the input reads as it did. -/
def diskNilUptoRow : OpenClaim := { program := "ytlhnjdoicolkkaa", sum := "c932fb89a4b9b11b5057b9bf8b7c89277c5f45906f6860afbe2574e5a9b0a631", func := "dowel/dowellaw51.DiskNil", spec := "diskNil", inPlace := ["maps.clone"], unfollowed := true, recurses := true, apart := false, narrowed := true }
def DiskNilUptoSaid : Prop := diskNilUptoRow.holds Try.pinned (OpenSpec.upto diskNilSpec)

end Rows
end Go.Proofs.Ytlhnjdoicolkkaa
