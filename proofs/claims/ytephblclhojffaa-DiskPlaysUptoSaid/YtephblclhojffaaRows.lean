/-
  No cell of these rows narrows 'for every input' (looked for: loops, veiled, ifaces, maps, wideKeys, modest, calm, conditions, laid).
  DERIVED. THE GIVEN ROWS OF THIS SEAT. 8 by the template 'for every input the law returns true; each argument reads behind the call as it read before'; 0 by the template 'total and deterministic' (their statements: YtephblclhojffaaTotals.lean).
  GIVEN WITH THE SEED: the statements are not yours to turn. If you find one false, say at which input.
  Laid BY PROGRAM, IN A SANDBOX (cutbox-rows.mjs): the forced cells as the released guide's own fill.sh prints them over the translation 9a2dd796c962cc88… (all of the seat's roots in one cut). By AI agents, Wed Nov 11 2026. No macro, syntax, notation, axiom, sorry.
-/
import Derived.Test.YtephblclhojffaaChecked
import GoSem.Claim
import GoSem.ClaimJoined
import GoSem.ClaimMapViews
import Derived.JoinedTies
import Derived.KernelRfl
namespace Go.Proofs.Ytephblclhojffaa
/- THE CELL 'sum', in the pinned program and in every row, IS THE sha256 OF THE DUMP (.gsa) THAT YtephblclhojffaaProg.lean LOADS. Nothing in Lean hashes anything: it is a label: what it is worth is what the hold of that sum in a sandbox is worth. -/
noncomputable def Try.pinned : Pinned := { name := "ytephblclhojffaa", sum := "9a2dd796c962cc88537ba1ee96ee31832f153af0633d34263ac9c82e09aaeaa4", checked := Try.checked }
namespace Rows
def none {H : Type} : Left H := { results := [], args := [] }

/-- 'tithebarnlaw09.DiskLoad': WHATEVER THE INPUT: true; the input reads as it did. -/
def diskLoadSpec : ChangeSpec := { name := "diskLoad", fn := fun _ => fun
  | [d1, d2, d3] => { results := [.lit (.bool true)], args := [d1, d2, d3] }
  | _ => none }
def diskLoadRow : OpenClaim := { program := "ytephblclhojffaa", sum := "9a2dd796c962cc88537ba1ee96ee31832f153af0633d34263ac9c82e09aaeaa4", func := "tithebarn/tithebarnlaw09.DiskLoad", spec := "diskLoad", inPlace := ["maps.clone"], unfollowed := true, recurses := true, apart := false }
def DiskLoadSaid : Prop := diskLoadRow.holds Try.pinned (OpenSpec.ofChange diskLoadSpec)

/-- ITS FALSE NEIGHBOUR: 'it returns false'. Refute it at one input. -/
def diskLoadWrong : ChangeSpec := { name := "diskLoad", fn := fun _ => fun
  | [d1, d2, d3] => { results := [.lit (.bool false)], args := [d1, d2, d3] }
  | _ => none }
def DiskLoadWrongFalsely : Prop := diskLoadRow.holds Try.pinned (OpenSpec.ofChange diskLoadWrong)

/-- 'tithebarnlaw09.DiskPlays': WHATEVER THE INPUT: true; the input reads as it did. -/
def diskPlaysSpec : ChangeSpec := { name := "diskPlays", fn := fun _ => fun
  | [d1, d2, d3] => { results := [.lit (.bool true)], args := [d1, d2, d3] }
  | _ => none }
def diskPlaysRow : OpenClaim := { program := "ytephblclhojffaa", sum := "9a2dd796c962cc88537ba1ee96ee31832f153af0633d34263ac9c82e09aaeaa4", func := "tithebarn/tithebarnlaw09.DiskPlays", spec := "diskPlays", inPlace := ["maps.clone"], unfollowed := true, recurses := true, apart := false }
def DiskPlaysSaid : Prop := diskPlaysRow.holds Try.pinned (OpenSpec.ofChange diskPlaysSpec)

/-- ITS FALSE NEIGHBOUR: 'it returns false'. Refute it at one input. -/
def diskPlaysWrong : ChangeSpec := { name := "diskPlays", fn := fun _ => fun
  | [d1, d2, d3] => { results := [.lit (.bool false)], args := [d1, d2, d3] }
  | _ => none }
def DiskPlaysWrongFalsely : Prop := diskPlaysRow.holds Try.pinned (OpenSpec.ofChange diskPlaysWrong)

/-- 'tithebarnlaw09.DiskSure': WHATEVER THE INPUT: true; the input reads as it did. -/
def diskSureSpec : ChangeSpec := { name := "diskSure", fn := fun _ => fun
  | [d1, d2, d3] => { results := [.lit (.bool true)], args := [d1, d2, d3] }
  | _ => none }
def diskSureRow : OpenClaim := { program := "ytephblclhojffaa", sum := "9a2dd796c962cc88537ba1ee96ee31832f153af0633d34263ac9c82e09aaeaa4", func := "tithebarn/tithebarnlaw09.DiskSure", spec := "diskSure", inPlace := ["maps.clone"], unfollowed := true, recurses := true, apart := false }
def DiskSureSaid : Prop := diskSureRow.holds Try.pinned (OpenSpec.ofChange diskSureSpec)

/-- ITS FALSE NEIGHBOUR: 'it returns false'. Refute it at one input. -/
def diskSureWrong : ChangeSpec := { name := "diskSure", fn := fun _ => fun
  | [d1, d2, d3] => { results := [.lit (.bool false)], args := [d1, d2, d3] }
  | _ => none }
def DiskSureWrongFalsely : Prop := diskSureRow.holds Try.pinned (OpenSpec.ofChange diskSureWrong)

/-- 'tithebarnlaw09.DiskTwice': WHATEVER THE INPUT: true; the input reads as it did. -/
def diskTwiceSpec : ChangeSpec := { name := "diskTwice", fn := fun _ => fun
  | [d1, d2, d3] => { results := [.lit (.bool true)], args := [d1, d2, d3] }
  | _ => none }
def diskTwiceRow : OpenClaim := { program := "ytephblclhojffaa", sum := "9a2dd796c962cc88537ba1ee96ee31832f153af0633d34263ac9c82e09aaeaa4", func := "tithebarn/tithebarnlaw09.DiskTwice", spec := "diskTwice", inPlace := ["maps.clone"], unfollowed := true, recurses := true, apart := false }
def DiskTwiceSaid : Prop := diskTwiceRow.holds Try.pinned (OpenSpec.ofChange diskTwiceSpec)

/-- ITS FALSE NEIGHBOUR: 'it returns false'. Refute it at one input. -/
def diskTwiceWrong : ChangeSpec := { name := "diskTwice", fn := fun _ => fun
  | [d1, d2, d3] => { results := [.lit (.bool false)], args := [d1, d2, d3] }
  | _ => none }
def DiskTwiceWrongFalsely : Prop := diskTwiceRow.holds Try.pinned (OpenSpec.ofChange diskTwiceWrong)

/-- 'tithebarnlaw09.DiskRefused': WHATEVER THE INPUT: true; the input reads as it did. -/
def diskRefusedSpec : ChangeSpec := { name := "diskRefused", fn := fun _ => fun
  | [d1, d2, d3] => { results := [.lit (.bool true)], args := [d1, d2, d3] }
  | _ => none }
def diskRefusedRow : OpenClaim := { program := "ytephblclhojffaa", sum := "9a2dd796c962cc88537ba1ee96ee31832f153af0633d34263ac9c82e09aaeaa4", func := "tithebarn/tithebarnlaw09.DiskRefused", spec := "diskRefused", inPlace := ["maps.clone"], unfollowed := true, recurses := true, apart := false }
def DiskRefusedSaid : Prop := diskRefusedRow.holds Try.pinned (OpenSpec.ofChange diskRefusedSpec)

/-- ITS FALSE NEIGHBOUR: 'it returns false'. Refute it at one input. -/
def diskRefusedWrong : ChangeSpec := { name := "diskRefused", fn := fun _ => fun
  | [d1, d2, d3] => { results := [.lit (.bool false)], args := [d1, d2, d3] }
  | _ => none }
def DiskRefusedWrongFalsely : Prop := diskRefusedRow.holds Try.pinned (OpenSpec.ofChange diskRefusedWrong)

/-- 'tithebarnlaw09.DiskSpace': WHATEVER THE INPUT: true; the input reads as it did. -/
def diskSpaceSpec : ChangeSpec := { name := "diskSpace", fn := fun _ => fun
  | [d1, d2] => { results := [.lit (.bool true)], args := [d1, d2] }
  | _ => none }
def diskSpaceRow : OpenClaim := { program := "ytephblclhojffaa", sum := "9a2dd796c962cc88537ba1ee96ee31832f153af0633d34263ac9c82e09aaeaa4", func := "tithebarn/tithebarnlaw09.DiskSpace", spec := "diskSpace", inPlace := ["maps.clone"], unfollowed := true, recurses := true, apart := false }
def DiskSpaceSaid : Prop := diskSpaceRow.holds Try.pinned (OpenSpec.ofChange diskSpaceSpec)

/-- ITS FALSE NEIGHBOUR: 'it returns false'. Refute it at one input. -/
def diskSpaceWrong : ChangeSpec := { name := "diskSpace", fn := fun _ => fun
  | [d1, d2] => { results := [.lit (.bool false)], args := [d1, d2] }
  | _ => none }
def DiskSpaceWrongFalsely : Prop := diskSpaceRow.holds Try.pinned (OpenSpec.ofChange diskSpaceWrong)

/-- 'tithebarnlaw09.DiskNil': WHATEVER THE INPUT: true; the input reads as it did. -/
def diskNilSpec : ChangeSpec := { name := "diskNil", fn := fun _ => fun
  | [d] => { results := [.lit (.bool true)], args := [d] }
  | _ => none }
def diskNilRow : OpenClaim := { program := "ytephblclhojffaa", sum := "9a2dd796c962cc88537ba1ee96ee31832f153af0633d34263ac9c82e09aaeaa4", func := "tithebarn/tithebarnlaw09.DiskNil", spec := "diskNil", inPlace := ["maps.clone"], unfollowed := true, recurses := true, apart := false }
def DiskNilSaid : Prop := diskNilRow.holds Try.pinned (OpenSpec.ofChange diskNilSpec)

/-- ITS FALSE NEIGHBOUR: 'it returns false'. Refute it at one input. -/
def diskNilWrong : ChangeSpec := { name := "diskNil", fn := fun _ => fun
  | [d] => { results := [.lit (.bool false)], args := [d] }
  | _ => none }
def DiskNilWrongFalsely : Prop := diskNilRow.holds Try.pinned (OpenSpec.ofChange diskNilWrong)

/-- 'tithebarnlaw09.DiskNames': WHATEVER THE INPUT: true; the input reads as it did. -/
def diskNamesSpec : ChangeSpec := { name := "diskNames", fn := fun _ => fun
  | [d1, d2] => { results := [.lit (.bool true)], args := [d1, d2] }
  | _ => none }
def diskNamesRow : OpenClaim := { program := "ytephblclhojffaa", sum := "9a2dd796c962cc88537ba1ee96ee31832f153af0633d34263ac9c82e09aaeaa4", func := "tithebarn/tithebarnlaw09.DiskNames", spec := "diskNames", inPlace := ["maps.clone"], unfollowed := true, recurses := true, apart := false }
def DiskNamesSaid : Prop := diskNamesRow.holds Try.pinned (OpenSpec.ofChange diskNamesSpec)

/-- ITS FALSE NEIGHBOUR: 'it returns false'. Refute it at one input. -/
def diskNamesWrong : ChangeSpec := { name := "diskNames", fn := fun _ => fun
  | [d1, d2] => { results := [.lit (.bool false)], args := [d1, d2] }
  | _ => none }
def DiskNamesWrongFalsely : Prop := diskNamesRow.holds Try.pinned (OpenSpec.ofChange diskNamesWrong)

/- THE SECOND FORM. 'bulk': how many values and letters a reading holds, each counted each time it is reached (what is shared counts as often as it is met; a slice's spare places count too). A statement '..UptoSaid' is the law's where the arguments, and the package variables that the reading takes, are together of bulk at most 1048576: NARROWER than '..Said'. Prove '..Said' where nothing that the law and all that it calls make is longer than what came in: it says more and counts as full. Else prove '..UptoSaid'. A law counts once. -/
mutual
def uptoBulk {H : Type} : DataW H → Nat
  | .lit (.string bytes) => bytes.length + 1
  | .lit _ => 1
  | .nil => 1
  | .ptr d => uptoBulk d + 1
  | .slice elems spare => uptoBulkAll elems + uptoBulkAll spare + 1
  | .agg parts => uptoBulkAll parts + 1
  | .iface _ d => uptoBulk d + 1
  | .map entries => uptoBulkEntries entries + 1
  | .held _ => 1
def uptoBulkAll {H : Type} : List (DataW H) → Nat
  | [] => 0
  | d :: r => uptoBulk d + uptoBulkAll r
def uptoBulkEntries {H : Type} : List (Lit × DataW H) → Nat
  | [] => 0
  | x :: r => uptoBulkEntry x + uptoBulkEntries r
def uptoBulkEntry {H : Type} : Lit × DataW H → Nat
  | (.string bytes, d) => bytes.length + uptoBulk d + 1
  | (_, d) => uptoBulk d + 1
 end
def uptoSmall : (H : Type) → List (DataW H) → Bool := fun _ ds => decide (uptoBulkAll ds ≤ 1048576)
def OpenSpec.upto (s : _root_.Go.ChangeSpec) : _root_.Go.OpenSpec := { _root_.Go.OpenSpec.ofChange s with cond := some uptoSmall }

/-- 'tithebarnlaw09.DiskLoad', WHERE WHAT IT READS IS OF BULK AT MOST 1048576: true; the input reads as it did. -/
def diskLoadUptoRow : OpenClaim := { program := "ytephblclhojffaa", sum := "9a2dd796c962cc88537ba1ee96ee31832f153af0633d34263ac9c82e09aaeaa4", func := "tithebarn/tithebarnlaw09.DiskLoad", spec := "diskLoad", inPlace := ["maps.clone"], unfollowed := true, recurses := true, apart := false, narrowed := true }
def DiskLoadUptoSaid : Prop := diskLoadUptoRow.holds Try.pinned (OpenSpec.upto diskLoadSpec)

/-- 'tithebarnlaw09.DiskPlays', WHERE WHAT IT READS IS OF BULK AT MOST 1048576: true; the input reads as it did. -/
def diskPlaysUptoRow : OpenClaim := { program := "ytephblclhojffaa", sum := "9a2dd796c962cc88537ba1ee96ee31832f153af0633d34263ac9c82e09aaeaa4", func := "tithebarn/tithebarnlaw09.DiskPlays", spec := "diskPlays", inPlace := ["maps.clone"], unfollowed := true, recurses := true, apart := false, narrowed := true }
def DiskPlaysUptoSaid : Prop := diskPlaysUptoRow.holds Try.pinned (OpenSpec.upto diskPlaysSpec)

/-- 'tithebarnlaw09.DiskSure', WHERE WHAT IT READS IS OF BULK AT MOST 1048576: true; the input reads as it did. -/
def diskSureUptoRow : OpenClaim := { program := "ytephblclhojffaa", sum := "9a2dd796c962cc88537ba1ee96ee31832f153af0633d34263ac9c82e09aaeaa4", func := "tithebarn/tithebarnlaw09.DiskSure", spec := "diskSure", inPlace := ["maps.clone"], unfollowed := true, recurses := true, apart := false, narrowed := true }
def DiskSureUptoSaid : Prop := diskSureUptoRow.holds Try.pinned (OpenSpec.upto diskSureSpec)

/-- 'tithebarnlaw09.DiskTwice', WHERE WHAT IT READS IS OF BULK AT MOST 1048576: true; the input reads as it did. -/
def diskTwiceUptoRow : OpenClaim := { program := "ytephblclhojffaa", sum := "9a2dd796c962cc88537ba1ee96ee31832f153af0633d34263ac9c82e09aaeaa4", func := "tithebarn/tithebarnlaw09.DiskTwice", spec := "diskTwice", inPlace := ["maps.clone"], unfollowed := true, recurses := true, apart := false, narrowed := true }
def DiskTwiceUptoSaid : Prop := diskTwiceUptoRow.holds Try.pinned (OpenSpec.upto diskTwiceSpec)

/-- 'tithebarnlaw09.DiskRefused', WHERE WHAT IT READS IS OF BULK AT MOST 1048576: true; the input reads as it did. -/
def diskRefusedUptoRow : OpenClaim := { program := "ytephblclhojffaa", sum := "9a2dd796c962cc88537ba1ee96ee31832f153af0633d34263ac9c82e09aaeaa4", func := "tithebarn/tithebarnlaw09.DiskRefused", spec := "diskRefused", inPlace := ["maps.clone"], unfollowed := true, recurses := true, apart := false, narrowed := true }
def DiskRefusedUptoSaid : Prop := diskRefusedUptoRow.holds Try.pinned (OpenSpec.upto diskRefusedSpec)

/-- 'tithebarnlaw09.DiskSpace', WHERE WHAT IT READS IS OF BULK AT MOST 1048576: true; the input reads as it did. -/
def diskSpaceUptoRow : OpenClaim := { program := "ytephblclhojffaa", sum := "9a2dd796c962cc88537ba1ee96ee31832f153af0633d34263ac9c82e09aaeaa4", func := "tithebarn/tithebarnlaw09.DiskSpace", spec := "diskSpace", inPlace := ["maps.clone"], unfollowed := true, recurses := true, apart := false, narrowed := true }
def DiskSpaceUptoSaid : Prop := diskSpaceUptoRow.holds Try.pinned (OpenSpec.upto diskSpaceSpec)

/-- 'tithebarnlaw09.DiskNil', WHERE WHAT IT READS IS OF BULK AT MOST 1048576: true; the input reads as it did. -/
def diskNilUptoRow : OpenClaim := { program := "ytephblclhojffaa", sum := "9a2dd796c962cc88537ba1ee96ee31832f153af0633d34263ac9c82e09aaeaa4", func := "tithebarn/tithebarnlaw09.DiskNil", spec := "diskNil", inPlace := ["maps.clone"], unfollowed := true, recurses := true, apart := false, narrowed := true }
def DiskNilUptoSaid : Prop := diskNilUptoRow.holds Try.pinned (OpenSpec.upto diskNilSpec)

/-- 'tithebarnlaw09.DiskNames', WHERE WHAT IT READS IS OF BULK AT MOST 1048576: true; the input reads as it did. -/
def diskNamesUptoRow : OpenClaim := { program := "ytephblclhojffaa", sum := "9a2dd796c962cc88537ba1ee96ee31832f153af0633d34263ac9c82e09aaeaa4", func := "tithebarn/tithebarnlaw09.DiskNames", spec := "diskNames", inPlace := ["maps.clone"], unfollowed := true, recurses := true, apart := false, narrowed := true }
def DiskNamesUptoSaid : Prop := diskNamesUptoRow.holds Try.pinned (OpenSpec.upto diskNamesSpec)

end Rows
end Go.Proofs.Ytephblclhojffaa
