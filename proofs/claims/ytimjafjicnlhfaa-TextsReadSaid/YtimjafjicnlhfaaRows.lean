/-
  No cell of these rows narrows 'for every input' (looked for: loops, veiled, ifaces, maps, wideKeys, modest, calm, conditions, laid).
  DERIVED. THE GIVEN ROWS OF THIS SEAT. 6 by the template 'for every input the law returns true; each argument reads behind the call as it read before'; 0 by the template 'total and deterministic' (their statements: YtimjafjicnlhfaaTotals.lean).
  GIVEN WITH THE SEED: the statements are not yours to turn. If you find one false, say at which input.
  Laid BY PROGRAM, IN A SANDBOX (cutbox-rows.mjs): the forced cells as the released guide's own fill.sh prints them over the translation 20099118a8e09c9d… (all of the seat's roots in one cut). By AI agents, Wed Nov 11 2026. No macro, syntax, notation, axiom, sorry.
-/
import Derived.Test.YtimjafjicnlhfaaChecked
import GoSem.Claim
import GoSem.ClaimJoined
import GoSem.ClaimMapViews
import Derived.JoinedTies
import Derived.KernelRfl
namespace Go.Proofs.Ytimjafjicnlhfaa
/- THE CELL 'sum', in the pinned program and in every row, IS THE sha256 OF THE DUMP (.gsa) THAT YtimjafjicnlhfaaProg.lean LOADS. Nothing in Lean hashes anything: it is a label: what it is worth is what the hold of that sum in a sandbox is worth. -/
noncomputable def Try.pinned : Pinned := { name := "ytimjafjicnlhfaa", sum := "20099118a8e09c9deb029367a14d06402bac75427367de2128f1fe9cd82bc804", checked := Try.checked }
namespace Rows
def none {H : Type} : Left H := { results := [], args := [] }

/-- 'tithebarnlaw05.TextsWith': WHATEVER THE INPUT: true; the input reads as it did. -/
def textsWithSpec : ChangeSpec := { name := "textsWith", fn := fun _ => fun
  | [d1, d2] => { results := [.lit (.bool true)], args := [d1, d2] }
  | _ => none }
def textsWithRow : OpenClaim := { program := "ytimjafjicnlhfaa", sum := "20099118a8e09c9deb029367a14d06402bac75427367de2128f1fe9cd82bc804", func := "tithebarn/tithebarnlaw05.TextsWith", spec := "textsWith", unfollowed := true, recurses := true, apart := false }
def TextsWithSaid : Prop := textsWithRow.holds Try.pinned (OpenSpec.ofChange textsWithSpec)

/-- ITS FALSE NEIGHBOUR: 'it returns false'. Refute it at one input. -/
def textsWithWrong : ChangeSpec := { name := "textsWith", fn := fun _ => fun
  | [d1, d2] => { results := [.lit (.bool false)], args := [d1, d2] }
  | _ => none }
def TextsWithWrongFalsely : Prop := textsWithRow.holds Try.pinned (OpenSpec.ofChange textsWithWrong)

/-- 'tithebarnlaw05.TextsRead': WHATEVER THE INPUT: true; the input reads as it did. -/
def textsReadSpec : ChangeSpec := { name := "textsRead", fn := fun _ => fun
  | [d] => { results := [.lit (.bool true)], args := [d] }
  | _ => none }
def textsReadRow : OpenClaim := { program := "ytimjafjicnlhfaa", sum := "20099118a8e09c9deb029367a14d06402bac75427367de2128f1fe9cd82bc804", func := "tithebarn/tithebarnlaw05.TextsRead", spec := "textsRead", unfollowed := true, recurses := true, apart := false }
def TextsReadSaid : Prop := textsReadRow.holds Try.pinned (OpenSpec.ofChange textsReadSpec)

/-- ITS FALSE NEIGHBOUR: 'it returns false'. Refute it at one input. -/
def textsReadWrong : ChangeSpec := { name := "textsRead", fn := fun _ => fun
  | [d] => { results := [.lit (.bool false)], args := [d] }
  | _ => none }
def TextsReadWrongFalsely : Prop := textsReadRow.holds Try.pinned (OpenSpec.ofChange textsReadWrong)

/-- 'tithebarnlaw05.TextsOnly': WHATEVER THE INPUT: true; the input reads as it did. -/
def textsOnlySpec : ChangeSpec := { name := "textsOnly", fn := fun _ => fun
  | [d] => { results := [.lit (.bool true)], args := [d] }
  | _ => none }
def textsOnlyRow : OpenClaim := { program := "ytimjafjicnlhfaa", sum := "20099118a8e09c9deb029367a14d06402bac75427367de2128f1fe9cd82bc804", func := "tithebarn/tithebarnlaw05.TextsOnly", spec := "textsOnly", unfollowed := true, recurses := true, apart := false }
def TextsOnlySaid : Prop := textsOnlyRow.holds Try.pinned (OpenSpec.ofChange textsOnlySpec)

/-- ITS FALSE NEIGHBOUR: 'it returns false'. Refute it at one input. -/
def textsOnlyWrong : ChangeSpec := { name := "textsOnly", fn := fun _ => fun
  | [d] => { results := [.lit (.bool false)], args := [d] }
  | _ => none }
def TextsOnlyWrongFalsely : Prop := textsOnlyRow.holds Try.pinned (OpenSpec.ofChange textsOnlyWrong)

/-- 'tithebarnlaw05.TextsBest': WHATEVER THE INPUT: true; the input reads as it did. -/
def textsBestSpec : ChangeSpec := { name := "textsBest", fn := fun _ => fun
  | [d] => { results := [.lit (.bool true)], args := [d] }
  | _ => none }
def textsBestRow : OpenClaim := { program := "ytimjafjicnlhfaa", sum := "20099118a8e09c9deb029367a14d06402bac75427367de2128f1fe9cd82bc804", func := "tithebarn/tithebarnlaw05.TextsBest", spec := "textsBest", unfollowed := true, recurses := true, apart := false }
def TextsBestSaid : Prop := textsBestRow.holds Try.pinned (OpenSpec.ofChange textsBestSpec)

/-- ITS FALSE NEIGHBOUR: 'it returns false'. Refute it at one input. -/
def textsBestWrong : ChangeSpec := { name := "textsBest", fn := fun _ => fun
  | [d] => { results := [.lit (.bool false)], args := [d] }
  | _ => none }
def TextsBestWrongFalsely : Prop := textsBestRow.holds Try.pinned (OpenSpec.ofChange textsBestWrong)

/-- 'tithebarnlaw05.TextsBack': WHATEVER THE INPUT: true; the input reads as it did. -/
def textsBackSpec : ChangeSpec := { name := "textsBack", fn := fun _ => fun
  | [d] => { results := [.lit (.bool true)], args := [d] }
  | _ => none }
def textsBackRow : OpenClaim := { program := "ytimjafjicnlhfaa", sum := "20099118a8e09c9deb029367a14d06402bac75427367de2128f1fe9cd82bc804", func := "tithebarn/tithebarnlaw05.TextsBack", spec := "textsBack", unfollowed := true, recurses := true, apart := false }
def TextsBackSaid : Prop := textsBackRow.holds Try.pinned (OpenSpec.ofChange textsBackSpec)

/-- ITS FALSE NEIGHBOUR: 'it returns false'. Refute it at one input. -/
def textsBackWrong : ChangeSpec := { name := "textsBack", fn := fun _ => fun
  | [d] => { results := [.lit (.bool false)], args := [d] }
  | _ => none }
def TextsBackWrongFalsely : Prop := textsBackRow.holds Try.pinned (OpenSpec.ofChange textsBackWrong)

/-- 'tithebarnlaw05.TextsSame': WHATEVER THE INPUT: true; the input reads as it did. -/
def textsSameSpec : ChangeSpec := { name := "textsSame", fn := fun _ => fun
  | [d1, d2] => { results := [.lit (.bool true)], args := [d1, d2] }
  | _ => none }
def textsSameRow : OpenClaim := { program := "ytimjafjicnlhfaa", sum := "20099118a8e09c9deb029367a14d06402bac75427367de2128f1fe9cd82bc804", func := "tithebarn/tithebarnlaw05.TextsSame", spec := "textsSame", unfollowed := true, recurses := true, apart := false }
def TextsSameSaid : Prop := textsSameRow.holds Try.pinned (OpenSpec.ofChange textsSameSpec)

/-- ITS FALSE NEIGHBOUR: 'it returns false'. Refute it at one input. -/
def textsSameWrong : ChangeSpec := { name := "textsSame", fn := fun _ => fun
  | [d1, d2] => { results := [.lit (.bool false)], args := [d1, d2] }
  | _ => none }
def TextsSameWrongFalsely : Prop := textsSameRow.holds Try.pinned (OpenSpec.ofChange textsSameWrong)

/- THE SECOND FORM. 'bulk': how many values and letters a reading holds, each counted each time it is reached (what is shared counts as often as it is met; a slice's spare places count too). A statement '..UptoSaid' is the law's where the arguments, and the package variables that the reading takes, are together of bulk at most 1048576: NARROWER than '..Said'. Prove '..Said' where nothing that the law and all that it calls make is longer than what came in: it says more and counts as full. Else prove '..UptoSaid'. A law counts once. -/
mutual
def uptoBulk {H : Type} : DataW H → Nat
  | .lit (.string bytes) => bytes.length + 1
  | .lit _ => 1
  | .nil => 1
  | .ptr d => uptoBulk d + 1
  | .slice elems spare => uptoBulkAll elems + uptoBulkAll spare + 1
  | .agg parts => uptoBulkAll parts + 1
  | .iface _ d => uptoBulk d + 1
  | .map entries => uptoBulkEntries entries + 1
  | .held _ => 1
def uptoBulkAll {H : Type} : List (DataW H) → Nat
  | [] => 0
  | d :: r => uptoBulk d + uptoBulkAll r
def uptoBulkEntries {H : Type} : List (Lit × DataW H) → Nat
  | [] => 0
  | x :: r => uptoBulkEntry x + uptoBulkEntries r
def uptoBulkEntry {H : Type} : Lit × DataW H → Nat
  | (.string bytes, d) => bytes.length + uptoBulk d + 1
  | (_, d) => uptoBulk d + 1
 end
def uptoSmall : (H : Type) → List (DataW H) → Bool := fun _ ds => decide (uptoBulkAll ds ≤ 1048576)
def OpenSpec.upto (s : _root_.Go.ChangeSpec) : _root_.Go.OpenSpec := { _root_.Go.OpenSpec.ofChange s with cond := some uptoSmall }

/-- 'tithebarnlaw05.TextsWith', WHERE WHAT IT READS IS OF BULK AT MOST 1048576: true; the input reads as it did. -/
def textsWithUptoRow : OpenClaim := { program := "ytimjafjicnlhfaa", sum := "20099118a8e09c9deb029367a14d06402bac75427367de2128f1fe9cd82bc804", func := "tithebarn/tithebarnlaw05.TextsWith", spec := "textsWith", unfollowed := true, recurses := true, apart := false, narrowed := true }
def TextsWithUptoSaid : Prop := textsWithUptoRow.holds Try.pinned (OpenSpec.upto textsWithSpec)

/-- 'tithebarnlaw05.TextsRead', WHERE WHAT IT READS IS OF BULK AT MOST 1048576: true; the input reads as it did. -/
def textsReadUptoRow : OpenClaim := { program := "ytimjafjicnlhfaa", sum := "20099118a8e09c9deb029367a14d06402bac75427367de2128f1fe9cd82bc804", func := "tithebarn/tithebarnlaw05.TextsRead", spec := "textsRead", unfollowed := true, recurses := true, apart := false, narrowed := true }
def TextsReadUptoSaid : Prop := textsReadUptoRow.holds Try.pinned (OpenSpec.upto textsReadSpec)

/-- 'tithebarnlaw05.TextsOnly', WHERE WHAT IT READS IS OF BULK AT MOST 1048576: true; the input reads as it did. -/
def textsOnlyUptoRow : OpenClaim := { program := "ytimjafjicnlhfaa", sum := "20099118a8e09c9deb029367a14d06402bac75427367de2128f1fe9cd82bc804", func := "tithebarn/tithebarnlaw05.TextsOnly", spec := "textsOnly", unfollowed := true, recurses := true, apart := false, narrowed := true }
def TextsOnlyUptoSaid : Prop := textsOnlyUptoRow.holds Try.pinned (OpenSpec.upto textsOnlySpec)

/-- 'tithebarnlaw05.TextsBest', WHERE WHAT IT READS IS OF BULK AT MOST 1048576: true; the input reads as it did. -/
def textsBestUptoRow : OpenClaim := { program := "ytimjafjicnlhfaa", sum := "20099118a8e09c9deb029367a14d06402bac75427367de2128f1fe9cd82bc804", func := "tithebarn/tithebarnlaw05.TextsBest", spec := "textsBest", unfollowed := true, recurses := true, apart := false, narrowed := true }
def TextsBestUptoSaid : Prop := textsBestUptoRow.holds Try.pinned (OpenSpec.upto textsBestSpec)

/-- 'tithebarnlaw05.TextsBack', WHERE WHAT IT READS IS OF BULK AT MOST 1048576: true; the input reads as it did. -/
def textsBackUptoRow : OpenClaim := { program := "ytimjafjicnlhfaa", sum := "20099118a8e09c9deb029367a14d06402bac75427367de2128f1fe9cd82bc804", func := "tithebarn/tithebarnlaw05.TextsBack", spec := "textsBack", unfollowed := true, recurses := true, apart := false, narrowed := true }
def TextsBackUptoSaid : Prop := textsBackUptoRow.holds Try.pinned (OpenSpec.upto textsBackSpec)

/-- 'tithebarnlaw05.TextsSame', WHERE WHAT IT READS IS OF BULK AT MOST 1048576: true; the input reads as it did. -/
def textsSameUptoRow : OpenClaim := { program := "ytimjafjicnlhfaa", sum := "20099118a8e09c9deb029367a14d06402bac75427367de2128f1fe9cd82bc804", func := "tithebarn/tithebarnlaw05.TextsSame", spec := "textsSame", unfollowed := true, recurses := true, apart := false, narrowed := true }
def TextsSameUptoSaid : Prop := textsSameUptoRow.holds Try.pinned (OpenSpec.upto textsSameSpec)

end Rows
end Go.Proofs.Ytimjafjicnlhfaa
