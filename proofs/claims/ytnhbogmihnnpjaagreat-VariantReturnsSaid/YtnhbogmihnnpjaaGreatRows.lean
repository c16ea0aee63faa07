/-
  No cell of these rows narrows 'for every input' (looked for: loops, veiled, ifaces, maps, wideKeys, modest, calm, conditions, laid).
  DERIVED. THE GIVEN ROWS OF THIS SEAT. 8 by the template 'for every input the law returns true; each argument reads behind the call as it read before'; 0 by the template 'total and deterministic' (their statements: YtnhbogmihnnpjaaGreatTotals.lean).
  GIVEN WITH THE SEED: the statements are not yours to turn. If you find one false, say at which input.
  Laid BY PROGRAM, IN A SANDBOX (cutbox-rows.mjs): the forced cells as the released guide's own fill.sh prints them over the translation 08d966b14e3df02b… (all of the seat's roots in one cut). By AI agents, Wed Nov 11 2026. No macro, syntax, notation, axiom, sorry.
-/
import Derived.Test.YtnhbogmihnnpjaaGreatChecked
import GoSem.Claim
import GoSem.ClaimJoined
import GoSem.ClaimMapViews
import Derived.JoinedTies
import Derived.KernelRfl
namespace Go.Proofs.YtnhbogmihnnpjaaGreat
/- THE CELL 'sum', in the pinned program and in every row, IS THE sha256 OF THE DUMP (.gsa) THAT YtnhbogmihnnpjaaGreatProg.lean LOADS. Nothing in Lean hashes anything: it is a label: what it is worth is what the hold of that sum in a sandbox is worth. -/
noncomputable def Tryz.pinned : Pinned := { name := "ytnhbogmihnnpjaagreat", sum := "08d966b14e3df02b51546d2dbd389037ecedc715af66485bd4d4c0cbf804e34d", checked := Tryz.checked }
namespace Rows
def none {H : Type} : Left H := { results := [], args := [] }

/-- 'pneumaticlaw19.VariantTurns': WHATEVER THE INPUT: true; the input reads as it did. -/
def variantTurnsSpec : ChangeSpec := { name := "variantTurns", fn := fun _ => fun
  | [d1, d2] => { results := [.lit (.bool true)], args := [d1, d2] }
  | _ => none }
def variantTurnsRow : OpenClaim := { program := "ytnhbogmihnnpjaagreat", sum := "08d966b14e3df02b51546d2dbd389037ecedc715af66485bd4d4c0cbf804e34d", func := "pneumatic/pneumaticlaw19.VariantTurns", spec := "variantTurns", unfollowed := true, recurses := true, apart := false }
def VariantTurnsSaid : Prop := variantTurnsRow.holds Tryz.pinned (OpenSpec.ofChange variantTurnsSpec)

/-- ITS FALSE NEIGHBOUR: 'it returns false'. Refute it at one input. -/
def variantTurnsWrong : ChangeSpec := { name := "variantTurns", fn := fun _ => fun
  | [d1, d2] => { results := [.lit (.bool false)], args := [d1, d2] }
  | _ => none }
def VariantTurnsWrongFalsely : Prop := variantTurnsRow.holds Tryz.pinned (OpenSpec.ofChange variantTurnsWrong)

/-- 'pneumaticlaw19.VariantParts': WHATEVER THE INPUT: true; the input reads as it did. -/
def variantPartsSpec : ChangeSpec := { name := "variantParts", fn := fun _ => fun
  | [d] => { results := [.lit (.bool true)], args := [d] }
  | _ => none }
def variantPartsRow : OpenClaim := { program := "ytnhbogmihnnpjaagreat", sum := "08d966b14e3df02b51546d2dbd389037ecedc715af66485bd4d4c0cbf804e34d", func := "pneumatic/pneumaticlaw19.VariantParts", spec := "variantParts", unfollowed := true, recurses := true, apart := false }
def VariantPartsSaid : Prop := variantPartsRow.holds Tryz.pinned (OpenSpec.ofChange variantPartsSpec)

/-- ITS FALSE NEIGHBOUR: 'it returns false'. Refute it at one input. -/
def variantPartsWrong : ChangeSpec := { name := "variantParts", fn := fun _ => fun
  | [d] => { results := [.lit (.bool false)], args := [d] }
  | _ => none }
def VariantPartsWrongFalsely : Prop := variantPartsRow.holds Tryz.pinned (OpenSpec.ofChange variantPartsWrong)

/-- 'pneumaticlaw19.VariantRests': WHATEVER THE INPUT: true; the input reads as it did. -/
def variantRestsSpec : ChangeSpec := { name := "variantRests", fn := fun _ => fun
  | [d] => { results := [.lit (.bool true)], args := [d] }
  | _ => none }
def variantRestsRow : OpenClaim := { program := "ytnhbogmihnnpjaagreat", sum := "08d966b14e3df02b51546d2dbd389037ecedc715af66485bd4d4c0cbf804e34d", func := "pneumatic/pneumaticlaw19.VariantRests", spec := "variantRests", unfollowed := true, recurses := true, apart := false }
def VariantRestsSaid : Prop := variantRestsRow.holds Tryz.pinned (OpenSpec.ofChange variantRestsSpec)

/-- ITS FALSE NEIGHBOUR: 'it returns false'. Refute it at one input. -/
def variantRestsWrong : ChangeSpec := { name := "variantRests", fn := fun _ => fun
  | [d] => { results := [.lit (.bool false)], args := [d] }
  | _ => none }
def VariantRestsWrongFalsely : Prop := variantRestsRow.holds Tryz.pinned (OpenSpec.ofChange variantRestsWrong)

/-- 'pneumaticlaw19.VariantCompares': WHATEVER THE INPUT: true; the input reads as it did. -/
def variantComparesSpec : ChangeSpec := { name := "variantCompares", fn := fun _ => fun
  | [d1, d2] => { results := [.lit (.bool true)], args := [d1, d2] }
  | _ => none }
def variantComparesRow : OpenClaim := { program := "ytnhbogmihnnpjaagreat", sum := "08d966b14e3df02b51546d2dbd389037ecedc715af66485bd4d4c0cbf804e34d", func := "pneumatic/pneumaticlaw19.VariantCompares", spec := "variantCompares", unfollowed := true, recurses := true, apart := false }
def VariantComparesSaid : Prop := variantComparesRow.holds Tryz.pinned (OpenSpec.ofChange variantComparesSpec)

/-- ITS FALSE NEIGHBOUR: 'it returns false'. Refute it at one input. -/
def variantComparesWrong : ChangeSpec := { name := "variantCompares", fn := fun _ => fun
  | [d1, d2] => { results := [.lit (.bool false)], args := [d1, d2] }
  | _ => none }
def VariantComparesWrongFalsely : Prop := variantComparesRow.holds Tryz.pinned (OpenSpec.ofChange variantComparesWrong)

/-- 'pneumaticlaw19.VariantRenames': WHATEVER THE INPUT: true; the input reads as it did. -/
def variantRenamesSpec : ChangeSpec := { name := "variantRenames", fn := fun _ => fun
  | [d1, d2] => { results := [.lit (.bool true)], args := [d1, d2] }
  | _ => none }
def variantRenamesRow : OpenClaim := { program := "ytnhbogmihnnpjaagreat", sum := "08d966b14e3df02b51546d2dbd389037ecedc715af66485bd4d4c0cbf804e34d", func := "pneumatic/pneumaticlaw19.VariantRenames", spec := "variantRenames", unfollowed := true, recurses := true, apart := false }
def VariantRenamesSaid : Prop := variantRenamesRow.holds Tryz.pinned (OpenSpec.ofChange variantRenamesSpec)

/-- ITS FALSE NEIGHBOUR: 'it returns false'. Refute it at one input. -/
def variantRenamesWrong : ChangeSpec := { name := "variantRenames", fn := fun _ => fun
  | [d1, d2] => { results := [.lit (.bool false)], args := [d1, d2] }
  | _ => none }
def VariantRenamesWrongFalsely : Prop := variantRenamesRow.holds Tryz.pinned (OpenSpec.ofChange variantRenamesWrong)

/-- 'pneumaticlaw19.VariantCancels': WHATEVER THE INPUT: true; the input reads as it did. -/
def variantCancelsSpec : ChangeSpec := { name := "variantCancels", fn := fun _ => fun
  | [d1, d2] => { results := [.lit (.bool true)], args := [d1, d2] }
  | _ => none }
def variantCancelsRow : OpenClaim := { program := "ytnhbogmihnnpjaagreat", sum := "08d966b14e3df02b51546d2dbd389037ecedc715af66485bd4d4c0cbf804e34d", func := "pneumatic/pneumaticlaw19.VariantCancels", spec := "variantCancels", unfollowed := true, recurses := true, apart := false }
def VariantCancelsSaid : Prop := variantCancelsRow.holds Tryz.pinned (OpenSpec.ofChange variantCancelsSpec)

/-- ITS FALSE NEIGHBOUR: 'it returns false'. Refute it at one input. -/
def variantCancelsWrong : ChangeSpec := { name := "variantCancels", fn := fun _ => fun
  | [d1, d2] => { results := [.lit (.bool false)], args := [d1, d2] }
  | _ => none }
def VariantCancelsWrongFalsely : Prop := variantCancelsRow.holds Tryz.pinned (OpenSpec.ofChange variantCancelsWrong)

/-- 'pneumaticlaw19.VariantReturns': WHATEVER THE INPUT: true; the input reads as it did. -/
def variantReturnsSpec : ChangeSpec := { name := "variantReturns", fn := fun _ => fun
  | [d] => { results := [.lit (.bool true)], args := [d] }
  | _ => none }
def variantReturnsRow : OpenClaim := { program := "ytnhbogmihnnpjaagreat", sum := "08d966b14e3df02b51546d2dbd389037ecedc715af66485bd4d4c0cbf804e34d", func := "pneumatic/pneumaticlaw19.VariantReturns", spec := "variantReturns", unfollowed := true, recurses := true, apart := false }
def VariantReturnsSaid : Prop := variantReturnsRow.holds Tryz.pinned (OpenSpec.ofChange variantReturnsSpec)

/-- ITS FALSE NEIGHBOUR: 'it returns false'. Refute it at one input. -/
def variantReturnsWrong : ChangeSpec := { name := "variantReturns", fn := fun _ => fun
  | [d] => { results := [.lit (.bool false)], args := [d] }
  | _ => none }
def VariantReturnsWrongFalsely : Prop := variantReturnsRow.holds Tryz.pinned (OpenSpec.ofChange variantReturnsWrong)

/-- 'pneumaticlaw19.VariantJoins': WHATEVER THE INPUT: true; the input reads as it did. -/
def variantJoinsSpec : ChangeSpec := { name := "variantJoins", fn := fun _ => fun
  | [d1, d2, d3] => { results := [.lit (.bool true)], args := [d1, d2, d3] }
  | _ => none }
def variantJoinsRow : OpenClaim := { program := "ytnhbogmihnnpjaagreat", sum := "08d966b14e3df02b51546d2dbd389037ecedc715af66485bd4d4c0cbf804e34d", func := "pneumatic/pneumaticlaw19.VariantJoins", spec := "variantJoins", unfollowed := true, recurses := true, apart := false }
def VariantJoinsSaid : Prop := variantJoinsRow.holds Tryz.pinned (OpenSpec.ofChange variantJoinsSpec)

/-- ITS FALSE NEIGHBOUR: 'it returns false'. Refute it at one input. -/
def variantJoinsWrong : ChangeSpec := { name := "variantJoins", fn := fun _ => fun
  | [d1, d2, d3] => { results := [.lit (.bool false)], args := [d1, d2, d3] }
  | _ => none }
def VariantJoinsWrongFalsely : Prop := variantJoinsRow.holds Tryz.pinned (OpenSpec.ofChange variantJoinsWrong)

/- THE SECOND FORM. 'bulk': how many values and letters a reading holds, each counted each time it is reached (what is shared counts as often as it is met; a slice's spare places count too). A statement '..UptoSaid' is the law's where the arguments, and the package variables that the reading takes, are together of bulk at most 1048576: NARROWER than '..Said'. Prove '..Said' where nothing that the law and all that it calls make is longer than what came in: it says more and counts as full. Else prove '..UptoSaid'. A law counts once. -/
mutual
def uptoBulk {H : Type} : DataW H → Nat
  | .lit (.string bytes) => bytes.length + 1
  | .lit _ => 1
  | .nil => 1
  | .ptr d => uptoBulk d + 1
  | .slice elems spare => uptoBulkAll elems + uptoBulkAll spare + 1
  | .agg parts => uptoBulkAll parts + 1
  | .iface _ d => uptoBulk d + 1
  | .map entries => uptoBulkEntries entries + 1
  | .held _ => 1
def uptoBulkAll {H : Type} : List (DataW H) → Nat
  | [] => 0
  | d :: r => uptoBulk d + uptoBulkAll r
def uptoBulkEntries {H : Type} : List (Lit × DataW H) → Nat
  | [] => 0
  | x :: r => uptoBulkEntry x + uptoBulkEntries r
def uptoBulkEntry {H : Type} : Lit × DataW H → Nat
  | (.string bytes, d) => bytes.length + uptoBulk d + 1
  | (_, d) => uptoBulk d + 1
 end
def uptoSmall : (H : Type) → List (DataW H) → Bool := fun _ ds => decide (uptoBulkAll ds ≤ 1048576)
def OpenSpec.upto (s : _root_.Go.ChangeSpec) : _root_.Go.OpenSpec := { _root_.Go.OpenSpec.ofChange s with cond := some uptoSmall }

/-- 'pneumaticlaw19.VariantTurns', WHERE WHAT IT READS IS OF BULK AT MOST 1048576: true; the input reads as it did. -/
def variantTurnsUptoRow : OpenClaim := { program := "ytnhbogmihnnpjaagreat", sum := "08d966b14e3df02b51546d2dbd389037ecedc715af66485bd4d4c0cbf804e34d", func := "pneumatic/pneumaticlaw19.VariantTurns", spec := "variantTurns", unfollowed := true, recurses := true, apart := false, narrowed := true }
def VariantTurnsUptoSaid : Prop := variantTurnsUptoRow.holds Tryz.pinned (OpenSpec.upto variantTurnsSpec)

/-- 'pneumaticlaw19.VariantParts', WHERE WHAT IT READS IS OF BULK AT MOST 1048576: true; the input reads as it did. -/
def variantPartsUptoRow : OpenClaim := { program := "ytnhbogmihnnpjaagreat", sum := "08d966b14e3df02b51546d2dbd389037ecedc715af66485bd4d4c0cbf804e34d", func := "pneumatic/pneumaticlaw19.VariantParts", spec := "variantParts", unfollowed := true, recurses := true, apart := false, narrowed := true }
def VariantPartsUptoSaid : Prop := variantPartsUptoRow.holds Tryz.pinned (OpenSpec.upto variantPartsSpec)

/-- 'pneumaticlaw19.VariantRests', WHERE WHAT IT READS IS OF BULK AT MOST 1048576: true; the input reads as it did. -/
def variantRestsUptoRow : OpenClaim := { program := "ytnhbogmihnnpjaagreat", sum := "08d966b14e3df02b51546d2dbd389037ecedc715af66485bd4d4c0cbf804e34d", func := "pneumatic/pneumaticlaw19.VariantRests", spec := "variantRests", unfollowed := true, recurses := true, apart := false, narrowed := true }
def VariantRestsUptoSaid : Prop := variantRestsUptoRow.holds Tryz.pinned (OpenSpec.upto variantRestsSpec)

/-- 'pneumaticlaw19.VariantCompares', WHERE WHAT IT READS IS OF BULK AT MOST 1048576: true; the input reads as it did. -/
def variantComparesUptoRow : OpenClaim := { program := "ytnhbogmihnnpjaagreat", sum := "08d966b14e3df02b51546d2dbd389037ecedc715af66485bd4d4c0cbf804e34d", func := "pneumatic/pneumaticlaw19.VariantCompares", spec := "variantCompares", unfollowed := true, recurses := true, apart := false, narrowed := true }
def VariantComparesUptoSaid : Prop := variantComparesUptoRow.holds Tryz.pinned (OpenSpec.upto variantComparesSpec)

/-- 'pneumaticlaw19.VariantRenames', WHERE WHAT IT READS IS OF BULK AT MOST 1048576: true; the input reads as it did. -/
def variantRenamesUptoRow : OpenClaim := { program := "ytnhbogmihnnpjaagreat", sum := "08d966b14e3df02b51546d2dbd389037ecedc715af66485bd4d4c0cbf804e34d", func := "pneumatic/pneumaticlaw19.VariantRenames", spec := "variantRenames", unfollowed := true, recurses := true, apart := false, narrowed := true }
def VariantRenamesUptoSaid : Prop := variantRenamesUptoRow.holds Tryz.pinned (OpenSpec.upto variantRenamesSpec)

/-- 'pneumaticlaw19.VariantCancels', WHERE WHAT IT READS IS OF BULK AT MOST 1048576: true; the input reads as it did. -/
def variantCancelsUptoRow : OpenClaim := { program := "ytnhbogmihnnpjaagreat", sum := "08d966b14e3df02b51546d2dbd389037ecedc715af66485bd4d4c0cbf804e34d", func := "pneumatic/pneumaticlaw19.VariantCancels", spec := "variantCancels", unfollowed := true, recurses := true, apart := false, narrowed := true }
def VariantCancelsUptoSaid : Prop := variantCancelsUptoRow.holds Tryz.pinned (OpenSpec.upto variantCancelsSpec)

/-- 'pneumaticlaw19.VariantReturns', WHERE WHAT IT READS IS OF BULK AT MOST 1048576: true; the input reads as it did. -/
def variantReturnsUptoRow : OpenClaim := { program := "ytnhbogmihnnpjaagreat", sum := "08d966b14e3df02b51546d2dbd389037ecedc715af66485bd4d4c0cbf804e34d", func := "pneumatic/pneumaticlaw19.VariantReturns", spec := "variantReturns", unfollowed := true, recurses := true, apart := false, narrowed := true }
def VariantReturnsUptoSaid : Prop := variantReturnsUptoRow.holds Tryz.pinned (OpenSpec.upto variantReturnsSpec)

/-- 'pneumaticlaw19.VariantJoins', WHERE WHAT IT READS IS OF BULK AT MOST 1048576: true; the input reads as it did. -/
def variantJoinsUptoRow : OpenClaim := { program := "ytnhbogmihnnpjaagreat", sum := "08d966b14e3df02b51546d2dbd389037ecedc715af66485bd4d4c0cbf804e34d", func := "pneumatic/pneumaticlaw19.VariantJoins", spec := "variantJoins", unfollowed := true, recurses := true, apart := false, narrowed := true }
def VariantJoinsUptoSaid : Prop := variantJoinsUptoRow.holds Tryz.pinned (OpenSpec.upto variantJoinsSpec)

end Rows
end Go.Proofs.YtnhbogmihnnpjaaGreat
