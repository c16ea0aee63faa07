/-
  No cell of these rows narrows 'for every input' (looked for: loops, veiled, ifaces, maps, wideKeys, modest, calm, conditions, laid).
  DERIVED. THE GIVEN ROWS OF THIS SEAT. 9 by the template 'for every input the law returns true; each argument reads behind the call as it read before'; 0 by the template 'total and deterministic' (their statements: YtfigooilhnahfaaTotals.lean).
  GIVEN WITH THE SEED: the statements are not yours to turn. If you find one false, say at which input.
  Laid BY PROGRAM, IN A SANDBOX (cutbox-rows.mjs): the forced cells as the released guide's own fill.sh prints them over the translation 4a86ffbe299553ee… (all of the seat's roots in one cut). By AI agents, Wed Nov 11 2026. No macro, syntax, notation, axiom, sorry.
-/
import Derived.Test.YtfigooilhnahfaaChecked
import GoSem.Claim
import GoSem.ClaimJoined
import GoSem.ClaimMapViews
import Derived.JoinedTies
import Derived.KernelRfl
namespace Go.Proofs.Ytfigooilhnahfaa
/- THE CELL 'sum', in the pinned program and in every row, IS THE sha256 OF THE DUMP (.gsa) THAT YtfigooilhnahfaaProg.lean LOADS. Nothing in Lean hashes anything: it is a label: what it is worth is what the hold of that sum in a sandbox is worth. -/
noncomputable def Try.pinned : Pinned := { name := "ytfigooilhnahfaa", sum := "4a86ffbe299553ee1fb1ac80dbdc80634b493eebe2c567a5627453118b5174c7", checked := Try.checked }
namespace Rows
def none {H : Type} : Left H := { results := [], args := [] }

/-- 'pneumaticlaw56.TubingMeets': WHATEVER THE INPUT: true; the input reads as it did. -/
def tubingMeetsSpec : ChangeSpec := { name := "tubingMeets", fn := fun _ => fun
  | [d1, d2] => { results := [.lit (.bool true)], args := [d1, d2] }
  | _ => none }
def tubingMeetsRow : OpenClaim := { program := "ytfigooilhnahfaa", sum := "4a86ffbe299553ee1fb1ac80dbdc80634b493eebe2c567a5627453118b5174c7", func := "pneumatic/pneumaticlaw56.TubingMeets", spec := "tubingMeets", unfollowed := true, recurses := true, plainKeys := false, apart := false }
def TubingMeetsSaid : Prop := tubingMeetsRow.holds Try.pinned (OpenSpec.ofChange tubingMeetsSpec)

/-- ITS FALSE NEIGHBOUR: 'it returns false'. Refute it at one input. -/
def tubingMeetsWrong : ChangeSpec := { name := "tubingMeets", fn := fun _ => fun
  | [d1, d2] => { results := [.lit (.bool false)], args := [d1, d2] }
  | _ => none }
def TubingMeetsWrongFalsely : Prop := tubingMeetsRow.holds Try.pinned (OpenSpec.ofChange tubingMeetsWrong)

/-- 'pneumaticlaw56.TubingBundles': WHATEVER THE INPUT: true; the input reads as it did. -/
def tubingBundlesSpec : ChangeSpec := { name := "tubingBundles", fn := fun _ => fun
  | [d1, d2] => { results := [.lit (.bool true)], args := [d1, d2] }
  | _ => none }
def tubingBundlesRow : OpenClaim := { program := "ytfigooilhnahfaa", sum := "4a86ffbe299553ee1fb1ac80dbdc80634b493eebe2c567a5627453118b5174c7", func := "pneumatic/pneumaticlaw56.TubingBundles", spec := "tubingBundles", unfollowed := true, recurses := true, plainKeys := false, apart := false }
def TubingBundlesSaid : Prop := tubingBundlesRow.holds Try.pinned (OpenSpec.ofChange tubingBundlesSpec)

/-- ITS FALSE NEIGHBOUR: 'it returns false'. Refute it at one input. -/
def tubingBundlesWrong : ChangeSpec := { name := "tubingBundles", fn := fun _ => fun
  | [d1, d2] => { results := [.lit (.bool false)], args := [d1, d2] }
  | _ => none }
def TubingBundlesWrongFalsely : Prop := tubingBundlesRow.holds Try.pinned (OpenSpec.ofChange tubingBundlesWrong)

/-- 'pneumaticlaw56.TubingChecks': WHATEVER THE INPUT: true; the input reads as it did. -/
def tubingChecksSpec : ChangeSpec := { name := "tubingChecks", fn := fun _ => fun
  | [d1, d2] => { results := [.lit (.bool true)], args := [d1, d2] }
  | _ => none }
def tubingChecksRow : OpenClaim := { program := "ytfigooilhnahfaa", sum := "4a86ffbe299553ee1fb1ac80dbdc80634b493eebe2c567a5627453118b5174c7", func := "pneumatic/pneumaticlaw56.TubingChecks", spec := "tubingChecks", unfollowed := true, recurses := true, plainKeys := false, apart := false }
def TubingChecksSaid : Prop := tubingChecksRow.holds Try.pinned (OpenSpec.ofChange tubingChecksSpec)

/-- ITS FALSE NEIGHBOUR: 'it returns false'. Refute it at one input. -/
def tubingChecksWrong : ChangeSpec := { name := "tubingChecks", fn := fun _ => fun
  | [d1, d2] => { results := [.lit (.bool false)], args := [d1, d2] }
  | _ => none }
def TubingChecksWrongFalsely : Prop := tubingChecksRow.holds Try.pinned (OpenSpec.ofChange tubingChecksWrong)

/-- 'pneumaticlaw56.TubingRoutes': WHATEVER THE INPUT: true; the input reads as it did. -/
def tubingRoutesSpec : ChangeSpec := { name := "tubingRoutes", fn := fun _ => fun
  | [d1, d2, d3] => { results := [.lit (.bool true)], args := [d1, d2, d3] }
  | _ => none }
def tubingRoutesRow : OpenClaim := { program := "ytfigooilhnahfaa", sum := "4a86ffbe299553ee1fb1ac80dbdc80634b493eebe2c567a5627453118b5174c7", func := "pneumatic/pneumaticlaw56.TubingRoutes", spec := "tubingRoutes", unfollowed := true, recurses := true, plainKeys := false, apart := false }
def TubingRoutesSaid : Prop := tubingRoutesRow.holds Try.pinned (OpenSpec.ofChange tubingRoutesSpec)

/-- ITS FALSE NEIGHBOUR: 'it returns false'. Refute it at one input. -/
def tubingRoutesWrong : ChangeSpec := { name := "tubingRoutes", fn := fun _ => fun
  | [d1, d2, d3] => { results := [.lit (.bool false)], args := [d1, d2, d3] }
  | _ => none }
def TubingRoutesWrongFalsely : Prop := tubingRoutesRow.holds Try.pinned (OpenSpec.ofChange tubingRoutesWrong)

/-- 'pneumaticlaw56.TubingVerifies': WHATEVER THE INPUT: true; the input reads as it did. -/
def tubingVerifiesSpec : ChangeSpec := { name := "tubingVerifies", fn := fun _ => fun
  | [d1, d2] => { results := [.lit (.bool true)], args := [d1, d2] }
  | _ => none }
def tubingVerifiesRow : OpenClaim := { program := "ytfigooilhnahfaa", sum := "4a86ffbe299553ee1fb1ac80dbdc80634b493eebe2c567a5627453118b5174c7", func := "pneumatic/pneumaticlaw56.TubingVerifies", spec := "tubingVerifies", unfollowed := true, recurses := true, plainKeys := false, apart := false }
def TubingVerifiesSaid : Prop := tubingVerifiesRow.holds Try.pinned (OpenSpec.ofChange tubingVerifiesSpec)

/-- ITS FALSE NEIGHBOUR: 'it returns false'. Refute it at one input. -/
def tubingVerifiesWrong : ChangeSpec := { name := "tubingVerifies", fn := fun _ => fun
  | [d1, d2] => { results := [.lit (.bool false)], args := [d1, d2] }
  | _ => none }
def TubingVerifiesWrongFalsely : Prop := tubingVerifiesRow.holds Try.pinned (OpenSpec.ofChange tubingVerifiesWrong)

/-- 'pneumaticlaw56.TubingJoins': WHATEVER THE INPUT: true; the input reads as it did. -/
def tubingJoinsSpec : ChangeSpec := { name := "tubingJoins", fn := fun _ => fun
  | [d1, d2] => { results := [.lit (.bool true)], args := [d1, d2] }
  | _ => none }
def tubingJoinsRow : OpenClaim := { program := "ytfigooilhnahfaa", sum := "4a86ffbe299553ee1fb1ac80dbdc80634b493eebe2c567a5627453118b5174c7", func := "pneumatic/pneumaticlaw56.TubingJoins", spec := "tubingJoins", unfollowed := true, recurses := true, plainKeys := false, apart := false }
def TubingJoinsSaid : Prop := tubingJoinsRow.holds Try.pinned (OpenSpec.ofChange tubingJoinsSpec)

/-- ITS FALSE NEIGHBOUR: 'it returns false'. Refute it at one input. -/
def tubingJoinsWrong : ChangeSpec := { name := "tubingJoins", fn := fun _ => fun
  | [d1, d2] => { results := [.lit (.bool false)], args := [d1, d2] }
  | _ => none }
def TubingJoinsWrongFalsely : Prop := tubingJoinsRow.holds Try.pinned (OpenSpec.ofChange tubingJoinsWrong)

/-- 'pneumaticlaw56.TubingSaves': WHATEVER THE INPUT: true; the input reads as it did. -/
def tubingSavesSpec : ChangeSpec := { name := "tubingSaves", fn := fun _ => fun
  | [d1, d2] => { results := [.lit (.bool true)], args := [d1, d2] }
  | _ => none }
def tubingSavesRow : OpenClaim := { program := "ytfigooilhnahfaa", sum := "4a86ffbe299553ee1fb1ac80dbdc80634b493eebe2c567a5627453118b5174c7", func := "pneumatic/pneumaticlaw56.TubingSaves", spec := "tubingSaves", unfollowed := true, recurses := true, plainKeys := false, apart := false }
def TubingSavesSaid : Prop := tubingSavesRow.holds Try.pinned (OpenSpec.ofChange tubingSavesSpec)

/-- ITS FALSE NEIGHBOUR: 'it returns false'. Refute it at one input. -/
def tubingSavesWrong : ChangeSpec := { name := "tubingSaves", fn := fun _ => fun
  | [d1, d2] => { results := [.lit (.bool false)], args := [d1, d2] }
  | _ => none }
def TubingSavesWrongFalsely : Prop := tubingSavesRow.holds Try.pinned (OpenSpec.ofChange tubingSavesWrong)

/-- 'pneumaticlaw56.TubingOpens': WHATEVER THE INPUT: true; the input reads as it did. -/
def tubingOpensSpec : ChangeSpec := { name := "tubingOpens", fn := fun _ => fun
  | [d1, d2, d3] => { results := [.lit (.bool true)], args := [d1, d2, d3] }
  | _ => none }
def tubingOpensRow : OpenClaim := { program := "ytfigooilhnahfaa", sum := "4a86ffbe299553ee1fb1ac80dbdc80634b493eebe2c567a5627453118b5174c7", func := "pneumatic/pneumaticlaw56.TubingOpens", spec := "tubingOpens", unfollowed := true, recurses := true, plainKeys := false, apart := false }
def TubingOpensSaid : Prop := tubingOpensRow.holds Try.pinned (OpenSpec.ofChange tubingOpensSpec)

/-- ITS FALSE NEIGHBOUR: 'it returns false'. Refute it at one input. -/
def tubingOpensWrong : ChangeSpec := { name := "tubingOpens", fn := fun _ => fun
  | [d1, d2, d3] => { results := [.lit (.bool false)], args := [d1, d2, d3] }
  | _ => none }
def TubingOpensWrongFalsely : Prop := tubingOpensRow.holds Try.pinned (OpenSpec.ofChange tubingOpensWrong)

/-- 'pneumaticlaw56.TubingTurns': WHATEVER THE INPUT: true; the input reads as it did. -/
def tubingTurnsSpec : ChangeSpec := { name := "tubingTurns", fn := fun _ => fun
  | [d1, d2, d3] => { results := [.lit (.bool true)], args := [d1, d2, d3] }
  | _ => none }
def tubingTurnsRow : OpenClaim := { program := "ytfigooilhnahfaa", sum := "4a86ffbe299553ee1fb1ac80dbdc80634b493eebe2c567a5627453118b5174c7", func := "pneumatic/pneumaticlaw56.TubingTurns", spec := "tubingTurns", unfollowed := true, recurses := true, plainKeys := false, apart := false }
def TubingTurnsSaid : Prop := tubingTurnsRow.holds Try.pinned (OpenSpec.ofChange tubingTurnsSpec)

/-- ITS FALSE NEIGHBOUR: 'it returns false'. Refute it at one input. -/
def tubingTurnsWrong : ChangeSpec := { name := "tubingTurns", fn := fun _ => fun
  | [d1, d2, d3] => { results := [.lit (.bool false)], args := [d1, d2, d3] }
  | _ => none }
def TubingTurnsWrongFalsely : Prop := tubingTurnsRow.holds Try.pinned (OpenSpec.ofChange tubingTurnsWrong)

/- THE SECOND FORM. 'bulk': how many values and letters a reading holds, each counted each time it is reached (what is shared counts as often as it is met; a slice's spare places count too). A statement '..UptoSaid' is the law's where the arguments, and the package variables that the reading takes, are together of bulk at most 1048576: NARROWER than '..Said'. Prove '..Said' where nothing that the law and all that it calls make is longer than what came in: it says more and counts as full. Else prove '..UptoSaid'. A law counts once. -/
mutual
def uptoBulk {H : Type} : DataW H → Nat
  | .lit (.string bytes) => bytes.length + 1
  | .lit _ => 1
  | .nil => 1
  | .ptr d => uptoBulk d + 1
  | .slice elems spare => uptoBulkAll elems + uptoBulkAll spare + 1
  | .agg parts => uptoBulkAll parts + 1
  | .iface _ d => uptoBulk d + 1
  | .map entries => uptoBulkEntries entries + 1
  | .held _ => 1
def uptoBulkAll {H : Type} : List (DataW H) → Nat
  | [] => 0
  | d :: r => uptoBulk d + uptoBulkAll r
def uptoBulkEntries {H : Type} : List (Lit × DataW H) → Nat
  | [] => 0
  | x :: r => uptoBulkEntry x + uptoBulkEntries r
def uptoBulkEntry {H : Type} : Lit × DataW H → Nat
  | (.string bytes, d) => bytes.length + uptoBulk d + 1
  | (_, d) => uptoBulk d + 1
 end
def uptoSmall : (H : Type) → List (DataW H) → Bool := fun _ ds => decide (uptoBulkAll ds ≤ 1048576)
def OpenSpec.upto (s : _root_.Go.ChangeSpec) : _root_.Go.OpenSpec := { _root_.Go.OpenSpec.ofChange s with cond := some uptoSmall }

/-- 'pneumaticlaw56.TubingMeets', WHERE WHAT IT READS IS OF BULK AT MOST 1048576: true; the input reads as it did. -/
def tubingMeetsUptoRow : OpenClaim := { program := "ytfigooilhnahfaa", sum := "4a86ffbe299553ee1fb1ac80dbdc80634b493eebe2c567a5627453118b5174c7", func := "pneumatic/pneumaticlaw56.TubingMeets", spec := "tubingMeets", unfollowed := true, recurses := true, plainKeys := false, apart := false, narrowed := true }
def TubingMeetsUptoSaid : Prop := tubingMeetsUptoRow.holds Try.pinned (OpenSpec.upto tubingMeetsSpec)

/-- 'pneumaticlaw56.TubingBundles', WHERE WHAT IT READS IS OF BULK AT MOST 1048576: true; the input reads as it did. -/
def tubingBundlesUptoRow : OpenClaim := { program := "ytfigooilhnahfaa", sum := "4a86ffbe299553ee1fb1ac80dbdc80634b493eebe2c567a5627453118b5174c7", func := "pneumatic/pneumaticlaw56.TubingBundles", spec := "tubingBundles", unfollowed := true, recurses := true, plainKeys := false, apart := false, narrowed := true }
def TubingBundlesUptoSaid : Prop := tubingBundlesUptoRow.holds Try.pinned (OpenSpec.upto tubingBundlesSpec)

/-- 'pneumaticlaw56.TubingChecks', WHERE WHAT IT READS IS OF BULK AT MOST 1048576: true; the input reads as it did. -/
def tubingChecksUptoRow : OpenClaim := { program := "ytfigooilhnahfaa", sum := "4a86ffbe299553ee1fb1ac80dbdc80634b493eebe2c567a5627453118b5174c7", func := "pneumatic/pneumaticlaw56.TubingChecks", spec := "tubingChecks", unfollowed := true, recurses := true, plainKeys := false, apart := false, narrowed := true }
def TubingChecksUptoSaid : Prop := tubingChecksUptoRow.holds Try.pinned (OpenSpec.upto tubingChecksSpec)

/-- 'pneumaticlaw56.TubingRoutes', WHERE WHAT IT READS IS OF BULK AT MOST 1048576: true; the input reads as it did. -/
def tubingRoutesUptoRow : OpenClaim := { program := "ytfigooilhnahfaa", sum := "4a86ffbe299553ee1fb1ac80dbdc80634b493eebe2c567a5627453118b5174c7", func := "pneumatic/pneumaticlaw56.TubingRoutes", spec := "tubingRoutes", unfollowed := true, recurses := true, plainKeys := false, apart := false, narrowed := true }
def TubingRoutesUptoSaid : Prop := tubingRoutesUptoRow.holds Try.pinned (OpenSpec.upto tubingRoutesSpec)

/-- 'pneumaticlaw56.TubingVerifies', WHERE WHAT IT READS IS OF BULK AT MOST 1048576: true; the input reads as it did. -/
def tubingVerifiesUptoRow : OpenClaim := { program := "ytfigooilhnahfaa", sum := "4a86ffbe299553ee1fb1ac80dbdc80634b493eebe2c567a5627453118b5174c7", func := "pneumatic/pneumaticlaw56.TubingVerifies", spec := "tubingVerifies", unfollowed := true, recurses := true, plainKeys := false, apart := false, narrowed := true }
def TubingVerifiesUptoSaid : Prop := tubingVerifiesUptoRow.holds Try.pinned (OpenSpec.upto tubingVerifiesSpec)

/-- 'pneumaticlaw56.TubingJoins', WHERE WHAT IT READS IS OF BULK AT MOST 1048576: true; the input reads as it did. -/
def tubingJoinsUptoRow : OpenClaim := { program := "ytfigooilhnahfaa", sum := "4a86ffbe299553ee1fb1ac80dbdc80634b493eebe2c567a5627453118b5174c7", func := "pneumatic/pneumaticlaw56.TubingJoins", spec := "tubingJoins", unfollowed := true, recurses := true, plainKeys := false, apart := false, narrowed := true }
def TubingJoinsUptoSaid : Prop := tubingJoinsUptoRow.holds Try.pinned (OpenSpec.upto tubingJoinsSpec)

/-- 'pneumaticlaw56.TubingSaves', WHERE WHAT IT READS IS OF BULK AT MOST 1048576: true; the input reads as it did. -/
def tubingSavesUptoRow : OpenClaim := { program := "ytfigooilhnahfaa", sum := "4a86ffbe299553ee1fb1ac80dbdc80634b493eebe2c567a5627453118b5174c7", func := "pneumatic/pneumaticlaw56.TubingSaves", spec := "tubingSaves", unfollowed := true, recurses := true, plainKeys := false, apart := false, narrowed := true }
def TubingSavesUptoSaid : Prop := tubingSavesUptoRow.holds Try.pinned (OpenSpec.upto tubingSavesSpec)

/-- 'pneumaticlaw56.TubingOpens', WHERE WHAT IT READS IS OF BULK AT MOST 1048576: true; the input reads as it did. -/
def tubingOpensUptoRow : OpenClaim := { program := "ytfigooilhnahfaa", sum := "4a86ffbe299553ee1fb1ac80dbdc80634b493eebe2c567a5627453118b5174c7", func := "pneumatic/pneumaticlaw56.TubingOpens", spec := "tubingOpens", unfollowed := true, recurses := true, plainKeys := false, apart := false, narrowed := true }
def TubingOpensUptoSaid : Prop := tubingOpensUptoRow.holds Try.pinned (OpenSpec.upto tubingOpensSpec)

/-- 'pneumaticlaw56.TubingTurns', WHERE WHAT IT READS IS OF BULK AT MOST 1048576: true; the input reads as it did. -/
def tubingTurnsUptoRow : OpenClaim := { program := "ytfigooilhnahfaa", sum := "4a86ffbe299553ee1fb1ac80dbdc80634b493eebe2c567a5627453118b5174c7", func := "pneumatic/pneumaticlaw56.TubingTurns", spec := "tubingTurns", unfollowed := true, recurses := true, plainKeys := false, apart := false, narrowed := true }
def TubingTurnsUptoSaid : Prop := tubingTurnsUptoRow.holds Try.pinned (OpenSpec.upto tubingTurnsSpec)

end Rows
end Go.Proofs.Ytfigooilhnahfaa
