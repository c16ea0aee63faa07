/-
  NARROWER THAN 'FOR EVERY INPUT', by the rows' own cells (each row's printed sentence says how): TopGroupsTurns: laid · TopGroupsLetters: laid · TopGroupsMerge: laid · TopGroupsJoin: laid.
  DERIVED. THE GIVEN ROWS OF THIS SEAT. 4 by the template 'for every input the law returns true; each argument reads behind the call as it read before'; 0 by the template 'total and deterministic' (their statements: YtdolibeceijnnaaDoorTotals.lean).
  GIVEN WITH THE SEED: the statements are not yours to turn. If you find one false, say at which input.
  Laid BY PROGRAM, IN A SANDBOX (cutbox-rows.mjs): the forced cells as the released guide's own fill.sh prints them over the translation e0ba19200ab652d8… (all of the seat's roots in one cut). By AI agents, Wed Nov 11 2026. No macro, syntax, notation, axiom, sorry.
-/
import Derived.Test.YtdolibeceijnnaaDoorChecked
import GoSem.Claim
import GoSem.ClaimJoined
import GoSem.ClaimMapViews
import Derived.JoinedTies
import Derived.KernelRfl
namespace Go.Proofs.YtdolibeceijnnaaDoor
/- THE CELL 'sum', in the pinned program and in every row, IS THE sha256 OF THE DUMP (.gsa) THAT YtdolibeceijnnaaDoorProg.lean LOADS. Nothing in Lean hashes anything: it is a label: what it is worth is what the hold of that sum in a sandbox is worth. -/
noncomputable def Tryd.pinned : Pinned := { name := "ytdolibeceijnnaadoor", sum := "e0ba19200ab652d88d8b0e41e259e0bc915fe2b5bdf51bbffa54171bdecad5b1", checked := Tryd.checked }
namespace Rows
def none {H : Type} : Left H := { results := [], args := [] }

/- WHAT THE LISTED PACKAGE-LEVEL VARIABLES READ AS WHEN THE CALL BEGINS. Each datum BY PROGRAM (the guide's laid-datum.mjs) off the statement by which the dump's own 'gosem.cut.vars' lays the variable. In a bare row this is a premise. The card (YtdolibeceijnnaaDoorCards.lean) ties it to the program's text. -/
def laid_pneumatic_group_bits {H : Type} : DataW H := .agg [.lit (.int .u64 1), .lit (.int .u64 2), .lit (.int .u64 4), .lit (.int .u64 8), .lit (.int .u64 16), .lit (.int .u64 32)]

/-- 'pneumatictop.TopGroupsTurns': WHATEVER THE INPUT: true; the input reads as it did. -/
def topGroupsTurnsSpec : ChangeSpec := { name := "topGroupsTurns", fn := fun _ => fun
  | [d1, d2] => { results := [.lit (.bool true)], args := [d1, d2] }
  | _ => none }
def topGroupsTurnsRow : OpenClaim := { program := "ytdolibeceijnnaadoor", sum := "e0ba19200ab652d88d8b0e41e259e0bc915fe2b5bdf51bbffa54171bdecad5b1", func := "pneumatic/pneumatictop.TopGroupsTurns", spec := "topGroupsTurns", unfollowed := true, recurses := true, named := ["pneumatic/group.bits"], apart := false, laid := [("pneumatic/group.bits", laid_pneumatic_group_bits)] }
def TopGroupsTurnsSaid : Prop := topGroupsTurnsRow.holds Tryd.pinned (OpenSpec.ofChange topGroupsTurnsSpec)

/-- ITS FALSE NEIGHBOUR: 'it returns false'. Refute it at one input. -/
def topGroupsTurnsWrong : ChangeSpec := { name := "topGroupsTurns", fn := fun _ => fun
  | [d1, d2] => { results := [.lit (.bool false)], args := [d1, d2] }
  | _ => none }
def TopGroupsTurnsWrongFalsely : Prop := topGroupsTurnsRow.holds Tryd.pinned (OpenSpec.ofChange topGroupsTurnsWrong)

/-- 'pneumatictop.TopGroupsLetters': WHATEVER THE INPUT: true; the input reads as it did. -/
def topGroupsLettersSpec : ChangeSpec := { name := "topGroupsLetters", fn := fun _ => fun
  | [d1, d2] => { results := [.lit (.bool true)], args := [d1, d2] }
  | _ => none }
def topGroupsLettersRow : OpenClaim := { program := "ytdolibeceijnnaadoor", sum := "e0ba19200ab652d88d8b0e41e259e0bc915fe2b5bdf51bbffa54171bdecad5b1", func := "pneumatic/pneumatictop.TopGroupsLetters", spec := "topGroupsLetters", unfollowed := true, recurses := true, named := ["pneumatic/group.bits"], apart := false, laid := [("pneumatic/group.bits", laid_pneumatic_group_bits)] }
def TopGroupsLettersSaid : Prop := topGroupsLettersRow.holds Tryd.pinned (OpenSpec.ofChange topGroupsLettersSpec)

/-- ITS FALSE NEIGHBOUR: 'it returns false'. Refute it at one input. -/
def topGroupsLettersWrong : ChangeSpec := { name := "topGroupsLetters", fn := fun _ => fun
  | [d1, d2] => { results := [.lit (.bool false)], args := [d1, d2] }
  | _ => none }
def TopGroupsLettersWrongFalsely : Prop := topGroupsLettersRow.holds Tryd.pinned (OpenSpec.ofChange topGroupsLettersWrong)

/-- 'pneumatictop.TopGroupsMerge': WHATEVER THE INPUT: true; the input reads as it did. -/
def topGroupsMergeSpec : ChangeSpec := { name := "topGroupsMerge", fn := fun _ => fun
  | [d1, d2] => { results := [.lit (.bool true)], args := [d1, d2] }
  | _ => none }
def topGroupsMergeRow : OpenClaim := { program := "ytdolibeceijnnaadoor", sum := "e0ba19200ab652d88d8b0e41e259e0bc915fe2b5bdf51bbffa54171bdecad5b1", func := "pneumatic/pneumatictop.TopGroupsMerge", spec := "topGroupsMerge", unfollowed := true, recurses := true, named := ["pneumatic/group.bits"], apart := false, laid := [("pneumatic/group.bits", laid_pneumatic_group_bits)] }
def TopGroupsMergeSaid : Prop := topGroupsMergeRow.holds Tryd.pinned (OpenSpec.ofChange topGroupsMergeSpec)

/-- ITS FALSE NEIGHBOUR: 'it returns false'. Refute it at one input. -/
def topGroupsMergeWrong : ChangeSpec := { name := "topGroupsMerge", fn := fun _ => fun
  | [d1, d2] => { results := [.lit (.bool false)], args := [d1, d2] }
  | _ => none }
def TopGroupsMergeWrongFalsely : Prop := topGroupsMergeRow.holds Tryd.pinned (OpenSpec.ofChange topGroupsMergeWrong)

/-- 'pneumatictop.TopGroupsJoin': WHATEVER THE INPUT: true; the input reads as it did. -/
def topGroupsJoinSpec : ChangeSpec := { name := "topGroupsJoin", fn := fun _ => fun
  | [d1, d2] => { results := [.lit (.bool true)], args := [d1, d2] }
  | _ => none }
def topGroupsJoinRow : OpenClaim := { program := "ytdolibeceijnnaadoor", sum := "e0ba19200ab652d88d8b0e41e259e0bc915fe2b5bdf51bbffa54171bdecad5b1", func := "pneumatic/pneumatictop.TopGroupsJoin", spec := "topGroupsJoin", unfollowed := true, recurses := true, named := ["pneumatic/group.bits"], apart := false, laid := [("pneumatic/group.bits", laid_pneumatic_group_bits)] }
def TopGroupsJoinSaid : Prop := topGroupsJoinRow.holds Tryd.pinned (OpenSpec.ofChange topGroupsJoinSpec)

/-- ITS FALSE NEIGHBOUR: 'it returns false'. Refute it at one input. -/
def topGroupsJoinWrong : ChangeSpec := { name := "topGroupsJoin", fn := fun _ => fun
  | [d1, d2] => { results := [.lit (.bool false)], args := [d1, d2] }
  | _ => none }
def TopGroupsJoinWrongFalsely : Prop := topGroupsJoinRow.holds Tryd.pinned (OpenSpec.ofChange topGroupsJoinWrong)

/- THE SECOND FORM. 'bulk': how many values and letters a reading holds, each counted each time it is reached (what is shared counts as often as it is met; a slice's spare places count too). A statement '..UptoSaid' is the law's where the arguments, and the package variables that the reading takes, are together of bulk at most 1048576: NARROWER than '..Said'. Prove '..Said' where nothing that the law and all that it calls make is longer than what came in: it says more and counts as full. Else prove '..UptoSaid'. A law counts once. -/
mutual
def uptoBulk {H : Type} : DataW H → Nat
  | .lit (.string bytes) => bytes.length + 1
  | .lit _ => 1
  | .nil => 1
  | .ptr d => uptoBulk d + 1
  | .slice elems spare => uptoBulkAll elems + uptoBulkAll spare + 1
  | .agg parts => uptoBulkAll parts + 1
  | .iface _ d => uptoBulk d + 1
  | .map entries => uptoBulkEntries entries + 1
  | .held _ => 1
def uptoBulkAll {H : Type} : List (DataW H) → Nat
  | [] => 0
  | d :: r => uptoBulk d + uptoBulkAll r
def uptoBulkEntries {H : Type} : List (Lit × DataW H) → Nat
  | [] => 0
  | x :: r => uptoBulkEntry x + uptoBulkEntries r
def uptoBulkEntry {H : Type} : Lit × DataW H → Nat
  | (.string bytes, d) => bytes.length + uptoBulk d + 1
  | (_, d) => uptoBulk d + 1
 end
def uptoSmall : (H : Type) → List (DataW H) → Bool := fun _ ds => decide (uptoBulkAll ds ≤ 1048576)
def OpenSpec.upto (s : _root_.Go.ChangeSpec) : _root_.Go.OpenSpec := { _root_.Go.OpenSpec.ofChange s with cond := some uptoSmall }

/-- 'pneumatictop.TopGroupsTurns', WHERE WHAT IT READS IS OF BULK AT MOST 1048576: true; the input reads as it did. -/
def topGroupsTurnsUptoRow : OpenClaim := { program := "ytdolibeceijnnaadoor", sum := "e0ba19200ab652d88d8b0e41e259e0bc915fe2b5bdf51bbffa54171bdecad5b1", func := "pneumatic/pneumatictop.TopGroupsTurns", spec := "topGroupsTurns", unfollowed := true, recurses := true, named := ["pneumatic/group.bits"], apart := false, laid := [("pneumatic/group.bits", laid_pneumatic_group_bits)], narrowed := true }
def TopGroupsTurnsUptoSaid : Prop := topGroupsTurnsUptoRow.holds Tryd.pinned (OpenSpec.upto topGroupsTurnsSpec)

/-- 'pneumatictop.TopGroupsLetters', WHERE WHAT IT READS IS OF BULK AT MOST 1048576: true; the input reads as it did. -/
def topGroupsLettersUptoRow : OpenClaim := { program := "ytdolibeceijnnaadoor", sum := "e0ba19200ab652d88d8b0e41e259e0bc915fe2b5bdf51bbffa54171bdecad5b1", func := "pneumatic/pneumatictop.TopGroupsLetters", spec := "topGroupsLetters", unfollowed := true, recurses := true, named := ["pneumatic/group.bits"], apart := false, laid := [("pneumatic/group.bits", laid_pneumatic_group_bits)], narrowed := true }
def TopGroupsLettersUptoSaid : Prop := topGroupsLettersUptoRow.holds Tryd.pinned (OpenSpec.upto topGroupsLettersSpec)

/-- 'pneumatictop.TopGroupsMerge', WHERE WHAT IT READS IS OF BULK AT MOST 1048576: true; the input reads as it did. -/
def topGroupsMergeUptoRow : OpenClaim := { program := "ytdolibeceijnnaadoor", sum := "e0ba19200ab652d88d8b0e41e259e0bc915fe2b5bdf51bbffa54171bdecad5b1", func := "pneumatic/pneumatictop.TopGroupsMerge", spec := "topGroupsMerge", unfollowed := true, recurses := true, named := ["pneumatic/group.bits"], apart := false, laid := [("pneumatic/group.bits", laid_pneumatic_group_bits)], narrowed := true }
def TopGroupsMergeUptoSaid : Prop := topGroupsMergeUptoRow.holds Tryd.pinned (OpenSpec.upto topGroupsMergeSpec)

/-- 'pneumatictop.TopGroupsJoin', WHERE WHAT IT READS IS OF BULK AT MOST 1048576: true; the input reads as it did. -/
def topGroupsJoinUptoRow : OpenClaim := { program := "ytdolibeceijnnaadoor", sum := "e0ba19200ab652d88d8b0e41e259e0bc915fe2b5bdf51bbffa54171bdecad5b1", func := "pneumatic/pneumatictop.TopGroupsJoin", spec := "topGroupsJoin", unfollowed := true, recurses := true, named := ["pneumatic/group.bits"], apart := false, laid := [("pneumatic/group.bits", laid_pneumatic_group_bits)], narrowed := true }
def TopGroupsJoinUptoSaid : Prop := topGroupsJoinUptoRow.holds Tryd.pinned (OpenSpec.upto topGroupsJoinSpec)

end Rows
end Go.Proofs.YtdolibeceijnnaaDoor
