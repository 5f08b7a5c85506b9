/-
  NARROWER THAN 'FOR EVERY INPUT', by the rows' own cells (each row's printed sentence says how): CycleHears: laid · CycleEnds: laid · CycleNames: laid.
  DERIVED. THE GIVEN ROWS OF THIS SEAT. 3 by the template 'for every input the law returns true; each argument reads behind the call as it read before'; 0 by the template 'total and deterministic' (their statements: YtggmfcdhdmfipaaDoorTotals.lean).
  GIVEN WITH THE SEED: the statements are not yours to turn. If you find one false, say at which input.
  Laid BY PROGRAM, IN A SANDBOX (cutbox-rows.mjs): the forced cells as the released guide's own fill.sh prints them over the translation e26481c981e79560… (all of the seat's roots in one cut). By AI agents, Wed Nov 11 2026. No macro, syntax, notation, axiom, sorry.
-/
import Derived.Test.YtggmfcdhdmfipaaDoorChecked
import GoSem.Claim
import GoSem.ClaimJoined
import GoSem.ClaimMapViews
import Derived.JoinedTies
import Derived.KernelRfl
namespace Go.Proofs.YtggmfcdhdmfipaaDoor
/- THE CELL 'sum', in the pinned program and in every row, IS THE sha256 OF THE DUMP (.gsa) THAT YtggmfcdhdmfipaaDoorProg.lean LOADS. Nothing in Lean hashes anything: it is a label: what it is worth is what the hold of that sum in a sandbox is worth. -/
noncomputable def Tryd.pinned : Pinned := { name := "ytggmfcdhdmfipaadoor", sum := "e26481c981e79560b18ed09205bbd70a9d2b1686a71f2661314b17dda852c6c7", checked := Tryd.checked }
namespace Rows
def none {H : Type} : Left H := { results := [], args := [] }

/- WHAT THE LISTED PACKAGE-LEVEL VARIABLES READ AS WHEN THE CALL BEGINS. Each datum BY PROGRAM (the guide's laid-datum.mjs) off the statement by which the dump's own 'gosem.cut.vars' lays the variable. In a bare row this is a premise. The card (YtggmfcdhdmfipaaDoorCards.lean) ties it to the program's text. -/
def laid_paybook_cycle_ladder {H : Type} : DataW H := .agg [.lit (.int .i64 1), .lit (.int .i64 3), .lit (.int .i64 7)]

/-- 'paybooklaw12.CycleHears': WHATEVER THE INPUT: true; the input reads as it did. -/
def cycleHearsSpec : ChangeSpec := { name := "cycleHears", fn := fun _ => fun
  | [d1, d2, d3, d4, d5, d6, d7] => { results := [.lit (.bool true)], args := [d1, d2, d3, d4, d5, d6, d7] }
  | _ => none }
def cycleHearsRow : OpenClaim := { program := "ytggmfcdhdmfipaadoor", sum := "e26481c981e79560b18ed09205bbd70a9d2b1686a71f2661314b17dda852c6c7", func := "paybook/paybooklaw12.CycleHears", spec := "cycleHears", named := ["paybook/cycle.ladder"], apart := false, laid := [("paybook/cycle.ladder", laid_paybook_cycle_ladder)] }
def CycleHearsSaid : Prop := cycleHearsRow.holds Tryd.pinned (OpenSpec.ofChange cycleHearsSpec)

/-- ITS FALSE NEIGHBOUR: 'it returns false'. Refute it at one input. -/
def cycleHearsWrong : ChangeSpec := { name := "cycleHears", fn := fun _ => fun
  | [d1, d2, d3, d4, d5, d6, d7] => { results := [.lit (.bool false)], args := [d1, d2, d3, d4, d5, d6, d7] }
  | _ => none }
def CycleHearsWrongFalsely : Prop := cycleHearsRow.holds Tryd.pinned (OpenSpec.ofChange cycleHearsWrong)

/-- 'paybooklaw12.CycleEnds': WHATEVER THE INPUT: true; the input reads as it did. -/
def cycleEndsSpec : ChangeSpec := { name := "cycleEnds", fn := fun _ => fun
  | [d1, d2, d3, d4] => { results := [.lit (.bool true)], args := [d1, d2, d3, d4] }
  | _ => none }
def cycleEndsRow : OpenClaim := { program := "ytggmfcdhdmfipaadoor", sum := "e26481c981e79560b18ed09205bbd70a9d2b1686a71f2661314b17dda852c6c7", func := "paybook/paybooklaw12.CycleEnds", spec := "cycleEnds", named := ["paybook/cycle.ladder"], apart := false, laid := [("paybook/cycle.ladder", laid_paybook_cycle_ladder)] }
def CycleEndsSaid : Prop := cycleEndsRow.holds Tryd.pinned (OpenSpec.ofChange cycleEndsSpec)

/-- ITS FALSE NEIGHBOUR: 'it returns false'. Refute it at one input. -/
def cycleEndsWrong : ChangeSpec := { name := "cycleEnds", fn := fun _ => fun
  | [d1, d2, d3, d4] => { results := [.lit (.bool false)], args := [d1, d2, d3, d4] }
  | _ => none }
def CycleEndsWrongFalsely : Prop := cycleEndsRow.holds Tryd.pinned (OpenSpec.ofChange cycleEndsWrong)

/-- 'paybooklaw12.CycleNames': WHATEVER THE INPUT: true; the input reads as it did. -/
def cycleNamesSpec : ChangeSpec := { name := "cycleNames", fn := fun _ => fun
  | [d] => { results := [.lit (.bool true)], args := [d] }
  | _ => none }
def cycleNamesRow : OpenClaim := { program := "ytggmfcdhdmfipaadoor", sum := "e26481c981e79560b18ed09205bbd70a9d2b1686a71f2661314b17dda852c6c7", func := "paybook/paybooklaw12.CycleNames", spec := "cycleNames", named := ["paybook/cycle.ladder"], apart := false, laid := [("paybook/cycle.ladder", laid_paybook_cycle_ladder)] }
def CycleNamesSaid : Prop := cycleNamesRow.holds Tryd.pinned (OpenSpec.ofChange cycleNamesSpec)

/-- ITS FALSE NEIGHBOUR: 'it returns false'. Refute it at one input. -/
def cycleNamesWrong : ChangeSpec := { name := "cycleNames", fn := fun _ => fun
  | [d] => { results := [.lit (.bool false)], args := [d] }
  | _ => none }
def CycleNamesWrongFalsely : Prop := cycleNamesRow.holds Tryd.pinned (OpenSpec.ofChange cycleNamesWrong)

/- THE SECOND FORM. 'bulk': how many values and letters a reading holds, each counted each time it is reached (what is shared counts as often as it is met; a slice's spare places count too). A statement '..UptoSaid' is the law's where the arguments, and the package variables that the reading takes, are together of bulk at most 1048576: NARROWER than '..Said'. Prove '..Said' where nothing that the law and all that it calls make is longer than what came in: it says more and counts as full. Else prove '..UptoSaid'. A law counts once. -/
mutual
def uptoBulk {H : Type} : DataW H → Nat
  | .lit (.string bytes) => bytes.length + 1
  | .lit _ => 1
  | .nil => 1
  | .ptr d => uptoBulk d + 1
  | .slice elems spare => uptoBulkAll elems + uptoBulkAll spare + 1
  | .agg parts => uptoBulkAll parts + 1
  | .iface _ d => uptoBulk d + 1
  | .map entries => uptoBulkEntries entries + 1
  | .held _ => 1
def uptoBulkAll {H : Type} : List (DataW H) → Nat
  | [] => 0
  | d :: r => uptoBulk d + uptoBulkAll r
def uptoBulkEntries {H : Type} : List (Lit × DataW H) → Nat
  | [] => 0
  | x :: r => uptoBulkEntry x + uptoBulkEntries r
def uptoBulkEntry {H : Type} : Lit × DataW H → Nat
  | (.string bytes, d) => bytes.length + uptoBulk d + 1
  | (_, d) => uptoBulk d + 1
 end
def uptoSmall : (H : Type) → List (DataW H) → Bool := fun _ ds => decide (uptoBulkAll ds ≤ 1048576)
def OpenSpec.upto (s : _root_.Go.ChangeSpec) : _root_.Go.OpenSpec := { _root_.Go.OpenSpec.ofChange s with cond := some uptoSmall }

/-- 'paybooklaw12.CycleHears', WHERE WHAT IT READS IS OF BULK AT MOST 1048576: true; the input reads as it did. -/
def cycleHearsUptoRow : OpenClaim := { program := "ytggmfcdhdmfipaadoor", sum := "e26481c981e79560b18ed09205bbd70a9d2b1686a71f2661314b17dda852c6c7", func := "paybook/paybooklaw12.CycleHears", spec := "cycleHears", named := ["paybook/cycle.ladder"], apart := false, laid := [("paybook/cycle.ladder", laid_paybook_cycle_ladder)], narrowed := true }
def CycleHearsUptoSaid : Prop := cycleHearsUptoRow.holds Tryd.pinned (OpenSpec.upto cycleHearsSpec)

/-- 'paybooklaw12.CycleEnds', WHERE WHAT IT READS IS OF BULK AT MOST 1048576: true; the input reads as it did. -/
def cycleEndsUptoRow : OpenClaim := { program := "ytggmfcdhdmfipaadoor", sum := "e26481c981e79560b18ed09205bbd70a9d2b1686a71f2661314b17dda852c6c7", func := "paybook/paybooklaw12.CycleEnds", spec := "cycleEnds", named := ["paybook/cycle.ladder"], apart := false, laid := [("paybook/cycle.ladder", laid_paybook_cycle_ladder)], narrowed := true }
def CycleEndsUptoSaid : Prop := cycleEndsUptoRow.holds Tryd.pinned (OpenSpec.upto cycleEndsSpec)

/-- 'paybooklaw12.CycleNames', WHERE WHAT IT READS IS OF BULK AT MOST 1048576: true; the input reads as it did. -/
def cycleNamesUptoRow : OpenClaim := { program := "ytggmfcdhdmfipaadoor", sum := "e26481c981e79560b18ed09205bbd70a9d2b1686a71f2661314b17dda852c6c7", func := "paybook/paybooklaw12.CycleNames", spec := "cycleNames", named := ["paybook/cycle.ladder"], apart := false, laid := [("paybook/cycle.ladder", laid_paybook_cycle_ladder)], narrowed := true }
def CycleNamesUptoSaid : Prop := cycleNamesUptoRow.holds Tryd.pinned (OpenSpec.upto cycleNamesSpec)

end Rows
end Go.Proofs.YtggmfcdhdmfipaaDoor
