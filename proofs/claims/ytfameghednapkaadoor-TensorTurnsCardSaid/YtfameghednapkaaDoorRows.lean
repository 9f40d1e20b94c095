/-
  NARROWER THAN 'FOR EVERY INPUT', by the rows' own cells (each row's printed sentence says how): TensorDots: laid · TensorTops: laid · TensorWhole: laid · TensorChecks: laid · TensorMuls: laid · TensorRows: laid · TensorShares: laid · TensorTurns: laid · TensorUnit: laid.
  DERIVED. THE GIVEN ROWS OF THIS SEAT. 9 by the template 'for every input the law returns true; each argument reads behind the call as it read before'; 0 by the template 'total and deterministic' (their statements: YtfameghednapkaaDoorTotals.lean).
  GIVEN WITH THE SEED: the statements are not yours to turn. If you find one false, say at which input.
  Laid BY PROGRAM, IN A SANDBOX (cutbox-rows.mjs): the forced cells as the released guide's own fill.sh prints them over the translation df2e23bfcaaec554… (all of the seat's roots in one cut). By AI agents, Wed Nov 11 2026. No macro, syntax, notation, axiom, sorry.
-/
import Derived.Test.YtfameghednapkaaDoorChecked
import GoSem.Claim
import GoSem.ClaimJoined
import GoSem.ClaimMapViews
import Derived.JoinedTies
import Derived.KernelRfl
namespace Go.Proofs.YtfameghednapkaaDoor
/- THE CELL 'sum', in the pinned program and in every row, IS THE sha256 OF THE DUMP (.gsa) THAT YtfameghednapkaaDoorProg.lean LOADS. Nothing in Lean hashes anything: it is a label: what it is worth is what the hold of that sum in a sandbox is worth. -/
noncomputable def Tryd.pinned : Pinned := { name := "ytfameghednapkaadoor", sum := "df2e23bfcaaec55450f7b944af9de2a28823baeffbff1468528cc17440b3c886", checked := Tryd.checked }
namespace Rows
def none {H : Type} : Left H := { results := [], args := [] }

/- WHAT THE LISTED PACKAGE-LEVEL VARIABLES READ AS WHEN THE CALL BEGINS. Each datum BY PROGRAM (the guide's laid-datum.mjs) off the statement by which the dump's own 'gosem.cut.vars' lays the variable. In a bare row this is a premise. The card (YtfameghednapkaaDoorCards.lean) ties it to the program's text. -/
def laid_cupel_fixed_steps {H : Type} : DataW H := .agg [.lit (.int .i64 22), .lit (.int .i64 1200), .lit (.int .i64 8869), .lit (.int .i64 24109), .lit (.int .i64 39750), .lit (.int .i64 51039), .lit (.int .i64 57835), .lit (.int .i64 61565), .lit (.int .i64 63520), .lit (.int .i64 64520), .lit (.int .i64 65026), .lit (.int .i64 65280), .lit (.int .i64 65408), .lit (.int .i64 65472), .lit (.int .i64 65504), .lit (.int .i64 65520), .lit (.int .i64 65528), .lit (.int .i64 65532), .lit (.int .i64 65534), .lit (.int .i64 65535)]
def laid_cupel_tensor_angles {H : Type} : DataW H := .agg [.agg [.lit (.int .i64 39322), .lit (.int .i64 52429)], .agg [.lit (.int .i64 60495), .lit (.int .i64 25206)], .agg [.lit (.int .i64 57826), .lit (.int .i64 30840)], .agg [.lit (.int .i64 62915), .lit (.int .i64 18350)]]

/-- 'cupellaw07.TensorDots': WHATEVER THE INPUT: true; the input reads as it did. -/
def tensorDotsSpec : ChangeSpec := { name := "tensorDots", fn := fun _ => fun
  | [d1, d2] => { results := [.lit (.bool true)], args := [d1, d2] }
  | _ => none }
def tensorDotsRow : OpenClaim := { program := "ytfameghednapkaadoor", sum := "df2e23bfcaaec55450f7b944af9de2a28823baeffbff1468528cc17440b3c886", func := "cupel/cupellaw07.TensorDots", spec := "tensorDots", unfollowed := true, recurses := true, named := ["cupel/fixed.steps"], apart := false, laid := [("cupel/fixed.steps", laid_cupel_fixed_steps)] }
def TensorDotsSaid : Prop := tensorDotsRow.holds Tryd.pinned (OpenSpec.ofChange tensorDotsSpec)

/-- ITS FALSE NEIGHBOUR: 'it returns false'. Refute it at one input. -/
def tensorDotsWrong : ChangeSpec := { name := "tensorDots", fn := fun _ => fun
  | [d1, d2] => { results := [.lit (.bool false)], args := [d1, d2] }
  | _ => none }
def TensorDotsWrongFalsely : Prop := tensorDotsRow.holds Tryd.pinned (OpenSpec.ofChange tensorDotsWrong)

/-- 'cupellaw07.TensorTops': WHATEVER THE INPUT: true; the input reads as it did. -/
def tensorTopsSpec : ChangeSpec := { name := "tensorTops", fn := fun _ => fun
  | [d1, d2] => { results := [.lit (.bool true)], args := [d1, d2] }
  | _ => none }
def tensorTopsRow : OpenClaim := { program := "ytfameghednapkaadoor", sum := "df2e23bfcaaec55450f7b944af9de2a28823baeffbff1468528cc17440b3c886", func := "cupel/cupellaw07.TensorTops", spec := "tensorTops", unfollowed := true, recurses := true, named := ["cupel/fixed.steps"], apart := false, laid := [("cupel/fixed.steps", laid_cupel_fixed_steps)] }
def TensorTopsSaid : Prop := tensorTopsRow.holds Tryd.pinned (OpenSpec.ofChange tensorTopsSpec)

/-- ITS FALSE NEIGHBOUR: 'it returns false'. Refute it at one input. -/
def tensorTopsWrong : ChangeSpec := { name := "tensorTops", fn := fun _ => fun
  | [d1, d2] => { results := [.lit (.bool false)], args := [d1, d2] }
  | _ => none }
def TensorTopsWrongFalsely : Prop := tensorTopsRow.holds Tryd.pinned (OpenSpec.ofChange tensorTopsWrong)

/-- 'cupellaw07.TensorWhole': WHATEVER THE INPUT: true; the input reads as it did. -/
def tensorWholeSpec : ChangeSpec := { name := "tensorWhole", fn := fun _ => fun
  | [d1, d2] => { results := [.lit (.bool true)], args := [d1, d2] }
  | _ => none }
def tensorWholeRow : OpenClaim := { program := "ytfameghednapkaadoor", sum := "df2e23bfcaaec55450f7b944af9de2a28823baeffbff1468528cc17440b3c886", func := "cupel/cupellaw07.TensorWhole", spec := "tensorWhole", unfollowed := true, recurses := true, named := ["cupel/fixed.steps"], apart := false, laid := [("cupel/fixed.steps", laid_cupel_fixed_steps)] }
def TensorWholeSaid : Prop := tensorWholeRow.holds Tryd.pinned (OpenSpec.ofChange tensorWholeSpec)

/-- ITS FALSE NEIGHBOUR: 'it returns false'. Refute it at one input. -/
def tensorWholeWrong : ChangeSpec := { name := "tensorWhole", fn := fun _ => fun
  | [d1, d2] => { results := [.lit (.bool false)], args := [d1, d2] }
  | _ => none }
def TensorWholeWrongFalsely : Prop := tensorWholeRow.holds Tryd.pinned (OpenSpec.ofChange tensorWholeWrong)

/-- 'cupellaw07.TensorChecks': WHATEVER THE INPUT: true; the input reads as it did. -/
def tensorChecksSpec : ChangeSpec := { name := "tensorChecks", fn := fun _ => fun
  | [d1, d2, d3] => { results := [.lit (.bool true)], args := [d1, d2, d3] }
  | _ => none }
def tensorChecksRow : OpenClaim := { program := "ytfameghednapkaadoor", sum := "df2e23bfcaaec55450f7b944af9de2a28823baeffbff1468528cc17440b3c886", func := "cupel/cupellaw07.TensorChecks", spec := "tensorChecks", unfollowed := true, recurses := true, named := ["cupel/fixed.steps"], apart := false, laid := [("cupel/fixed.steps", laid_cupel_fixed_steps)] }
def TensorChecksSaid : Prop := tensorChecksRow.holds Tryd.pinned (OpenSpec.ofChange tensorChecksSpec)

/-- ITS FALSE NEIGHBOUR: 'it returns false'. Refute it at one input. -/
def tensorChecksWrong : ChangeSpec := { name := "tensorChecks", fn := fun _ => fun
  | [d1, d2, d3] => { results := [.lit (.bool false)], args := [d1, d2, d3] }
  | _ => none }
def TensorChecksWrongFalsely : Prop := tensorChecksRow.holds Tryd.pinned (OpenSpec.ofChange tensorChecksWrong)

/-- 'cupellaw07.TensorMuls': WHATEVER THE INPUT: true; the input reads as it did. -/
def tensorMulsSpec : ChangeSpec := { name := "tensorMuls", fn := fun _ => fun
  | [d1, d2] => { results := [.lit (.bool true)], args := [d1, d2] }
  | _ => none }
def tensorMulsRow : OpenClaim := { program := "ytfameghednapkaadoor", sum := "df2e23bfcaaec55450f7b944af9de2a28823baeffbff1468528cc17440b3c886", func := "cupel/cupellaw07.TensorMuls", spec := "tensorMuls", unfollowed := true, recurses := true, named := ["cupel/fixed.steps"], apart := false, laid := [("cupel/fixed.steps", laid_cupel_fixed_steps)] }
def TensorMulsSaid : Prop := tensorMulsRow.holds Tryd.pinned (OpenSpec.ofChange tensorMulsSpec)

/-- ITS FALSE NEIGHBOUR: 'it returns false'. Refute it at one input. -/
def tensorMulsWrong : ChangeSpec := { name := "tensorMuls", fn := fun _ => fun
  | [d1, d2] => { results := [.lit (.bool false)], args := [d1, d2] }
  | _ => none }
def TensorMulsWrongFalsely : Prop := tensorMulsRow.holds Tryd.pinned (OpenSpec.ofChange tensorMulsWrong)

/-- 'cupellaw07.TensorRows': WHATEVER THE INPUT: true; the input reads as it did. -/
def tensorRowsSpec : ChangeSpec := { name := "tensorRows", fn := fun _ => fun
  | [d1, d2, d3] => { results := [.lit (.bool true)], args := [d1, d2, d3] }
  | _ => none }
def tensorRowsRow : OpenClaim := { program := "ytfameghednapkaadoor", sum := "df2e23bfcaaec55450f7b944af9de2a28823baeffbff1468528cc17440b3c886", func := "cupel/cupellaw07.TensorRows", spec := "tensorRows", unfollowed := true, recurses := true, named := ["cupel/fixed.steps"], apart := false, laid := [("cupel/fixed.steps", laid_cupel_fixed_steps)] }
def TensorRowsSaid : Prop := tensorRowsRow.holds Tryd.pinned (OpenSpec.ofChange tensorRowsSpec)

/-- ITS FALSE NEIGHBOUR: 'it returns false'. Refute it at one input. -/
def tensorRowsWrong : ChangeSpec := { name := "tensorRows", fn := fun _ => fun
  | [d1, d2, d3] => { results := [.lit (.bool false)], args := [d1, d2, d3] }
  | _ => none }
def TensorRowsWrongFalsely : Prop := tensorRowsRow.holds Tryd.pinned (OpenSpec.ofChange tensorRowsWrong)

/-- 'cupellaw07.TensorShares': WHATEVER THE INPUT: true; the input reads as it did. -/
def tensorSharesSpec : ChangeSpec := { name := "tensorShares", fn := fun _ => fun
  | [d1, d2, d3] => { results := [.lit (.bool true)], args := [d1, d2, d3] }
  | _ => none }
def tensorSharesRow : OpenClaim := { program := "ytfameghednapkaadoor", sum := "df2e23bfcaaec55450f7b944af9de2a28823baeffbff1468528cc17440b3c886", func := "cupel/cupellaw07.TensorShares", spec := "tensorShares", unfollowed := true, recurses := true, named := ["cupel/fixed.steps"], apart := false, laid := [("cupel/fixed.steps", laid_cupel_fixed_steps)] }
def TensorSharesSaid : Prop := tensorSharesRow.holds Tryd.pinned (OpenSpec.ofChange tensorSharesSpec)

/-- ITS FALSE NEIGHBOUR: 'it returns false'. Refute it at one input. -/
def tensorSharesWrong : ChangeSpec := { name := "tensorShares", fn := fun _ => fun
  | [d1, d2, d3] => { results := [.lit (.bool false)], args := [d1, d2, d3] }
  | _ => none }
def TensorSharesWrongFalsely : Prop := tensorSharesRow.holds Tryd.pinned (OpenSpec.ofChange tensorSharesWrong)

/-- 'cupellaw07.TensorTurns': WHATEVER THE INPUT: true; the input reads as it did. -/
def tensorTurnsSpec : ChangeSpec := { name := "tensorTurns", fn := fun _ => fun
  | [d1, d2] => { results := [.lit (.bool true)], args := [d1, d2] }
  | _ => none }
def tensorTurnsRow : OpenClaim := { program := "ytfameghednapkaadoor", sum := "df2e23bfcaaec55450f7b944af9de2a28823baeffbff1468528cc17440b3c886", func := "cupel/cupellaw07.TensorTurns", spec := "tensorTurns", unfollowed := true, recurses := true, named := ["cupel/fixed.steps", "cupel/tensor.angles"], apart := false, laid := [("cupel/fixed.steps", laid_cupel_fixed_steps), ("cupel/tensor.angles", laid_cupel_tensor_angles)] }
def TensorTurnsSaid : Prop := tensorTurnsRow.holds Tryd.pinned (OpenSpec.ofChange tensorTurnsSpec)

/-- ITS FALSE NEIGHBOUR: 'it returns false'. Refute it at one input. -/
def tensorTurnsWrong : ChangeSpec := { name := "tensorTurns", fn := fun _ => fun
  | [d1, d2] => { results := [.lit (.bool false)], args := [d1, d2] }
  | _ => none }
def TensorTurnsWrongFalsely : Prop := tensorTurnsRow.holds Tryd.pinned (OpenSpec.ofChange tensorTurnsWrong)

/-- 'cupellaw07.TensorUnit': WHATEVER THE INPUT: true; the input reads as it did. -/
def tensorUnitSpec : ChangeSpec := { name := "tensorUnit", fn := fun _ => fun
  | [d1, d2, d3] => { results := [.lit (.bool true)], args := [d1, d2, d3] }
  | _ => none }
def tensorUnitRow : OpenClaim := { program := "ytfameghednapkaadoor", sum := "df2e23bfcaaec55450f7b944af9de2a28823baeffbff1468528cc17440b3c886", func := "cupel/cupellaw07.TensorUnit", spec := "tensorUnit", unfollowed := true, recurses := true, named := ["cupel/fixed.steps"], apart := false, laid := [("cupel/fixed.steps", laid_cupel_fixed_steps)] }
def TensorUnitSaid : Prop := tensorUnitRow.holds Tryd.pinned (OpenSpec.ofChange tensorUnitSpec)

/-- ITS FALSE NEIGHBOUR: 'it returns false'. Refute it at one input. -/
def tensorUnitWrong : ChangeSpec := { name := "tensorUnit", fn := fun _ => fun
  | [d1, d2, d3] => { results := [.lit (.bool false)], args := [d1, d2, d3] }
  | _ => none }
def TensorUnitWrongFalsely : Prop := tensorUnitRow.holds Tryd.pinned (OpenSpec.ofChange tensorUnitWrong)

/- THE SECOND FORM. 'bulk': how many values and letters a reading holds, each counted each time it is reached (what is shared counts as often as it is met; a slice's spare places count too). A statement '..UptoSaid' is the law's where the arguments, and the package variables that the reading takes, are together of bulk at most 1048576: NARROWER than '..Said'. Prove '..Said' where nothing that the law and all that it calls make is longer than what came in: it says more and counts as full. Else prove '..UptoSaid'. A law counts once. -/
mutual
def uptoBulk {H : Type} : DataW H → Nat
  | .lit (.string bytes) => bytes.length + 1
  | .lit _ => 1
  | .nil => 1
  | .ptr d => uptoBulk d + 1
  | .slice elems spare => uptoBulkAll elems + uptoBulkAll spare + 1
  | .agg parts => uptoBulkAll parts + 1
  | .iface _ d => uptoBulk d + 1
  | .map entries => uptoBulkEntries entries + 1
  | .held _ => 1
def uptoBulkAll {H : Type} : List (DataW H) → Nat
  | [] => 0
  | d :: r => uptoBulk d + uptoBulkAll r
def uptoBulkEntries {H : Type} : List (Lit × DataW H) → Nat
  | [] => 0
  | x :: r => uptoBulkEntry x + uptoBulkEntries r
def uptoBulkEntry {H : Type} : Lit × DataW H → Nat
  | (.string bytes, d) => bytes.length + uptoBulk d + 1
  | (_, d) => uptoBulk d + 1
 end
def uptoSmall : (H : Type) → List (DataW H) → Bool := fun _ ds => decide (uptoBulkAll ds ≤ 1048576)
def OpenSpec.upto (s : _root_.Go.ChangeSpec) : _root_.Go.OpenSpec := { _root_.Go.OpenSpec.ofChange s with cond := some uptoSmall }

/-- 'cupellaw07.TensorDots', WHERE WHAT IT READS IS OF BULK AT MOST 1048576: true; the input reads as it did. -/
def tensorDotsUptoRow : OpenClaim := { program := "ytfameghednapkaadoor", sum := "df2e23bfcaaec55450f7b944af9de2a28823baeffbff1468528cc17440b3c886", func := "cupel/cupellaw07.TensorDots", spec := "tensorDots", unfollowed := true, recurses := true, named := ["cupel/fixed.steps"], apart := false, laid := [("cupel/fixed.steps", laid_cupel_fixed_steps)], narrowed := true }
def TensorDotsUptoSaid : Prop := tensorDotsUptoRow.holds Tryd.pinned (OpenSpec.upto tensorDotsSpec)

/-- 'cupellaw07.TensorTops', WHERE WHAT IT READS IS OF BULK AT MOST 1048576: true; the input reads as it did. -/
def tensorTopsUptoRow : OpenClaim := { program := "ytfameghednapkaadoor", sum := "df2e23bfcaaec55450f7b944af9de2a28823baeffbff1468528cc17440b3c886", func := "cupel/cupellaw07.TensorTops", spec := "tensorTops", unfollowed := true, recurses := true, named := ["cupel/fixed.steps"], apart := false, laid := [("cupel/fixed.steps", laid_cupel_fixed_steps)], narrowed := true }
def TensorTopsUptoSaid : Prop := tensorTopsUptoRow.holds Tryd.pinned (OpenSpec.upto tensorTopsSpec)

/-- 'cupellaw07.TensorWhole', WHERE WHAT IT READS IS OF BULK AT MOST 1048576: true; the input reads as it did. -/
def tensorWholeUptoRow : OpenClaim := { program := "ytfameghednapkaadoor", sum := "df2e23bfcaaec55450f7b944af9de2a28823baeffbff1468528cc17440b3c886", func := "cupel/cupellaw07.TensorWhole", spec := "tensorWhole", unfollowed := true, recurses := true, named := ["cupel/fixed.steps"], apart := false, laid := [("cupel/fixed.steps", laid_cupel_fixed_steps)], narrowed := true }
def TensorWholeUptoSaid : Prop := tensorWholeUptoRow.holds Tryd.pinned (OpenSpec.upto tensorWholeSpec)

/-- 'cupellaw07.TensorChecks', WHERE WHAT IT READS IS OF BULK AT MOST 1048576: true; the input reads as it did. -/
def tensorChecksUptoRow : OpenClaim := { program := "ytfameghednapkaadoor", sum := "df2e23bfcaaec55450f7b944af9de2a28823baeffbff1468528cc17440b3c886", func := "cupel/cupellaw07.TensorChecks", spec := "tensorChecks", unfollowed := true, recurses := true, named := ["cupel/fixed.steps"], apart := false, laid := [("cupel/fixed.steps", laid_cupel_fixed_steps)], narrowed := true }
def TensorChecksUptoSaid : Prop := tensorChecksUptoRow.holds Tryd.pinned (OpenSpec.upto tensorChecksSpec)

/-- 'cupellaw07.TensorMuls', WHERE WHAT IT READS IS OF BULK AT MOST 1048576: true; the input reads as it did. -/
def tensorMulsUptoRow : OpenClaim := { program := "ytfameghednapkaadoor", sum := "df2e23bfcaaec55450f7b944af9de2a28823baeffbff1468528cc17440b3c886", func := "cupel/cupellaw07.TensorMuls", spec := "tensorMuls", unfollowed := true, recurses := true, named := ["cupel/fixed.steps"], apart := false, laid := [("cupel/fixed.steps", laid_cupel_fixed_steps)], narrowed := true }
def TensorMulsUptoSaid : Prop := tensorMulsUptoRow.holds Tryd.pinned (OpenSpec.upto tensorMulsSpec)

/-- 'cupellaw07.TensorRows', WHERE WHAT IT READS IS OF BULK AT MOST 1048576: true; the input reads as it did. -/
def tensorRowsUptoRow : OpenClaim := { program := "ytfameghednapkaadoor", sum := "df2e23bfcaaec55450f7b944af9de2a28823baeffbff1468528cc17440b3c886", func := "cupel/cupellaw07.TensorRows", spec := "tensorRows", unfollowed := true, recurses := true, named := ["cupel/fixed.steps"], apart := false, laid := [("cupel/fixed.steps", laid_cupel_fixed_steps)], narrowed := true }
def TensorRowsUptoSaid : Prop := tensorRowsUptoRow.holds Tryd.pinned (OpenSpec.upto tensorRowsSpec)

/-- 'cupellaw07.TensorShares', WHERE WHAT IT READS IS OF BULK AT MOST 1048576: true; the input reads as it did. -/
def tensorSharesUptoRow : OpenClaim := { program := "ytfameghednapkaadoor", sum := "df2e23bfcaaec55450f7b944af9de2a28823baeffbff1468528cc17440b3c886", func := "cupel/cupellaw07.TensorShares", spec := "tensorShares", unfollowed := true, recurses := true, named := ["cupel/fixed.steps"], apart := false, laid := [("cupel/fixed.steps", laid_cupel_fixed_steps)], narrowed := true }
def TensorSharesUptoSaid : Prop := tensorSharesUptoRow.holds Tryd.pinned (OpenSpec.upto tensorSharesSpec)

/-- 'cupellaw07.TensorTurns', WHERE WHAT IT READS IS OF BULK AT MOST 1048576: true; the input reads as it did. -/
def tensorTurnsUptoRow : OpenClaim := { program := "ytfameghednapkaadoor", sum := "df2e23bfcaaec55450f7b944af9de2a28823baeffbff1468528cc17440b3c886", func := "cupel/cupellaw07.TensorTurns", spec := "tensorTurns", unfollowed := true, recurses := true, named := ["cupel/fixed.steps", "cupel/tensor.angles"], apart := false, laid := [("cupel/fixed.steps", laid_cupel_fixed_steps), ("cupel/tensor.angles", laid_cupel_tensor_angles)], narrowed := true }
def TensorTurnsUptoSaid : Prop := tensorTurnsUptoRow.holds Tryd.pinned (OpenSpec.upto tensorTurnsSpec)

/-- 'cupellaw07.TensorUnit', WHERE WHAT IT READS IS OF BULK AT MOST 1048576: true; the input reads as it did. -/
def tensorUnitUptoRow : OpenClaim := { program := "ytfameghednapkaadoor", sum := "df2e23bfcaaec55450f7b944af9de2a28823baeffbff1468528cc17440b3c886", func := "cupel/cupellaw07.TensorUnit", spec := "tensorUnit", unfollowed := true, recurses := true, named := ["cupel/fixed.steps"], apart := false, laid := [("cupel/fixed.steps", laid_cupel_fixed_steps)], narrowed := true }
def TensorUnitUptoSaid : Prop := tensorUnitUptoRow.holds Tryd.pinned (OpenSpec.upto tensorUnitSpec)

end Rows
end Go.Proofs.YtfameghednapkaaDoor
