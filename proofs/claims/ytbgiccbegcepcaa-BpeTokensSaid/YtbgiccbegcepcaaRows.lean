/-
  No cell of these rows narrows 'for every input' (looked for: loops, veiled, ifaces, maps, wideKeys, modest, calm, conditions, laid).
  DERIVED. THE GIVEN ROWS OF THIS SEAT. 6 by the template 'for every input the law returns true; each argument reads behind the call as it read before'; 0 by the template 'total and deterministic' (their statements: YtbgiccbegcepcaaTotals.lean).
  GIVEN WITH THE SEED: the statements are not yours to turn. If you find one false, say at which input.
  Laid BY PROGRAM, IN A SANDBOX (cutbox-rows.mjs): the forced cells as the released guide's own fill.sh prints them over the translation 6cae143be2700480… (all of the seat's roots in one cut). By AI agents, Wed Nov 11 2026. No macro, syntax, notation, axiom, sorry.
-/
import Derived.Test.YtbgiccbegcepcaaChecked
import GoSem.Claim
import GoSem.ClaimJoined
import GoSem.ClaimMapViews
import Derived.JoinedTies
import Derived.KernelRfl
namespace Go.Proofs.Ytbgiccbegcepcaa
/- THE CELL 'sum', in the pinned program and in every row, IS THE sha256 OF THE DUMP (.gsa) THAT YtbgiccbegcepcaaProg.lean LOADS. Nothing in Lean hashes anything: it is a label: what it is worth is what the hold of that sum in a sandbox is worth. -/
noncomputable def Try.pinned : Pinned := { name := "ytbgiccbegcepcaa", sum := "6cae143be270048077c2701b29123d1b301a511e9e9e4c2891ea1e5048eee007", checked := Try.checked }
namespace Rows
def none {H : Type} : Left H := { results := [], args := [] }

/-- 'cupellaw09.BpeEncodes': WHATEVER THE INPUT: true; the input reads as it did. -/
def bpeEncodesSpec : ChangeSpec := { name := "bpeEncodes", fn := fun _ => fun
  | [d1, d2] => { results := [.lit (.bool true)], args := [d1, d2] }
  | _ => none }
def bpeEncodesRow : OpenClaim := { program := "ytbgiccbegcepcaa", sum := "6cae143be270048077c2701b29123d1b301a511e9e9e4c2891ea1e5048eee007", func := "cupel/cupellaw09.BpeEncodes", spec := "bpeEncodes", plainKeys := false, apart := false }
def BpeEncodesSaid : Prop := bpeEncodesRow.holds Try.pinned (OpenSpec.ofChange bpeEncodesSpec)

/-- ITS FALSE NEIGHBOUR: 'it returns false'. Refute it at one input. -/
def bpeEncodesWrong : ChangeSpec := { name := "bpeEncodes", fn := fun _ => fun
  | [d1, d2] => { results := [.lit (.bool false)], args := [d1, d2] }
  | _ => none }
def BpeEncodesWrongFalsely : Prop := bpeEncodesRow.holds Try.pinned (OpenSpec.ofChange bpeEncodesWrong)

/-- 'cupellaw09.BpeLast': WHATEVER THE INPUT: true; the input reads as it did. -/
def bpeLastSpec : ChangeSpec := { name := "bpeLast", fn := fun _ => fun
  | [d1, d2] => { results := [.lit (.bool true)], args := [d1, d2] }
  | _ => none }
def bpeLastRow : OpenClaim := { program := "ytbgiccbegcepcaa", sum := "6cae143be270048077c2701b29123d1b301a511e9e9e4c2891ea1e5048eee007", func := "cupel/cupellaw09.BpeLast", spec := "bpeLast", plainKeys := false, apart := false }
def BpeLastSaid : Prop := bpeLastRow.holds Try.pinned (OpenSpec.ofChange bpeLastSpec)

/-- ITS FALSE NEIGHBOUR: 'it returns false'. Refute it at one input. -/
def bpeLastWrong : ChangeSpec := { name := "bpeLast", fn := fun _ => fun
  | [d1, d2] => { results := [.lit (.bool false)], args := [d1, d2] }
  | _ => none }
def BpeLastWrongFalsely : Prop := bpeLastRow.holds Try.pinned (OpenSpec.ofChange bpeLastWrong)

/-- 'cupellaw09.BpeDecodes': WHATEVER THE INPUT: true; the input reads as it did. -/
def bpeDecodesSpec : ChangeSpec := { name := "bpeDecodes", fn := fun _ => fun
  | [d1, d2] => { results := [.lit (.bool true)], args := [d1, d2] }
  | _ => none }
def bpeDecodesRow : OpenClaim := { program := "ytbgiccbegcepcaa", sum := "6cae143be270048077c2701b29123d1b301a511e9e9e4c2891ea1e5048eee007", func := "cupel/cupellaw09.BpeDecodes", spec := "bpeDecodes", plainKeys := false, apart := false }
def BpeDecodesSaid : Prop := bpeDecodesRow.holds Try.pinned (OpenSpec.ofChange bpeDecodesSpec)

/-- ITS FALSE NEIGHBOUR: 'it returns false'. Refute it at one input. -/
def bpeDecodesWrong : ChangeSpec := { name := "bpeDecodes", fn := fun _ => fun
  | [d1, d2] => { results := [.lit (.bool false)], args := [d1, d2] }
  | _ => none }
def BpeDecodesWrongFalsely : Prop := bpeDecodesRow.holds Try.pinned (OpenSpec.ofChange bpeDecodesWrong)

/-- 'cupellaw09.BpeBack': WHATEVER THE INPUT: true; the input reads as it did. -/
def bpeBackSpec : ChangeSpec := { name := "bpeBack", fn := fun _ => fun
  | [d1, d2] => { results := [.lit (.bool true)], args := [d1, d2] }
  | _ => none }
def bpeBackRow : OpenClaim := { program := "ytbgiccbegcepcaa", sum := "6cae143be270048077c2701b29123d1b301a511e9e9e4c2891ea1e5048eee007", func := "cupel/cupellaw09.BpeBack", spec := "bpeBack", plainKeys := false, apart := false }
def BpeBackSaid : Prop := bpeBackRow.holds Try.pinned (OpenSpec.ofChange bpeBackSpec)

/-- ITS FALSE NEIGHBOUR: 'it returns false'. Refute it at one input. -/
def bpeBackWrong : ChangeSpec := { name := "bpeBack", fn := fun _ => fun
  | [d1, d2] => { results := [.lit (.bool false)], args := [d1, d2] }
  | _ => none }
def BpeBackWrongFalsely : Prop := bpeBackRow.holds Try.pinned (OpenSpec.ofChange bpeBackWrong)

/-- 'cupellaw09.BpeTokens': WHATEVER THE INPUT: true; the input reads as it did. -/
def bpeTokensSpec : ChangeSpec := { name := "bpeTokens", fn := fun _ => fun
  | [d1, d2] => { results := [.lit (.bool true)], args := [d1, d2] }
  | _ => none }
def bpeTokensRow : OpenClaim := { program := "ytbgiccbegcepcaa", sum := "6cae143be270048077c2701b29123d1b301a511e9e9e4c2891ea1e5048eee007", func := "cupel/cupellaw09.BpeTokens", spec := "bpeTokens", plainKeys := false, apart := false }
def BpeTokensSaid : Prop := bpeTokensRow.holds Try.pinned (OpenSpec.ofChange bpeTokensSpec)

/-- ITS FALSE NEIGHBOUR: 'it returns false'. Refute it at one input. -/
def bpeTokensWrong : ChangeSpec := { name := "bpeTokens", fn := fun _ => fun
  | [d1, d2] => { results := [.lit (.bool false)], args := [d1, d2] }
  | _ => none }
def BpeTokensWrongFalsely : Prop := bpeTokensRow.holds Try.pinned (OpenSpec.ofChange bpeTokensWrong)

/-- 'cupellaw09.BpeNil': WHATEVER THE INPUT: true; the input reads as it did. -/
def bpeNilSpec : ChangeSpec := { name := "bpeNil", fn := fun _ => fun
  | [d1, d2, d3] => { results := [.lit (.bool true)], args := [d1, d2, d3] }
  | _ => none }
def bpeNilRow : OpenClaim := { program := "ytbgiccbegcepcaa", sum := "6cae143be270048077c2701b29123d1b301a511e9e9e4c2891ea1e5048eee007", func := "cupel/cupellaw09.BpeNil", spec := "bpeNil", plainKeys := false, apart := false }
def BpeNilSaid : Prop := bpeNilRow.holds Try.pinned (OpenSpec.ofChange bpeNilSpec)

/-- ITS FALSE NEIGHBOUR: 'it returns false'. Refute it at one input. -/
def bpeNilWrong : ChangeSpec := { name := "bpeNil", fn := fun _ => fun
  | [d1, d2, d3] => { results := [.lit (.bool false)], args := [d1, d2, d3] }
  | _ => none }
def BpeNilWrongFalsely : Prop := bpeNilRow.holds Try.pinned (OpenSpec.ofChange bpeNilWrong)

/- THE SECOND FORM. 'bulk': how many values and letters a reading holds, each counted each time it is reached (what is shared counts as often as it is met; a slice's spare places count too). A statement '..UptoSaid' is the law's where the arguments, and the package variables that the reading takes, are together of bulk at most 1048576: NARROWER than '..Said'. Prove '..Said' where nothing that the law and all that it calls make is longer than what came in: it says more and counts as full. Else prove '..UptoSaid'. A law counts once. -/
mutual
def uptoBulk {H : Type} : DataW H → Nat
  | .lit (.string bytes) => bytes.length + 1
  | .lit _ => 1
  | .nil => 1
  | .ptr d => uptoBulk d + 1
  | .slice elems spare => uptoBulkAll elems + uptoBulkAll spare + 1
  | .agg parts => uptoBulkAll parts + 1
  | .iface _ d => uptoBulk d + 1
  | .map entries => uptoBulkEntries entries + 1
  | .held _ => 1
def uptoBulkAll {H : Type} : List (DataW H) → Nat
  | [] => 0
  | d :: r => uptoBulk d + uptoBulkAll r
def uptoBulkEntries {H : Type} : List (Lit × DataW H) → Nat
  | [] => 0
  | x :: r => uptoBulkEntry x + uptoBulkEntries r
def uptoBulkEntry {H : Type} : Lit × DataW H → Nat
  | (.string bytes, d) => bytes.length + uptoBulk d + 1
  | (_, d) => uptoBulk d + 1
 end
def uptoSmall : (H : Type) → List (DataW H) → Bool := fun _ ds => decide (uptoBulkAll ds ≤ 1048576)
def OpenSpec.upto (s : _root_.Go.ChangeSpec) : _root_.Go.OpenSpec := { _root_.Go.OpenSpec.ofChange s with cond := some uptoSmall }

/-- 'cupellaw09.BpeEncodes', WHERE WHAT IT READS IS OF BULK AT MOST 1048576: true; the input reads as it did. -/
def bpeEncodesUptoRow : OpenClaim := { program := "ytbgiccbegcepcaa", sum := "6cae143be270048077c2701b29123d1b301a511e9e9e4c2891ea1e5048eee007", func := "cupel/cupellaw09.BpeEncodes", spec := "bpeEncodes", plainKeys := false, apart := false, narrowed := true }
def BpeEncodesUptoSaid : Prop := bpeEncodesUptoRow.holds Try.pinned (OpenSpec.upto bpeEncodesSpec)

/-- 'cupellaw09.BpeLast', WHERE WHAT IT READS IS OF BULK AT MOST 1048576: true; the input reads as it did. -/
def bpeLastUptoRow : OpenClaim := { program := "ytbgiccbegcepcaa", sum := "6cae143be270048077c2701b29123d1b301a511e9e9e4c2891ea1e5048eee007", func := "cupel/cupellaw09.BpeLast", spec := "bpeLast", plainKeys := false, apart := false, narrowed := true }
def BpeLastUptoSaid : Prop := bpeLastUptoRow.holds Try.pinned (OpenSpec.upto bpeLastSpec)

/-- 'cupellaw09.BpeDecodes', WHERE WHAT IT READS IS OF BULK AT MOST 1048576: true; the input reads as it did. -/
def bpeDecodesUptoRow : OpenClaim := { program := "ytbgiccbegcepcaa", sum := "6cae143be270048077c2701b29123d1b301a511e9e9e4c2891ea1e5048eee007", func := "cupel/cupellaw09.BpeDecodes", spec := "bpeDecodes", plainKeys := false, apart := false, narrowed := true }
def BpeDecodesUptoSaid : Prop := bpeDecodesUptoRow.holds Try.pinned (OpenSpec.upto bpeDecodesSpec)

/-- 'cupellaw09.BpeBack', WHERE WHAT IT READS IS OF BULK AT MOST 1048576: true; the input reads as it did. -/
def bpeBackUptoRow : OpenClaim := { program := "ytbgiccbegcepcaa", sum := "6cae143be270048077c2701b29123d1b301a511e9e9e4c2891ea1e5048eee007", func := "cupel/cupellaw09.BpeBack", spec := "bpeBack", plainKeys := false, apart := false, narrowed := true }
def BpeBackUptoSaid : Prop := bpeBackUptoRow.holds Try.pinned (OpenSpec.upto bpeBackSpec)

/-- 'cupellaw09.BpeTokens', WHERE WHAT IT READS IS OF BULK AT MOST 1048576: true; the input reads as it did. -/
def bpeTokensUptoRow : OpenClaim := { program := "ytbgiccbegcepcaa", sum := "6cae143be270048077c2701b29123d1b301a511e9e9e4c2891ea1e5048eee007", func := "cupel/cupellaw09.BpeTokens", spec := "bpeTokens", plainKeys := false, apart := false, narrowed := true }
def BpeTokensUptoSaid : Prop := bpeTokensUptoRow.holds Try.pinned (OpenSpec.upto bpeTokensSpec)

/-- 'cupellaw09.BpeNil', WHERE WHAT IT READS IS OF BULK AT MOST 1048576: true; the input reads as it did. -/
def bpeNilUptoRow : OpenClaim := { program := "ytbgiccbegcepcaa", sum := "6cae143be270048077c2701b29123d1b301a511e9e9e4c2891ea1e5048eee007", func := "cupel/cupellaw09.BpeNil", spec := "bpeNil", plainKeys := false, apart := false, narrowed := true }
def BpeNilUptoSaid : Prop := bpeNilUptoRow.holds Try.pinned (OpenSpec.upto bpeNilSpec)

end Rows
end Go.Proofs.Ytbgiccbegcepcaa
