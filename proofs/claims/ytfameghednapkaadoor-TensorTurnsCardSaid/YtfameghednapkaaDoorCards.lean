/-
  DERIVED. GIVEN WITH THE SEED: THE CARDS: each row of YtfameghednapkaaDoorRows.lean that lists a variable, with what it lists TIED to the program's text (the seventh form; the later family's looks); each row that meets fmt, with fmt's text TOLD by the authors' own Lean function (tested against real Go, not proved from fmt's source: count such statements apart). THE CARD IS WHAT COUNTS. Prove the row's statement (the work); the ties are given (YtfameghednapkaaDoorTie.lean); close each card by the builder's one call (the guide's Derived/Test/ToyasCard.lean, 'card_holds'). Laid BY PROGRAM, IN A SANDBOX (cutbox-door.mjs). By AI agents, Wed Nov 11 2026. No macro, syntax, notation, axiom, sorry.
-/
import Derived.Test.YtfameghednapkaaDoorRows
import GoSem.ClaimSeven
namespace Go.Proofs.YtfameghednapkaaDoor
namespace Rows

/-- THE TIED CARD OF 'cupellaw07.TensorDots'. -/
def tensorDotsCard : Claim7 := { stood := { row := tensorDotsRow, standIns := [], harness := (true, "e1ed2db2627e2cbd97d34313518519dfcabec4ed503783bdab99bd8b288cd09e"), looks := false }, kinds := [], alts := [], laidByText := true, laidKinds := [.data], laidTests := true, laidLooks := .later }
def TensorDotsCardSaid : Prop := Claim7.holds Tryd.pinned (.plain (OpenSpec.ofChange tensorDotsSpec)) tensorDotsCard

/-- THE TIED CARD OF 'cupellaw07.TensorTops'. -/
def tensorTopsCard : Claim7 := { stood := { row := tensorTopsRow, standIns := [], harness := (true, "e1ed2db2627e2cbd97d34313518519dfcabec4ed503783bdab99bd8b288cd09e"), looks := false }, kinds := [], alts := [], laidByText := true, laidKinds := [.data], laidTests := true, laidLooks := .later }
def TensorTopsCardSaid : Prop := Claim7.holds Tryd.pinned (.plain (OpenSpec.ofChange tensorTopsSpec)) tensorTopsCard

/-- THE TIED CARD OF 'cupellaw07.TensorWhole'. -/
def tensorWholeCard : Claim7 := { stood := { row := tensorWholeRow, standIns := [], harness := (true, "e1ed2db2627e2cbd97d34313518519dfcabec4ed503783bdab99bd8b288cd09e"), looks := false }, kinds := [], alts := [], laidByText := true, laidKinds := [.data], laidTests := true, laidLooks := .later }
def TensorWholeCardSaid : Prop := Claim7.holds Tryd.pinned (.plain (OpenSpec.ofChange tensorWholeSpec)) tensorWholeCard

/-- THE TIED CARD OF 'cupellaw07.TensorChecks'. -/
def tensorChecksCard : Claim7 := { stood := { row := tensorChecksRow, standIns := [], harness := (true, "e1ed2db2627e2cbd97d34313518519dfcabec4ed503783bdab99bd8b288cd09e"), looks := false }, kinds := [], alts := [], laidByText := true, laidKinds := [.data], laidTests := true, laidLooks := .later }
def TensorChecksCardSaid : Prop := Claim7.holds Tryd.pinned (.plain (OpenSpec.ofChange tensorChecksSpec)) tensorChecksCard

/-- THE TIED CARD OF 'cupellaw07.TensorMuls'. -/
def tensorMulsCard : Claim7 := { stood := { row := tensorMulsRow, standIns := [], harness := (true, "e1ed2db2627e2cbd97d34313518519dfcabec4ed503783bdab99bd8b288cd09e"), looks := false }, kinds := [], alts := [], laidByText := true, laidKinds := [.data], laidTests := true, laidLooks := .later }
def TensorMulsCardSaid : Prop := Claim7.holds Tryd.pinned (.plain (OpenSpec.ofChange tensorMulsSpec)) tensorMulsCard

/-- THE TIED CARD OF 'cupellaw07.TensorRows'. -/
def tensorRowsCard : Claim7 := { stood := { row := tensorRowsRow, standIns := [], harness := (true, "e1ed2db2627e2cbd97d34313518519dfcabec4ed503783bdab99bd8b288cd09e"), looks := false }, kinds := [], alts := [], laidByText := true, laidKinds := [.data], laidTests := true, laidLooks := .later }
def TensorRowsCardSaid : Prop := Claim7.holds Tryd.pinned (.plain (OpenSpec.ofChange tensorRowsSpec)) tensorRowsCard

/-- THE TIED CARD OF 'cupellaw07.TensorShares'. -/
def tensorSharesCard : Claim7 := { stood := { row := tensorSharesRow, standIns := [], harness := (true, "e1ed2db2627e2cbd97d34313518519dfcabec4ed503783bdab99bd8b288cd09e"), looks := false }, kinds := [], alts := [], laidByText := true, laidKinds := [.data], laidTests := true, laidLooks := .later }
def TensorSharesCardSaid : Prop := Claim7.holds Tryd.pinned (.plain (OpenSpec.ofChange tensorSharesSpec)) tensorSharesCard

/-- THE TIED CARD OF 'cupellaw07.TensorTurns'. -/
def tensorTurnsCard : Claim7 := { stood := { row := tensorTurnsRow, standIns := [], harness := (true, "e1ed2db2627e2cbd97d34313518519dfcabec4ed503783bdab99bd8b288cd09e"), looks := false }, kinds := [], alts := [], laidByText := true, laidKinds := [.data, .data], laidTests := true, laidLooks := .later }
def TensorTurnsCardSaid : Prop := Claim7.holds Tryd.pinned (.plain (OpenSpec.ofChange tensorTurnsSpec)) tensorTurnsCard

/-- THE TIED CARD OF 'cupellaw07.TensorUnit'. -/
def tensorUnitCard : Claim7 := { stood := { row := tensorUnitRow, standIns := [], harness := (true, "e1ed2db2627e2cbd97d34313518519dfcabec4ed503783bdab99bd8b288cd09e"), looks := false }, kinds := [], alts := [], laidByText := true, laidKinds := [.data], laidTests := true, laidLooks := .later }
def TensorUnitCardSaid : Prop := Claim7.holds Tryd.pinned (.plain (OpenSpec.ofChange tensorUnitSpec)) tensorUnitCard

/-- THE SECOND FORM's CARD OF 'cupellaw07.TensorDots'. -/
def tensorDotsUptoCard : Claim7 := { stood := { row := tensorDotsUptoRow, standIns := [], harness := (true, "e1ed2db2627e2cbd97d34313518519dfcabec4ed503783bdab99bd8b288cd09e"), looks := false }, kinds := [], alts := [], laidByText := true, laidKinds := [.data], laidTests := true, laidLooks := .later }
def TensorDotsUptoCardSaid : Prop := Claim7.holds Tryd.pinned (.plain (OpenSpec.upto tensorDotsSpec)) tensorDotsUptoCard

/-- THE SECOND FORM's CARD OF 'cupellaw07.TensorTops'. -/
def tensorTopsUptoCard : Claim7 := { stood := { row := tensorTopsUptoRow, standIns := [], harness := (true, "e1ed2db2627e2cbd97d34313518519dfcabec4ed503783bdab99bd8b288cd09e"), looks := false }, kinds := [], alts := [], laidByText := true, laidKinds := [.data], laidTests := true, laidLooks := .later }
def TensorTopsUptoCardSaid : Prop := Claim7.holds Tryd.pinned (.plain (OpenSpec.upto tensorTopsSpec)) tensorTopsUptoCard

/-- THE SECOND FORM's CARD OF 'cupellaw07.TensorWhole'. -/
def tensorWholeUptoCard : Claim7 := { stood := { row := tensorWholeUptoRow, standIns := [], harness := (true, "e1ed2db2627e2cbd97d34313518519dfcabec4ed503783bdab99bd8b288cd09e"), looks := false }, kinds := [], alts := [], laidByText := true, laidKinds := [.data], laidTests := true, laidLooks := .later }
def TensorWholeUptoCardSaid : Prop := Claim7.holds Tryd.pinned (.plain (OpenSpec.upto tensorWholeSpec)) tensorWholeUptoCard

/-- THE SECOND FORM's CARD OF 'cupellaw07.TensorChecks'. -/
def tensorChecksUptoCard : Claim7 := { stood := { row := tensorChecksUptoRow, standIns := [], harness := (true, "e1ed2db2627e2cbd97d34313518519dfcabec4ed503783bdab99bd8b288cd09e"), looks := false }, kinds := [], alts := [], laidByText := true, laidKinds := [.data], laidTests := true, laidLooks := .later }
def TensorChecksUptoCardSaid : Prop := Claim7.holds Tryd.pinned (.plain (OpenSpec.upto tensorChecksSpec)) tensorChecksUptoCard

/-- THE SECOND FORM's CARD OF 'cupellaw07.TensorMuls'. -/
def tensorMulsUptoCard : Claim7 := { stood := { row := tensorMulsUptoRow, standIns := [], harness := (true, "e1ed2db2627e2cbd97d34313518519dfcabec4ed503783bdab99bd8b288cd09e"), looks := false }, kinds := [], alts := [], laidByText := true, laidKinds := [.data], laidTests := true, laidLooks := .later }
def TensorMulsUptoCardSaid : Prop := Claim7.holds Tryd.pinned (.plain (OpenSpec.upto tensorMulsSpec)) tensorMulsUptoCard

/-- THE SECOND FORM's CARD OF 'cupellaw07.TensorRows'. -/
def tensorRowsUptoCard : Claim7 := { stood := { row := tensorRowsUptoRow, standIns := [], harness := (true, "e1ed2db2627e2cbd97d34313518519dfcabec4ed503783bdab99bd8b288cd09e"), looks := false }, kinds := [], alts := [], laidByText := true, laidKinds := [.data], laidTests := true, laidLooks := .later }
def TensorRowsUptoCardSaid : Prop := Claim7.holds Tryd.pinned (.plain (OpenSpec.upto tensorRowsSpec)) tensorRowsUptoCard

/-- THE SECOND FORM's CARD OF 'cupellaw07.TensorShares'. -/
def tensorSharesUptoCard : Claim7 := { stood := { row := tensorSharesUptoRow, standIns := [], harness := (true, "e1ed2db2627e2cbd97d34313518519dfcabec4ed503783bdab99bd8b288cd09e"), looks := false }, kinds := [], alts := [], laidByText := true, laidKinds := [.data], laidTests := true, laidLooks := .later }
def TensorSharesUptoCardSaid : Prop := Claim7.holds Tryd.pinned (.plain (OpenSpec.upto tensorSharesSpec)) tensorSharesUptoCard

/-- THE SECOND FORM's CARD OF 'cupellaw07.TensorTurns'. -/
def tensorTurnsUptoCard : Claim7 := { stood := { row := tensorTurnsUptoRow, standIns := [], harness := (true, "e1ed2db2627e2cbd97d34313518519dfcabec4ed503783bdab99bd8b288cd09e"), looks := false }, kinds := [], alts := [], laidByText := true, laidKinds := [.data, .data], laidTests := true, laidLooks := .later }
def TensorTurnsUptoCardSaid : Prop := Claim7.holds Tryd.pinned (.plain (OpenSpec.upto tensorTurnsSpec)) tensorTurnsUptoCard

/-- THE SECOND FORM's CARD OF 'cupellaw07.TensorUnit'. -/
def tensorUnitUptoCard : Claim7 := { stood := { row := tensorUnitUptoRow, standIns := [], harness := (true, "e1ed2db2627e2cbd97d34313518519dfcabec4ed503783bdab99bd8b288cd09e"), looks := false }, kinds := [], alts := [], laidByText := true, laidKinds := [.data], laidTests := true, laidLooks := .later }
def TensorUnitUptoCardSaid : Prop := Claim7.holds Tryd.pinned (.plain (OpenSpec.upto tensorUnitSpec)) tensorUnitUptoCard
end Rows
end Go.Proofs.YtfameghednapkaaDoor
