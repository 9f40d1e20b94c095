/-
  DERIVED. GIVEN WITH THE SEED: THE CARDS: each row of YtlgljlgbnjjieaaDoorRows.lean that lists a variable, with what it lists TIED to the program's text (the seventh form; the later family's looks); each row that meets fmt, with fmt's text TOLD by the authors' own Lean function (tested against real Go, not proved from fmt's source: count such statements apart). THE CARD IS WHAT COUNTS. Prove the row's statement (the work); the ties are given (YtlgljlgbnjjieaaDoorTie.lean); close each card by the builder's one call (the guide's Derived/Test/ToyasCard.lean, 'card_holds'). Laid BY PROGRAM, IN A SANDBOX (cutbox-door.mjs). By AI agents, Wed Nov 11 2026. No macro, syntax, notation, axiom, sorry.
-/
import Derived.Test.YtlgljlgbnjjieaaDoorRows
import GoSem.ClaimSeven
namespace Go.Proofs.YtlgljlgbnjjieaaDoor
namespace Rows

/-- THE TIED CARD OF 'cupellaw01.ShaSums'. -/
def shaSumsCard : Claim7 := { stood := { row := shaSumsRow, standIns := [], harness := (true, "7f7e9dad95938c18ead7f13ce0697a14e4e6630a704be6480d7972e101a32ecb"), looks := false }, kinds := [], alts := [], laidByText := true, laidKinds := [.data, .data], laidTests := true, laidLooks := .later }
def ShaSumsCardSaid : Prop := Claim7.holds Tryd.pinned (.plain (OpenSpec.ofChange shaSumsSpec)) shaSumsCard

/-- THE TIED CARD OF 'cupellaw01.ShaPieces'. -/
def shaPiecesCard : Claim7 := { stood := { row := shaPiecesRow, standIns := [], harness := (true, "7f7e9dad95938c18ead7f13ce0697a14e4e6630a704be6480d7972e101a32ecb"), looks := false }, kinds := [], alts := [], laidByText := true, laidKinds := [.data, .data], laidTests := true, laidLooks := .later }
def ShaPiecesCardSaid : Prop := Claim7.holds Tryd.pinned (.plain (OpenSpec.ofChange shaPiecesSpec)) shaPiecesCard

/-- THE TIED CARD OF 'cupellaw01.ShaOwn'. -/
def shaOwnCard : Claim7 := { stood := { row := shaOwnRow, standIns := [], harness := (true, "7f7e9dad95938c18ead7f13ce0697a14e4e6630a704be6480d7972e101a32ecb"), looks := false }, kinds := [], alts := [], laidByText := true, laidKinds := [.data, .data], laidTests := true, laidLooks := .later }
def ShaOwnCardSaid : Prop := Claim7.holds Tryd.pinned (.plain (OpenSpec.ofChange shaOwnSpec)) shaOwnCard

/-- THE TIED CARD OF 'cupellaw01.ShaNil'. -/
def shaNilCard : Claim7 := { stood := { row := shaNilRow, standIns := [], harness := (true, "7f7e9dad95938c18ead7f13ce0697a14e4e6630a704be6480d7972e101a32ecb"), looks := false }, kinds := [], alts := [], laidByText := true, laidKinds := [.data, .data], laidTests := true, laidLooks := .later }
def ShaNilCardSaid : Prop := Claim7.holds Tryd.pinned (.plain (OpenSpec.ofChange shaNilSpec)) shaNilCard

/-- THE TIED CARD OF 'cupellaw01.ShaHex'. -/
def shaHexCard : Claim7 := { stood := { row := shaHexRow, standIns := [], harness := (true, "7f7e9dad95938c18ead7f13ce0697a14e4e6630a704be6480d7972e101a32ecb"), looks := false }, kinds := [], alts := [], laidByText := true, laidKinds := [.data, .data], laidTests := true, laidLooks := .later }
def ShaHexCardSaid : Prop := Claim7.holds Tryd.pinned (.plain (OpenSpec.ofChange shaHexSpec)) shaHexCard

/-- THE SECOND FORM's CARD OF 'cupellaw01.ShaSums'. -/
def shaSumsUptoCard : Claim7 := { stood := { row := shaSumsUptoRow, standIns := [], harness := (true, "7f7e9dad95938c18ead7f13ce0697a14e4e6630a704be6480d7972e101a32ecb"), looks := false }, kinds := [], alts := [], laidByText := true, laidKinds := [.data, .data], laidTests := true, laidLooks := .later }
def ShaSumsUptoCardSaid : Prop := Claim7.holds Tryd.pinned (.plain (OpenSpec.upto shaSumsSpec)) shaSumsUptoCard

/-- THE SECOND FORM's CARD OF 'cupellaw01.ShaPieces'. -/
def shaPiecesUptoCard : Claim7 := { stood := { row := shaPiecesUptoRow, standIns := [], harness := (true, "7f7e9dad95938c18ead7f13ce0697a14e4e6630a704be6480d7972e101a32ecb"), looks := false }, kinds := [], alts := [], laidByText := true, laidKinds := [.data, .data], laidTests := true, laidLooks := .later }
def ShaPiecesUptoCardSaid : Prop := Claim7.holds Tryd.pinned (.plain (OpenSpec.upto shaPiecesSpec)) shaPiecesUptoCard

/-- THE SECOND FORM's CARD OF 'cupellaw01.ShaOwn'. -/
def shaOwnUptoCard : Claim7 := { stood := { row := shaOwnUptoRow, standIns := [], harness := (true, "7f7e9dad95938c18ead7f13ce0697a14e4e6630a704be6480d7972e101a32ecb"), looks := false }, kinds := [], alts := [], laidByText := true, laidKinds := [.data, .data], laidTests := true, laidLooks := .later }
def ShaOwnUptoCardSaid : Prop := Claim7.holds Tryd.pinned (.plain (OpenSpec.upto shaOwnSpec)) shaOwnUptoCard

/-- THE SECOND FORM's CARD OF 'cupellaw01.ShaNil'. -/
def shaNilUptoCard : Claim7 := { stood := { row := shaNilUptoRow, standIns := [], harness := (true, "7f7e9dad95938c18ead7f13ce0697a14e4e6630a704be6480d7972e101a32ecb"), looks := false }, kinds := [], alts := [], laidByText := true, laidKinds := [.data, .data], laidTests := true, laidLooks := .later }
def ShaNilUptoCardSaid : Prop := Claim7.holds Tryd.pinned (.plain (OpenSpec.upto shaNilSpec)) shaNilUptoCard

/-- THE SECOND FORM's CARD OF 'cupellaw01.ShaHex'. -/
def shaHexUptoCard : Claim7 := { stood := { row := shaHexUptoRow, standIns := [], harness := (true, "7f7e9dad95938c18ead7f13ce0697a14e4e6630a704be6480d7972e101a32ecb"), looks := false }, kinds := [], alts := [], laidByText := true, laidKinds := [.data, .data], laidTests := true, laidLooks := .later }
def ShaHexUptoCardSaid : Prop := Claim7.holds Tryd.pinned (.plain (OpenSpec.upto shaHexSpec)) shaHexUptoCard
end Rows
end Go.Proofs.YtlgljlgbnjjieaaDoor
