/-
  DERIVED. GIVEN WITH THE SEED: THE CARDS: each row of YtpndobhakmjglaaDoorRows.lean that lists a variable, with what it lists TIED to the program's text (the seventh form; the later family's looks); each row that meets fmt, with fmt's text TOLD by the authors' own Lean function (tested against real Go, not proved from fmt's source: count such statements apart). THE CARD IS WHAT COUNTS. Prove the row's statement (the work); the ties are given (YtpndobhakmjglaaDoorTie.lean); close each card by the builder's one call (the guide's Derived/Test/ToyasCard.lean, 'card_holds'). Laid BY PROGRAM, IN A SANDBOX (cutbox-door.mjs). By AI agents, Wed Nov 11 2026. No macro, syntax, notation, axiom, sorry.
-/
import Derived.Test.YtpndobhakmjglaaDoorRows
import GoSem.ClaimSeven
namespace Go.Proofs.YtpndobhakmjglaaDoor
namespace Rows

/-- THE TIED CARD OF 'cupellaw16.StoreAny'. -/
def storeAnyCard : Claim7 := { stood := { row := storeAnyRow, standIns := [], harness := (true, "783ceb04f9c9e9e56c7cd792d3270af035cd2f39ad1be2efad1a679f1029ae32"), looks := false }, kinds := [], alts := [], laidByText := true, laidKinds := [.data, .data], laidTests := true, laidLooks := .later }
def StoreAnyCardSaid : Prop := Claim7.holds Tryd.pinned (.plain (OpenSpec.ofChange storeAnySpec)) storeAnyCard

/-- THE TIED CARD OF 'cupellaw16.StoreApart'. -/
def storeApartCard : Claim7 := { stood := { row := storeApartRow, standIns := [], harness := (true, "783ceb04f9c9e9e56c7cd792d3270af035cd2f39ad1be2efad1a679f1029ae32"), looks := false }, kinds := [], alts := [], laidByText := true, laidKinds := [.data, .data], laidTests := true, laidLooks := .later }
def StoreApartCardSaid : Prop := Claim7.holds Tryd.pinned (.plain (OpenSpec.ofChange storeApartSpec)) storeApartCard

/-- THE TIED CARD OF 'cupellaw16.StoreHolds'. -/
def storeHoldsCard : Claim7 := { stood := { row := storeHoldsRow, standIns := [], harness := (true, "783ceb04f9c9e9e56c7cd792d3270af035cd2f39ad1be2efad1a679f1029ae32"), looks := false }, kinds := [], alts := [], laidByText := true, laidKinds := [.data, .data], laidTests := true, laidLooks := .later }
def StoreHoldsCardSaid : Prop := Claim7.holds Tryd.pinned (.plain (OpenSpec.ofChange storeHoldsSpec)) storeHoldsCard

/-- THE TIED CARD OF 'cupellaw16.StoreRecovers'. -/
def storeRecoversCard : Claim7 := { stood := { row := storeRecoversRow, standIns := [], harness := (true, "783ceb04f9c9e9e56c7cd792d3270af035cd2f39ad1be2efad1a679f1029ae32"), looks := false }, kinds := [], alts := [], laidByText := true, laidKinds := [.data, .data], laidTests := true, laidLooks := .later }
def StoreRecoversCardSaid : Prop := Claim7.holds Tryd.pinned (.plain (OpenSpec.ofChange storeRecoversSpec)) storeRecoversCard

/-- THE TIED CARD OF 'cupellaw16.StoreLasts'. -/
def storeLastsCard : Claim7 := { stood := { row := storeLastsRow, standIns := [], harness := (true, "783ceb04f9c9e9e56c7cd792d3270af035cd2f39ad1be2efad1a679f1029ae32"), looks := false }, kinds := [], alts := [], laidByText := true, laidKinds := [.data, .data], laidTests := true, laidLooks := .later }
def StoreLastsCardSaid : Prop := Claim7.holds Tryd.pinned (.plain (OpenSpec.ofChange storeLastsSpec)) storeLastsCard

/-- THE TIED CARD OF 'cupellaw16.StoreOwn'. -/
def storeOwnCard : Claim7 := { stood := { row := storeOwnRow, standIns := [], harness := (true, "783ceb04f9c9e9e56c7cd792d3270af035cd2f39ad1be2efad1a679f1029ae32"), looks := false }, kinds := [], alts := [], laidByText := true, laidKinds := [.data, .data], laidTests := true, laidLooks := .later }
def StoreOwnCardSaid : Prop := Claim7.holds Tryd.pinned (.plain (OpenSpec.ofChange storeOwnSpec)) storeOwnCard

/-- THE SECOND FORM's CARD OF 'cupellaw16.StoreAny'. -/
def storeAnyUptoCard : Claim7 := { stood := { row := storeAnyUptoRow, standIns := [], harness := (true, "783ceb04f9c9e9e56c7cd792d3270af035cd2f39ad1be2efad1a679f1029ae32"), looks := false }, kinds := [], alts := [], laidByText := true, laidKinds := [.data, .data], laidTests := true, laidLooks := .later }
def StoreAnyUptoCardSaid : Prop := Claim7.holds Tryd.pinned (.plain (OpenSpec.upto storeAnySpec)) storeAnyUptoCard

/-- THE SECOND FORM's CARD OF 'cupellaw16.StoreApart'. -/
def storeApartUptoCard : Claim7 := { stood := { row := storeApartUptoRow, standIns := [], harness := (true, "783ceb04f9c9e9e56c7cd792d3270af035cd2f39ad1be2efad1a679f1029ae32"), looks := false }, kinds := [], alts := [], laidByText := true, laidKinds := [.data, .data], laidTests := true, laidLooks := .later }
def StoreApartUptoCardSaid : Prop := Claim7.holds Tryd.pinned (.plain (OpenSpec.upto storeApartSpec)) storeApartUptoCard

/-- THE SECOND FORM's CARD OF 'cupellaw16.StoreHolds'. -/
def storeHoldsUptoCard : Claim7 := { stood := { row := storeHoldsUptoRow, standIns := [], harness := (true, "783ceb04f9c9e9e56c7cd792d3270af035cd2f39ad1be2efad1a679f1029ae32"), looks := false }, kinds := [], alts := [], laidByText := true, laidKinds := [.data, .data], laidTests := true, laidLooks := .later }
def StoreHoldsUptoCardSaid : Prop := Claim7.holds Tryd.pinned (.plain (OpenSpec.upto storeHoldsSpec)) storeHoldsUptoCard

/-- THE SECOND FORM's CARD OF 'cupellaw16.StoreRecovers'. -/
def storeRecoversUptoCard : Claim7 := { stood := { row := storeRecoversUptoRow, standIns := [], harness := (true, "783ceb04f9c9e9e56c7cd792d3270af035cd2f39ad1be2efad1a679f1029ae32"), looks := false }, kinds := [], alts := [], laidByText := true, laidKinds := [.data, .data], laidTests := true, laidLooks := .later }
def StoreRecoversUptoCardSaid : Prop := Claim7.holds Tryd.pinned (.plain (OpenSpec.upto storeRecoversSpec)) storeRecoversUptoCard

/-- THE SECOND FORM's CARD OF 'cupellaw16.StoreLasts'. -/
def storeLastsUptoCard : Claim7 := { stood := { row := storeLastsUptoRow, standIns := [], harness := (true, "783ceb04f9c9e9e56c7cd792d3270af035cd2f39ad1be2efad1a679f1029ae32"), looks := false }, kinds := [], alts := [], laidByText := true, laidKinds := [.data, .data], laidTests := true, laidLooks := .later }
def StoreLastsUptoCardSaid : Prop := Claim7.holds Tryd.pinned (.plain (OpenSpec.upto storeLastsSpec)) storeLastsUptoCard

/-- THE SECOND FORM's CARD OF 'cupellaw16.StoreOwn'. -/
def storeOwnUptoCard : Claim7 := { stood := { row := storeOwnUptoRow, standIns := [], harness := (true, "783ceb04f9c9e9e56c7cd792d3270af035cd2f39ad1be2efad1a679f1029ae32"), looks := false }, kinds := [], alts := [], laidByText := true, laidKinds := [.data, .data], laidTests := true, laidLooks := .later }
def StoreOwnUptoCardSaid : Prop := Claim7.holds Tryd.pinned (.plain (OpenSpec.upto storeOwnSpec)) storeOwnUptoCard
end Rows
end Go.Proofs.YtpndobhakmjglaaDoor
