/-
  DERIVED. GIVEN WITH THE SEED: THE CARDS: each row of YtpdficnjjmapmaaDoorRRRRows.lean that lists a variable, with what it lists TIED to the program's text (the seventh form; the later family's looks); each row that meets fmt, with fmt's text TOLD by the authors' own Lean function (tested against real Go, not proved from fmt's source: count such statements apart). THE CARD IS WHAT COUNTS. Prove the row's statement (the work); the ties are given (YtpdficnjjmapmaaDoorRRRTie.lean); close each card by the builder's one call (the guide's Derived/Test/ToyasCard.lean, 'card_holds'). Laid BY PROGRAM, IN A SANDBOX (cutbox-door.mjs). By AI agents, Wed Nov 11 2026. No macro, syntax, notation, axiom, sorry.
-/
import Derived.Test.YtpdficnjjmapmaaDoorRRRRows
import GoSem.ClaimSeven
namespace Go.Proofs.YtpdficnjjmapmaaDoorRRR
namespace Rows

/-- THE TIED CARD OF 'cupellaw04.LamportSecrets'. -/
def lamportSecretsCard : Claim7 := { stood := { row := lamportSecretsRow, standIns := [], harness := (true, "7cf469c0d899fd6b0a453b8e942777059ec61b45ee547ed64facc86852491c22"), looks := false }, kinds := [], alts := [], laidByText := true, laidKinds := [.data, .data], laidTests := true, laidLooks := .later }
def LamportSecretsCardSaid : Prop := Claim7.holds Tryd.pinned (.plain (OpenSpec.ofChange lamportSecretsSpec)) lamportSecretsCard

/-- THE TIED CARD OF 'cupellaw04.LamportPublic'. -/
def lamportPublicCard : Claim7 := { stood := { row := lamportPublicRow, standIns := [], harness := (true, "7cf469c0d899fd6b0a453b8e942777059ec61b45ee547ed64facc86852491c22"), looks := false }, kinds := [], alts := [], laidByText := true, laidKinds := [.data, .data], laidTests := true, laidLooks := .later }
def LamportPublicCardSaid : Prop := Claim7.holds Tryd.pinned (.plain (OpenSpec.ofChange lamportPublicSpec)) lamportPublicCard

/-- THE TIED CARD OF 'cupellaw04.LamportSigns'. -/
def lamportSignsCard : Claim7 := { stood := { row := lamportSignsRow, standIns := [], harness := (true, "7cf469c0d899fd6b0a453b8e942777059ec61b45ee547ed64facc86852491c22"), looks := false }, kinds := [], alts := [], laidByText := true, laidKinds := [.data, .data], laidTests := true, laidLooks := .later }
def LamportSignsCardSaid : Prop := Claim7.holds Tryd.pinned (.plain (OpenSpec.ofChange lamportSignsSpec)) lamportSignsCard

/-- THE SECOND FORM's CARD OF 'cupellaw04.LamportSecrets'. -/
def lamportSecretsUptoCard : Claim7 := { stood := { row := lamportSecretsUptoRow, standIns := [], harness := (true, "7cf469c0d899fd6b0a453b8e942777059ec61b45ee547ed64facc86852491c22"), looks := false }, kinds := [], alts := [], laidByText := true, laidKinds := [.data, .data], laidTests := true, laidLooks := .later }
def LamportSecretsUptoCardSaid : Prop := Claim7.holds Tryd.pinned (.plain (OpenSpec.upto lamportSecretsSpec)) lamportSecretsUptoCard

/-- THE SECOND FORM's CARD OF 'cupellaw04.LamportPublic'. -/
def lamportPublicUptoCard : Claim7 := { stood := { row := lamportPublicUptoRow, standIns := [], harness := (true, "7cf469c0d899fd6b0a453b8e942777059ec61b45ee547ed64facc86852491c22"), looks := false }, kinds := [], alts := [], laidByText := true, laidKinds := [.data, .data], laidTests := true, laidLooks := .later }
def LamportPublicUptoCardSaid : Prop := Claim7.holds Tryd.pinned (.plain (OpenSpec.upto lamportPublicSpec)) lamportPublicUptoCard

/-- THE SECOND FORM's CARD OF 'cupellaw04.LamportSigns'. -/
def lamportSignsUptoCard : Claim7 := { stood := { row := lamportSignsUptoRow, standIns := [], harness := (true, "7cf469c0d899fd6b0a453b8e942777059ec61b45ee547ed64facc86852491c22"), looks := false }, kinds := [], alts := [], laidByText := true, laidKinds := [.data, .data], laidTests := true, laidLooks := .later }
def LamportSignsUptoCardSaid : Prop := Claim7.holds Tryd.pinned (.plain (OpenSpec.upto lamportSignsSpec)) lamportSignsUptoCard
end Rows
end Go.Proofs.YtpdficnjjmapmaaDoorRRR
