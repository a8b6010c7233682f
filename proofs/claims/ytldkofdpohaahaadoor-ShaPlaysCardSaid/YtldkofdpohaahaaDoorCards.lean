/-
  DERIVED. GIVEN WITH THE SEED: THE CARDS: each row of YtldkofdpohaahaaDoorRows.lean that lists a variable, with what it lists TIED to the program's text (the seventh form; the later family's looks); each row that meets fmt, with fmt's text TOLD by the authors' own Lean function (tested against real Go, not proved from fmt's source: count such statements apart). THE CARD IS WHAT COUNTS. Prove the row's statement (the work); the ties are given (YtldkofdpohaahaaDoorTie.lean); close each card by the builder's one call (the guide's Derived/Test/ToyasCard.lean, 'card_holds'). Laid BY PROGRAM, IN A SANDBOX (cutbox-door.mjs). By AI agents, Wed Nov 11 2026. No macro, syntax, notation, axiom, sorry.
-/
import Derived.Test.YtldkofdpohaahaaDoorRows
import GoSem.ClaimSeven
namespace Go.Proofs.YtldkofdpohaahaaDoor
namespace Rows

/-- THE TIED CARD OF 'alibilaw02.ShaPlays'. -/
def shaPlaysCard : Claim7 := { stood := { row := shaPlaysRow, standIns := [], harness := (true, "f09e901c64de856aa6b793c92b54a1b4361823f8590a43f6a0fbb9f12288395b"), looks := false }, kinds := [], alts := [], laidByText := true, laidKinds := [.data], laidTests := true, laidLooks := .later }
def ShaPlaysCardSaid : Prop := Claim7.holds Tryd.pinned (.plain (OpenSpec.ofChange shaPlaysSpec)) shaPlaysCard

/-- THE TIED CARD OF 'alibilaw02.ShaParts'. -/
def shaPartsCard : Claim7 := { stood := { row := shaPartsRow, standIns := [], harness := (true, "f09e901c64de856aa6b793c92b54a1b4361823f8590a43f6a0fbb9f12288395b"), looks := false }, kinds := [], alts := [], laidByText := true, laidKinds := [.data], laidTests := true, laidLooks := .later }
def ShaPartsCardSaid : Prop := Claim7.holds Tryd.pinned (.plain (OpenSpec.ofChange shaPartsSpec)) shaPartsCard

/-- THE TIED CARD OF 'alibilaw02.ShaKeeps'. -/
def shaKeepsCard : Claim7 := { stood := { row := shaKeepsRow, standIns := [], harness := (true, "f09e901c64de856aa6b793c92b54a1b4361823f8590a43f6a0fbb9f12288395b"), looks := false }, kinds := [], alts := [], laidByText := true, laidKinds := [.data], laidTests := true, laidLooks := .later }
def ShaKeepsCardSaid : Prop := Claim7.holds Tryd.pinned (.plain (OpenSpec.ofChange shaKeepsSpec)) shaKeepsCard

/-- THE TIED CARD OF 'alibilaw02.ShaApart'. -/
def shaApartCard : Claim7 := { stood := { row := shaApartRow, standIns := [], harness := (true, "f09e901c64de856aa6b793c92b54a1b4361823f8590a43f6a0fbb9f12288395b"), looks := false }, kinds := [], alts := [], laidByText := true, laidKinds := [.data], laidTests := true, laidLooks := .later }
def ShaApartCardSaid : Prop := Claim7.holds Tryd.pinned (.plain (OpenSpec.ofChange shaApartSpec)) shaApartCard

/-- THE SECOND FORM's CARD OF 'alibilaw02.ShaPlays'. -/
def shaPlaysUptoCard : Claim7 := { stood := { row := shaPlaysUptoRow, standIns := [], harness := (true, "f09e901c64de856aa6b793c92b54a1b4361823f8590a43f6a0fbb9f12288395b"), looks := false }, kinds := [], alts := [], laidByText := true, laidKinds := [.data], laidTests := true, laidLooks := .later }
def ShaPlaysUptoCardSaid : Prop := Claim7.holds Tryd.pinned (.plain (OpenSpec.upto shaPlaysSpec)) shaPlaysUptoCard

/-- THE SECOND FORM's CARD OF 'alibilaw02.ShaParts'. -/
def shaPartsUptoCard : Claim7 := { stood := { row := shaPartsUptoRow, standIns := [], harness := (true, "f09e901c64de856aa6b793c92b54a1b4361823f8590a43f6a0fbb9f12288395b"), looks := false }, kinds := [], alts := [], laidByText := true, laidKinds := [.data], laidTests := true, laidLooks := .later }
def ShaPartsUptoCardSaid : Prop := Claim7.holds Tryd.pinned (.plain (OpenSpec.upto shaPartsSpec)) shaPartsUptoCard

/-- THE SECOND FORM's CARD OF 'alibilaw02.ShaKeeps'. -/
def shaKeepsUptoCard : Claim7 := { stood := { row := shaKeepsUptoRow, standIns := [], harness := (true, "f09e901c64de856aa6b793c92b54a1b4361823f8590a43f6a0fbb9f12288395b"), looks := false }, kinds := [], alts := [], laidByText := true, laidKinds := [.data], laidTests := true, laidLooks := .later }
def ShaKeepsUptoCardSaid : Prop := Claim7.holds Tryd.pinned (.plain (OpenSpec.upto shaKeepsSpec)) shaKeepsUptoCard

/-- THE SECOND FORM's CARD OF 'alibilaw02.ShaApart'. -/
def shaApartUptoCard : Claim7 := { stood := { row := shaApartUptoRow, standIns := [], harness := (true, "f09e901c64de856aa6b793c92b54a1b4361823f8590a43f6a0fbb9f12288395b"), looks := false }, kinds := [], alts := [], laidByText := true, laidKinds := [.data], laidTests := true, laidLooks := .later }
def ShaApartUptoCardSaid : Prop := Claim7.holds Tryd.pinned (.plain (OpenSpec.upto shaApartSpec)) shaApartUptoCard
end Rows
end Go.Proofs.YtldkofdpohaahaaDoor
