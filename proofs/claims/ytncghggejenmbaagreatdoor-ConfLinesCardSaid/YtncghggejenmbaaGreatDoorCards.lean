/-
  DERIVED. GIVEN WITH THE SEED: THE CARDS: each row of YtncghggejenmbaaGreatDoorRows.lean that lists a variable, with what it lists TIED to the program's text (the seventh form; the later family's looks); each row that meets fmt, with fmt's text TOLD by the authors' own Lean function (tested against real Go, not proved from fmt's source: count such statements apart). THE CARD IS WHAT COUNTS. Prove the row's statement (the work); the ties are given (YtncghggejenmbaaGreatDoorTie.lean); close each card by the builder's one call (the guide's Derived/Test/ToyasCard.lean, 'card_holds'). Laid BY PROGRAM, IN A SANDBOX (cutbox-door.mjs). By AI agents, Wed Nov 11 2026. No macro, syntax, notation, axiom, sorry.
-/
import Derived.Test.YtncghggejenmbaaGreatDoorRows
import GoSem.ClaimSeven
namespace Go.Proofs.YtncghggejenmbaaGreatDoor
namespace Rows

/-- THE TIED CARD OF 'vizardlaw27.ConfParses'. -/
def confParsesCard : Claim7 := { stood := { row := confParsesRow, standIns := [], harness := (true, "3aad8f989465259947605ef7559d37234743ae51aae79d452028d346e2efae46"), looks := true }, kinds := [], alts := [], laidByText := true, laidKinds := [.data, .data, .data, .data, .sentinel, .sentinel, .pinned], laidTests := true, laidLooks := .later }
def ConfParsesCardSaid : Prop := Claim7.holds Tryz.pinned (.plain (OpenSpec.ofChange confParsesSpec)) confParsesCard

/-- THE TIED CARD OF 'vizardlaw27.ConfLines'. -/
def confLinesCard : Claim7 := { stood := { row := confLinesRow, standIns := [], harness := (true, "3aad8f989465259947605ef7559d37234743ae51aae79d452028d346e2efae46"), looks := true }, kinds := [], alts := [], laidByText := true, laidKinds := [.data, .data, .data, .data, .sentinel, .sentinel, .pinned], laidTests := true, laidLooks := .later }
def ConfLinesCardSaid : Prop := Claim7.holds Tryz.pinned (.plain (OpenSpec.ofChange confLinesSpec)) confLinesCard

/-- THE TIED CARD OF 'vizardlaw27.ConfPlain'. -/
def confPlainCard : Claim7 := { stood := { row := confPlainRow, standIns := [], harness := (true, "3aad8f989465259947605ef7559d37234743ae51aae79d452028d346e2efae46"), looks := true }, kinds := [], alts := [], laidByText := true, laidKinds := [.data, .data, .data, .data, .sentinel, .sentinel, .pinned], laidTests := true, laidLooks := .later }
def ConfPlainCardSaid : Prop := Claim7.holds Tryz.pinned (.plain (OpenSpec.ofChange confPlainSpec)) confPlainCard

/-- THE SECOND FORM's CARD OF 'vizardlaw27.ConfParses'. -/
def confParsesUptoCard : Claim7 := { stood := { row := confParsesUptoRow, standIns := [], harness := (true, "3aad8f989465259947605ef7559d37234743ae51aae79d452028d346e2efae46"), looks := true }, kinds := [], alts := [], laidByText := true, laidKinds := [.data, .data, .data, .data, .sentinel, .sentinel, .pinned], laidTests := true, laidLooks := .later }
def ConfParsesUptoCardSaid : Prop := Claim7.holds Tryz.pinned (.plain (OpenSpec.upto confParsesSpec)) confParsesUptoCard

/-- THE SECOND FORM's CARD OF 'vizardlaw27.ConfLines'. -/
def confLinesUptoCard : Claim7 := { stood := { row := confLinesUptoRow, standIns := [], harness := (true, "3aad8f989465259947605ef7559d37234743ae51aae79d452028d346e2efae46"), looks := true }, kinds := [], alts := [], laidByText := true, laidKinds := [.data, .data, .data, .data, .sentinel, .sentinel, .pinned], laidTests := true, laidLooks := .later }
def ConfLinesUptoCardSaid : Prop := Claim7.holds Tryz.pinned (.plain (OpenSpec.upto confLinesSpec)) confLinesUptoCard

/-- THE SECOND FORM's CARD OF 'vizardlaw27.ConfPlain'. -/
def confPlainUptoCard : Claim7 := { stood := { row := confPlainUptoRow, standIns := [], harness := (true, "3aad8f989465259947605ef7559d37234743ae51aae79d452028d346e2efae46"), looks := true }, kinds := [], alts := [], laidByText := true, laidKinds := [.data, .data, .data, .data, .sentinel, .sentinel, .pinned], laidTests := true, laidLooks := .later }
def ConfPlainUptoCardSaid : Prop := Claim7.holds Tryz.pinned (.plain (OpenSpec.upto confPlainSpec)) confPlainUptoCard
end Rows
end Go.Proofs.YtncghggejenmbaaGreatDoor
