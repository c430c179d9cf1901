/-
  DERIVED. GIVEN WITH THE SEED: THE CARDS: each row of YtagdnjhkoajbnaaDoorRows.lean that lists a variable, with what it lists TIED to the program's text (the seventh form; the later family's looks); each row that meets fmt, with fmt's text TOLD by the authors' own Lean function (tested against real Go, not proved from fmt's source: count such statements apart). THE CARD IS WHAT COUNTS. Prove the row's statement (the work); the ties are given (YtagdnjhkoajbnaaDoorTie.lean); close each card by the builder's one call (the guide's Derived/Test/ToyasCard.lean, 'card_holds'). Laid BY PROGRAM, IN A SANDBOX (cutbox-door.mjs). By AI agents, Wed Nov 11 2026. No macro, syntax, notation, axiom, sorry.
-/
import Derived.Test.YtagdnjhkoajbnaaDoorRows
import GoSem.ClaimSeven
namespace Go.Proofs.YtagdnjhkoajbnaaDoor
namespace Rows

/-- THE TIED CARD OF 'packetboatlaw.AddrCovers'. -/
def addrCoversCard : Claim7 := { stood := { row := addrCoversRow, standIns := [], harness := (true, "194afceb590709297b6a60f2298913b6f3d15e8473dc7ef7160dc8b101bf13b6"), looks := false }, kinds := [], alts := [], laidByText := true, laidKinds := [.data], laidTests := true, laidLooks := .later }
def AddrCoversCardSaid : Prop := Claim7.holds Tryd.pinned (.plain (OpenSpec.ofChange addrCoversSpec)) addrCoversCard

/-- THE SECOND FORM's CARD OF 'packetboatlaw.AddrCovers'. -/
def addrCoversUptoCard : Claim7 := { stood := { row := addrCoversUptoRow, standIns := [], harness := (true, "194afceb590709297b6a60f2298913b6f3d15e8473dc7ef7160dc8b101bf13b6"), looks := false }, kinds := [], alts := [], laidByText := true, laidKinds := [.data], laidTests := true, laidLooks := .later }
def AddrCoversUptoCardSaid : Prop := Claim7.holds Tryd.pinned (.plain (OpenSpec.upto addrCoversSpec)) addrCoversUptoCard
end Rows
end Go.Proofs.YtagdnjhkoajbnaaDoor
