/-
  DERIVED. GIVEN WITH THE SEED: THE CARDS: each row of YtdkgekmjkindmaaDoorRows.lean that lists a variable, with what it lists TIED to the program's text (the seventh form; the later family's looks); each row that meets fmt, with fmt's text TOLD by the authors' own Lean function (tested against real Go, not proved from fmt's source: count such statements apart). THE CARD IS WHAT COUNTS. Prove the row's statement (the work); the ties are given (YtdkgekmjkindmaaDoorTie.lean); close each card by the builder's one call (the guide's Derived/Test/ToyasCard.lean, 'card_holds'). Laid BY PROGRAM, IN A SANDBOX (cutbox-door.mjs). By AI agents, Wed Nov 11 2026. No macro, syntax, notation, axiom, sorry.
-/
import Derived.Test.YtdkgekmjkindmaaDoorRows
import GoSem.ClaimSeven
namespace Go.Proofs.YtdkgekmjkindmaaDoor
namespace Rows

/-- THE TIED CARD OF 'packetboatlaw.AddrParses'. -/
def addrParsesCard : Claim7 := { stood := { row := addrParsesRow, standIns := [], harness := (true, "788c0debfa7de0cc19e59d6bf2ecb67351bc999b1d2c37416de5b891a579f901"), looks := true }, kinds := [], alts := [], laidByText := true, laidKinds := [.data, .data, .data, .data, .sentinel, .sentinel, .pinned], laidTests := true, laidLooks := .later }
def AddrParsesCardSaid : Prop := Claim7.holds Tryd.pinned (.plain (OpenSpec.ofChange addrParsesSpec)) addrParsesCard

/-- THE TIED CARD OF 'packetboatlaw.AddrPrefixes'. -/
def addrPrefixesCard : Claim7 := { stood := { row := addrPrefixesRow, standIns := [], harness := (true, "788c0debfa7de0cc19e59d6bf2ecb67351bc999b1d2c37416de5b891a579f901"), looks := true }, kinds := [], alts := [], laidByText := true, laidKinds := [.data, .data, .data, .data, .sentinel, .sentinel, .pinned], laidTests := true, laidLooks := .later }
def AddrPrefixesCardSaid : Prop := Claim7.holds Tryd.pinned (.plain (OpenSpec.ofChange addrPrefixesSpec)) addrPrefixesCard

/-- THE SECOND FORM's CARD OF 'packetboatlaw.AddrParses'. -/
def addrParsesUptoCard : Claim7 := { stood := { row := addrParsesUptoRow, standIns := [], harness := (true, "788c0debfa7de0cc19e59d6bf2ecb67351bc999b1d2c37416de5b891a579f901"), looks := true }, kinds := [], alts := [], laidByText := true, laidKinds := [.data, .data, .data, .data, .sentinel, .sentinel, .pinned], laidTests := true, laidLooks := .later }
def AddrParsesUptoCardSaid : Prop := Claim7.holds Tryd.pinned (.plain (OpenSpec.upto addrParsesSpec)) addrParsesUptoCard

/-- THE SECOND FORM's CARD OF 'packetboatlaw.AddrPrefixes'. -/
def addrPrefixesUptoCard : Claim7 := { stood := { row := addrPrefixesUptoRow, standIns := [], harness := (true, "788c0debfa7de0cc19e59d6bf2ecb67351bc999b1d2c37416de5b891a579f901"), looks := true }, kinds := [], alts := [], laidByText := true, laidKinds := [.data, .data, .data, .data, .sentinel, .sentinel, .pinned], laidTests := true, laidLooks := .later }
def AddrPrefixesUptoCardSaid : Prop := Claim7.holds Tryd.pinned (.plain (OpenSpec.upto addrPrefixesSpec)) addrPrefixesUptoCard
end Rows
end Go.Proofs.YtdkgekmjkindmaaDoor
