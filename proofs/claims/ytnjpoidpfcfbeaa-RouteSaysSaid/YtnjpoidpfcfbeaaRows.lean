/-
  No cell of these rows narrows 'for every input' (looked for: loops, veiled, ifaces, maps, wideKeys, modest, calm, conditions, laid).
  DERIVED. THE GIVEN ROWS OF THIS SEAT. 5 by the template 'for every input the law returns true; each argument reads behind the call as it read before'; 0 by the template 'total and deterministic' (their statements: YtnjpoidpfcfbeaaTotals.lean).
  GIVEN WITH THE SEED: the statements are not yours to turn. If you find one false, say at which input.
  Laid BY PROGRAM, IN A SANDBOX (cutbox-rows.mjs): the forced cells as the released guide's own fill.sh prints them over the translation 7339088d15920634… (all of the seat's roots in one cut). By AI agents, Wed Nov 11 2026. No macro, syntax, notation, axiom, sorry.
-/
import Derived.Test.YtnjpoidpfcfbeaaChecked
import GoSem.Claim
import GoSem.ClaimJoined
import GoSem.ClaimMapViews
import Derived.JoinedTies
import Derived.KernelRfl
namespace Go.Proofs.Ytnjpoidpfcfbeaa
/- THE CELL 'sum', in the pinned program and in every row, IS THE sha256 OF THE DUMP (.gsa) THAT YtnjpoidpfcfbeaaProg.lean LOADS. Nothing in Lean hashes anything: it is a label: what it is worth is what the hold of that sum in a sandbox is worth. -/
noncomputable def Try.pinned : Pinned := { name := "ytnjpoidpfcfbeaa", sum := "7339088d1592063450f0a69ac909c5f5186855f562a9ef4c825ca80540a1d109", checked := Try.checked }
namespace Rows
def none {H : Type} : Left H := { results := [], args := [] }

/-- 'packetboatlaw.InqSays': WHATEVER THE INPUT: true; the input reads as it did. -/
def inqSaysSpec : ChangeSpec := { name := "inqSays", fn := fun _ => fun
  | [d] => { results := [.lit (.bool true)], args := [d] }
  | _ => none }
def inqSaysRow : OpenClaim := { program := "ytnjpoidpfcfbeaa", sum := "7339088d1592063450f0a69ac909c5f5186855f562a9ef4c825ca80540a1d109", func := "packetboat/packetboatlaw.InqSays", spec := "inqSays", plainKeys := false, apart := false }
def InqSaysSaid : Prop := inqSaysRow.holds Try.pinned (OpenSpec.ofChange inqSaysSpec)

/-- ITS FALSE NEIGHBOUR: 'it returns false'. Refute it at one input. -/
def inqSaysWrong : ChangeSpec := { name := "inqSays", fn := fun _ => fun
  | [d] => { results := [.lit (.bool false)], args := [d] }
  | _ => none }
def InqSaysWrongFalsely : Prop := inqSaysRow.holds Try.pinned (OpenSpec.ofChange inqSaysWrong)

/-- 'packetboatlaw.ListenSays': WHATEVER THE INPUT: true; the input reads as it did. -/
def listenSaysSpec : ChangeSpec := { name := "listenSays", fn := fun _ => fun
  | [d1, d2] => { results := [.lit (.bool true)], args := [d1, d2] }
  | _ => none }
def listenSaysRow : OpenClaim := { program := "ytnjpoidpfcfbeaa", sum := "7339088d1592063450f0a69ac909c5f5186855f562a9ef4c825ca80540a1d109", func := "packetboat/packetboatlaw.ListenSays", spec := "listenSays", unfollowed := true, recurses := true, plainKeys := false, apart := false }
def ListenSaysSaid : Prop := listenSaysRow.holds Try.pinned (OpenSpec.ofChange listenSaysSpec)

/-- ITS FALSE NEIGHBOUR: 'it returns false'. Refute it at one input. -/
def listenSaysWrong : ChangeSpec := { name := "listenSays", fn := fun _ => fun
  | [d1, d2] => { results := [.lit (.bool false)], args := [d1, d2] }
  | _ => none }
def ListenSaysWrongFalsely : Prop := listenSaysRow.holds Try.pinned (OpenSpec.ofChange listenSaysWrong)

/-- 'packetboatlaw.PollSays': WHATEVER THE INPUT: true; the input reads as it did. -/
def pollSaysSpec : ChangeSpec := { name := "pollSays", fn := fun _ => fun
  | [d] => { results := [.lit (.bool true)], args := [d] }
  | _ => none }
def pollSaysRow : OpenClaim := { program := "ytnjpoidpfcfbeaa", sum := "7339088d1592063450f0a69ac909c5f5186855f562a9ef4c825ca80540a1d109", func := "packetboat/packetboatlaw.PollSays", spec := "pollSays", unfollowed := true, recurses := true, plainKeys := false, apart := false }
def PollSaysSaid : Prop := pollSaysRow.holds Try.pinned (OpenSpec.ofChange pollSaysSpec)

/-- ITS FALSE NEIGHBOUR: 'it returns false'. Refute it at one input. -/
def pollSaysWrong : ChangeSpec := { name := "pollSays", fn := fun _ => fun
  | [d] => { results := [.lit (.bool false)], args := [d] }
  | _ => none }
def PollSaysWrongFalsely : Prop := pollSaysRow.holds Try.pinned (OpenSpec.ofChange pollSaysWrong)

/-- 'packetboatlaw.FragSays': WHATEVER THE INPUT: true; the input reads as it did. -/
def fragSaysSpec : ChangeSpec := { name := "fragSays", fn := fun _ => fun
  | [d] => { results := [.lit (.bool true)], args := [d] }
  | _ => none }
def fragSaysRow : OpenClaim := { program := "ytnjpoidpfcfbeaa", sum := "7339088d1592063450f0a69ac909c5f5186855f562a9ef4c825ca80540a1d109", func := "packetboat/packetboatlaw.FragSays", spec := "fragSays", unfollowed := true, recurses := true, plainKeys := false, apart := false }
def FragSaysSaid : Prop := fragSaysRow.holds Try.pinned (OpenSpec.ofChange fragSaysSpec)

/-- ITS FALSE NEIGHBOUR: 'it returns false'. Refute it at one input. -/
def fragSaysWrong : ChangeSpec := { name := "fragSays", fn := fun _ => fun
  | [d] => { results := [.lit (.bool false)], args := [d] }
  | _ => none }
def FragSaysWrongFalsely : Prop := fragSaysRow.holds Try.pinned (OpenSpec.ofChange fragSaysWrong)

/-- 'packetboatlaw.RouteSays': WHATEVER THE INPUT: true; the input reads as it did. -/
def routeSaysSpec : ChangeSpec := { name := "routeSays", fn := fun _ => fun
  | [d1, d2] => { results := [.lit (.bool true)], args := [d1, d2] }
  | _ => none }
def routeSaysRow : OpenClaim := { program := "ytnjpoidpfcfbeaa", sum := "7339088d1592063450f0a69ac909c5f5186855f562a9ef4c825ca80540a1d109", func := "packetboat/packetboatlaw.RouteSays", spec := "routeSays", unfollowed := true, recurses := true, plainKeys := false, apart := false }
def RouteSaysSaid : Prop := routeSaysRow.holds Try.pinned (OpenSpec.ofChange routeSaysSpec)

/-- ITS FALSE NEIGHBOUR: 'it returns false'. Refute it at one input. -/
def routeSaysWrong : ChangeSpec := { name := "routeSays", fn := fun _ => fun
  | [d1, d2] => { results := [.lit (.bool false)], args := [d1, d2] }
  | _ => none }
def RouteSaysWrongFalsely : Prop := routeSaysRow.holds Try.pinned (OpenSpec.ofChange routeSaysWrong)

/- THE SECOND FORM. 'bulk': how many values and letters a reading holds, each counted each time it is reached (what is shared counts as often as it is met; a slice's spare places count too). A statement '..UptoSaid' is the law's where the arguments, and the package variables that the reading takes, are together of bulk at most 1048576: NARROWER than '..Said'. Prove '..Said' where nothing that the law and all that it calls make is longer than what came in: it says more and counts as full. Else prove '..UptoSaid'. A law counts once. -/
mutual
def uptoBulk {H : Type} : DataW H → Nat
  | .lit (.string bytes) => bytes.length + 1
  | .lit _ => 1
  | .nil => 1
  | .ptr d => uptoBulk d + 1
  | .slice elems spare => uptoBulkAll elems + uptoBulkAll spare + 1
  | .agg parts => uptoBulkAll parts + 1
  | .iface _ d => uptoBulk d + 1
  | .map entries => uptoBulkEntries entries + 1
  | .held _ => 1
def uptoBulkAll {H : Type} : List (DataW H) → Nat
  | [] => 0
  | d :: r => uptoBulk d + uptoBulkAll r
def uptoBulkEntries {H : Type} : List (Lit × DataW H) → Nat
  | [] => 0
  | x :: r => uptoBulkEntry x + uptoBulkEntries r
def uptoBulkEntry {H : Type} : Lit × DataW H → Nat
  | (.string bytes, d) => bytes.length + uptoBulk d + 1
  | (_, d) => uptoBulk d + 1
 end
def uptoSmall : (H : Type) → List (DataW H) → Bool := fun _ ds => decide (uptoBulkAll ds ≤ 1048576)
def OpenSpec.upto (s : _root_.Go.ChangeSpec) : _root_.Go.OpenSpec := { _root_.Go.OpenSpec.ofChange s with cond := some uptoSmall }

/-- 'packetboatlaw.InqSays', WHERE WHAT IT READS IS OF BULK AT MOST 1048576: true; the input reads as it did. -/
def inqSaysUptoRow : OpenClaim := { program := "ytnjpoidpfcfbeaa", sum := "7339088d1592063450f0a69ac909c5f5186855f562a9ef4c825ca80540a1d109", func := "packetboat/packetboatlaw.InqSays", spec := "inqSays", plainKeys := false, apart := false, narrowed := true }
def InqSaysUptoSaid : Prop := inqSaysUptoRow.holds Try.pinned (OpenSpec.upto inqSaysSpec)

/-- 'packetboatlaw.ListenSays', WHERE WHAT IT READS IS OF BULK AT MOST 1048576: true; the input reads as it did. -/
def listenSaysUptoRow : OpenClaim := { program := "ytnjpoidpfcfbeaa", sum := "7339088d1592063450f0a69ac909c5f5186855f562a9ef4c825ca80540a1d109", func := "packetboat/packetboatlaw.ListenSays", spec := "listenSays", unfollowed := true, recurses := true, plainKeys := false, apart := false, narrowed := true }
def ListenSaysUptoSaid : Prop := listenSaysUptoRow.holds Try.pinned (OpenSpec.upto listenSaysSpec)

/-- 'packetboatlaw.PollSays', WHERE WHAT IT READS IS OF BULK AT MOST 1048576: true; the input reads as it did. -/
def pollSaysUptoRow : OpenClaim := { program := "ytnjpoidpfcfbeaa", sum := "7339088d1592063450f0a69ac909c5f5186855f562a9ef4c825ca80540a1d109", func := "packetboat/packetboatlaw.PollSays", spec := "pollSays", unfollowed := true, recurses := true, plainKeys := false, apart := false, narrowed := true }
def PollSaysUptoSaid : Prop := pollSaysUptoRow.holds Try.pinned (OpenSpec.upto pollSaysSpec)

/-- 'packetboatlaw.FragSays', WHERE WHAT IT READS IS OF BULK AT MOST 1048576: true; the input reads as it did. -/
def fragSaysUptoRow : OpenClaim := { program := "ytnjpoidpfcfbeaa", sum := "7339088d1592063450f0a69ac909c5f5186855f562a9ef4c825ca80540a1d109", func := "packetboat/packetboatlaw.FragSays", spec := "fragSays", unfollowed := true, recurses := true, plainKeys := false, apart := false, narrowed := true }
def FragSaysUptoSaid : Prop := fragSaysUptoRow.holds Try.pinned (OpenSpec.upto fragSaysSpec)

/-- 'packetboatlaw.RouteSays', WHERE WHAT IT READS IS OF BULK AT MOST 1048576: true; the input reads as it did. -/
def routeSaysUptoRow : OpenClaim := { program := "ytnjpoidpfcfbeaa", sum := "7339088d1592063450f0a69ac909c5f5186855f562a9ef4c825ca80540a1d109", func := "packetboat/packetboatlaw.RouteSays", spec := "routeSays", unfollowed := true, recurses := true, plainKeys := false, apart := false, narrowed := true }
def RouteSaysUptoSaid : Prop := routeSaysUptoRow.holds Try.pinned (OpenSpec.upto routeSaysSpec)

end Rows
end Go.Proofs.Ytnjpoidpfcfbeaa
