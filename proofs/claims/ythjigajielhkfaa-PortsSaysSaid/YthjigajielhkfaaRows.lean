/-
  No cell of these rows narrows 'for every input' (looked for: loops, veiled, ifaces, maps, wideKeys, modest, calm, conditions, laid).
  DERIVED. THE GIVEN ROWS OF THIS SEAT. 12 by the template 'for every input the law returns true; each argument reads behind the call as it read before'; 0 by the template 'total and deterministic' (their statements: YthjigajielhkfaaTotals.lean).
  GIVEN WITH THE SEED: the statements are not yours to turn. If you find one false, say at which input.
  Laid BY PROGRAM, IN A SANDBOX (cutbox-rows.mjs): the forced cells as the released guide's own fill.sh prints them over the translation cf1a76c5d04ee48e… (all of the seat's roots in one cut). By AI agents, Wed Nov 11 2026. No macro, syntax, notation, axiom, sorry.
-/
import Derived.Test.YthjigajielhkfaaChecked
import GoSem.Claim
import GoSem.ClaimJoined
import GoSem.ClaimMapViews
import Derived.JoinedTies
import Derived.KernelRfl
namespace Go.Proofs.Ythjigajielhkfaa
/- THE CELL 'sum', in the pinned program and in every row, IS THE sha256 OF THE DUMP (.gsa) THAT YthjigajielhkfaaProg.lean LOADS. Nothing in Lean hashes anything: it is a label: what it is worth is what the hold of that sum in a sandbox is worth. -/
noncomputable def Try.pinned : Pinned := { name := "ythjigajielhkfaa", sum := "cf1a76c5d04ee48e4235b55cd496ff3c90f40581a38199fb64086127ac0d72da", checked := Try.checked }
namespace Rows
def none {H : Type} : Left H := { results := [], args := [] }

/-- 'packetboatlaw.IpReads': WHATEVER THE INPUT: true; the input reads as it did. -/
def ipReadsSpec : ChangeSpec := { name := "ipReads", fn := fun _ => fun
  | [d1, d2, d3, d4, d5] => { results := [.lit (.bool true)], args := [d1, d2, d3, d4, d5] }
  | _ => none }
def ipReadsRow : OpenClaim := { program := "ythjigajielhkfaa", sum := "cf1a76c5d04ee48e4235b55cd496ff3c90f40581a38199fb64086127ac0d72da", func := "packetboat/packetboatlaw.IpReads", spec := "ipReads", recurses := true, plainKeys := false, apart := false }
def IpReadsSaid : Prop := ipReadsRow.holds Try.pinned (OpenSpec.ofChange ipReadsSpec)

/-- ITS FALSE NEIGHBOUR: 'it returns false'. Refute it at one input. -/
def ipReadsWrong : ChangeSpec := { name := "ipReads", fn := fun _ => fun
  | [d1, d2, d3, d4, d5] => { results := [.lit (.bool false)], args := [d1, d2, d3, d4, d5] }
  | _ => none }
def IpReadsWrongFalsely : Prop := ipReadsRow.holds Try.pinned (OpenSpec.ofChange ipReadsWrong)

/-- 'packetboatlaw.TcpWrites': WHATEVER THE INPUT: true; the input reads as it did. -/
def tcpWritesSpec : ChangeSpec := { name := "tcpWrites", fn := fun _ => fun
  | [d] => { results := [.lit (.bool true)], args := [d] }
  | _ => none }
def tcpWritesRow : OpenClaim := { program := "ythjigajielhkfaa", sum := "cf1a76c5d04ee48e4235b55cd496ff3c90f40581a38199fb64086127ac0d72da", func := "packetboat/packetboatlaw.TcpWrites", spec := "tcpWrites", recurses := true, plainKeys := false, apart := false }
def TcpWritesSaid : Prop := tcpWritesRow.holds Try.pinned (OpenSpec.ofChange tcpWritesSpec)

/-- ITS FALSE NEIGHBOUR: 'it returns false'. Refute it at one input. -/
def tcpWritesWrong : ChangeSpec := { name := "tcpWrites", fn := fun _ => fun
  | [d] => { results := [.lit (.bool false)], args := [d] }
  | _ => none }
def TcpWritesWrongFalsely : Prop := tcpWritesRow.holds Try.pinned (OpenSpec.ofChange tcpWritesWrong)

/-- 'packetboatlaw.OutqSays': WHATEVER THE INPUT: true; the input reads as it did. -/
def outqSaysSpec : ChangeSpec := { name := "outqSays", fn := fun _ => fun
  | [d] => { results := [.lit (.bool true)], args := [d] }
  | _ => none }
def outqSaysRow : OpenClaim := { program := "ythjigajielhkfaa", sum := "cf1a76c5d04ee48e4235b55cd496ff3c90f40581a38199fb64086127ac0d72da", func := "packetboat/packetboatlaw.OutqSays", spec := "outqSays", plainKeys := false, apart := false }
def OutqSaysSaid : Prop := outqSaysRow.holds Try.pinned (OpenSpec.ofChange outqSaysSpec)

/-- ITS FALSE NEIGHBOUR: 'it returns false'. Refute it at one input. -/
def outqSaysWrong : ChangeSpec := { name := "outqSays", fn := fun _ => fun
  | [d] => { results := [.lit (.bool false)], args := [d] }
  | _ => none }
def OutqSaysWrongFalsely : Prop := outqSaysRow.holds Try.pinned (OpenSpec.ofChange outqSaysWrong)

/-- 'packetboatlaw.InqSays': WHATEVER THE INPUT: true; the input reads as it did. -/
def inqSaysSpec : ChangeSpec := { name := "inqSays", fn := fun _ => fun
  | [d] => { results := [.lit (.bool true)], args := [d] }
  | _ => none }
def inqSaysRow : OpenClaim := { program := "ythjigajielhkfaa", sum := "cf1a76c5d04ee48e4235b55cd496ff3c90f40581a38199fb64086127ac0d72da", func := "packetboat/packetboatlaw.InqSays", spec := "inqSays", plainKeys := false, apart := false }
def InqSaysSaid : Prop := inqSaysRow.holds Try.pinned (OpenSpec.ofChange inqSaysSpec)

/-- ITS FALSE NEIGHBOUR: 'it returns false'. Refute it at one input. -/
def inqSaysWrong : ChangeSpec := { name := "inqSays", fn := fun _ => fun
  | [d] => { results := [.lit (.bool false)], args := [d] }
  | _ => none }
def InqSaysWrongFalsely : Prop := inqSaysRow.holds Try.pinned (OpenSpec.ofChange inqSaysWrong)

/-- 'packetboatlaw.ListenSays': WHATEVER THE INPUT: true; the input reads as it did. -/
def listenSaysSpec : ChangeSpec := { name := "listenSays", fn := fun _ => fun
  | [d1, d2] => { results := [.lit (.bool true)], args := [d1, d2] }
  | _ => none }
def listenSaysRow : OpenClaim := { program := "ythjigajielhkfaa", sum := "cf1a76c5d04ee48e4235b55cd496ff3c90f40581a38199fb64086127ac0d72da", func := "packetboat/packetboatlaw.ListenSays", spec := "listenSays", unfollowed := true, recurses := true, plainKeys := false, apart := false }
def ListenSaysSaid : Prop := listenSaysRow.holds Try.pinned (OpenSpec.ofChange listenSaysSpec)

/-- ITS FALSE NEIGHBOUR: 'it returns false'. Refute it at one input. -/
def listenSaysWrong : ChangeSpec := { name := "listenSays", fn := fun _ => fun
  | [d1, d2] => { results := [.lit (.bool false)], args := [d1, d2] }
  | _ => none }
def ListenSaysWrongFalsely : Prop := listenSaysRow.holds Try.pinned (OpenSpec.ofChange listenSaysWrong)

/-- 'packetboatlaw.PollSays': WHATEVER THE INPUT: true; the input reads as it did. -/
def pollSaysSpec : ChangeSpec := { name := "pollSays", fn := fun _ => fun
  | [d] => { results := [.lit (.bool true)], args := [d] }
  | _ => none }
def pollSaysRow : OpenClaim := { program := "ythjigajielhkfaa", sum := "cf1a76c5d04ee48e4235b55cd496ff3c90f40581a38199fb64086127ac0d72da", func := "packetboat/packetboatlaw.PollSays", spec := "pollSays", unfollowed := true, recurses := true, plainKeys := false, apart := false }
def PollSaysSaid : Prop := pollSaysRow.holds Try.pinned (OpenSpec.ofChange pollSaysSpec)

/-- ITS FALSE NEIGHBOUR: 'it returns false'. Refute it at one input. -/
def pollSaysWrong : ChangeSpec := { name := "pollSays", fn := fun _ => fun
  | [d] => { results := [.lit (.bool false)], args := [d] }
  | _ => none }
def PollSaysWrongFalsely : Prop := pollSaysRow.holds Try.pinned (OpenSpec.ofChange pollSaysWrong)

/-- 'packetboatlaw.DgramSays': WHATEVER THE INPUT: true; the input reads as it did. -/
def dgramSaysSpec : ChangeSpec := { name := "dgramSays", fn := fun _ => fun
  | [d] => { results := [.lit (.bool true)], args := [d] }
  | _ => none }
def dgramSaysRow : OpenClaim := { program := "ythjigajielhkfaa", sum := "cf1a76c5d04ee48e4235b55cd496ff3c90f40581a38199fb64086127ac0d72da", func := "packetboat/packetboatlaw.DgramSays", spec := "dgramSays", plainKeys := false, apart := false }
def DgramSaysSaid : Prop := dgramSaysRow.holds Try.pinned (OpenSpec.ofChange dgramSaysSpec)

/-- ITS FALSE NEIGHBOUR: 'it returns false'. Refute it at one input. -/
def dgramSaysWrong : ChangeSpec := { name := "dgramSays", fn := fun _ => fun
  | [d] => { results := [.lit (.bool false)], args := [d] }
  | _ => none }
def DgramSaysWrongFalsely : Prop := dgramSaysRow.holds Try.pinned (OpenSpec.ofChange dgramSaysWrong)

/-- 'packetboatlaw.FragSplits': WHATEVER THE INPUT: true; the input reads as it did. -/
def fragSplitsSpec : ChangeSpec := { name := "fragSplits", fn := fun _ => fun
  | [d1, d2] => { results := [.lit (.bool true)], args := [d1, d2] }
  | _ => none }
def fragSplitsRow : OpenClaim := { program := "ythjigajielhkfaa", sum := "cf1a76c5d04ee48e4235b55cd496ff3c90f40581a38199fb64086127ac0d72da", func := "packetboat/packetboatlaw.FragSplits", spec := "fragSplits", plainKeys := false, apart := false }
def FragSplitsSaid : Prop := fragSplitsRow.holds Try.pinned (OpenSpec.ofChange fragSplitsSpec)

/-- ITS FALSE NEIGHBOUR: 'it returns false'. Refute it at one input. -/
def fragSplitsWrong : ChangeSpec := { name := "fragSplits", fn := fun _ => fun
  | [d1, d2] => { results := [.lit (.bool false)], args := [d1, d2] }
  | _ => none }
def FragSplitsWrongFalsely : Prop := fragSplitsRow.holds Try.pinned (OpenSpec.ofChange fragSplitsWrong)

/-- 'packetboatlaw.FragSays': WHATEVER THE INPUT: true; the input reads as it did. -/
def fragSaysSpec : ChangeSpec := { name := "fragSays", fn := fun _ => fun
  | [d] => { results := [.lit (.bool true)], args := [d] }
  | _ => none }
def fragSaysRow : OpenClaim := { program := "ythjigajielhkfaa", sum := "cf1a76c5d04ee48e4235b55cd496ff3c90f40581a38199fb64086127ac0d72da", func := "packetboat/packetboatlaw.FragSays", spec := "fragSays", unfollowed := true, recurses := true, plainKeys := false, apart := false }
def FragSaysSaid : Prop := fragSaysRow.holds Try.pinned (OpenSpec.ofChange fragSaysSpec)

/-- ITS FALSE NEIGHBOUR: 'it returns false'. Refute it at one input. -/
def fragSaysWrong : ChangeSpec := { name := "fragSays", fn := fun _ => fun
  | [d] => { results := [.lit (.bool false)], args := [d] }
  | _ => none }
def FragSaysWrongFalsely : Prop := fragSaysRow.holds Try.pinned (OpenSpec.ofChange fragSaysWrong)

/-- 'packetboatlaw.RouteSays': WHATEVER THE INPUT: true; the input reads as it did. -/
def routeSaysSpec : ChangeSpec := { name := "routeSays", fn := fun _ => fun
  | [d1, d2] => { results := [.lit (.bool true)], args := [d1, d2] }
  | _ => none }
def routeSaysRow : OpenClaim := { program := "ythjigajielhkfaa", sum := "cf1a76c5d04ee48e4235b55cd496ff3c90f40581a38199fb64086127ac0d72da", func := "packetboat/packetboatlaw.RouteSays", spec := "routeSays", unfollowed := true, recurses := true, plainKeys := false, apart := false }
def RouteSaysSaid : Prop := routeSaysRow.holds Try.pinned (OpenSpec.ofChange routeSaysSpec)

/-- ITS FALSE NEIGHBOUR: 'it returns false'. Refute it at one input. -/
def routeSaysWrong : ChangeSpec := { name := "routeSays", fn := fun _ => fun
  | [d1, d2] => { results := [.lit (.bool false)], args := [d1, d2] }
  | _ => none }
def RouteSaysWrongFalsely : Prop := routeSaysRow.holds Try.pinned (OpenSpec.ofChange routeSaysWrong)

/-- 'packetboatlaw.TcpReads': WHATEVER THE INPUT: true; the input reads as it did. -/
def tcpReadsSpec : ChangeSpec := { name := "tcpReads", fn := fun _ => fun
  | [d1, d2, d3] => { results := [.lit (.bool true)], args := [d1, d2, d3] }
  | _ => none }
def tcpReadsRow : OpenClaim := { program := "ythjigajielhkfaa", sum := "cf1a76c5d04ee48e4235b55cd496ff3c90f40581a38199fb64086127ac0d72da", func := "packetboat/packetboatlaw.TcpReads", spec := "tcpReads", recurses := true, plainKeys := false, apart := false }
def TcpReadsSaid : Prop := tcpReadsRow.holds Try.pinned (OpenSpec.ofChange tcpReadsSpec)

/-- ITS FALSE NEIGHBOUR: 'it returns false'. Refute it at one input. -/
def tcpReadsWrong : ChangeSpec := { name := "tcpReads", fn := fun _ => fun
  | [d1, d2, d3] => { results := [.lit (.bool false)], args := [d1, d2, d3] }
  | _ => none }
def TcpReadsWrongFalsely : Prop := tcpReadsRow.holds Try.pinned (OpenSpec.ofChange tcpReadsWrong)

/-- 'packetboatlaw.PortsSays': WHATEVER THE INPUT: true; the input reads as it did. -/
def portsSaysSpec : ChangeSpec := { name := "portsSays", fn := fun _ => fun
  | [d] => { results := [.lit (.bool true)], args := [d] }
  | _ => none }
def portsSaysRow : OpenClaim := { program := "ythjigajielhkfaa", sum := "cf1a76c5d04ee48e4235b55cd496ff3c90f40581a38199fb64086127ac0d72da", func := "packetboat/packetboatlaw.PortsSays", spec := "portsSays", unfollowed := true, recurses := true, plainKeys := false, apart := false }
def PortsSaysSaid : Prop := portsSaysRow.holds Try.pinned (OpenSpec.ofChange portsSaysSpec)

/-- ITS FALSE NEIGHBOUR: 'it returns false'. Refute it at one input. -/
def portsSaysWrong : ChangeSpec := { name := "portsSays", fn := fun _ => fun
  | [d] => { results := [.lit (.bool false)], args := [d] }
  | _ => none }
def PortsSaysWrongFalsely : Prop := portsSaysRow.holds Try.pinned (OpenSpec.ofChange portsSaysWrong)

/- THE SECOND FORM. 'bulk': how many values and letters a reading holds, each counted each time it is reached (what is shared counts as often as it is met; a slice's spare places count too). A statement '..UptoSaid' is the law's where the arguments, and the package variables that the reading takes, are together of bulk at most 1048576: NARROWER than '..Said'. Prove '..Said' where nothing that the law and all that it calls make is longer than what came in: it says more and counts as full. Else prove '..UptoSaid'. A law counts once. -/
mutual
def uptoBulk {H : Type} : DataW H → Nat
  | .lit (.string bytes) => bytes.length + 1
  | .lit _ => 1
  | .nil => 1
  | .ptr d => uptoBulk d + 1
  | .slice elems spare => uptoBulkAll elems + uptoBulkAll spare + 1
  | .agg parts => uptoBulkAll parts + 1
  | .iface _ d => uptoBulk d + 1
  | .map entries => uptoBulkEntries entries + 1
  | .held _ => 1
def uptoBulkAll {H : Type} : List (DataW H) → Nat
  | [] => 0
  | d :: r => uptoBulk d + uptoBulkAll r
def uptoBulkEntries {H : Type} : List (Lit × DataW H) → Nat
  | [] => 0
  | x :: r => uptoBulkEntry x + uptoBulkEntries r
def uptoBulkEntry {H : Type} : Lit × DataW H → Nat
  | (.string bytes, d) => bytes.length + uptoBulk d + 1
  | (_, d) => uptoBulk d + 1
 end
def uptoSmall : (H : Type) → List (DataW H) → Bool := fun _ ds => decide (uptoBulkAll ds ≤ 1048576)
def OpenSpec.upto (s : _root_.Go.ChangeSpec) : _root_.Go.OpenSpec := { _root_.Go.OpenSpec.ofChange s with cond := some uptoSmall }

/-- 'packetboatlaw.IpReads', WHERE WHAT IT READS IS OF BULK AT MOST 1048576: true; the input reads as it did. -/
def ipReadsUptoRow : OpenClaim := { program := "ythjigajielhkfaa", sum := "cf1a76c5d04ee48e4235b55cd496ff3c90f40581a38199fb64086127ac0d72da", func := "packetboat/packetboatlaw.IpReads", spec := "ipReads", recurses := true, plainKeys := false, apart := false, narrowed := true }
def IpReadsUptoSaid : Prop := ipReadsUptoRow.holds Try.pinned (OpenSpec.upto ipReadsSpec)

/-- 'packetboatlaw.TcpWrites', WHERE WHAT IT READS IS OF BULK AT MOST 1048576: true; the input reads as it did. -/
def tcpWritesUptoRow : OpenClaim := { program := "ythjigajielhkfaa", sum := "cf1a76c5d04ee48e4235b55cd496ff3c90f40581a38199fb64086127ac0d72da", func := "packetboat/packetboatlaw.TcpWrites", spec := "tcpWrites", recurses := true, plainKeys := false, apart := false, narrowed := true }
def TcpWritesUptoSaid : Prop := tcpWritesUptoRow.holds Try.pinned (OpenSpec.upto tcpWritesSpec)

/-- 'packetboatlaw.OutqSays', WHERE WHAT IT READS IS OF BULK AT MOST 1048576: true; the input reads as it did. -/
def outqSaysUptoRow : OpenClaim := { program := "ythjigajielhkfaa", sum := "cf1a76c5d04ee48e4235b55cd496ff3c90f40581a38199fb64086127ac0d72da", func := "packetboat/packetboatlaw.OutqSays", spec := "outqSays", plainKeys := false, apart := false, narrowed := true }
def OutqSaysUptoSaid : Prop := outqSaysUptoRow.holds Try.pinned (OpenSpec.upto outqSaysSpec)

/-- 'packetboatlaw.InqSays', WHERE WHAT IT READS IS OF BULK AT MOST 1048576: true; the input reads as it did. -/
def inqSaysUptoRow : OpenClaim := { program := "ythjigajielhkfaa", sum := "cf1a76c5d04ee48e4235b55cd496ff3c90f40581a38199fb64086127ac0d72da", func := "packetboat/packetboatlaw.InqSays", spec := "inqSays", plainKeys := false, apart := false, narrowed := true }
def InqSaysUptoSaid : Prop := inqSaysUptoRow.holds Try.pinned (OpenSpec.upto inqSaysSpec)

/-- 'packetboatlaw.ListenSays', WHERE WHAT IT READS IS OF BULK AT MOST 1048576: true; the input reads as it did. -/
def listenSaysUptoRow : OpenClaim := { program := "ythjigajielhkfaa", sum := "cf1a76c5d04ee48e4235b55cd496ff3c90f40581a38199fb64086127ac0d72da", func := "packetboat/packetboatlaw.ListenSays", spec := "listenSays", unfollowed := true, recurses := true, plainKeys := false, apart := false, narrowed := true }
def ListenSaysUptoSaid : Prop := listenSaysUptoRow.holds Try.pinned (OpenSpec.upto listenSaysSpec)

/-- 'packetboatlaw.PollSays', WHERE WHAT IT READS IS OF BULK AT MOST 1048576: true; the input reads as it did. -/
def pollSaysUptoRow : OpenClaim := { program := "ythjigajielhkfaa", sum := "cf1a76c5d04ee48e4235b55cd496ff3c90f40581a38199fb64086127ac0d72da", func := "packetboat/packetboatlaw.PollSays", spec := "pollSays", unfollowed := true, recurses := true, plainKeys := false, apart := false, narrowed := true }
def PollSaysUptoSaid : Prop := pollSaysUptoRow.holds Try.pinned (OpenSpec.upto pollSaysSpec)

/-- 'packetboatlaw.DgramSays', WHERE WHAT IT READS IS OF BULK AT MOST 1048576: true; the input reads as it did. -/
def dgramSaysUptoRow : OpenClaim := { program := "ythjigajielhkfaa", sum := "cf1a76c5d04ee48e4235b55cd496ff3c90f40581a38199fb64086127ac0d72da", func := "packetboat/packetboatlaw.DgramSays", spec := "dgramSays", plainKeys := false, apart := false, narrowed := true }
def DgramSaysUptoSaid : Prop := dgramSaysUptoRow.holds Try.pinned (OpenSpec.upto dgramSaysSpec)

/-- 'packetboatlaw.FragSplits', WHERE WHAT IT READS IS OF BULK AT MOST 1048576: true; the input reads as it did. -/
def fragSplitsUptoRow : OpenClaim := { program := "ythjigajielhkfaa", sum := "cf1a76c5d04ee48e4235b55cd496ff3c90f40581a38199fb64086127ac0d72da", func := "packetboat/packetboatlaw.FragSplits", spec := "fragSplits", plainKeys := false, apart := false, narrowed := true }
def FragSplitsUptoSaid : Prop := fragSplitsUptoRow.holds Try.pinned (OpenSpec.upto fragSplitsSpec)

/-- 'packetboatlaw.FragSays', WHERE WHAT IT READS IS OF BULK AT MOST 1048576: true; the input reads as it did. -/
def fragSaysUptoRow : OpenClaim := { program := "ythjigajielhkfaa", sum := "cf1a76c5d04ee48e4235b55cd496ff3c90f40581a38199fb64086127ac0d72da", func := "packetboat/packetboatlaw.FragSays", spec := "fragSays", unfollowed := true, recurses := true, plainKeys := false, apart := false, narrowed := true }
def FragSaysUptoSaid : Prop := fragSaysUptoRow.holds Try.pinned (OpenSpec.upto fragSaysSpec)

/-- 'packetboatlaw.RouteSays', WHERE WHAT IT READS IS OF BULK AT MOST 1048576: true; the input reads as it did. -/
def routeSaysUptoRow : OpenClaim := { program := "ythjigajielhkfaa", sum := "cf1a76c5d04ee48e4235b55cd496ff3c90f40581a38199fb64086127ac0d72da", func := "packetboat/packetboatlaw.RouteSays", spec := "routeSays", unfollowed := true, recurses := true, plainKeys := false, apart := false, narrowed := true }
def RouteSaysUptoSaid : Prop := routeSaysUptoRow.holds Try.pinned (OpenSpec.upto routeSaysSpec)

/-- 'packetboatlaw.TcpReads', WHERE WHAT IT READS IS OF BULK AT MOST 1048576: true; the input reads as it did. -/
def tcpReadsUptoRow : OpenClaim := { program := "ythjigajielhkfaa", sum := "cf1a76c5d04ee48e4235b55cd496ff3c90f40581a38199fb64086127ac0d72da", func := "packetboat/packetboatlaw.TcpReads", spec := "tcpReads", recurses := true, plainKeys := false, apart := false, narrowed := true }
def TcpReadsUptoSaid : Prop := tcpReadsUptoRow.holds Try.pinned (OpenSpec.upto tcpReadsSpec)

/-- 'packetboatlaw.PortsSays', WHERE WHAT IT READS IS OF BULK AT MOST 1048576: true; the input reads as it did. -/
def portsSaysUptoRow : OpenClaim := { program := "ythjigajielhkfaa", sum := "cf1a76c5d04ee48e4235b55cd496ff3c90f40581a38199fb64086127ac0d72da", func := "packetboat/packetboatlaw.PortsSays", spec := "portsSays", unfollowed := true, recurses := true, plainKeys := false, apart := false, narrowed := true }
def PortsSaysUptoSaid : Prop := portsSaysUptoRow.holds Try.pinned (OpenSpec.upto portsSaysSpec)

end Rows
end Go.Proofs.Ythjigajielhkfaa
