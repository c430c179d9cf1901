/-
  No cell of these rows narrows 'for every input' (looked for: loops, veiled, ifaces, maps, wideKeys, modest, calm, conditions, laid).
  DERIVED. THE GIVEN ROWS OF THIS SEAT. 12 by the template 'for every input the law returns true; each argument reads behind the call as it read before'; 0 by the template 'total and deterministic' (their statements: YtmbjinfeinhalaaTotals.lean).
  GIVEN WITH THE SEED: the statements are not yours to turn. If you find one false, say at which input.
  Laid BY PROGRAM, IN A SANDBOX (cutbox-rows.mjs): the forced cells as the released guide's own fill.sh prints them over the translation 6ae398e179cfa6d1… (all of the seat's roots in one cut). By AI agents, Wed Nov 11 2026. No macro, syntax, notation, axiom, sorry.
-/
import Derived.Test.YtmbjinfeinhalaaChecked
import GoSem.Claim
import GoSem.ClaimJoined
import GoSem.ClaimMapViews
import Derived.JoinedTies
import Derived.KernelRfl
namespace Go.Proofs.Ytmbjinfeinhalaa
/- THE CELL 'sum', in the pinned program and in every row, IS THE sha256 OF THE DUMP (.gsa) THAT YtmbjinfeinhalaaProg.lean LOADS. Nothing in Lean hashes anything: it is a label: what it is worth is what the hold of that sum in a sandbox is worth. -/
noncomputable def Try.pinned : Pinned := { name := "ytmbjinfeinhalaa", sum := "6ae398e179cfa6d1e34fbac00dff378412a61aa447675f0dd27c7829f2c1bbd6", checked := Try.checked }
namespace Rows
def none {H : Type} : Left H := { results := [], args := [] }

/-- 'packetboatlaw.IpWrites': WHATEVER THE INPUT: true; the input reads as it did. -/
def ipWritesSpec : ChangeSpec := { name := "ipWrites", fn := fun _ => fun
  | [d] => { results := [.lit (.bool true)], args := [d] }
  | _ => none }
def ipWritesRow : OpenClaim := { program := "ytmbjinfeinhalaa", sum := "6ae398e179cfa6d1e34fbac00dff378412a61aa447675f0dd27c7829f2c1bbd6", func := "packetboat/packetboatlaw.IpWrites", spec := "ipWrites", recurses := true, plainKeys := false, apart := false }
def IpWritesSaid : Prop := ipWritesRow.holds Try.pinned (OpenSpec.ofChange ipWritesSpec)

/-- ITS FALSE NEIGHBOUR: 'it returns false'. Refute it at one input. -/
def ipWritesWrong : ChangeSpec := { name := "ipWrites", fn := fun _ => fun
  | [d] => { results := [.lit (.bool false)], args := [d] }
  | _ => none }
def IpWritesWrongFalsely : Prop := ipWritesRow.holds Try.pinned (OpenSpec.ofChange ipWritesWrong)

/-- 'packetboatlaw.UdpWrites': WHATEVER THE INPUT: true; the input reads as it did. -/
def udpWritesSpec : ChangeSpec := { name := "udpWrites", fn := fun _ => fun
  | [d] => { results := [.lit (.bool true)], args := [d] }
  | _ => none }
def udpWritesRow : OpenClaim := { program := "ytmbjinfeinhalaa", sum := "6ae398e179cfa6d1e34fbac00dff378412a61aa447675f0dd27c7829f2c1bbd6", func := "packetboat/packetboatlaw.UdpWrites", spec := "udpWrites", recurses := true, plainKeys := false, apart := false }
def UdpWritesSaid : Prop := udpWritesRow.holds Try.pinned (OpenSpec.ofChange udpWritesSpec)

/-- ITS FALSE NEIGHBOUR: 'it returns false'. Refute it at one input. -/
def udpWritesWrong : ChangeSpec := { name := "udpWrites", fn := fun _ => fun
  | [d] => { results := [.lit (.bool false)], args := [d] }
  | _ => none }
def UdpWritesWrongFalsely : Prop := udpWritesRow.holds Try.pinned (OpenSpec.ofChange udpWritesWrong)

/-- 'packetboatlaw.InqSays': WHATEVER THE INPUT: true; the input reads as it did. -/
def inqSaysSpec : ChangeSpec := { name := "inqSays", fn := fun _ => fun
  | [d] => { results := [.lit (.bool true)], args := [d] }
  | _ => none }
def inqSaysRow : OpenClaim := { program := "ytmbjinfeinhalaa", sum := "6ae398e179cfa6d1e34fbac00dff378412a61aa447675f0dd27c7829f2c1bbd6", func := "packetboat/packetboatlaw.InqSays", spec := "inqSays", plainKeys := false, apart := false }
def InqSaysSaid : Prop := inqSaysRow.holds Try.pinned (OpenSpec.ofChange inqSaysSpec)

/-- ITS FALSE NEIGHBOUR: 'it returns false'. Refute it at one input. -/
def inqSaysWrong : ChangeSpec := { name := "inqSays", fn := fun _ => fun
  | [d] => { results := [.lit (.bool false)], args := [d] }
  | _ => none }
def InqSaysWrongFalsely : Prop := inqSaysRow.holds Try.pinned (OpenSpec.ofChange inqSaysWrong)

/-- 'packetboatlaw.HashPairs': WHATEVER THE INPUT: true; the input reads as it did. -/
def hashPairsSpec : ChangeSpec := { name := "hashPairs", fn := fun _ => fun
  | [d1, d2, d3, d4] => { results := [.lit (.bool true)], args := [d1, d2, d3, d4] }
  | _ => none }
def hashPairsRow : OpenClaim := { program := "ytmbjinfeinhalaa", sum := "6ae398e179cfa6d1e34fbac00dff378412a61aa447675f0dd27c7829f2c1bbd6", func := "packetboat/packetboatlaw.HashPairs", spec := "hashPairs", unfollowed := true, recurses := true, plainKeys := false, apart := false }
def HashPairsSaid : Prop := hashPairsRow.holds Try.pinned (OpenSpec.ofChange hashPairsSpec)

/-- ITS FALSE NEIGHBOUR: 'it returns false'. Refute it at one input. -/
def hashPairsWrong : ChangeSpec := { name := "hashPairs", fn := fun _ => fun
  | [d1, d2, d3, d4] => { results := [.lit (.bool false)], args := [d1, d2, d3, d4] }
  | _ => none }
def HashPairsWrongFalsely : Prop := hashPairsRow.holds Try.pinned (OpenSpec.ofChange hashPairsWrong)

/-- 'packetboatlaw.UdpReads': WHATEVER THE INPUT: true; the input reads as it did. -/
def udpReadsSpec : ChangeSpec := { name := "udpReads", fn := fun _ => fun
  | [d1, d2, d3] => { results := [.lit (.bool true)], args := [d1, d2, d3] }
  | _ => none }
def udpReadsRow : OpenClaim := { program := "ytmbjinfeinhalaa", sum := "6ae398e179cfa6d1e34fbac00dff378412a61aa447675f0dd27c7829f2c1bbd6", func := "packetboat/packetboatlaw.UdpReads", spec := "udpReads", recurses := true, plainKeys := false, apart := false }
def UdpReadsSaid : Prop := udpReadsRow.holds Try.pinned (OpenSpec.ofChange udpReadsSpec)

/-- ITS FALSE NEIGHBOUR: 'it returns false'. Refute it at one input. -/
def udpReadsWrong : ChangeSpec := { name := "udpReads", fn := fun _ => fun
  | [d1, d2, d3] => { results := [.lit (.bool false)], args := [d1, d2, d3] }
  | _ => none }
def UdpReadsWrongFalsely : Prop := udpReadsRow.holds Try.pinned (OpenSpec.ofChange udpReadsWrong)

/-- 'packetboatlaw.ListenSays': WHATEVER THE INPUT: true; the input reads as it did. -/
def listenSaysSpec : ChangeSpec := { name := "listenSays", fn := fun _ => fun
  | [d1, d2] => { results := [.lit (.bool true)], args := [d1, d2] }
  | _ => none }
def listenSaysRow : OpenClaim := { program := "ytmbjinfeinhalaa", sum := "6ae398e179cfa6d1e34fbac00dff378412a61aa447675f0dd27c7829f2c1bbd6", func := "packetboat/packetboatlaw.ListenSays", spec := "listenSays", unfollowed := true, recurses := true, plainKeys := false, apart := false }
def ListenSaysSaid : Prop := listenSaysRow.holds Try.pinned (OpenSpec.ofChange listenSaysSpec)

/-- ITS FALSE NEIGHBOUR: 'it returns false'. Refute it at one input. -/
def listenSaysWrong : ChangeSpec := { name := "listenSays", fn := fun _ => fun
  | [d1, d2] => { results := [.lit (.bool false)], args := [d1, d2] }
  | _ => none }
def ListenSaysWrongFalsely : Prop := listenSaysRow.holds Try.pinned (OpenSpec.ofChange listenSaysWrong)

/-- 'packetboatlaw.OutqSays': WHATEVER THE INPUT: true; the input reads as it did. -/
def outqSaysSpec : ChangeSpec := { name := "outqSays", fn := fun _ => fun
  | [d] => { results := [.lit (.bool true)], args := [d] }
  | _ => none }
def outqSaysRow : OpenClaim := { program := "ytmbjinfeinhalaa", sum := "6ae398e179cfa6d1e34fbac00dff378412a61aa447675f0dd27c7829f2c1bbd6", func := "packetboat/packetboatlaw.OutqSays", spec := "outqSays", plainKeys := false, apart := false }
def OutqSaysSaid : Prop := outqSaysRow.holds Try.pinned (OpenSpec.ofChange outqSaysSpec)

/-- ITS FALSE NEIGHBOUR: 'it returns false'. Refute it at one input. -/
def outqSaysWrong : ChangeSpec := { name := "outqSays", fn := fun _ => fun
  | [d] => { results := [.lit (.bool false)], args := [d] }
  | _ => none }
def OutqSaysWrongFalsely : Prop := outqSaysRow.holds Try.pinned (OpenSpec.ofChange outqSaysWrong)

/-- 'packetboatlaw.IpReads': WHATEVER THE INPUT: true; the input reads as it did. -/
def ipReadsSpec : ChangeSpec := { name := "ipReads", fn := fun _ => fun
  | [d1, d2, d3, d4, d5] => { results := [.lit (.bool true)], args := [d1, d2, d3, d4, d5] }
  | _ => none }
def ipReadsRow : OpenClaim := { program := "ytmbjinfeinhalaa", sum := "6ae398e179cfa6d1e34fbac00dff378412a61aa447675f0dd27c7829f2c1bbd6", func := "packetboat/packetboatlaw.IpReads", spec := "ipReads", recurses := true, plainKeys := false, apart := false }
def IpReadsSaid : Prop := ipReadsRow.holds Try.pinned (OpenSpec.ofChange ipReadsSpec)

/-- ITS FALSE NEIGHBOUR: 'it returns false'. Refute it at one input. -/
def ipReadsWrong : ChangeSpec := { name := "ipReads", fn := fun _ => fun
  | [d1, d2, d3, d4, d5] => { results := [.lit (.bool false)], args := [d1, d2, d3, d4, d5] }
  | _ => none }
def IpReadsWrongFalsely : Prop := ipReadsRow.holds Try.pinned (OpenSpec.ofChange ipReadsWrong)

/-- 'packetboatlaw.CookieMakes': WHATEVER THE INPUT: true; the input reads as it did. -/
def cookieMakesSpec : ChangeSpec := { name := "cookieMakes", fn := fun _ => fun
  | [d1, d2, d3, d4, d5, d6, d7] => { results := [.lit (.bool true)], args := [d1, d2, d3, d4, d5, d6, d7] }
  | _ => none }
def cookieMakesRow : OpenClaim := { program := "ytmbjinfeinhalaa", sum := "6ae398e179cfa6d1e34fbac00dff378412a61aa447675f0dd27c7829f2c1bbd6", func := "packetboat/packetboatlaw.CookieMakes", spec := "cookieMakes", unfollowed := true, recurses := true, plainKeys := false, apart := false }
def CookieMakesSaid : Prop := cookieMakesRow.holds Try.pinned (OpenSpec.ofChange cookieMakesSpec)

/-- ITS FALSE NEIGHBOUR: 'it returns false'. Refute it at one input. -/
def cookieMakesWrong : ChangeSpec := { name := "cookieMakes", fn := fun _ => fun
  | [d1, d2, d3, d4, d5, d6, d7] => { results := [.lit (.bool false)], args := [d1, d2, d3, d4, d5, d6, d7] }
  | _ => none }
def CookieMakesWrongFalsely : Prop := cookieMakesRow.holds Try.pinned (OpenSpec.ofChange cookieMakesWrong)

/-- 'packetboatlaw.PollSays': WHATEVER THE INPUT: true; the input reads as it did. -/
def pollSaysSpec : ChangeSpec := { name := "pollSays", fn := fun _ => fun
  | [d] => { results := [.lit (.bool true)], args := [d] }
  | _ => none }
def pollSaysRow : OpenClaim := { program := "ytmbjinfeinhalaa", sum := "6ae398e179cfa6d1e34fbac00dff378412a61aa447675f0dd27c7829f2c1bbd6", func := "packetboat/packetboatlaw.PollSays", spec := "pollSays", unfollowed := true, recurses := true, plainKeys := false, apart := false }
def PollSaysSaid : Prop := pollSaysRow.holds Try.pinned (OpenSpec.ofChange pollSaysSpec)

/-- ITS FALSE NEIGHBOUR: 'it returns false'. Refute it at one input. -/
def pollSaysWrong : ChangeSpec := { name := "pollSays", fn := fun _ => fun
  | [d] => { results := [.lit (.bool false)], args := [d] }
  | _ => none }
def PollSaysWrongFalsely : Prop := pollSaysRow.holds Try.pinned (OpenSpec.ofChange pollSaysWrong)

/-- 'packetboatlaw.CookieChecks': WHATEVER THE INPUT: true; the input reads as it did. -/
def cookieChecksSpec : ChangeSpec := { name := "cookieChecks", fn := fun _ => fun
  | [d1, d2, d3, d4, d5, d6, d7] => { results := [.lit (.bool true)], args := [d1, d2, d3, d4, d5, d6, d7] }
  | _ => none }
def cookieChecksRow : OpenClaim := { program := "ytmbjinfeinhalaa", sum := "6ae398e179cfa6d1e34fbac00dff378412a61aa447675f0dd27c7829f2c1bbd6", func := "packetboat/packetboatlaw.CookieChecks", spec := "cookieChecks", unfollowed := true, recurses := true, plainKeys := false, apart := false }
def CookieChecksSaid : Prop := cookieChecksRow.holds Try.pinned (OpenSpec.ofChange cookieChecksSpec)

/-- ITS FALSE NEIGHBOUR: 'it returns false'. Refute it at one input. -/
def cookieChecksWrong : ChangeSpec := { name := "cookieChecks", fn := fun _ => fun
  | [d1, d2, d3, d4, d5, d6, d7] => { results := [.lit (.bool false)], args := [d1, d2, d3, d4, d5, d6, d7] }
  | _ => none }
def CookieChecksWrongFalsely : Prop := cookieChecksRow.holds Try.pinned (OpenSpec.ofChange cookieChecksWrong)

/-- 'packetboatlaw.TcpWrites': WHATEVER THE INPUT: true; the input reads as it did. -/
def tcpWritesSpec : ChangeSpec := { name := "tcpWrites", fn := fun _ => fun
  | [d] => { results := [.lit (.bool true)], args := [d] }
  | _ => none }
def tcpWritesRow : OpenClaim := { program := "ytmbjinfeinhalaa", sum := "6ae398e179cfa6d1e34fbac00dff378412a61aa447675f0dd27c7829f2c1bbd6", func := "packetboat/packetboatlaw.TcpWrites", spec := "tcpWrites", recurses := true, plainKeys := false, apart := false }
def TcpWritesSaid : Prop := tcpWritesRow.holds Try.pinned (OpenSpec.ofChange tcpWritesSpec)

/-- ITS FALSE NEIGHBOUR: 'it returns false'. Refute it at one input. -/
def tcpWritesWrong : ChangeSpec := { name := "tcpWrites", fn := fun _ => fun
  | [d] => { results := [.lit (.bool false)], args := [d] }
  | _ => none }
def TcpWritesWrongFalsely : Prop := tcpWritesRow.holds Try.pinned (OpenSpec.ofChange tcpWritesWrong)

/- THE SECOND FORM. 'bulk': how many values and letters a reading holds, each counted each time it is reached (what is shared counts as often as it is met; a slice's spare places count too). A statement '..UptoSaid' is the law's where the arguments, and the package variables that the reading takes, are together of bulk at most 1048576: NARROWER than '..Said'. Prove '..Said' where nothing that the law and all that it calls make is longer than what came in: it says more and counts as full. Else prove '..UptoSaid'. A law counts once. -/
mutual
def uptoBulk {H : Type} : DataW H → Nat
  | .lit (.string bytes) => bytes.length + 1
  | .lit _ => 1
  | .nil => 1
  | .ptr d => uptoBulk d + 1
  | .slice elems spare => uptoBulkAll elems + uptoBulkAll spare + 1
  | .agg parts => uptoBulkAll parts + 1
  | .iface _ d => uptoBulk d + 1
  | .map entries => uptoBulkEntries entries + 1
  | .held _ => 1
def uptoBulkAll {H : Type} : List (DataW H) → Nat
  | [] => 0
  | d :: r => uptoBulk d + uptoBulkAll r
def uptoBulkEntries {H : Type} : List (Lit × DataW H) → Nat
  | [] => 0
  | x :: r => uptoBulkEntry x + uptoBulkEntries r
def uptoBulkEntry {H : Type} : Lit × DataW H → Nat
  | (.string bytes, d) => bytes.length + uptoBulk d + 1
  | (_, d) => uptoBulk d + 1
 end
def uptoSmall : (H : Type) → List (DataW H) → Bool := fun _ ds => decide (uptoBulkAll ds ≤ 1048576)
def OpenSpec.upto (s : _root_.Go.ChangeSpec) : _root_.Go.OpenSpec := { _root_.Go.OpenSpec.ofChange s with cond := some uptoSmall }

/-- 'packetboatlaw.IpWrites', WHERE WHAT IT READS IS OF BULK AT MOST 1048576: true; the input reads as it did. -/
def ipWritesUptoRow : OpenClaim := { program := "ytmbjinfeinhalaa", sum := "6ae398e179cfa6d1e34fbac00dff378412a61aa447675f0dd27c7829f2c1bbd6", func := "packetboat/packetboatlaw.IpWrites", spec := "ipWrites", recurses := true, plainKeys := false, apart := false, narrowed := true }
def IpWritesUptoSaid : Prop := ipWritesUptoRow.holds Try.pinned (OpenSpec.upto ipWritesSpec)

/-- 'packetboatlaw.UdpWrites', WHERE WHAT IT READS IS OF BULK AT MOST 1048576: true; the input reads as it did. -/
def udpWritesUptoRow : OpenClaim := { program := "ytmbjinfeinhalaa", sum := "6ae398e179cfa6d1e34fbac00dff378412a61aa447675f0dd27c7829f2c1bbd6", func := "packetboat/packetboatlaw.UdpWrites", spec := "udpWrites", recurses := true, plainKeys := false, apart := false, narrowed := true }
def UdpWritesUptoSaid : Prop := udpWritesUptoRow.holds Try.pinned (OpenSpec.upto udpWritesSpec)

/-- 'packetboatlaw.InqSays', WHERE WHAT IT READS IS OF BULK AT MOST 1048576: true; the input reads as it did. -/
def inqSaysUptoRow : OpenClaim := { program := "ytmbjinfeinhalaa", sum := "6ae398e179cfa6d1e34fbac00dff378412a61aa447675f0dd27c7829f2c1bbd6", func := "packetboat/packetboatlaw.InqSays", spec := "inqSays", plainKeys := false, apart := false, narrowed := true }
def InqSaysUptoSaid : Prop := inqSaysUptoRow.holds Try.pinned (OpenSpec.upto inqSaysSpec)

/-- 'packetboatlaw.HashPairs', WHERE WHAT IT READS IS OF BULK AT MOST 1048576: true; the input reads as it did. -/
def hashPairsUptoRow : OpenClaim := { program := "ytmbjinfeinhalaa", sum := "6ae398e179cfa6d1e34fbac00dff378412a61aa447675f0dd27c7829f2c1bbd6", func := "packetboat/packetboatlaw.HashPairs", spec := "hashPairs", unfollowed := true, recurses := true, plainKeys := false, apart := false, narrowed := true }
def HashPairsUptoSaid : Prop := hashPairsUptoRow.holds Try.pinned (OpenSpec.upto hashPairsSpec)

/-- 'packetboatlaw.UdpReads', WHERE WHAT IT READS IS OF BULK AT MOST 1048576: true; the input reads as it did. -/
def udpReadsUptoRow : OpenClaim := { program := "ytmbjinfeinhalaa", sum := "6ae398e179cfa6d1e34fbac00dff378412a61aa447675f0dd27c7829f2c1bbd6", func := "packetboat/packetboatlaw.UdpReads", spec := "udpReads", recurses := true, plainKeys := false, apart := false, narrowed := true }
def UdpReadsUptoSaid : Prop := udpReadsUptoRow.holds Try.pinned (OpenSpec.upto udpReadsSpec)

/-- 'packetboatlaw.ListenSays', WHERE WHAT IT READS IS OF BULK AT MOST 1048576: true; the input reads as it did. -/
def listenSaysUptoRow : OpenClaim := { program := "ytmbjinfeinhalaa", sum := "6ae398e179cfa6d1e34fbac00dff378412a61aa447675f0dd27c7829f2c1bbd6", func := "packetboat/packetboatlaw.ListenSays", spec := "listenSays", unfollowed := true, recurses := true, plainKeys := false, apart := false, narrowed := true }
def ListenSaysUptoSaid : Prop := listenSaysUptoRow.holds Try.pinned (OpenSpec.upto listenSaysSpec)

/-- 'packetboatlaw.OutqSays', WHERE WHAT IT READS IS OF BULK AT MOST 1048576: true; the input reads as it did. -/
def outqSaysUptoRow : OpenClaim := { program := "ytmbjinfeinhalaa", sum := "6ae398e179cfa6d1e34fbac00dff378412a61aa447675f0dd27c7829f2c1bbd6", func := "packetboat/packetboatlaw.OutqSays", spec := "outqSays", plainKeys := false, apart := false, narrowed := true }
def OutqSaysUptoSaid : Prop := outqSaysUptoRow.holds Try.pinned (OpenSpec.upto outqSaysSpec)

/-- 'packetboatlaw.IpReads', WHERE WHAT IT READS IS OF BULK AT MOST 1048576: true; the input reads as it did. -/
def ipReadsUptoRow : OpenClaim := { program := "ytmbjinfeinhalaa", sum := "6ae398e179cfa6d1e34fbac00dff378412a61aa447675f0dd27c7829f2c1bbd6", func := "packetboat/packetboatlaw.IpReads", spec := "ipReads", recurses := true, plainKeys := false, apart := false, narrowed := true }
def IpReadsUptoSaid : Prop := ipReadsUptoRow.holds Try.pinned (OpenSpec.upto ipReadsSpec)

/-- 'packetboatlaw.CookieMakes', WHERE WHAT IT READS IS OF BULK AT MOST 1048576: true; the input reads as it did. -/
def cookieMakesUptoRow : OpenClaim := { program := "ytmbjinfeinhalaa", sum := "6ae398e179cfa6d1e34fbac00dff378412a61aa447675f0dd27c7829f2c1bbd6", func := "packetboat/packetboatlaw.CookieMakes", spec := "cookieMakes", unfollowed := true, recurses := true, plainKeys := false, apart := false, narrowed := true }
def CookieMakesUptoSaid : Prop := cookieMakesUptoRow.holds Try.pinned (OpenSpec.upto cookieMakesSpec)

/-- 'packetboatlaw.PollSays', WHERE WHAT IT READS IS OF BULK AT MOST 1048576: true; the input reads as it did. -/
def pollSaysUptoRow : OpenClaim := { program := "ytmbjinfeinhalaa", sum := "6ae398e179cfa6d1e34fbac00dff378412a61aa447675f0dd27c7829f2c1bbd6", func := "packetboat/packetboatlaw.PollSays", spec := "pollSays", unfollowed := true, recurses := true, plainKeys := false, apart := false, narrowed := true }
def PollSaysUptoSaid : Prop := pollSaysUptoRow.holds Try.pinned (OpenSpec.upto pollSaysSpec)

/-- 'packetboatlaw.CookieChecks', WHERE WHAT IT READS IS OF BULK AT MOST 1048576: true; the input reads as it did. -/
def cookieChecksUptoRow : OpenClaim := { program := "ytmbjinfeinhalaa", sum := "6ae398e179cfa6d1e34fbac00dff378412a61aa447675f0dd27c7829f2c1bbd6", func := "packetboat/packetboatlaw.CookieChecks", spec := "cookieChecks", unfollowed := true, recurses := true, plainKeys := false, apart := false, narrowed := true }
def CookieChecksUptoSaid : Prop := cookieChecksUptoRow.holds Try.pinned (OpenSpec.upto cookieChecksSpec)

/-- 'packetboatlaw.TcpWrites', WHERE WHAT IT READS IS OF BULK AT MOST 1048576: true; the input reads as it did. -/
def tcpWritesUptoRow : OpenClaim := { program := "ytmbjinfeinhalaa", sum := "6ae398e179cfa6d1e34fbac00dff378412a61aa447675f0dd27c7829f2c1bbd6", func := "packetboat/packetboatlaw.TcpWrites", spec := "tcpWrites", recurses := true, plainKeys := false, apart := false, narrowed := true }
def TcpWritesUptoSaid : Prop := tcpWritesUptoRow.holds Try.pinned (OpenSpec.upto tcpWritesSpec)

end Rows
end Go.Proofs.Ytmbjinfeinhalaa
