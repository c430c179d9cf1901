/-
  No cell of these rows narrows 'for every input' (looked for: loops, veiled, ifaces, maps, wideKeys, modest, calm, conditions, laid).
  DERIVED. THE GIVEN ROWS OF THIS SEAT. 11 by the template 'for every input the law returns true; each argument reads behind the call as it read before'; 0 by the template 'total and deterministic' (their statements: YtdpapkcibpcmjaaTotals.lean).
  GIVEN WITH THE SEED: the statements are not yours to turn. If you find one false, say at which input.
  Laid BY PROGRAM, IN A SANDBOX (cutbox-rows.mjs): the forced cells as the released guide's own fill.sh prints them over the translation eac9a555ee6c2b18… (all of the seat's roots in one cut). By AI agents, Wed Nov 11 2026. No macro, syntax, notation, axiom, sorry.
-/
import Derived.Test.YtdpapkcibpcmjaaChecked
import GoSem.Claim
import GoSem.ClaimJoined
import GoSem.ClaimMapViews
import Derived.JoinedTies
import Derived.KernelRfl
namespace Go.Proofs.Ytdpapkcibpcmjaa
/- THE CELL 'sum', in the pinned program and in every row, IS THE sha256 OF THE DUMP (.gsa) THAT YtdpapkcibpcmjaaProg.lean LOADS. Nothing in Lean hashes anything: it is a label: what it is worth is what the hold of that sum in a sandbox is worth. -/
noncomputable def Try.pinned : Pinned := { name := "ytdpapkcibpcmjaa", sum := "eac9a555ee6c2b1838c8014b4c297da0dee53f4e0cd39134b81711bc9420a694", checked := Try.checked }
namespace Rows
def none {H : Type} : Left H := { results := [], args := [] }

/-- 'packetboatlaw.Names': WHATEVER THE INPUT: true; the input reads as it did. -/
def namesSpec : ChangeSpec := { name := "names", fn := fun _ => fun
  | [] => { results := [.lit (.bool true)], args := [] }
  | _ => none }
def namesRow : OpenClaim := { program := "ytdpapkcibpcmjaa", sum := "eac9a555ee6c2b1838c8014b4c297da0dee53f4e0cd39134b81711bc9420a694", func := "packetboat/packetboatlaw.Names", spec := "names", apart := false }
def NamesSaid : Prop := namesRow.holds Try.pinned (OpenSpec.ofChange namesSpec)

/-- ITS FALSE NEIGHBOUR: 'it returns false'. Refute it at one input. -/
def namesWrong : ChangeSpec := { name := "names", fn := fun _ => fun
  | [] => { results := [.lit (.bool false)], args := [] }
  | _ => none }
def NamesWrongFalsely : Prop := namesRow.holds Try.pinned (OpenSpec.ofChange namesWrong)

/-- 'packetboatlaw.SeqDiffs': WHATEVER THE INPUT: true; the input reads as it did. -/
def seqDiffsSpec : ChangeSpec := { name := "seqDiffs", fn := fun _ => fun
  | [d1, d2, d3] => { results := [.lit (.bool true)], args := [d1, d2, d3] }
  | _ => none }
def seqDiffsRow : OpenClaim := { program := "ytdpapkcibpcmjaa", sum := "eac9a555ee6c2b1838c8014b4c297da0dee53f4e0cd39134b81711bc9420a694", func := "packetboat/packetboatlaw.SeqDiffs", spec := "seqDiffs", apart := false }
def SeqDiffsSaid : Prop := seqDiffsRow.holds Try.pinned (OpenSpec.ofChange seqDiffsSpec)

/-- ITS FALSE NEIGHBOUR: 'it returns false'. Refute it at one input. -/
def seqDiffsWrong : ChangeSpec := { name := "seqDiffs", fn := fun _ => fun
  | [d1, d2, d3] => { results := [.lit (.bool false)], args := [d1, d2, d3] }
  | _ => none }
def SeqDiffsWrongFalsely : Prop := seqDiffsRow.holds Try.pinned (OpenSpec.ofChange seqDiffsWrong)

/-- 'packetboatlaw.SeqNears': WHATEVER THE INPUT: true; the input reads as it did. -/
def seqNearsSpec : ChangeSpec := { name := "seqNears", fn := fun _ => fun
  | [d1, d2] => { results := [.lit (.bool true)], args := [d1, d2] }
  | _ => none }
def seqNearsRow : OpenClaim := { program := "ytdpapkcibpcmjaa", sum := "eac9a555ee6c2b1838c8014b4c297da0dee53f4e0cd39134b81711bc9420a694", func := "packetboat/packetboatlaw.SeqNears", spec := "seqNears", apart := false }
def SeqNearsSaid : Prop := seqNearsRow.holds Try.pinned (OpenSpec.ofChange seqNearsSpec)

/-- ITS FALSE NEIGHBOUR: 'it returns false'. Refute it at one input. -/
def seqNearsWrong : ChangeSpec := { name := "seqNears", fn := fun _ => fun
  | [d1, d2] => { results := [.lit (.bool false)], args := [d1, d2] }
  | _ => none }
def SeqNearsWrongFalsely : Prop := seqNearsRow.holds Try.pinned (OpenSpec.ofChange seqNearsWrong)

/-- 'packetboatlaw.SeqAccepts': WHATEVER THE INPUT: true; the input reads as it did. -/
def seqAcceptsSpec : ChangeSpec := { name := "seqAccepts", fn := fun _ => fun
  | [d1, d2, d3, d4] => { results := [.lit (.bool true)], args := [d1, d2, d3, d4] }
  | _ => none }
def seqAcceptsRow : OpenClaim := { program := "ytdpapkcibpcmjaa", sum := "eac9a555ee6c2b1838c8014b4c297da0dee53f4e0cd39134b81711bc9420a694", func := "packetboat/packetboatlaw.SeqAccepts", spec := "seqAccepts", apart := false }
def SeqAcceptsSaid : Prop := seqAcceptsRow.holds Try.pinned (OpenSpec.ofChange seqAcceptsSpec)

/-- ITS FALSE NEIGHBOUR: 'it returns false'. Refute it at one input. -/
def seqAcceptsWrong : ChangeSpec := { name := "seqAccepts", fn := fun _ => fun
  | [d1, d2, d3, d4] => { results := [.lit (.bool false)], args := [d1, d2, d3, d4] }
  | _ => none }
def SeqAcceptsWrongFalsely : Prop := seqAcceptsRow.holds Try.pinned (OpenSpec.ofChange seqAcceptsWrong)

/-- 'packetboatlaw.SumSums': WHATEVER THE INPUT: true; the input reads as it did. -/
def sumSumsSpec : ChangeSpec := { name := "sumSums", fn := fun _ => fun
  | [d] => { results := [.lit (.bool true)], args := [d] }
  | _ => none }
def sumSumsRow : OpenClaim := { program := "ytdpapkcibpcmjaa", sum := "eac9a555ee6c2b1838c8014b4c297da0dee53f4e0cd39134b81711bc9420a694", func := "packetboat/packetboatlaw.SumSums", spec := "sumSums", recurses := true, apart := false }
def SumSumsSaid : Prop := sumSumsRow.holds Try.pinned (OpenSpec.ofChange sumSumsSpec)

/-- ITS FALSE NEIGHBOUR: 'it returns false'. Refute it at one input. -/
def sumSumsWrong : ChangeSpec := { name := "sumSums", fn := fun _ => fun
  | [d] => { results := [.lit (.bool false)], args := [d] }
  | _ => none }
def SumSumsWrongFalsely : Prop := sumSumsRow.holds Try.pinned (OpenSpec.ofChange sumSumsWrong)

/-- 'packetboatlaw.SumChanges': WHATEVER THE INPUT: true; the input reads as it did. -/
def sumChangesSpec : ChangeSpec := { name := "sumChanges", fn := fun _ => fun
  | [d1, d2, d3, d4] => { results := [.lit (.bool true)], args := [d1, d2, d3, d4] }
  | _ => none }
def sumChangesRow : OpenClaim := { program := "ytdpapkcibpcmjaa", sum := "eac9a555ee6c2b1838c8014b4c297da0dee53f4e0cd39134b81711bc9420a694", func := "packetboat/packetboatlaw.SumChanges", spec := "sumChanges", recurses := true, apart := false }
def SumChangesSaid : Prop := sumChangesRow.holds Try.pinned (OpenSpec.ofChange sumChangesSpec)

/-- ITS FALSE NEIGHBOUR: 'it returns false'. Refute it at one input. -/
def sumChangesWrong : ChangeSpec := { name := "sumChanges", fn := fun _ => fun
  | [d1, d2, d3, d4] => { results := [.lit (.bool false)], args := [d1, d2, d3, d4] }
  | _ => none }
def SumChangesWrongFalsely : Prop := sumChangesRow.holds Try.pinned (OpenSpec.ofChange sumChangesWrong)

/-- 'packetboatlaw.RtoSays': WHATEVER THE INPUT: true; the input reads as it did. -/
def rtoSaysSpec : ChangeSpec := { name := "rtoSays", fn := fun _ => fun
  | [d] => { results := [.lit (.bool true)], args := [d] }
  | _ => none }
def rtoSaysRow : OpenClaim := { program := "ytdpapkcibpcmjaa", sum := "eac9a555ee6c2b1838c8014b4c297da0dee53f4e0cd39134b81711bc9420a694", func := "packetboat/packetboatlaw.RtoSays", spec := "rtoSays", apart := false }
def RtoSaysSaid : Prop := rtoSaysRow.holds Try.pinned (OpenSpec.ofChange rtoSaysSpec)

/-- ITS FALSE NEIGHBOUR: 'it returns false'. Refute it at one input. -/
def rtoSaysWrong : ChangeSpec := { name := "rtoSays", fn := fun _ => fun
  | [d] => { results := [.lit (.bool false)], args := [d] }
  | _ => none }
def RtoSaysWrongFalsely : Prop := rtoSaysRow.holds Try.pinned (OpenSpec.ofChange rtoSaysWrong)

/-- 'packetboatlaw.CongSays': WHATEVER THE INPUT: true; the input reads as it did. -/
def congSaysSpec : ChangeSpec := { name := "congSays", fn := fun _ => fun
  | [d1, d2] => { results := [.lit (.bool true)], args := [d1, d2] }
  | _ => none }
def congSaysRow : OpenClaim := { program := "ytdpapkcibpcmjaa", sum := "eac9a555ee6c2b1838c8014b4c297da0dee53f4e0cd39134b81711bc9420a694", func := "packetboat/packetboatlaw.CongSays", spec := "congSays", apart := false }
def CongSaysSaid : Prop := congSaysRow.holds Try.pinned (OpenSpec.ofChange congSaysSpec)

/-- ITS FALSE NEIGHBOUR: 'it returns false'. Refute it at one input. -/
def congSaysWrong : ChangeSpec := { name := "congSays", fn := fun _ => fun
  | [d1, d2] => { results := [.lit (.bool false)], args := [d1, d2] }
  | _ => none }
def CongSaysWrongFalsely : Prop := congSaysRow.holds Try.pinned (OpenSpec.ofChange congSaysWrong)

/-- 'packetboatlaw.DgramSays': WHATEVER THE INPUT: true; the input reads as it did. -/
def dgramSaysSpec : ChangeSpec := { name := "dgramSays", fn := fun _ => fun
  | [d] => { results := [.lit (.bool true)], args := [d] }
  | _ => none }
def dgramSaysRow : OpenClaim := { program := "ytdpapkcibpcmjaa", sum := "eac9a555ee6c2b1838c8014b4c297da0dee53f4e0cd39134b81711bc9420a694", func := "packetboat/packetboatlaw.DgramSays", spec := "dgramSays", apart := false }
def DgramSaysSaid : Prop := dgramSaysRow.holds Try.pinned (OpenSpec.ofChange dgramSaysSpec)

/-- ITS FALSE NEIGHBOUR: 'it returns false'. Refute it at one input. -/
def dgramSaysWrong : ChangeSpec := { name := "dgramSays", fn := fun _ => fun
  | [d] => { results := [.lit (.bool false)], args := [d] }
  | _ => none }
def DgramSaysWrongFalsely : Prop := dgramSaysRow.holds Try.pinned (OpenSpec.ofChange dgramSaysWrong)

/-- 'packetboatlaw.FragSplits': WHATEVER THE INPUT: true; the input reads as it did. -/
def fragSplitsSpec : ChangeSpec := { name := "fragSplits", fn := fun _ => fun
  | [d1, d2] => { results := [.lit (.bool true)], args := [d1, d2] }
  | _ => none }
def fragSplitsRow : OpenClaim := { program := "ytdpapkcibpcmjaa", sum := "eac9a555ee6c2b1838c8014b4c297da0dee53f4e0cd39134b81711bc9420a694", func := "packetboat/packetboatlaw.FragSplits", spec := "fragSplits", apart := false }
def FragSplitsSaid : Prop := fragSplitsRow.holds Try.pinned (OpenSpec.ofChange fragSplitsSpec)

/-- ITS FALSE NEIGHBOUR: 'it returns false'. Refute it at one input. -/
def fragSplitsWrong : ChangeSpec := { name := "fragSplits", fn := fun _ => fun
  | [d1, d2] => { results := [.lit (.bool false)], args := [d1, d2] }
  | _ => none }
def FragSplitsWrongFalsely : Prop := fragSplitsRow.holds Try.pinned (OpenSpec.ofChange fragSplitsWrong)

/-- 'packetboatlaw.HashSips': WHATEVER THE INPUT: true; the input reads as it did. -/
def hashSipsSpec : ChangeSpec := { name := "hashSips", fn := fun _ => fun
  | [d1, d2, d3] => { results := [.lit (.bool true)], args := [d1, d2, d3] }
  | _ => none }
def hashSipsRow : OpenClaim := { program := "ytdpapkcibpcmjaa", sum := "eac9a555ee6c2b1838c8014b4c297da0dee53f4e0cd39134b81711bc9420a694", func := "packetboat/packetboatlaw.HashSips", spec := "hashSips", unfollowed := true, recurses := true, apart := false }
def HashSipsSaid : Prop := hashSipsRow.holds Try.pinned (OpenSpec.ofChange hashSipsSpec)

/-- ITS FALSE NEIGHBOUR: 'it returns false'. Refute it at one input. -/
def hashSipsWrong : ChangeSpec := { name := "hashSips", fn := fun _ => fun
  | [d1, d2, d3] => { results := [.lit (.bool false)], args := [d1, d2, d3] }
  | _ => none }
def HashSipsWrongFalsely : Prop := hashSipsRow.holds Try.pinned (OpenSpec.ofChange hashSipsWrong)

/- THE SECOND FORM. 'bulk': how many values and letters a reading holds, each counted each time it is reached (what is shared counts as often as it is met; a slice's spare places count too). A statement '..UptoSaid' is the law's where the arguments, and the package variables that the reading takes, are together of bulk at most 1048576: NARROWER than '..Said'. Prove '..Said' where nothing that the law and all that it calls make is longer than what came in: it says more and counts as full. Else prove '..UptoSaid'. A law counts once. -/
mutual
def uptoBulk {H : Type} : DataW H → Nat
  | .lit (.string bytes) => bytes.length + 1
  | .lit _ => 1
  | .nil => 1
  | .ptr d => uptoBulk d + 1
  | .slice elems spare => uptoBulkAll elems + uptoBulkAll spare + 1
  | .agg parts => uptoBulkAll parts + 1
  | .iface _ d => uptoBulk d + 1
  | .map entries => uptoBulkEntries entries + 1
  | .held _ => 1
def uptoBulkAll {H : Type} : List (DataW H) → Nat
  | [] => 0
  | d :: r => uptoBulk d + uptoBulkAll r
def uptoBulkEntries {H : Type} : List (Lit × DataW H) → Nat
  | [] => 0
  | x :: r => uptoBulkEntry x + uptoBulkEntries r
def uptoBulkEntry {H : Type} : Lit × DataW H → Nat
  | (.string bytes, d) => bytes.length + uptoBulk d + 1
  | (_, d) => uptoBulk d + 1
 end
def uptoSmall : (H : Type) → List (DataW H) → Bool := fun _ ds => decide (uptoBulkAll ds ≤ 1048576)
def OpenSpec.upto (s : _root_.Go.ChangeSpec) : _root_.Go.OpenSpec := { _root_.Go.OpenSpec.ofChange s with cond := some uptoSmall }

/-- 'packetboatlaw.Names', WHERE WHAT IT READS IS OF BULK AT MOST 1048576: true; the input reads as it did. -/
def namesUptoRow : OpenClaim := { program := "ytdpapkcibpcmjaa", sum := "eac9a555ee6c2b1838c8014b4c297da0dee53f4e0cd39134b81711bc9420a694", func := "packetboat/packetboatlaw.Names", spec := "names", apart := false, narrowed := true }
def NamesUptoSaid : Prop := namesUptoRow.holds Try.pinned (OpenSpec.upto namesSpec)

/-- 'packetboatlaw.SeqDiffs', WHERE WHAT IT READS IS OF BULK AT MOST 1048576: true; the input reads as it did. -/
def seqDiffsUptoRow : OpenClaim := { program := "ytdpapkcibpcmjaa", sum := "eac9a555ee6c2b1838c8014b4c297da0dee53f4e0cd39134b81711bc9420a694", func := "packetboat/packetboatlaw.SeqDiffs", spec := "seqDiffs", apart := false, narrowed := true }
def SeqDiffsUptoSaid : Prop := seqDiffsUptoRow.holds Try.pinned (OpenSpec.upto seqDiffsSpec)

/-- 'packetboatlaw.SeqNears', WHERE WHAT IT READS IS OF BULK AT MOST 1048576: true; the input reads as it did. -/
def seqNearsUptoRow : OpenClaim := { program := "ytdpapkcibpcmjaa", sum := "eac9a555ee6c2b1838c8014b4c297da0dee53f4e0cd39134b81711bc9420a694", func := "packetboat/packetboatlaw.SeqNears", spec := "seqNears", apart := false, narrowed := true }
def SeqNearsUptoSaid : Prop := seqNearsUptoRow.holds Try.pinned (OpenSpec.upto seqNearsSpec)

/-- 'packetboatlaw.SeqAccepts', WHERE WHAT IT READS IS OF BULK AT MOST 1048576: true; the input reads as it did. -/
def seqAcceptsUptoRow : OpenClaim := { program := "ytdpapkcibpcmjaa", sum := "eac9a555ee6c2b1838c8014b4c297da0dee53f4e0cd39134b81711bc9420a694", func := "packetboat/packetboatlaw.SeqAccepts", spec := "seqAccepts", apart := false, narrowed := true }
def SeqAcceptsUptoSaid : Prop := seqAcceptsUptoRow.holds Try.pinned (OpenSpec.upto seqAcceptsSpec)

/-- 'packetboatlaw.SumSums', WHERE WHAT IT READS IS OF BULK AT MOST 1048576: true; the input reads as it did. -/
def sumSumsUptoRow : OpenClaim := { program := "ytdpapkcibpcmjaa", sum := "eac9a555ee6c2b1838c8014b4c297da0dee53f4e0cd39134b81711bc9420a694", func := "packetboat/packetboatlaw.SumSums", spec := "sumSums", recurses := true, apart := false, narrowed := true }
def SumSumsUptoSaid : Prop := sumSumsUptoRow.holds Try.pinned (OpenSpec.upto sumSumsSpec)

/-- 'packetboatlaw.SumChanges', WHERE WHAT IT READS IS OF BULK AT MOST 1048576: true; the input reads as it did. -/
def sumChangesUptoRow : OpenClaim := { program := "ytdpapkcibpcmjaa", sum := "eac9a555ee6c2b1838c8014b4c297da0dee53f4e0cd39134b81711bc9420a694", func := "packetboat/packetboatlaw.SumChanges", spec := "sumChanges", recurses := true, apart := false, narrowed := true }
def SumChangesUptoSaid : Prop := sumChangesUptoRow.holds Try.pinned (OpenSpec.upto sumChangesSpec)

/-- 'packetboatlaw.RtoSays', WHERE WHAT IT READS IS OF BULK AT MOST 1048576: true; the input reads as it did. -/
def rtoSaysUptoRow : OpenClaim := { program := "ytdpapkcibpcmjaa", sum := "eac9a555ee6c2b1838c8014b4c297da0dee53f4e0cd39134b81711bc9420a694", func := "packetboat/packetboatlaw.RtoSays", spec := "rtoSays", apart := false, narrowed := true }
def RtoSaysUptoSaid : Prop := rtoSaysUptoRow.holds Try.pinned (OpenSpec.upto rtoSaysSpec)

/-- 'packetboatlaw.CongSays', WHERE WHAT IT READS IS OF BULK AT MOST 1048576: true; the input reads as it did. -/
def congSaysUptoRow : OpenClaim := { program := "ytdpapkcibpcmjaa", sum := "eac9a555ee6c2b1838c8014b4c297da0dee53f4e0cd39134b81711bc9420a694", func := "packetboat/packetboatlaw.CongSays", spec := "congSays", apart := false, narrowed := true }
def CongSaysUptoSaid : Prop := congSaysUptoRow.holds Try.pinned (OpenSpec.upto congSaysSpec)

/-- 'packetboatlaw.DgramSays', WHERE WHAT IT READS IS OF BULK AT MOST 1048576: true; the input reads as it did. -/
def dgramSaysUptoRow : OpenClaim := { program := "ytdpapkcibpcmjaa", sum := "eac9a555ee6c2b1838c8014b4c297da0dee53f4e0cd39134b81711bc9420a694", func := "packetboat/packetboatlaw.DgramSays", spec := "dgramSays", apart := false, narrowed := true }
def DgramSaysUptoSaid : Prop := dgramSaysUptoRow.holds Try.pinned (OpenSpec.upto dgramSaysSpec)

/-- 'packetboatlaw.FragSplits', WHERE WHAT IT READS IS OF BULK AT MOST 1048576: true; the input reads as it did. -/
def fragSplitsUptoRow : OpenClaim := { program := "ytdpapkcibpcmjaa", sum := "eac9a555ee6c2b1838c8014b4c297da0dee53f4e0cd39134b81711bc9420a694", func := "packetboat/packetboatlaw.FragSplits", spec := "fragSplits", apart := false, narrowed := true }
def FragSplitsUptoSaid : Prop := fragSplitsUptoRow.holds Try.pinned (OpenSpec.upto fragSplitsSpec)

/-- 'packetboatlaw.HashSips', WHERE WHAT IT READS IS OF BULK AT MOST 1048576: true; the input reads as it did. -/
def hashSipsUptoRow : OpenClaim := { program := "ytdpapkcibpcmjaa", sum := "eac9a555ee6c2b1838c8014b4c297da0dee53f4e0cd39134b81711bc9420a694", func := "packetboat/packetboatlaw.HashSips", spec := "hashSips", unfollowed := true, recurses := true, apart := false, narrowed := true }
def HashSipsUptoSaid : Prop := hashSipsUptoRow.holds Try.pinned (OpenSpec.upto hashSipsSpec)

end Rows
end Go.Proofs.Ytdpapkcibpcmjaa
