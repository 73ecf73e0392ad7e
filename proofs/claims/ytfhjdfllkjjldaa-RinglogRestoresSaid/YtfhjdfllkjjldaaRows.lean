/-
  No cell of these rows narrows 'for every input' (looked for: loops, veiled, ifaces, maps, wideKeys, modest, calm, conditions, laid).
  DERIVED. THE GIVEN ROWS OF THIS SEAT. 6 by the template 'for every input the law returns true; each argument reads behind the call as it read before'; 0 by the template 'total and deterministic' (their statements: YtfhjdfllkjjldaaTotals.lean).
  GIVEN WITH THE SEED: the statements are not yours to turn. If you find one false, say at which input.
  Laid BY PROGRAM, IN A SANDBOX (cutbox-rows.mjs): the forced cells as the released guide's own fill.sh prints them over the translation 72c68f92594aa5ed… (all of the seat's roots in one cut). By AI agents, Wed Nov 11 2026. No macro, syntax, notation, axiom, sorry.
-/
import Derived.Test.YtfhjdfllkjjldaaChecked
import GoSem.Claim
import GoSem.ClaimJoined
import GoSem.ClaimMapViews
import Derived.JoinedTies
import Derived.KernelRfl
namespace Go.Proofs.Ytfhjdfllkjjldaa
/- THE CELL 'sum', in the pinned program and in every row, IS THE sha256 OF THE DUMP (.gsa) THAT YtfhjdfllkjjldaaProg.lean LOADS. Nothing in Lean hashes anything: it is a label: what it is worth is what the hold of that sum in a sandbox is worth. -/
noncomputable def Try.pinned : Pinned := { name := "ytfhjdfllkjjldaa", sum := "72c68f92594aa5ed0638ecde8621d00f8cce57251a1049b86e7f53d154264ca3", checked := Try.checked }
namespace Rows
def none {H : Type} : Left H := { results := [], args := [] }

/-- 'arenanetlaw24.RinglogRange': WHATEVER THE INPUT: true; the input reads as it did. -/
def ringlogRangeSpec : ChangeSpec := { name := "ringlogRange", fn := fun _ => fun
  | [d1, d2, d3] => { results := [.lit (.bool true)], args := [d1, d2, d3] }
  | _ => none }
def ringlogRangeRow : OpenClaim := { program := "ytfhjdfllkjjldaa", sum := "72c68f92594aa5ed0638ecde8621d00f8cce57251a1049b86e7f53d154264ca3", func := "arenanet/arenanetlaw24.RinglogRange", spec := "ringlogRange", unfollowed := true, recurses := true, apart := false }
def RinglogRangeSaid : Prop := ringlogRangeRow.holds Try.pinned (OpenSpec.ofChange ringlogRangeSpec)

/-- ITS FALSE NEIGHBOUR: 'it returns false'. Refute it at one input. -/
def ringlogRangeWrong : ChangeSpec := { name := "ringlogRange", fn := fun _ => fun
  | [d1, d2, d3] => { results := [.lit (.bool false)], args := [d1, d2, d3] }
  | _ => none }
def RinglogRangeWrongFalsely : Prop := ringlogRangeRow.holds Try.pinned (OpenSpec.ofChange ringlogRangeWrong)

/-- 'arenanetlaw24.RinglogOrder': WHATEVER THE INPUT: true; the input reads as it did. -/
def ringlogOrderSpec : ChangeSpec := { name := "ringlogOrder", fn := fun _ => fun
  | [d1, d2] => { results := [.lit (.bool true)], args := [d1, d2] }
  | _ => none }
def ringlogOrderRow : OpenClaim := { program := "ytfhjdfllkjjldaa", sum := "72c68f92594aa5ed0638ecde8621d00f8cce57251a1049b86e7f53d154264ca3", func := "arenanet/arenanetlaw24.RinglogOrder", spec := "ringlogOrder", unfollowed := true, recurses := true, apart := false }
def RinglogOrderSaid : Prop := ringlogOrderRow.holds Try.pinned (OpenSpec.ofChange ringlogOrderSpec)

/-- ITS FALSE NEIGHBOUR: 'it returns false'. Refute it at one input. -/
def ringlogOrderWrong : ChangeSpec := { name := "ringlogOrder", fn := fun _ => fun
  | [d1, d2] => { results := [.lit (.bool false)], args := [d1, d2] }
  | _ => none }
def RinglogOrderWrongFalsely : Prop := ringlogOrderRow.holds Try.pinned (OpenSpec.ofChange ringlogOrderWrong)

/-- 'arenanetlaw24.RinglogPlays': WHATEVER THE INPUT: true; the input reads as it did. -/
def ringlogPlaysSpec : ChangeSpec := { name := "ringlogPlays", fn := fun _ => fun
  | [d1, d2, d3] => { results := [.lit (.bool true)], args := [d1, d2, d3] }
  | _ => none }
def ringlogPlaysRow : OpenClaim := { program := "ytfhjdfllkjjldaa", sum := "72c68f92594aa5ed0638ecde8621d00f8cce57251a1049b86e7f53d154264ca3", func := "arenanet/arenanetlaw24.RinglogPlays", spec := "ringlogPlays", unfollowed := true, recurses := true, apart := false }
def RinglogPlaysSaid : Prop := ringlogPlaysRow.holds Try.pinned (OpenSpec.ofChange ringlogPlaysSpec)

/-- ITS FALSE NEIGHBOUR: 'it returns false'. Refute it at one input. -/
def ringlogPlaysWrong : ChangeSpec := { name := "ringlogPlays", fn := fun _ => fun
  | [d1, d2, d3] => { results := [.lit (.bool false)], args := [d1, d2, d3] }
  | _ => none }
def RinglogPlaysWrongFalsely : Prop := ringlogPlaysRow.holds Try.pinned (OpenSpec.ofChange ringlogPlaysWrong)

/-- 'arenanetlaw24.RinglogRestores': WHATEVER THE INPUT: true; the input reads as it did. -/
def ringlogRestoresSpec : ChangeSpec := { name := "ringlogRestores", fn := fun _ => fun
  | [d1, d2, d3] => { results := [.lit (.bool true)], args := [d1, d2, d3] }
  | _ => none }
def ringlogRestoresRow : OpenClaim := { program := "ytfhjdfllkjjldaa", sum := "72c68f92594aa5ed0638ecde8621d00f8cce57251a1049b86e7f53d154264ca3", func := "arenanet/arenanetlaw24.RinglogRestores", spec := "ringlogRestores", unfollowed := true, recurses := true, apart := false }
def RinglogRestoresSaid : Prop := ringlogRestoresRow.holds Try.pinned (OpenSpec.ofChange ringlogRestoresSpec)

/-- ITS FALSE NEIGHBOUR: 'it returns false'. Refute it at one input. -/
def ringlogRestoresWrong : ChangeSpec := { name := "ringlogRestores", fn := fun _ => fun
  | [d1, d2, d3] => { results := [.lit (.bool false)], args := [d1, d2, d3] }
  | _ => none }
def RinglogRestoresWrongFalsely : Prop := ringlogRestoresRow.holds Try.pinned (OpenSpec.ofChange ringlogRestoresWrong)

/-- 'arenanetlaw24.RinglogLog': WHATEVER THE INPUT: true; the input reads as it did. -/
def ringlogLogSpec : ChangeSpec := { name := "ringlogLog", fn := fun _ => fun
  | [d1, d2] => { results := [.lit (.bool true)], args := [d1, d2] }
  | _ => none }
def ringlogLogRow : OpenClaim := { program := "ytfhjdfllkjjldaa", sum := "72c68f92594aa5ed0638ecde8621d00f8cce57251a1049b86e7f53d154264ca3", func := "arenanet/arenanetlaw24.RinglogLog", spec := "ringlogLog", unfollowed := true, recurses := true, apart := false }
def RinglogLogSaid : Prop := ringlogLogRow.holds Try.pinned (OpenSpec.ofChange ringlogLogSpec)

/-- ITS FALSE NEIGHBOUR: 'it returns false'. Refute it at one input. -/
def ringlogLogWrong : ChangeSpec := { name := "ringlogLog", fn := fun _ => fun
  | [d1, d2] => { results := [.lit (.bool false)], args := [d1, d2] }
  | _ => none }
def RinglogLogWrongFalsely : Prop := ringlogLogRow.holds Try.pinned (OpenSpec.ofChange ringlogLogWrong)

/-- 'arenanetlaw24.RinglogAgain': WHATEVER THE INPUT: true; the input reads as it did. -/
def ringlogAgainSpec : ChangeSpec := { name := "ringlogAgain", fn := fun _ => fun
  | [d1, d2] => { results := [.lit (.bool true)], args := [d1, d2] }
  | _ => none }
def ringlogAgainRow : OpenClaim := { program := "ytfhjdfllkjjldaa", sum := "72c68f92594aa5ed0638ecde8621d00f8cce57251a1049b86e7f53d154264ca3", func := "arenanet/arenanetlaw24.RinglogAgain", spec := "ringlogAgain", unfollowed := true, recurses := true, apart := false }
def RinglogAgainSaid : Prop := ringlogAgainRow.holds Try.pinned (OpenSpec.ofChange ringlogAgainSpec)

/-- ITS FALSE NEIGHBOUR: 'it returns false'. Refute it at one input. -/
def ringlogAgainWrong : ChangeSpec := { name := "ringlogAgain", fn := fun _ => fun
  | [d1, d2] => { results := [.lit (.bool false)], args := [d1, d2] }
  | _ => none }
def RinglogAgainWrongFalsely : Prop := ringlogAgainRow.holds Try.pinned (OpenSpec.ofChange ringlogAgainWrong)

/- THE SECOND FORM. 'bulk': how many values and letters a reading holds, each counted each time it is reached (what is shared counts as often as it is met; a slice's spare places count too). A statement '..UptoSaid' is the law's where the arguments, and the package variables that the reading takes, are together of bulk at most 1048576: NARROWER than '..Said'. Prove '..Said' where nothing that the law and all that it calls make is longer than what came in: it says more and counts as full. Else prove '..UptoSaid'. A law counts once. -/
mutual
def uptoBulk {H : Type} : DataW H → Nat
  | .lit (.string bytes) => bytes.length + 1
  | .lit _ => 1
  | .nil => 1
  | .ptr d => uptoBulk d + 1
  | .slice elems spare => uptoBulkAll elems + uptoBulkAll spare + 1
  | .agg parts => uptoBulkAll parts + 1
  | .iface _ d => uptoBulk d + 1
  | .map entries => uptoBulkEntries entries + 1
  | .held _ => 1
def uptoBulkAll {H : Type} : List (DataW H) → Nat
  | [] => 0
  | d :: r => uptoBulk d + uptoBulkAll r
def uptoBulkEntries {H : Type} : List (Lit × DataW H) → Nat
  | [] => 0
  | x :: r => uptoBulkEntry x + uptoBulkEntries r
def uptoBulkEntry {H : Type} : Lit × DataW H → Nat
  | (.string bytes, d) => bytes.length + uptoBulk d + 1
  | (_, d) => uptoBulk d + 1
 end
def uptoSmall : (H : Type) → List (DataW H) → Bool := fun _ ds => decide (uptoBulkAll ds ≤ 1048576)
def OpenSpec.upto (s : _root_.Go.ChangeSpec) : _root_.Go.OpenSpec := { _root_.Go.OpenSpec.ofChange s with cond := some uptoSmall }

/-- 'arenanetlaw24.RinglogRange', WHERE WHAT IT READS IS OF BULK AT MOST 1048576: true; the input reads as it did. -/
def ringlogRangeUptoRow : OpenClaim := { program := "ytfhjdfllkjjldaa", sum := "72c68f92594aa5ed0638ecde8621d00f8cce57251a1049b86e7f53d154264ca3", func := "arenanet/arenanetlaw24.RinglogRange", spec := "ringlogRange", unfollowed := true, recurses := true, apart := false, narrowed := true }
def RinglogRangeUptoSaid : Prop := ringlogRangeUptoRow.holds Try.pinned (OpenSpec.upto ringlogRangeSpec)

/-- 'arenanetlaw24.RinglogOrder', WHERE WHAT IT READS IS OF BULK AT MOST 1048576: true; the input reads as it did. -/
def ringlogOrderUptoRow : OpenClaim := { program := "ytfhjdfllkjjldaa", sum := "72c68f92594aa5ed0638ecde8621d00f8cce57251a1049b86e7f53d154264ca3", func := "arenanet/arenanetlaw24.RinglogOrder", spec := "ringlogOrder", unfollowed := true, recurses := true, apart := false, narrowed := true }
def RinglogOrderUptoSaid : Prop := ringlogOrderUptoRow.holds Try.pinned (OpenSpec.upto ringlogOrderSpec)

/-- 'arenanetlaw24.RinglogPlays', WHERE WHAT IT READS IS OF BULK AT MOST 1048576: true; the input reads as it did. -/
def ringlogPlaysUptoRow : OpenClaim := { program := "ytfhjdfllkjjldaa", sum := "72c68f92594aa5ed0638ecde8621d00f8cce57251a1049b86e7f53d154264ca3", func := "arenanet/arenanetlaw24.RinglogPlays", spec := "ringlogPlays", unfollowed := true, recurses := true, apart := false, narrowed := true }
def RinglogPlaysUptoSaid : Prop := ringlogPlaysUptoRow.holds Try.pinned (OpenSpec.upto ringlogPlaysSpec)

/-- 'arenanetlaw24.RinglogRestores', WHERE WHAT IT READS IS OF BULK AT MOST 1048576: true; the input reads as it did. -/
def ringlogRestoresUptoRow : OpenClaim := { program := "ytfhjdfllkjjldaa", sum := "72c68f92594aa5ed0638ecde8621d00f8cce57251a1049b86e7f53d154264ca3", func := "arenanet/arenanetlaw24.RinglogRestores", spec := "ringlogRestores", unfollowed := true, recurses := true, apart := false, narrowed := true }
def RinglogRestoresUptoSaid : Prop := ringlogRestoresUptoRow.holds Try.pinned (OpenSpec.upto ringlogRestoresSpec)

/-- 'arenanetlaw24.RinglogLog', WHERE WHAT IT READS IS OF BULK AT MOST 1048576: true; the input reads as it did. -/
def ringlogLogUptoRow : OpenClaim := { program := "ytfhjdfllkjjldaa", sum := "72c68f92594aa5ed0638ecde8621d00f8cce57251a1049b86e7f53d154264ca3", func := "arenanet/arenanetlaw24.RinglogLog", spec := "ringlogLog", unfollowed := true, recurses := true, apart := false, narrowed := true }
def RinglogLogUptoSaid : Prop := ringlogLogUptoRow.holds Try.pinned (OpenSpec.upto ringlogLogSpec)

/-- 'arenanetlaw24.RinglogAgain', WHERE WHAT IT READS IS OF BULK AT MOST 1048576: true; the input reads as it did. -/
def ringlogAgainUptoRow : OpenClaim := { program := "ytfhjdfllkjjldaa", sum := "72c68f92594aa5ed0638ecde8621d00f8cce57251a1049b86e7f53d154264ca3", func := "arenanet/arenanetlaw24.RinglogAgain", spec := "ringlogAgain", unfollowed := true, recurses := true, apart := false, narrowed := true }
def RinglogAgainUptoSaid : Prop := ringlogAgainUptoRow.holds Try.pinned (OpenSpec.upto ringlogAgainSpec)

end Rows
end Go.Proofs.Ytfhjdfllkjjldaa
