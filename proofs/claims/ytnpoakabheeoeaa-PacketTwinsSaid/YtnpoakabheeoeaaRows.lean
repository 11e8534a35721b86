/-
  No cell of these rows narrows 'for every input' (looked for: loops, veiled, ifaces, maps, wideKeys, modest, calm, conditions, laid).
  DERIVED. THE GIVEN ROWS OF THIS SEAT. 4 by the template 'for every input the law returns true; each argument reads behind the call as it read before'; 0 by the template 'total and deterministic' (their statements: YtnpoakabheeoeaaTotals.lean).
  GIVEN WITH THE SEED: the statements are not yours to turn. If you find one false, say at which input.
  Laid BY PROGRAM, IN A SANDBOX (cutbox-rows.mjs): the forced cells as the released guide's own fill.sh prints them over the translation 9d333f01060fdd8b… (all of the seat's roots in one cut). By AI agents, Wed Nov 11 2026. No macro, syntax, notation, axiom, sorry.
-/
import Derived.Test.YtnpoakabheeoeaaChecked
import GoSem.Claim
import GoSem.ClaimJoined
import GoSem.ClaimMapViews
import Derived.JoinedTies
import Derived.KernelRfl
namespace Go.Proofs.Ytnpoakabheeoeaa
/- THE CELL 'sum', in the pinned program and in every row, IS THE sha256 OF THE DUMP (.gsa) THAT YtnpoakabheeoeaaProg.lean LOADS. Nothing in Lean hashes anything: it is a label: what it is worth is what the hold of that sum in a sandbox is worth. -/
noncomputable def Try.pinned : Pinned := { name := "ytnpoakabheeoeaa", sum := "9d333f01060fdd8bf4fb691fef9dce64a00364f065b7003e69138f0c9688ae6f", checked := Try.checked }
namespace Rows
def none {H : Type} : Left H := { results := [], args := [] }

/-- 'waveletlaw15.PacketTwins': WHATEVER THE INPUT: true; the input reads as it did. -/
def packetTwinsSpec : ChangeSpec := { name := "packetTwins", fn := fun _ => fun
  | [d1, d2, d3] => { results := [.lit (.bool true)], args := [d1, d2, d3] }
  | _ => none }
def packetTwinsRow : OpenClaim := { program := "ytnpoakabheeoeaa", sum := "9d333f01060fdd8bf4fb691fef9dce64a00364f065b7003e69138f0c9688ae6f", func := "wavelet/waveletlaw15.PacketTwins", spec := "packetTwins", unfollowed := true, recurses := true, apart := false }
def PacketTwinsSaid : Prop := packetTwinsRow.holds Try.pinned (OpenSpec.ofChange packetTwinsSpec)

/-- ITS FALSE NEIGHBOUR: 'it returns false'. Refute it at one input. -/
def packetTwinsWrong : ChangeSpec := { name := "packetTwins", fn := fun _ => fun
  | [d1, d2, d3] => { results := [.lit (.bool false)], args := [d1, d2, d3] }
  | _ => none }
def PacketTwinsWrongFalsely : Prop := packetTwinsRow.holds Try.pinned (OpenSpec.ofChange packetTwinsWrong)

/-- 'waveletlaw15.PacketNone': WHATEVER THE INPUT: true; the input reads as it did. -/
def packetNoneSpec : ChangeSpec := { name := "packetNone", fn := fun _ => fun
  | [d1, d2, d3, d4] => { results := [.lit (.bool true)], args := [d1, d2, d3, d4] }
  | _ => none }
def packetNoneRow : OpenClaim := { program := "ytnpoakabheeoeaa", sum := "9d333f01060fdd8bf4fb691fef9dce64a00364f065b7003e69138f0c9688ae6f", func := "wavelet/waveletlaw15.PacketNone", spec := "packetNone", unfollowed := true, recurses := true, apart := false }
def PacketNoneSaid : Prop := packetNoneRow.holds Try.pinned (OpenSpec.ofChange packetNoneSpec)

/-- ITS FALSE NEIGHBOUR: 'it returns false'. Refute it at one input. -/
def packetNoneWrong : ChangeSpec := { name := "packetNone", fn := fun _ => fun
  | [d1, d2, d3, d4] => { results := [.lit (.bool false)], args := [d1, d2, d3, d4] }
  | _ => none }
def PacketNoneWrongFalsely : Prop := packetNoneRow.holds Try.pinned (OpenSpec.ofChange packetNoneWrong)

/-- 'waveletlaw15.PacketEmpty': WHATEVER THE INPUT: true; the input reads as it did. -/
def packetEmptySpec : ChangeSpec := { name := "packetEmpty", fn := fun _ => fun
  | [d1, d2, d3] => { results := [.lit (.bool true)], args := [d1, d2, d3] }
  | _ => none }
def packetEmptyRow : OpenClaim := { program := "ytnpoakabheeoeaa", sum := "9d333f01060fdd8bf4fb691fef9dce64a00364f065b7003e69138f0c9688ae6f", func := "wavelet/waveletlaw15.PacketEmpty", spec := "packetEmpty", unfollowed := true, recurses := true, apart := false }
def PacketEmptySaid : Prop := packetEmptyRow.holds Try.pinned (OpenSpec.ofChange packetEmptySpec)

/-- ITS FALSE NEIGHBOUR: 'it returns false'. Refute it at one input. -/
def packetEmptyWrong : ChangeSpec := { name := "packetEmpty", fn := fun _ => fun
  | [d1, d2, d3] => { results := [.lit (.bool false)], args := [d1, d2, d3] }
  | _ => none }
def PacketEmptyWrongFalsely : Prop := packetEmptyRow.holds Try.pinned (OpenSpec.ofChange packetEmptyWrong)

/-- 'waveletlaw15.PacketCounts': WHATEVER THE INPUT: true; the input reads as it did. -/
def packetCountsSpec : ChangeSpec := { name := "packetCounts", fn := fun _ => fun
  | [d1, d2] => { results := [.lit (.bool true)], args := [d1, d2] }
  | _ => none }
def packetCountsRow : OpenClaim := { program := "ytnpoakabheeoeaa", sum := "9d333f01060fdd8bf4fb691fef9dce64a00364f065b7003e69138f0c9688ae6f", func := "wavelet/waveletlaw15.PacketCounts", spec := "packetCounts", unfollowed := true, recurses := true, apart := false }
def PacketCountsSaid : Prop := packetCountsRow.holds Try.pinned (OpenSpec.ofChange packetCountsSpec)

/-- ITS FALSE NEIGHBOUR: 'it returns false'. Refute it at one input. -/
def packetCountsWrong : ChangeSpec := { name := "packetCounts", fn := fun _ => fun
  | [d1, d2] => { results := [.lit (.bool false)], args := [d1, d2] }
  | _ => none }
def PacketCountsWrongFalsely : Prop := packetCountsRow.holds Try.pinned (OpenSpec.ofChange packetCountsWrong)

/- THE SECOND FORM. 'bulk': how many values and letters a reading holds, each counted each time it is reached (what is shared counts as often as it is met; a slice's spare places count too). A statement '..UptoSaid' is the law's where the arguments, and the package variables that the reading takes, are together of bulk at most 1048576: NARROWER than '..Said'. Prove '..Said' where nothing that the law and all that it calls make is longer than what came in: it says more and counts as full. Else prove '..UptoSaid'. A law counts once. -/
mutual
def uptoBulk {H : Type} : DataW H → Nat
  | .lit (.string bytes) => bytes.length + 1
  | .lit _ => 1
  | .nil => 1
  | .ptr d => uptoBulk d + 1
  | .slice elems spare => uptoBulkAll elems + uptoBulkAll spare + 1
  | .agg parts => uptoBulkAll parts + 1
  | .iface _ d => uptoBulk d + 1
  | .map entries => uptoBulkEntries entries + 1
  | .held _ => 1
def uptoBulkAll {H : Type} : List (DataW H) → Nat
  | [] => 0
  | d :: r => uptoBulk d + uptoBulkAll r
def uptoBulkEntries {H : Type} : List (Lit × DataW H) → Nat
  | [] => 0
  | x :: r => uptoBulkEntry x + uptoBulkEntries r
def uptoBulkEntry {H : Type} : Lit × DataW H → Nat
  | (.string bytes, d) => bytes.length + uptoBulk d + 1
  | (_, d) => uptoBulk d + 1
 end
def uptoSmall : (H : Type) → List (DataW H) → Bool := fun _ ds => decide (uptoBulkAll ds ≤ 1048576)
def OpenSpec.upto (s : _root_.Go.ChangeSpec) : _root_.Go.OpenSpec := { _root_.Go.OpenSpec.ofChange s with cond := some uptoSmall }

/-- 'waveletlaw15.PacketTwins', WHERE WHAT IT READS IS OF BULK AT MOST 1048576: true; the input reads as it did. -/
def packetTwinsUptoRow : OpenClaim := { program := "ytnpoakabheeoeaa", sum := "9d333f01060fdd8bf4fb691fef9dce64a00364f065b7003e69138f0c9688ae6f", func := "wavelet/waveletlaw15.PacketTwins", spec := "packetTwins", unfollowed := true, recurses := true, apart := false, narrowed := true }
def PacketTwinsUptoSaid : Prop := packetTwinsUptoRow.holds Try.pinned (OpenSpec.upto packetTwinsSpec)

/-- 'waveletlaw15.PacketNone', WHERE WHAT IT READS IS OF BULK AT MOST 1048576: true; the input reads as it did. -/
def packetNoneUptoRow : OpenClaim := { program := "ytnpoakabheeoeaa", sum := "9d333f01060fdd8bf4fb691fef9dce64a00364f065b7003e69138f0c9688ae6f", func := "wavelet/waveletlaw15.PacketNone", spec := "packetNone", unfollowed := true, recurses := true, apart := false, narrowed := true }
def PacketNoneUptoSaid : Prop := packetNoneUptoRow.holds Try.pinned (OpenSpec.upto packetNoneSpec)

/-- 'waveletlaw15.PacketEmpty', WHERE WHAT IT READS IS OF BULK AT MOST 1048576: true; the input reads as it did. -/
def packetEmptyUptoRow : OpenClaim := { program := "ytnpoakabheeoeaa", sum := "9d333f01060fdd8bf4fb691fef9dce64a00364f065b7003e69138f0c9688ae6f", func := "wavelet/waveletlaw15.PacketEmpty", spec := "packetEmpty", unfollowed := true, recurses := true, apart := false, narrowed := true }
def PacketEmptyUptoSaid : Prop := packetEmptyUptoRow.holds Try.pinned (OpenSpec.upto packetEmptySpec)

/-- 'waveletlaw15.PacketCounts', WHERE WHAT IT READS IS OF BULK AT MOST 1048576: true; the input reads as it did. -/
def packetCountsUptoRow : OpenClaim := { program := "ytnpoakabheeoeaa", sum := "9d333f01060fdd8bf4fb691fef9dce64a00364f065b7003e69138f0c9688ae6f", func := "wavelet/waveletlaw15.PacketCounts", spec := "packetCounts", unfollowed := true, recurses := true, apart := false, narrowed := true }
def PacketCountsUptoSaid : Prop := packetCountsUptoRow.holds Try.pinned (OpenSpec.upto packetCountsSpec)

end Rows
end Go.Proofs.Ytnpoakabheeoeaa
