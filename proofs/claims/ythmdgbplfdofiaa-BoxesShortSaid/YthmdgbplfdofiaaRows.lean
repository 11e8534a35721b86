/-
  No cell of these rows narrows 'for every input' (looked for: loops, veiled, ifaces, maps, wideKeys, modest, calm, conditions, laid).
  DERIVED. THE GIVEN ROWS OF THIS SEAT. 3 by the template 'for every input the law returns true; each argument reads behind the call as it read before'; 0 by the template 'total and deterministic' (their statements: YthmdgbplfdofiaaTotals.lean).
  GIVEN WITH THE SEED: the statements are not yours to turn. If you find one false, say at which input.
  Laid BY PROGRAM, IN A SANDBOX (cutbox-rows.mjs): the forced cells as the released guide's own fill.sh prints them over the translation 6541fbdfd9034b2e… (all of the seat's roots in one cut). By AI agents, Wed Nov 11 2026. No macro, syntax, notation, axiom, sorry.
-/
import Derived.Test.YthmdgbplfdofiaaChecked
import GoSem.Claim
import GoSem.ClaimJoined
import GoSem.ClaimMapViews
import Derived.JoinedTies
import Derived.KernelRfl
namespace Go.Proofs.Ythmdgbplfdofiaa
/- THE CELL 'sum', in the pinned program and in every row, IS THE sha256 OF THE DUMP (.gsa) THAT YthmdgbplfdofiaaProg.lean LOADS. Nothing in Lean hashes anything: it is a label: what it is worth is what the hold of that sum in a sandbox is worth. -/
noncomputable def Try.pinned : Pinned := { name := "ythmdgbplfdofiaa", sum := "6541fbdfd9034b2e3c7f9ade7cfb811732996760022bfd0864e30d46b464fdd6", checked := Try.checked }
namespace Rows
def none {H : Type} : Left H := { results := [], args := [] }

/-- 'waveletlaw20.BoxesLong': WHATEVER THE INPUT: true; the input reads as it did. -/
def boxesLongSpec : ChangeSpec := { name := "boxesLong", fn := fun _ => fun
  | [d1, d2] => { results := [.lit (.bool true)], args := [d1, d2] }
  | _ => none }
def boxesLongRow : OpenClaim := { program := "ythmdgbplfdofiaa", sum := "6541fbdfd9034b2e3c7f9ade7cfb811732996760022bfd0864e30d46b464fdd6", func := "wavelet/waveletlaw20.BoxesLong", spec := "boxesLong", unfollowed := true, recurses := true, apart := false }
def BoxesLongSaid : Prop := boxesLongRow.holds Try.pinned (OpenSpec.ofChange boxesLongSpec)

/-- ITS FALSE NEIGHBOUR: 'it returns false'. Refute it at one input. -/
def boxesLongWrong : ChangeSpec := { name := "boxesLong", fn := fun _ => fun
  | [d1, d2] => { results := [.lit (.bool false)], args := [d1, d2] }
  | _ => none }
def BoxesLongWrongFalsely : Prop := boxesLongRow.holds Try.pinned (OpenSpec.ofChange boxesLongWrong)

/-- 'waveletlaw20.BoxesMany': WHATEVER THE INPUT: true; the input reads as it did. -/
def boxesManySpec : ChangeSpec := { name := "boxesMany", fn := fun _ => fun
  | [d] => { results := [.lit (.bool true)], args := [d] }
  | _ => none }
def boxesManyRow : OpenClaim := { program := "ythmdgbplfdofiaa", sum := "6541fbdfd9034b2e3c7f9ade7cfb811732996760022bfd0864e30d46b464fdd6", func := "wavelet/waveletlaw20.BoxesMany", spec := "boxesMany", unfollowed := true, recurses := true, apart := false }
def BoxesManySaid : Prop := boxesManyRow.holds Try.pinned (OpenSpec.ofChange boxesManySpec)

/-- ITS FALSE NEIGHBOUR: 'it returns false'. Refute it at one input. -/
def boxesManyWrong : ChangeSpec := { name := "boxesMany", fn := fun _ => fun
  | [d] => { results := [.lit (.bool false)], args := [d] }
  | _ => none }
def BoxesManyWrongFalsely : Prop := boxesManyRow.holds Try.pinned (OpenSpec.ofChange boxesManyWrong)

/-- 'waveletlaw20.BoxesShort': WHATEVER THE INPUT: true; the input reads as it did. -/
def boxesShortSpec : ChangeSpec := { name := "boxesShort", fn := fun _ => fun
  | [d1, d2, d3] => { results := [.lit (.bool true)], args := [d1, d2, d3] }
  | _ => none }
def boxesShortRow : OpenClaim := { program := "ythmdgbplfdofiaa", sum := "6541fbdfd9034b2e3c7f9ade7cfb811732996760022bfd0864e30d46b464fdd6", func := "wavelet/waveletlaw20.BoxesShort", spec := "boxesShort", unfollowed := true, recurses := true, apart := false }
def BoxesShortSaid : Prop := boxesShortRow.holds Try.pinned (OpenSpec.ofChange boxesShortSpec)

/-- ITS FALSE NEIGHBOUR: 'it returns false'. Refute it at one input. -/
def boxesShortWrong : ChangeSpec := { name := "boxesShort", fn := fun _ => fun
  | [d1, d2, d3] => { results := [.lit (.bool false)], args := [d1, d2, d3] }
  | _ => none }
def BoxesShortWrongFalsely : Prop := boxesShortRow.holds Try.pinned (OpenSpec.ofChange boxesShortWrong)

/- THE SECOND FORM. 'bulk': how many values and letters a reading holds, each counted each time it is reached (what is shared counts as often as it is met; a slice's spare places count too). A statement '..UptoSaid' is the law's where the arguments, and the package variables that the reading takes, are together of bulk at most 1048576: NARROWER than '..Said'. Prove '..Said' where nothing that the law and all that it calls make is longer than what came in: it says more and counts as full. Else prove '..UptoSaid'. A law counts once. -/
mutual
def uptoBulk {H : Type} : DataW H → Nat
  | .lit (.string bytes) => bytes.length + 1
  | .lit _ => 1
  | .nil => 1
  | .ptr d => uptoBulk d + 1
  | .slice elems spare => uptoBulkAll elems + uptoBulkAll spare + 1
  | .agg parts => uptoBulkAll parts + 1
  | .iface _ d => uptoBulk d + 1
  | .map entries => uptoBulkEntries entries + 1
  | .held _ => 1
def uptoBulkAll {H : Type} : List (DataW H) → Nat
  | [] => 0
  | d :: r => uptoBulk d + uptoBulkAll r
def uptoBulkEntries {H : Type} : List (Lit × DataW H) → Nat
  | [] => 0
  | x :: r => uptoBulkEntry x + uptoBulkEntries r
def uptoBulkEntry {H : Type} : Lit × DataW H → Nat
  | (.string bytes, d) => bytes.length + uptoBulk d + 1
  | (_, d) => uptoBulk d + 1
 end
def uptoSmall : (H : Type) → List (DataW H) → Bool := fun _ ds => decide (uptoBulkAll ds ≤ 1048576)
def OpenSpec.upto (s : _root_.Go.ChangeSpec) : _root_.Go.OpenSpec := { _root_.Go.OpenSpec.ofChange s with cond := some uptoSmall }

/-- 'waveletlaw20.BoxesLong', WHERE WHAT IT READS IS OF BULK AT MOST 1048576: true; the input reads as it did. -/
def boxesLongUptoRow : OpenClaim := { program := "ythmdgbplfdofiaa", sum := "6541fbdfd9034b2e3c7f9ade7cfb811732996760022bfd0864e30d46b464fdd6", func := "wavelet/waveletlaw20.BoxesLong", spec := "boxesLong", unfollowed := true, recurses := true, apart := false, narrowed := true }
def BoxesLongUptoSaid : Prop := boxesLongUptoRow.holds Try.pinned (OpenSpec.upto boxesLongSpec)

/-- 'waveletlaw20.BoxesMany', WHERE WHAT IT READS IS OF BULK AT MOST 1048576: true; the input reads as it did. -/
def boxesManyUptoRow : OpenClaim := { program := "ythmdgbplfdofiaa", sum := "6541fbdfd9034b2e3c7f9ade7cfb811732996760022bfd0864e30d46b464fdd6", func := "wavelet/waveletlaw20.BoxesMany", spec := "boxesMany", unfollowed := true, recurses := true, apart := false, narrowed := true }
def BoxesManyUptoSaid : Prop := boxesManyUptoRow.holds Try.pinned (OpenSpec.upto boxesManySpec)

/-- 'waveletlaw20.BoxesShort', WHERE WHAT IT READS IS OF BULK AT MOST 1048576: true; the input reads as it did. -/
def boxesShortUptoRow : OpenClaim := { program := "ythmdgbplfdofiaa", sum := "6541fbdfd9034b2e3c7f9ade7cfb811732996760022bfd0864e30d46b464fdd6", func := "wavelet/waveletlaw20.BoxesShort", spec := "boxesShort", unfollowed := true, recurses := true, apart := false, narrowed := true }
def BoxesShortUptoSaid : Prop := boxesShortUptoRow.holds Try.pinned (OpenSpec.upto boxesShortSpec)

end Rows
end Go.Proofs.Ythmdgbplfdofiaa
