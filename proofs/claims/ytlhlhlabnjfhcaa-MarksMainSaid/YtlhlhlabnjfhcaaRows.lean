/-
  No cell of these rows narrows 'for every input' (looked for: loops, veiled, ifaces, maps, wideKeys, modest, calm, conditions, laid).
  DERIVED. THE GIVEN ROWS OF THIS SEAT. 8 by the template 'for every input the law returns true; each argument reads behind the call as it read before'; 0 by the template 'total and deterministic' (their statements: YtlhlhlabnjfhcaaTotals.lean).
  GIVEN WITH THE SEED: the statements are not yours to turn. If you find one false, say at which input.
  Laid BY PROGRAM, IN A SANDBOX (cutbox-rows.mjs): the forced cells as the released guide's own fill.sh prints them over the translation 3474a88ad12741ce… (all of the seat's roots in one cut). By AI agents, Wed Nov 11 2026. No macro, syntax, notation, axiom, sorry.
-/
import Derived.Test.YtlhlhlabnjfhcaaChecked
import GoSem.Claim
import GoSem.ClaimJoined
import GoSem.ClaimMapViews
import Derived.JoinedTies
import Derived.KernelRfl
namespace Go.Proofs.Ytlhlhlabnjfhcaa
/- THE CELL 'sum', in the pinned program and in every row, IS THE sha256 OF THE DUMP (.gsa) THAT YtlhlhlabnjfhcaaProg.lean LOADS. Nothing in Lean hashes anything: it is a label: what it is worth is what the hold of that sum in a sandbox is worth. -/
noncomputable def Try.pinned : Pinned := { name := "ytlhlhlabnjfhcaa", sum := "3474a88ad12741cec106a177494a799e2ddb6f98ffe90f7a4984fdf2f609b7c9", checked := Try.checked }
namespace Rows
def none {H : Type} : Left H := { results := [], args := [] }

/-- 'waveletlaw17.MarksSegments': WHATEVER THE INPUT: true; the input reads as it did. -/
def marksSegmentsSpec : ChangeSpec := { name := "marksSegments", fn := fun _ => fun
  | [d1, d2, d3, d4] => { results := [.lit (.bool true)], args := [d1, d2, d3, d4] }
  | _ => none }
def marksSegmentsRow : OpenClaim := { program := "ytlhlhlabnjfhcaa", sum := "3474a88ad12741cec106a177494a799e2ddb6f98ffe90f7a4984fdf2f609b7c9", func := "wavelet/waveletlaw17.MarksSegments", spec := "marksSegments", unfollowed := true, recurses := true, apart := false }
def MarksSegmentsSaid : Prop := marksSegmentsRow.holds Try.pinned (OpenSpec.ofChange marksSegmentsSpec)

/-- ITS FALSE NEIGHBOUR: 'it returns false'. Refute it at one input. -/
def marksSegmentsWrong : ChangeSpec := { name := "marksSegments", fn := fun _ => fun
  | [d1, d2, d3, d4] => { results := [.lit (.bool false)], args := [d1, d2, d3, d4] }
  | _ => none }
def MarksSegmentsWrongFalsely : Prop := marksSegmentsRow.holds Try.pinned (OpenSpec.ofChange marksSegmentsWrong)

/-- 'waveletlaw17.MarksFrame': WHATEVER THE INPUT: true; the input reads as it did. -/
def marksFrameSpec : ChangeSpec := { name := "marksFrame", fn := fun _ => fun
  | [d1, d2] => { results := [.lit (.bool true)], args := [d1, d2] }
  | _ => none }
def marksFrameRow : OpenClaim := { program := "ytlhlhlabnjfhcaa", sum := "3474a88ad12741cec106a177494a799e2ddb6f98ffe90f7a4984fdf2f609b7c9", func := "wavelet/waveletlaw17.MarksFrame", spec := "marksFrame", unfollowed := true, recurses := true, apart := false }
def MarksFrameSaid : Prop := marksFrameRow.holds Try.pinned (OpenSpec.ofChange marksFrameSpec)

/-- ITS FALSE NEIGHBOUR: 'it returns false'. Refute it at one input. -/
def marksFrameWrong : ChangeSpec := { name := "marksFrame", fn := fun _ => fun
  | [d1, d2] => { results := [.lit (.bool false)], args := [d1, d2] }
  | _ => none }
def MarksFrameWrongFalsely : Prop := marksFrameRow.holds Try.pinned (OpenSpec.ofChange marksFrameWrong)

/-- 'waveletlaw17.MarksSames': WHATEVER THE INPUT: true; the input reads as it did. -/
def marksSamesSpec : ChangeSpec := { name := "marksSames", fn := fun _ => fun
  | [d1, d2, d3] => { results := [.lit (.bool true)], args := [d1, d2, d3] }
  | _ => none }
def marksSamesRow : OpenClaim := { program := "ytlhlhlabnjfhcaa", sum := "3474a88ad12741cec106a177494a799e2ddb6f98ffe90f7a4984fdf2f609b7c9", func := "wavelet/waveletlaw17.MarksSames", spec := "marksSames", unfollowed := true, recurses := true, apart := false }
def MarksSamesSaid : Prop := marksSamesRow.holds Try.pinned (OpenSpec.ofChange marksSamesSpec)

/-- ITS FALSE NEIGHBOUR: 'it returns false'. Refute it at one input. -/
def marksSamesWrong : ChangeSpec := { name := "marksSames", fn := fun _ => fun
  | [d1, d2, d3] => { results := [.lit (.bool false)], args := [d1, d2, d3] }
  | _ => none }
def MarksSamesWrongFalsely : Prop := marksSamesRow.holds Try.pinned (OpenSpec.ofChange marksSamesWrong)

/-- 'waveletlaw17.MarksSizes': WHATEVER THE INPUT: true; the input reads as it did. -/
def marksSizesSpec : ChangeSpec := { name := "marksSizes", fn := fun _ => fun
  | [d1, d2] => { results := [.lit (.bool true)], args := [d1, d2] }
  | _ => none }
def marksSizesRow : OpenClaim := { program := "ytlhlhlabnjfhcaa", sum := "3474a88ad12741cec106a177494a799e2ddb6f98ffe90f7a4984fdf2f609b7c9", func := "wavelet/waveletlaw17.MarksSizes", spec := "marksSizes", unfollowed := true, recurses := true, apart := false }
def MarksSizesSaid : Prop := marksSizesRow.holds Try.pinned (OpenSpec.ofChange marksSizesSpec)

/-- ITS FALSE NEIGHBOUR: 'it returns false'. Refute it at one input. -/
def marksSizesWrong : ChangeSpec := { name := "marksSizes", fn := fun _ => fun
  | [d1, d2] => { results := [.lit (.bool false)], args := [d1, d2] }
  | _ => none }
def MarksSizesWrongFalsely : Prop := marksSizesRow.holds Try.pinned (OpenSpec.ofChange marksSizesWrong)

/-- 'waveletlaw17.MarksCuts': WHATEVER THE INPUT: true; the input reads as it did. -/
def marksCutsSpec : ChangeSpec := { name := "marksCuts", fn := fun _ => fun
  | [d1, d2] => { results := [.lit (.bool true)], args := [d1, d2] }
  | _ => none }
def marksCutsRow : OpenClaim := { program := "ytlhlhlabnjfhcaa", sum := "3474a88ad12741cec106a177494a799e2ddb6f98ffe90f7a4984fdf2f609b7c9", func := "wavelet/waveletlaw17.MarksCuts", spec := "marksCuts", unfollowed := true, recurses := true, apart := false }
def MarksCutsSaid : Prop := marksCutsRow.holds Try.pinned (OpenSpec.ofChange marksCutsSpec)

/-- ITS FALSE NEIGHBOUR: 'it returns false'. Refute it at one input. -/
def marksCutsWrong : ChangeSpec := { name := "marksCuts", fn := fun _ => fun
  | [d1, d2] => { results := [.lit (.bool false)], args := [d1, d2] }
  | _ => none }
def MarksCutsWrongFalsely : Prop := marksCutsRow.holds Try.pinned (OpenSpec.ofChange marksCutsWrong)

/-- 'waveletlaw17.MarksWays': WHATEVER THE INPUT: true; the input reads as it did. -/
def marksWaysSpec : ChangeSpec := { name := "marksWays", fn := fun _ => fun
  | [d1, d2, d3] => { results := [.lit (.bool true)], args := [d1, d2, d3] }
  | _ => none }
def marksWaysRow : OpenClaim := { program := "ytlhlhlabnjfhcaa", sum := "3474a88ad12741cec106a177494a799e2ddb6f98ffe90f7a4984fdf2f609b7c9", func := "wavelet/waveletlaw17.MarksWays", spec := "marksWays", unfollowed := true, recurses := true, apart := false }
def MarksWaysSaid : Prop := marksWaysRow.holds Try.pinned (OpenSpec.ofChange marksWaysSpec)

/-- ITS FALSE NEIGHBOUR: 'it returns false'. Refute it at one input. -/
def marksWaysWrong : ChangeSpec := { name := "marksWays", fn := fun _ => fun
  | [d1, d2, d3] => { results := [.lit (.bool false)], args := [d1, d2, d3] }
  | _ => none }
def MarksWaysWrongFalsely : Prop := marksWaysRow.holds Try.pinned (OpenSpec.ofChange marksWaysWrong)

/-- 'waveletlaw17.MarksMain': WHATEVER THE INPUT: true; the input reads as it did. -/
def marksMainSpec : ChangeSpec := { name := "marksMain", fn := fun _ => fun
  | [d1, d2, d3] => { results := [.lit (.bool true)], args := [d1, d2, d3] }
  | _ => none }
def marksMainRow : OpenClaim := { program := "ytlhlhlabnjfhcaa", sum := "3474a88ad12741cec106a177494a799e2ddb6f98ffe90f7a4984fdf2f609b7c9", func := "wavelet/waveletlaw17.MarksMain", spec := "marksMain", unfollowed := true, recurses := true, apart := false }
def MarksMainSaid : Prop := marksMainRow.holds Try.pinned (OpenSpec.ofChange marksMainSpec)

/-- ITS FALSE NEIGHBOUR: 'it returns false'. Refute it at one input. -/
def marksMainWrong : ChangeSpec := { name := "marksMain", fn := fun _ => fun
  | [d1, d2, d3] => { results := [.lit (.bool false)], args := [d1, d2, d3] }
  | _ => none }
def MarksMainWrongFalsely : Prop := marksMainRow.holds Try.pinned (OpenSpec.ofChange marksMainWrong)

/-- 'waveletlaw17.MarksTwice': WHATEVER THE INPUT: true; the input reads as it did. -/
def marksTwiceSpec : ChangeSpec := { name := "marksTwice", fn := fun _ => fun
  | [d1, d2] => { results := [.lit (.bool true)], args := [d1, d2] }
  | _ => none }
def marksTwiceRow : OpenClaim := { program := "ytlhlhlabnjfhcaa", sum := "3474a88ad12741cec106a177494a799e2ddb6f98ffe90f7a4984fdf2f609b7c9", func := "wavelet/waveletlaw17.MarksTwice", spec := "marksTwice", unfollowed := true, recurses := true, apart := false }
def MarksTwiceSaid : Prop := marksTwiceRow.holds Try.pinned (OpenSpec.ofChange marksTwiceSpec)

/-- ITS FALSE NEIGHBOUR: 'it returns false'. Refute it at one input. -/
def marksTwiceWrong : ChangeSpec := { name := "marksTwice", fn := fun _ => fun
  | [d1, d2] => { results := [.lit (.bool false)], args := [d1, d2] }
  | _ => none }
def MarksTwiceWrongFalsely : Prop := marksTwiceRow.holds Try.pinned (OpenSpec.ofChange marksTwiceWrong)

/- THE SECOND FORM. 'bulk': how many values and letters a reading holds, each counted each time it is reached (what is shared counts as often as it is met; a slice's spare places count too). A statement '..UptoSaid' is the law's where the arguments, and the package variables that the reading takes, are together of bulk at most 1048576: NARROWER than '..Said'. Prove '..Said' where nothing that the law and all that it calls make is longer than what came in: it says more and counts as full. Else prove '..UptoSaid'. A law counts once. -/
mutual
def uptoBulk {H : Type} : DataW H → Nat
  | .lit (.string bytes) => bytes.length + 1
  | .lit _ => 1
  | .nil => 1
  | .ptr d => uptoBulk d + 1
  | .slice elems spare => uptoBulkAll elems + uptoBulkAll spare + 1
  | .agg parts => uptoBulkAll parts + 1
  | .iface _ d => uptoBulk d + 1
  | .map entries => uptoBulkEntries entries + 1
  | .held _ => 1
def uptoBulkAll {H : Type} : List (DataW H) → Nat
  | [] => 0
  | d :: r => uptoBulk d + uptoBulkAll r
def uptoBulkEntries {H : Type} : List (Lit × DataW H) → Nat
  | [] => 0
  | x :: r => uptoBulkEntry x + uptoBulkEntries r
def uptoBulkEntry {H : Type} : Lit × DataW H → Nat
  | (.string bytes, d) => bytes.length + uptoBulk d + 1
  | (_, d) => uptoBulk d + 1
 end
def uptoSmall : (H : Type) → List (DataW H) → Bool := fun _ ds => decide (uptoBulkAll ds ≤ 1048576)
def OpenSpec.upto (s : _root_.Go.ChangeSpec) : _root_.Go.OpenSpec := { _root_.Go.OpenSpec.ofChange s with cond := some uptoSmall }

/-- 'waveletlaw17.MarksSegments', WHERE WHAT IT READS IS OF BULK AT MOST 1048576: true; the input reads as it did. -/
def marksSegmentsUptoRow : OpenClaim := { program := "ytlhlhlabnjfhcaa", sum := "3474a88ad12741cec106a177494a799e2ddb6f98ffe90f7a4984fdf2f609b7c9", func := "wavelet/waveletlaw17.MarksSegments", spec := "marksSegments", unfollowed := true, recurses := true, apart := false, narrowed := true }
def MarksSegmentsUptoSaid : Prop := marksSegmentsUptoRow.holds Try.pinned (OpenSpec.upto marksSegmentsSpec)

/-- 'waveletlaw17.MarksFrame', WHERE WHAT IT READS IS OF BULK AT MOST 1048576: true; the input reads as it did. -/
def marksFrameUptoRow : OpenClaim := { program := "ytlhlhlabnjfhcaa", sum := "3474a88ad12741cec106a177494a799e2ddb6f98ffe90f7a4984fdf2f609b7c9", func := "wavelet/waveletlaw17.MarksFrame", spec := "marksFrame", unfollowed := true, recurses := true, apart := false, narrowed := true }
def MarksFrameUptoSaid : Prop := marksFrameUptoRow.holds Try.pinned (OpenSpec.upto marksFrameSpec)

/-- 'waveletlaw17.MarksSames', WHERE WHAT IT READS IS OF BULK AT MOST 1048576: true; the input reads as it did. -/
def marksSamesUptoRow : OpenClaim := { program := "ytlhlhlabnjfhcaa", sum := "3474a88ad12741cec106a177494a799e2ddb6f98ffe90f7a4984fdf2f609b7c9", func := "wavelet/waveletlaw17.MarksSames", spec := "marksSames", unfollowed := true, recurses := true, apart := false, narrowed := true }
def MarksSamesUptoSaid : Prop := marksSamesUptoRow.holds Try.pinned (OpenSpec.upto marksSamesSpec)

/-- 'waveletlaw17.MarksSizes', WHERE WHAT IT READS IS OF BULK AT MOST 1048576: true; the input reads as it did. -/
def marksSizesUptoRow : OpenClaim := { program := "ytlhlhlabnjfhcaa", sum := "3474a88ad12741cec106a177494a799e2ddb6f98ffe90f7a4984fdf2f609b7c9", func := "wavelet/waveletlaw17.MarksSizes", spec := "marksSizes", unfollowed := true, recurses := true, apart := false, narrowed := true }
def MarksSizesUptoSaid : Prop := marksSizesUptoRow.holds Try.pinned (OpenSpec.upto marksSizesSpec)

/-- 'waveletlaw17.MarksCuts', WHERE WHAT IT READS IS OF BULK AT MOST 1048576: true; the input reads as it did. -/
def marksCutsUptoRow : OpenClaim := { program := "ytlhlhlabnjfhcaa", sum := "3474a88ad12741cec106a177494a799e2ddb6f98ffe90f7a4984fdf2f609b7c9", func := "wavelet/waveletlaw17.MarksCuts", spec := "marksCuts", unfollowed := true, recurses := true, apart := false, narrowed := true }
def MarksCutsUptoSaid : Prop := marksCutsUptoRow.holds Try.pinned (OpenSpec.upto marksCutsSpec)

/-- 'waveletlaw17.MarksWays', WHERE WHAT IT READS IS OF BULK AT MOST 1048576: true; the input reads as it did. -/
def marksWaysUptoRow : OpenClaim := { program := "ytlhlhlabnjfhcaa", sum := "3474a88ad12741cec106a177494a799e2ddb6f98ffe90f7a4984fdf2f609b7c9", func := "wavelet/waveletlaw17.MarksWays", spec := "marksWays", unfollowed := true, recurses := true, apart := false, narrowed := true }
def MarksWaysUptoSaid : Prop := marksWaysUptoRow.holds Try.pinned (OpenSpec.upto marksWaysSpec)

/-- 'waveletlaw17.MarksMain', WHERE WHAT IT READS IS OF BULK AT MOST 1048576: true; the input reads as it did. -/
def marksMainUptoRow : OpenClaim := { program := "ytlhlhlabnjfhcaa", sum := "3474a88ad12741cec106a177494a799e2ddb6f98ffe90f7a4984fdf2f609b7c9", func := "wavelet/waveletlaw17.MarksMain", spec := "marksMain", unfollowed := true, recurses := true, apart := false, narrowed := true }
def MarksMainUptoSaid : Prop := marksMainUptoRow.holds Try.pinned (OpenSpec.upto marksMainSpec)

/-- 'waveletlaw17.MarksTwice', WHERE WHAT IT READS IS OF BULK AT MOST 1048576: true; the input reads as it did. -/
def marksTwiceUptoRow : OpenClaim := { program := "ytlhlhlabnjfhcaa", sum := "3474a88ad12741cec106a177494a799e2ddb6f98ffe90f7a4984fdf2f609b7c9", func := "wavelet/waveletlaw17.MarksTwice", spec := "marksTwice", unfollowed := true, recurses := true, apart := false, narrowed := true }
def MarksTwiceUptoSaid : Prop := marksTwiceUptoRow.holds Try.pinned (OpenSpec.upto marksTwiceSpec)

end Rows
end Go.Proofs.Ytlhlhlabnjfhcaa
