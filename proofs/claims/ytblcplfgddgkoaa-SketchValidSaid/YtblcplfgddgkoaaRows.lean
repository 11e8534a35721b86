/-
  No cell of these rows narrows 'for every input' (looked for: loops, veiled, ifaces, maps, wideKeys, modest, calm, conditions, laid).
  DERIVED. THE GIVEN ROWS OF THIS SEAT. 5 by the template 'for every input the law returns true; each argument reads behind the call as it read before'; 0 by the template 'total and deterministic' (their statements: YtblcplfgddgkoaaTotals.lean).
  GIVEN WITH THE SEED: the statements are not yours to turn. If you find one false, say at which input.
  Laid BY PROGRAM, IN A SANDBOX (cutbox-rows.mjs): the forced cells as the released guide's own fill.sh prints them over the translation 0d8bc5e27379e0ef… (all of the seat's roots in one cut). By AI agents, Wed Nov 11 2026. No macro, syntax, notation, axiom, sorry.
-/
import Derived.Test.YtblcplfgddgkoaaChecked
import GoSem.Claim
import GoSem.ClaimJoined
import GoSem.ClaimMapViews
import Derived.JoinedTies
import Derived.KernelRfl
namespace Go.Proofs.Ytblcplfgddgkoaa
/- THE CELL 'sum', in the pinned program and in every row, IS THE sha256 OF THE DUMP (.gsa) THAT YtblcplfgddgkoaaProg.lean LOADS. Nothing in Lean hashes anything: it is a label: what it is worth is what the hold of that sum in a sandbox is worth. -/
noncomputable def Try.pinned : Pinned := { name := "ytblcplfgddgkoaa", sum := "0d8bc5e27379e0ef123803a9425c461b35d745095b1f3b29e7576573833c7e1d", checked := Try.checked }
namespace Rows
def none {H : Type} : Left H := { results := [], args := [] }

/-- 'waveletlaw21.SketchDraws': WHATEVER THE INPUT: true; the input reads as it did. -/
def sketchDrawsSpec : ChangeSpec := { name := "sketchDraws", fn := fun _ => fun
  | [d1, d2, d3, d4, d5, d6, d7] => { results := [.lit (.bool true)], args := [d1, d2, d3, d4, d5, d6, d7] }
  | _ => none }
def sketchDrawsRow : OpenClaim := { program := "ytblcplfgddgkoaa", sum := "0d8bc5e27379e0ef123803a9425c461b35d745095b1f3b29e7576573833c7e1d", func := "wavelet/waveletlaw21.SketchDraws", spec := "sketchDraws", unfollowed := true, recurses := true, apart := false }
def SketchDrawsSaid : Prop := sketchDrawsRow.holds Try.pinned (OpenSpec.ofChange sketchDrawsSpec)

/-- ITS FALSE NEIGHBOUR: 'it returns false'. Refute it at one input. -/
def sketchDrawsWrong : ChangeSpec := { name := "sketchDraws", fn := fun _ => fun
  | [d1, d2, d3, d4, d5, d6, d7] => { results := [.lit (.bool false)], args := [d1, d2, d3, d4, d5, d6, d7] }
  | _ => none }
def SketchDrawsWrongFalsely : Prop := sketchDrawsRow.holds Try.pinned (OpenSpec.ofChange sketchDrawsWrong)

/-- 'waveletlaw21.SketchValid': WHATEVER THE INPUT: true; the input reads as it did. -/
def sketchValidSpec : ChangeSpec := { name := "sketchValid", fn := fun _ => fun
  | [d1, d2, d3, d4, d5] => { results := [.lit (.bool true)], args := [d1, d2, d3, d4, d5] }
  | _ => none }
def sketchValidRow : OpenClaim := { program := "ytblcplfgddgkoaa", sum := "0d8bc5e27379e0ef123803a9425c461b35d745095b1f3b29e7576573833c7e1d", func := "wavelet/waveletlaw21.SketchValid", spec := "sketchValid", unfollowed := true, recurses := true, apart := false }
def SketchValidSaid : Prop := sketchValidRow.holds Try.pinned (OpenSpec.ofChange sketchValidSpec)

/-- ITS FALSE NEIGHBOUR: 'it returns false'. Refute it at one input. -/
def sketchValidWrong : ChangeSpec := { name := "sketchValid", fn := fun _ => fun
  | [d1, d2, d3, d4, d5] => { results := [.lit (.bool false)], args := [d1, d2, d3, d4, d5] }
  | _ => none }
def SketchValidWrongFalsely : Prop := sketchValidRow.holds Try.pinned (OpenSpec.ofChange sketchValidWrong)

/-- 'waveletlaw21.SketchSums': WHATEVER THE INPUT: true; the input reads as it did. -/
def sketchSumsSpec : ChangeSpec := { name := "sketchSums", fn := fun _ => fun
  | [d1, d2, d3, d4] => { results := [.lit (.bool true)], args := [d1, d2, d3, d4] }
  | _ => none }
def sketchSumsRow : OpenClaim := { program := "ytblcplfgddgkoaa", sum := "0d8bc5e27379e0ef123803a9425c461b35d745095b1f3b29e7576573833c7e1d", func := "wavelet/waveletlaw21.SketchSums", spec := "sketchSums", unfollowed := true, recurses := true, apart := false }
def SketchSumsSaid : Prop := sketchSumsRow.holds Try.pinned (OpenSpec.ofChange sketchSumsSpec)

/-- ITS FALSE NEIGHBOUR: 'it returns false'. Refute it at one input. -/
def sketchSumsWrong : ChangeSpec := { name := "sketchSums", fn := fun _ => fun
  | [d1, d2, d3, d4] => { results := [.lit (.bool false)], args := [d1, d2, d3, d4] }
  | _ => none }
def SketchSumsWrongFalsely : Prop := sketchSumsRow.holds Try.pinned (OpenSpec.ofChange sketchSumsWrong)

/-- 'waveletlaw21.SketchKinds': WHATEVER THE INPUT: true; the input reads as it did. -/
def sketchKindsSpec : ChangeSpec := { name := "sketchKinds", fn := fun _ => fun
  | [d1, d2, d3, d4] => { results := [.lit (.bool true)], args := [d1, d2, d3, d4] }
  | _ => none }
def sketchKindsRow : OpenClaim := { program := "ytblcplfgddgkoaa", sum := "0d8bc5e27379e0ef123803a9425c461b35d745095b1f3b29e7576573833c7e1d", func := "wavelet/waveletlaw21.SketchKinds", spec := "sketchKinds", unfollowed := true, recurses := true, apart := false }
def SketchKindsSaid : Prop := sketchKindsRow.holds Try.pinned (OpenSpec.ofChange sketchKindsSpec)

/-- ITS FALSE NEIGHBOUR: 'it returns false'. Refute it at one input. -/
def sketchKindsWrong : ChangeSpec := { name := "sketchKinds", fn := fun _ => fun
  | [d1, d2, d3, d4] => { results := [.lit (.bool false)], args := [d1, d2, d3, d4] }
  | _ => none }
def SketchKindsWrongFalsely : Prop := sketchKindsRow.holds Try.pinned (OpenSpec.ofChange sketchKindsWrong)

/-- 'waveletlaw21.SketchRows': WHATEVER THE INPUT: true; the input reads as it did. -/
def sketchRowsSpec : ChangeSpec := { name := "sketchRows", fn := fun _ => fun
  | [d1, d2] => { results := [.lit (.bool true)], args := [d1, d2] }
  | _ => none }
def sketchRowsRow : OpenClaim := { program := "ytblcplfgddgkoaa", sum := "0d8bc5e27379e0ef123803a9425c461b35d745095b1f3b29e7576573833c7e1d", func := "wavelet/waveletlaw21.SketchRows", spec := "sketchRows", unfollowed := true, recurses := true, apart := false }
def SketchRowsSaid : Prop := sketchRowsRow.holds Try.pinned (OpenSpec.ofChange sketchRowsSpec)

/-- ITS FALSE NEIGHBOUR: 'it returns false'. Refute it at one input. -/
def sketchRowsWrong : ChangeSpec := { name := "sketchRows", fn := fun _ => fun
  | [d1, d2] => { results := [.lit (.bool false)], args := [d1, d2] }
  | _ => none }
def SketchRowsWrongFalsely : Prop := sketchRowsRow.holds Try.pinned (OpenSpec.ofChange sketchRowsWrong)

/- THE SECOND FORM. 'bulk': how many values and letters a reading holds, each counted each time it is reached (what is shared counts as often as it is met; a slice's spare places count too). A statement '..UptoSaid' is the law's where the arguments, and the package variables that the reading takes, are together of bulk at most 1048576: NARROWER than '..Said'. Prove '..Said' where nothing that the law and all that it calls make is longer than what came in: it says more and counts as full. Else prove '..UptoSaid'. A law counts once. -/
mutual
def uptoBulk {H : Type} : DataW H → Nat
  | .lit (.string bytes) => bytes.length + 1
  | .lit _ => 1
  | .nil => 1
  | .ptr d => uptoBulk d + 1
  | .slice elems spare => uptoBulkAll elems + uptoBulkAll spare + 1
  | .agg parts => uptoBulkAll parts + 1
  | .iface _ d => uptoBulk d + 1
  | .map entries => uptoBulkEntries entries + 1
  | .held _ => 1
def uptoBulkAll {H : Type} : List (DataW H) → Nat
  | [] => 0
  | d :: r => uptoBulk d + uptoBulkAll r
def uptoBulkEntries {H : Type} : List (Lit × DataW H) → Nat
  | [] => 0
  | x :: r => uptoBulkEntry x + uptoBulkEntries r
def uptoBulkEntry {H : Type} : Lit × DataW H → Nat
  | (.string bytes, d) => bytes.length + uptoBulk d + 1
  | (_, d) => uptoBulk d + 1
 end
def uptoSmall : (H : Type) → List (DataW H) → Bool := fun _ ds => decide (uptoBulkAll ds ≤ 1048576)
def OpenSpec.upto (s : _root_.Go.ChangeSpec) : _root_.Go.OpenSpec := { _root_.Go.OpenSpec.ofChange s with cond := some uptoSmall }

/-- 'waveletlaw21.SketchDraws', WHERE WHAT IT READS IS OF BULK AT MOST 1048576: true; the input reads as it did. -/
def sketchDrawsUptoRow : OpenClaim := { program := "ytblcplfgddgkoaa", sum := "0d8bc5e27379e0ef123803a9425c461b35d745095b1f3b29e7576573833c7e1d", func := "wavelet/waveletlaw21.SketchDraws", spec := "sketchDraws", unfollowed := true, recurses := true, apart := false, narrowed := true }
def SketchDrawsUptoSaid : Prop := sketchDrawsUptoRow.holds Try.pinned (OpenSpec.upto sketchDrawsSpec)

/-- 'waveletlaw21.SketchValid', WHERE WHAT IT READS IS OF BULK AT MOST 1048576: true; the input reads as it did. -/
def sketchValidUptoRow : OpenClaim := { program := "ytblcplfgddgkoaa", sum := "0d8bc5e27379e0ef123803a9425c461b35d745095b1f3b29e7576573833c7e1d", func := "wavelet/waveletlaw21.SketchValid", spec := "sketchValid", unfollowed := true, recurses := true, apart := false, narrowed := true }
def SketchValidUptoSaid : Prop := sketchValidUptoRow.holds Try.pinned (OpenSpec.upto sketchValidSpec)

/-- 'waveletlaw21.SketchSums', WHERE WHAT IT READS IS OF BULK AT MOST 1048576: true; the input reads as it did. -/
def sketchSumsUptoRow : OpenClaim := { program := "ytblcplfgddgkoaa", sum := "0d8bc5e27379e0ef123803a9425c461b35d745095b1f3b29e7576573833c7e1d", func := "wavelet/waveletlaw21.SketchSums", spec := "sketchSums", unfollowed := true, recurses := true, apart := false, narrowed := true }
def SketchSumsUptoSaid : Prop := sketchSumsUptoRow.holds Try.pinned (OpenSpec.upto sketchSumsSpec)

/-- 'waveletlaw21.SketchKinds', WHERE WHAT IT READS IS OF BULK AT MOST 1048576: true; the input reads as it did. -/
def sketchKindsUptoRow : OpenClaim := { program := "ytblcplfgddgkoaa", sum := "0d8bc5e27379e0ef123803a9425c461b35d745095b1f3b29e7576573833c7e1d", func := "wavelet/waveletlaw21.SketchKinds", spec := "sketchKinds", unfollowed := true, recurses := true, apart := false, narrowed := true }
def SketchKindsUptoSaid : Prop := sketchKindsUptoRow.holds Try.pinned (OpenSpec.upto sketchKindsSpec)

/-- 'waveletlaw21.SketchRows', WHERE WHAT IT READS IS OF BULK AT MOST 1048576: true; the input reads as it did. -/
def sketchRowsUptoRow : OpenClaim := { program := "ytblcplfgddgkoaa", sum := "0d8bc5e27379e0ef123803a9425c461b35d745095b1f3b29e7576573833c7e1d", func := "wavelet/waveletlaw21.SketchRows", spec := "sketchRows", unfollowed := true, recurses := true, apart := false, narrowed := true }
def SketchRowsUptoSaid : Prop := sketchRowsUptoRow.holds Try.pinned (OpenSpec.upto sketchRowsSpec)

end Rows
end Go.Proofs.Ytblcplfgddgkoaa
