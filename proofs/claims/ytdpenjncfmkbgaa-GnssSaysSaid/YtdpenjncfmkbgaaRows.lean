/-
  No cell of these rows narrows 'for every input' (looked for: loops, veiled, ifaces, maps, wideKeys, modest, calm, conditions, laid).
  DERIVED. THE GIVEN ROWS OF THIS SEAT. 4 by the template 'for every input the law returns true; each argument reads behind the call as it read before'; 0 by the template 'total and deterministic' (their statements: YtdpenjncfmkbgaaTotals.lean).
  GIVEN WITH THE SEED: the statements are not yours to turn. If you find one false, say at which input.
  Laid BY PROGRAM, IN A SANDBOX (cutbox-rows.mjs): the forced cells as the released guide's own fill.sh prints them over the translation 424c3d579cd644f1… (all of the seat's roots in one cut). By AI agents, Wed Nov 11 2026. No macro, syntax, notation, axiom, sorry.
-/
import Derived.Test.YtdpenjncfmkbgaaChecked
import GoSem.Claim
import GoSem.ClaimJoined
import GoSem.ClaimMapViews
import Derived.JoinedTies
import Derived.KernelRfl
namespace Go.Proofs.Ytdpenjncfmkbgaa
/- THE CELL 'sum', in the pinned program and in every row, IS THE sha256 OF THE DUMP (.gsa) THAT YtdpenjncfmkbgaaProg.lean LOADS. Nothing in Lean hashes anything: it is a label: what it is worth is what the hold of that sum in a sandbox is worth. -/
noncomputable def Try.pinned : Pinned := { name := "ytdpenjncfmkbgaa", sum := "424c3d579cd644f12b4ce80f5edd6f07c2be14a248039dd89db473e645aad265", checked := Try.checked }
namespace Rows
def none {H : Type} : Left H := { results := [], args := [] }

/-- 'astrolabelaw19.GnssKnown': WHATEVER THE INPUT: true; the input reads as it did. -/
def gnssKnownSpec : ChangeSpec := { name := "gnssKnown", fn := fun _ => fun
  | [] => { results := [.lit (.bool true)], args := [] }
  | _ => none }
def gnssKnownRow : OpenClaim := { program := "ytdpenjncfmkbgaa", sum := "424c3d579cd644f12b4ce80f5edd6f07c2be14a248039dd89db473e645aad265", func := "astrolabe/astrolabelaw19.GnssKnown", spec := "gnssKnown", inPlace := ["math/bits.Add64", "math/bits.Sub64"], unfollowed := true, recurses := true, named := ["math/bits.divideError", "math/bits.overflowError"], apart := false }
def GnssKnownSaid : Prop := gnssKnownRow.holds Try.pinned (OpenSpec.ofChange gnssKnownSpec)

/-- ITS FALSE NEIGHBOUR: 'it returns false'. Refute it at one input. -/
def gnssKnownWrong : ChangeSpec := { name := "gnssKnown", fn := fun _ => fun
  | [] => { results := [.lit (.bool false)], args := [] }
  | _ => none }
def GnssKnownWrongFalsely : Prop := gnssKnownRow.holds Try.pinned (OpenSpec.ofChange gnssKnownWrong)

/-- 'astrolabelaw19.GnssReads': WHATEVER THE INPUT: true; the input reads as it did. -/
def gnssReadsSpec : ChangeSpec := { name := "gnssReads", fn := fun _ => fun
  | [d] => { results := [.lit (.bool true)], args := [d] }
  | _ => none }
def gnssReadsRow : OpenClaim := { program := "ytdpenjncfmkbgaa", sum := "424c3d579cd644f12b4ce80f5edd6f07c2be14a248039dd89db473e645aad265", func := "astrolabe/astrolabelaw19.GnssReads", spec := "gnssReads", inPlace := ["math/bits.Add64", "math/bits.Sub64"], unfollowed := true, recurses := true, named := ["math/bits.divideError", "math/bits.overflowError"], apart := false }
def GnssReadsSaid : Prop := gnssReadsRow.holds Try.pinned (OpenSpec.ofChange gnssReadsSpec)

/-- ITS FALSE NEIGHBOUR: 'it returns false'. Refute it at one input. -/
def gnssReadsWrong : ChangeSpec := { name := "gnssReads", fn := fun _ => fun
  | [d] => { results := [.lit (.bool false)], args := [d] }
  | _ => none }
def GnssReadsWrongFalsely : Prop := gnssReadsRow.holds Try.pinned (OpenSpec.ofChange gnssReadsWrong)

/-- 'astrolabelaw19.GnssSays': WHATEVER THE INPUT: true; the input reads as it did. -/
def gnssSaysSpec : ChangeSpec := { name := "gnssSays", fn := fun _ => fun
  | [d1, d2, d3, d4] => { results := [.lit (.bool true)], args := [d1, d2, d3, d4] }
  | _ => none }
def gnssSaysRow : OpenClaim := { program := "ytdpenjncfmkbgaa", sum := "424c3d579cd644f12b4ce80f5edd6f07c2be14a248039dd89db473e645aad265", func := "astrolabe/astrolabelaw19.GnssSays", spec := "gnssSays", inPlace := ["math/bits.Add64", "math/bits.Sub64"], unfollowed := true, recurses := true, named := ["math/bits.divideError", "math/bits.overflowError"], apart := false }
def GnssSaysSaid : Prop := gnssSaysRow.holds Try.pinned (OpenSpec.ofChange gnssSaysSpec)

/-- ITS FALSE NEIGHBOUR: 'it returns false'. Refute it at one input. -/
def gnssSaysWrong : ChangeSpec := { name := "gnssSays", fn := fun _ => fun
  | [d1, d2, d3, d4] => { results := [.lit (.bool false)], args := [d1, d2, d3, d4] }
  | _ => none }
def GnssSaysWrongFalsely : Prop := gnssSaysRow.holds Try.pinned (OpenSpec.ofChange gnssSaysWrong)

/-- 'astrolabelaw19.GnssExpected': WHATEVER THE INPUT: true; the input reads as it did. -/
def gnssExpectedSpec : ChangeSpec := { name := "gnssExpected", fn := fun _ => fun
  | [d1, d2, d3] => { results := [.lit (.bool true)], args := [d1, d2, d3] }
  | _ => none }
def gnssExpectedRow : OpenClaim := { program := "ytdpenjncfmkbgaa", sum := "424c3d579cd644f12b4ce80f5edd6f07c2be14a248039dd89db473e645aad265", func := "astrolabe/astrolabelaw19.GnssExpected", spec := "gnssExpected", inPlace := ["math/bits.Add64", "math/bits.Sub64"], unfollowed := true, recurses := true, named := ["math/bits.divideError", "math/bits.overflowError"], apart := false }
def GnssExpectedSaid : Prop := gnssExpectedRow.holds Try.pinned (OpenSpec.ofChange gnssExpectedSpec)

/-- ITS FALSE NEIGHBOUR: 'it returns false'. Refute it at one input. -/
def gnssExpectedWrong : ChangeSpec := { name := "gnssExpected", fn := fun _ => fun
  | [d1, d2, d3] => { results := [.lit (.bool false)], args := [d1, d2, d3] }
  | _ => none }
def GnssExpectedWrongFalsely : Prop := gnssExpectedRow.holds Try.pinned (OpenSpec.ofChange gnssExpectedWrong)

/- THE SECOND FORM. 'bulk': how many values and letters a reading holds, each counted each time it is reached (what is shared counts as often as it is met; a slice's spare places count too). A statement '..UptoSaid' is the law's where the arguments, and the package variables that the reading takes, are together of bulk at most 1048576: NARROWER than '..Said'. Prove '..Said' where nothing that the law and all that it calls make is longer than what came in: it says more and counts as full. Else prove '..UptoSaid'. A law counts once. -/
mutual
def uptoBulk {H : Type} : DataW H → Nat
  | .lit (.string bytes) => bytes.length + 1
  | .lit _ => 1
  | .nil => 1
  | .ptr d => uptoBulk d + 1
  | .slice elems spare => uptoBulkAll elems + uptoBulkAll spare + 1
  | .agg parts => uptoBulkAll parts + 1
  | .iface _ d => uptoBulk d + 1
  | .map entries => uptoBulkEntries entries + 1
  | .held _ => 1
def uptoBulkAll {H : Type} : List (DataW H) → Nat
  | [] => 0
  | d :: r => uptoBulk d + uptoBulkAll r
def uptoBulkEntries {H : Type} : List (Lit × DataW H) → Nat
  | [] => 0
  | x :: r => uptoBulkEntry x + uptoBulkEntries r
def uptoBulkEntry {H : Type} : Lit × DataW H → Nat
  | (.string bytes, d) => bytes.length + uptoBulk d + 1
  | (_, d) => uptoBulk d + 1
 end
def uptoSmall : (H : Type) → List (DataW H) → Bool := fun _ ds => decide (uptoBulkAll ds ≤ 1048576)
def OpenSpec.upto (s : _root_.Go.ChangeSpec) : _root_.Go.OpenSpec := { _root_.Go.OpenSpec.ofChange s with cond := some uptoSmall }

/-- 'astrolabelaw19.GnssKnown', WHERE WHAT IT READS IS OF BULK AT MOST 1048576: true; the input reads as it did. -/
def gnssKnownUptoRow : OpenClaim := { program := "ytdpenjncfmkbgaa", sum := "424c3d579cd644f12b4ce80f5edd6f07c2be14a248039dd89db473e645aad265", func := "astrolabe/astrolabelaw19.GnssKnown", spec := "gnssKnown", inPlace := ["math/bits.Add64", "math/bits.Sub64"], unfollowed := true, recurses := true, named := ["math/bits.divideError", "math/bits.overflowError"], apart := false, narrowed := true }
def GnssKnownUptoSaid : Prop := gnssKnownUptoRow.holds Try.pinned (OpenSpec.upto gnssKnownSpec)

/-- 'astrolabelaw19.GnssReads', WHERE WHAT IT READS IS OF BULK AT MOST 1048576: true; the input reads as it did. -/
def gnssReadsUptoRow : OpenClaim := { program := "ytdpenjncfmkbgaa", sum := "424c3d579cd644f12b4ce80f5edd6f07c2be14a248039dd89db473e645aad265", func := "astrolabe/astrolabelaw19.GnssReads", spec := "gnssReads", inPlace := ["math/bits.Add64", "math/bits.Sub64"], unfollowed := true, recurses := true, named := ["math/bits.divideError", "math/bits.overflowError"], apart := false, narrowed := true }
def GnssReadsUptoSaid : Prop := gnssReadsUptoRow.holds Try.pinned (OpenSpec.upto gnssReadsSpec)

/-- 'astrolabelaw19.GnssSays', WHERE WHAT IT READS IS OF BULK AT MOST 1048576: true; the input reads as it did. -/
def gnssSaysUptoRow : OpenClaim := { program := "ytdpenjncfmkbgaa", sum := "424c3d579cd644f12b4ce80f5edd6f07c2be14a248039dd89db473e645aad265", func := "astrolabe/astrolabelaw19.GnssSays", spec := "gnssSays", inPlace := ["math/bits.Add64", "math/bits.Sub64"], unfollowed := true, recurses := true, named := ["math/bits.divideError", "math/bits.overflowError"], apart := false, narrowed := true }
def GnssSaysUptoSaid : Prop := gnssSaysUptoRow.holds Try.pinned (OpenSpec.upto gnssSaysSpec)

/-- 'astrolabelaw19.GnssExpected', WHERE WHAT IT READS IS OF BULK AT MOST 1048576: true; the input reads as it did. -/
def gnssExpectedUptoRow : OpenClaim := { program := "ytdpenjncfmkbgaa", sum := "424c3d579cd644f12b4ce80f5edd6f07c2be14a248039dd89db473e645aad265", func := "astrolabe/astrolabelaw19.GnssExpected", spec := "gnssExpected", inPlace := ["math/bits.Add64", "math/bits.Sub64"], unfollowed := true, recurses := true, named := ["math/bits.divideError", "math/bits.overflowError"], apart := false, narrowed := true }
def GnssExpectedUptoSaid : Prop := gnssExpectedUptoRow.holds Try.pinned (OpenSpec.upto gnssExpectedSpec)

end Rows
end Go.Proofs.Ytdpenjncfmkbgaa
