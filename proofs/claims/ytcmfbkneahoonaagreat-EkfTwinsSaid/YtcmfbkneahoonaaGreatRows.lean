/-
  No cell of these rows narrows 'for every input' (looked for: loops, veiled, ifaces, maps, wideKeys, modest, calm, conditions, laid).
  DERIVED. THE GIVEN ROWS OF THIS SEAT. 4 by the template 'for every input the law returns true; each argument reads behind the call as it read before'; 0 by the template 'total and deterministic' (their statements: YtcmfbkneahoonaaGreatTotals.lean).
  GIVEN WITH THE SEED: the statements are not yours to turn. If you find one false, say at which input.
  Laid BY PROGRAM, IN A SANDBOX (cutbox-rows.mjs): the forced cells as the released guide's own fill.sh prints them over the translation 73d0f8c5aad78c3c… (all of the seat's roots in one cut). By AI agents, Wed Nov 11 2026. No macro, syntax, notation, axiom, sorry.
-/
import Derived.Test.YtcmfbkneahoonaaGreatChecked
import GoSem.Claim
import GoSem.ClaimJoined
import GoSem.ClaimMapViews
import Derived.JoinedTies
import Derived.KernelRfl
namespace Go.Proofs.YtcmfbkneahoonaaGreat
/- THE CELL 'sum', in the pinned program and in every row, IS THE sha256 OF THE DUMP (.gsa) THAT YtcmfbkneahoonaaGreatProg.lean LOADS. Nothing in Lean hashes anything: it is a label: what it is worth is what the hold of that sum in a sandbox is worth. -/
noncomputable def Tryz.pinned : Pinned := { name := "ytcmfbkneahoonaagreat", sum := "73d0f8c5aad78c3c5f41daf75dc1b4236d807af8f023173cb273641b94a829d9", checked := Tryz.checked }
namespace Rows
def none {H : Type} : Left H := { results := [], args := [] }

/-- 'astrolabelaw28.EkfKnown': WHATEVER THE INPUT: true; the input reads as it did. -/
def ekfKnownSpec : ChangeSpec := { name := "ekfKnown", fn := fun _ => fun
  | [] => { results := [.lit (.bool true)], args := [] }
  | _ => none }
def ekfKnownRow : OpenClaim := { program := "ytcmfbkneahoonaagreat", sum := "73d0f8c5aad78c3c5f41daf75dc1b4236d807af8f023173cb273641b94a829d9", func := "astrolabe/astrolabelaw28.EkfKnown", spec := "ekfKnown", inPlace := ["math/bits.Add64", "math/bits.Sub64", "slices.overlaps[astrolabe/api.Sample]"], unfollowed := true, recurses := true, named := ["math/bits.divideError", "math/bits.overflowError"], apart := false }
def EkfKnownSaid : Prop := ekfKnownRow.holds Tryz.pinned (OpenSpec.ofChange ekfKnownSpec)

/-- ITS FALSE NEIGHBOUR: 'it returns false'. Refute it at one input. -/
def ekfKnownWrong : ChangeSpec := { name := "ekfKnown", fn := fun _ => fun
  | [] => { results := [.lit (.bool false)], args := [] }
  | _ => none }
def EkfKnownWrongFalsely : Prop := ekfKnownRow.holds Tryz.pinned (OpenSpec.ofChange ekfKnownWrong)

/-- 'astrolabelaw28.EkfTwins': WHATEVER THE INPUT: true; the input reads as it did. -/
def ekfTwinsSpec : ChangeSpec := { name := "ekfTwins", fn := fun _ => fun
  | [d1, d2] => { results := [.lit (.bool true)], args := [d1, d2] }
  | _ => none }
def ekfTwinsRow : OpenClaim := { program := "ytcmfbkneahoonaagreat", sum := "73d0f8c5aad78c3c5f41daf75dc1b4236d807af8f023173cb273641b94a829d9", func := "astrolabe/astrolabelaw28.EkfTwins", spec := "ekfTwins", inPlace := ["math/bits.Add64", "math/bits.Sub64", "slices.overlaps[astrolabe/api.Sample]"], unfollowed := true, recurses := true, named := ["math/bits.divideError", "math/bits.overflowError"], apart := false }
def EkfTwinsSaid : Prop := ekfTwinsRow.holds Tryz.pinned (OpenSpec.ofChange ekfTwinsSpec)

/-- ITS FALSE NEIGHBOUR: 'it returns false'. Refute it at one input. -/
def ekfTwinsWrong : ChangeSpec := { name := "ekfTwins", fn := fun _ => fun
  | [d1, d2] => { results := [.lit (.bool false)], args := [d1, d2] }
  | _ => none }
def EkfTwinsWrongFalsely : Prop := ekfTwinsRow.holds Tryz.pinned (OpenSpec.ofChange ekfTwinsWrong)

/-- 'astrolabelaw28.EkfWaits': WHATEVER THE INPUT: true; the input reads as it did. -/
def ekfWaitsSpec : ChangeSpec := { name := "ekfWaits", fn := fun _ => fun
  | [d1, d2, d3, d4] => { results := [.lit (.bool true)], args := [d1, d2, d3, d4] }
  | _ => none }
def ekfWaitsRow : OpenClaim := { program := "ytcmfbkneahoonaagreat", sum := "73d0f8c5aad78c3c5f41daf75dc1b4236d807af8f023173cb273641b94a829d9", func := "astrolabe/astrolabelaw28.EkfWaits", spec := "ekfWaits", inPlace := ["math/bits.Add64", "math/bits.Sub64", "slices.overlaps[astrolabe/api.Sample]"], unfollowed := true, recurses := true, named := ["math/bits.divideError", "math/bits.overflowError"], apart := false }
def EkfWaitsSaid : Prop := ekfWaitsRow.holds Tryz.pinned (OpenSpec.ofChange ekfWaitsSpec)

/-- ITS FALSE NEIGHBOUR: 'it returns false'. Refute it at one input. -/
def ekfWaitsWrong : ChangeSpec := { name := "ekfWaits", fn := fun _ => fun
  | [d1, d2, d3, d4] => { results := [.lit (.bool false)], args := [d1, d2, d3, d4] }
  | _ => none }
def EkfWaitsWrongFalsely : Prop := ekfWaitsRow.holds Tryz.pinned (OpenSpec.ofChange ekfWaitsWrong)

/-- 'astrolabelaw28.EkfGood': WHATEVER THE INPUT: true; the input reads as it did. -/
def ekfGoodSpec : ChangeSpec := { name := "ekfGood", fn := fun _ => fun
  | [d1, d2] => { results := [.lit (.bool true)], args := [d1, d2] }
  | _ => none }
def ekfGoodRow : OpenClaim := { program := "ytcmfbkneahoonaagreat", sum := "73d0f8c5aad78c3c5f41daf75dc1b4236d807af8f023173cb273641b94a829d9", func := "astrolabe/astrolabelaw28.EkfGood", spec := "ekfGood", inPlace := ["math/bits.Add64", "math/bits.Sub64", "slices.overlaps[astrolabe/api.Sample]"], unfollowed := true, recurses := true, named := ["math/bits.divideError", "math/bits.overflowError"], apart := false }
def EkfGoodSaid : Prop := ekfGoodRow.holds Tryz.pinned (OpenSpec.ofChange ekfGoodSpec)

/-- ITS FALSE NEIGHBOUR: 'it returns false'. Refute it at one input. -/
def ekfGoodWrong : ChangeSpec := { name := "ekfGood", fn := fun _ => fun
  | [d1, d2] => { results := [.lit (.bool false)], args := [d1, d2] }
  | _ => none }
def EkfGoodWrongFalsely : Prop := ekfGoodRow.holds Tryz.pinned (OpenSpec.ofChange ekfGoodWrong)

/- THE SECOND FORM. 'bulk': how many values and letters a reading holds, each counted each time it is reached (what is shared counts as often as it is met; a slice's spare places count too). A statement '..UptoSaid' is the law's where the arguments, and the package variables that the reading takes, are together of bulk at most 1048576: NARROWER than '..Said'. Prove '..Said' where nothing that the law and all that it calls make is longer than what came in: it says more and counts as full. Else prove '..UptoSaid'. A law counts once. -/
mutual
def uptoBulk {H : Type} : DataW H → Nat
  | .lit (.string bytes) => bytes.length + 1
  | .lit _ => 1
  | .nil => 1
  | .ptr d => uptoBulk d + 1
  | .slice elems spare => uptoBulkAll elems + uptoBulkAll spare + 1
  | .agg parts => uptoBulkAll parts + 1
  | .iface _ d => uptoBulk d + 1
  | .map entries => uptoBulkEntries entries + 1
  | .held _ => 1
def uptoBulkAll {H : Type} : List (DataW H) → Nat
  | [] => 0
  | d :: r => uptoBulk d + uptoBulkAll r
def uptoBulkEntries {H : Type} : List (Lit × DataW H) → Nat
  | [] => 0
  | x :: r => uptoBulkEntry x + uptoBulkEntries r
def uptoBulkEntry {H : Type} : Lit × DataW H → Nat
  | (.string bytes, d) => bytes.length + uptoBulk d + 1
  | (_, d) => uptoBulk d + 1
 end
def uptoSmall : (H : Type) → List (DataW H) → Bool := fun _ ds => decide (uptoBulkAll ds ≤ 1048576)
def OpenSpec.upto (s : _root_.Go.ChangeSpec) : _root_.Go.OpenSpec := { _root_.Go.OpenSpec.ofChange s with cond := some uptoSmall }

/-- 'astrolabelaw28.EkfKnown', WHERE WHAT IT READS IS OF BULK AT MOST 1048576: true; the input reads as it did. -/
def ekfKnownUptoRow : OpenClaim := { program := "ytcmfbkneahoonaagreat", sum := "73d0f8c5aad78c3c5f41daf75dc1b4236d807af8f023173cb273641b94a829d9", func := "astrolabe/astrolabelaw28.EkfKnown", spec := "ekfKnown", inPlace := ["math/bits.Add64", "math/bits.Sub64", "slices.overlaps[astrolabe/api.Sample]"], unfollowed := true, recurses := true, named := ["math/bits.divideError", "math/bits.overflowError"], apart := false, narrowed := true }
def EkfKnownUptoSaid : Prop := ekfKnownUptoRow.holds Tryz.pinned (OpenSpec.upto ekfKnownSpec)

/-- 'astrolabelaw28.EkfTwins', WHERE WHAT IT READS IS OF BULK AT MOST 1048576: true; the input reads as it did. -/
def ekfTwinsUptoRow : OpenClaim := { program := "ytcmfbkneahoonaagreat", sum := "73d0f8c5aad78c3c5f41daf75dc1b4236d807af8f023173cb273641b94a829d9", func := "astrolabe/astrolabelaw28.EkfTwins", spec := "ekfTwins", inPlace := ["math/bits.Add64", "math/bits.Sub64", "slices.overlaps[astrolabe/api.Sample]"], unfollowed := true, recurses := true, named := ["math/bits.divideError", "math/bits.overflowError"], apart := false, narrowed := true }
def EkfTwinsUptoSaid : Prop := ekfTwinsUptoRow.holds Tryz.pinned (OpenSpec.upto ekfTwinsSpec)

/-- 'astrolabelaw28.EkfWaits', WHERE WHAT IT READS IS OF BULK AT MOST 1048576: true; the input reads as it did. -/
def ekfWaitsUptoRow : OpenClaim := { program := "ytcmfbkneahoonaagreat", sum := "73d0f8c5aad78c3c5f41daf75dc1b4236d807af8f023173cb273641b94a829d9", func := "astrolabe/astrolabelaw28.EkfWaits", spec := "ekfWaits", inPlace := ["math/bits.Add64", "math/bits.Sub64", "slices.overlaps[astrolabe/api.Sample]"], unfollowed := true, recurses := true, named := ["math/bits.divideError", "math/bits.overflowError"], apart := false, narrowed := true }
def EkfWaitsUptoSaid : Prop := ekfWaitsUptoRow.holds Tryz.pinned (OpenSpec.upto ekfWaitsSpec)

/-- 'astrolabelaw28.EkfGood', WHERE WHAT IT READS IS OF BULK AT MOST 1048576: true; the input reads as it did. -/
def ekfGoodUptoRow : OpenClaim := { program := "ytcmfbkneahoonaagreat", sum := "73d0f8c5aad78c3c5f41daf75dc1b4236d807af8f023173cb273641b94a829d9", func := "astrolabe/astrolabelaw28.EkfGood", spec := "ekfGood", inPlace := ["math/bits.Add64", "math/bits.Sub64", "slices.overlaps[astrolabe/api.Sample]"], unfollowed := true, recurses := true, named := ["math/bits.divideError", "math/bits.overflowError"], apart := false, narrowed := true }
def EkfGoodUptoSaid : Prop := ekfGoodUptoRow.holds Tryz.pinned (OpenSpec.upto ekfGoodSpec)

end Rows
end Go.Proofs.YtcmfbkneahoonaaGreat
