/-
  No cell of these rows narrows 'for every input' (looked for: loops, veiled, ifaces, maps, wideKeys, modest, calm, conditions, laid).
  DERIVED. THE GIVEN ROWS OF THIS SEAT. 11 by the template 'for every input the law returns true; each argument reads behind the call as it read before'; 0 by the template 'total and deterministic' (their statements: YtcalippagaaikaaTotals.lean).
  GIVEN WITH THE SEED: the statements are not yours to turn. If you find one false, say at which input.
  Laid BY PROGRAM, IN A SANDBOX (cutbox-rows.mjs): the forced cells as the released guide's own fill.sh prints them over the translation 0c2fc2c61412c854… (all of the seat's roots in one cut). By AI agents, Wed Nov 11 2026. No macro, syntax, notation, axiom, sorry.
-/
import Derived.Test.YtcalippagaaikaaChecked
import GoSem.Claim
import GoSem.ClaimJoined
import GoSem.ClaimMapViews
import Derived.JoinedTies
import Derived.KernelRfl
namespace Go.Proofs.Ytcalippagaaikaa
/- THE CELL 'sum', in the pinned program and in every row, IS THE sha256 OF THE DUMP (.gsa) THAT YtcalippagaaikaaProg.lean LOADS. Nothing in Lean hashes anything: it is a label: what it is worth is what the hold of that sum in a sandbox is worth. -/
noncomputable def Try.pinned : Pinned := { name := "ytcalippagaaikaa", sum := "0c2fc2c61412c8544bee3f2593b387259b598eebe9794e5d77bac11be3b55ce4", checked := Try.checked }
namespace Rows
def none {H : Type} : Left H := { results := [], args := [] }

/-- 'astrolabelaw1.WideKnown': WHATEVER THE INPUT: true; the input reads as it did. -/
def wideKnownSpec : ChangeSpec := { name := "wideKnown", fn := fun _ => fun
  | [] => { results := [.lit (.bool true)], args := [] }
  | _ => none }
def wideKnownRow : OpenClaim := { program := "ytcalippagaaikaa", sum := "0c2fc2c61412c8544bee3f2593b387259b598eebe9794e5d77bac11be3b55ce4", func := "astrolabe/astrolabelaw1.WideKnown", spec := "wideKnown", inPlace := ["math/bits.Add64", "math/bits.Sub64"], named := ["math/bits.divideError", "math/bits.overflowError"], apart := false }
def WideKnownSaid : Prop := wideKnownRow.holds Try.pinned (OpenSpec.ofChange wideKnownSpec)

/-- ITS FALSE NEIGHBOUR: 'it returns false'. Refute it at one input. -/
def wideKnownWrong : ChangeSpec := { name := "wideKnown", fn := fun _ => fun
  | [] => { results := [.lit (.bool false)], args := [] }
  | _ => none }
def WideKnownWrongFalsely : Prop := wideKnownRow.holds Try.pinned (OpenSpec.ofChange wideKnownWrong)

/-- 'astrolabelaw1.WideReckons': WHATEVER THE INPUT: true; the input reads as it did. -/
def wideReckonsSpec : ChangeSpec := { name := "wideReckons", fn := fun _ => fun
  | [d1, d2, d3, d4] => { results := [.lit (.bool true)], args := [d1, d2, d3, d4] }
  | _ => none }
def wideReckonsRow : OpenClaim := { program := "ytcalippagaaikaa", sum := "0c2fc2c61412c8544bee3f2593b387259b598eebe9794e5d77bac11be3b55ce4", func := "astrolabe/astrolabelaw1.WideReckons", spec := "wideReckons", inPlace := ["math/bits.Add64", "math/bits.Sub64"], named := ["math/bits.divideError", "math/bits.overflowError"], apart := false }
def WideReckonsSaid : Prop := wideReckonsRow.holds Try.pinned (OpenSpec.ofChange wideReckonsSpec)

/-- ITS FALSE NEIGHBOUR: 'it returns false'. Refute it at one input. -/
def wideReckonsWrong : ChangeSpec := { name := "wideReckons", fn := fun _ => fun
  | [d1, d2, d3, d4] => { results := [.lit (.bool false)], args := [d1, d2, d3, d4] }
  | _ => none }
def WideReckonsWrongFalsely : Prop := wideReckonsRow.holds Try.pinned (OpenSpec.ofChange wideReckonsWrong)

/-- 'astrolabelaw1.WideRounds': WHATEVER THE INPUT: true; the input reads as it did. -/
def wideRoundsSpec : ChangeSpec := { name := "wideRounds", fn := fun _ => fun
  | [d1, d2, d3] => { results := [.lit (.bool true)], args := [d1, d2, d3] }
  | _ => none }
def wideRoundsRow : OpenClaim := { program := "ytcalippagaaikaa", sum := "0c2fc2c61412c8544bee3f2593b387259b598eebe9794e5d77bac11be3b55ce4", func := "astrolabe/astrolabelaw1.WideRounds", spec := "wideRounds", inPlace := ["math/bits.Add64", "math/bits.Sub64"], named := ["math/bits.divideError", "math/bits.overflowError"], apart := false }
def WideRoundsSaid : Prop := wideRoundsRow.holds Try.pinned (OpenSpec.ofChange wideRoundsSpec)

/-- ITS FALSE NEIGHBOUR: 'it returns false'. Refute it at one input. -/
def wideRoundsWrong : ChangeSpec := { name := "wideRounds", fn := fun _ => fun
  | [d1, d2, d3] => { results := [.lit (.bool false)], args := [d1, d2, d3] }
  | _ => none }
def WideRoundsWrongFalsely : Prop := wideRoundsRow.holds Try.pinned (OpenSpec.ofChange wideRoundsWrong)

/-- 'astrolabelaw1.WideRoots': WHATEVER THE INPUT: true; the input reads as it did. -/
def wideRootsSpec : ChangeSpec := { name := "wideRoots", fn := fun _ => fun
  | [d] => { results := [.lit (.bool true)], args := [d] }
  | _ => none }
def wideRootsRow : OpenClaim := { program := "ytcalippagaaikaa", sum := "0c2fc2c61412c8544bee3f2593b387259b598eebe9794e5d77bac11be3b55ce4", func := "astrolabe/astrolabelaw1.WideRoots", spec := "wideRoots", inPlace := ["math/bits.Add64", "math/bits.Sub64"], named := ["math/bits.divideError", "math/bits.overflowError"], apart := false }
def WideRootsSaid : Prop := wideRootsRow.holds Try.pinned (OpenSpec.ofChange wideRootsSpec)

/-- ITS FALSE NEIGHBOUR: 'it returns false'. Refute it at one input. -/
def wideRootsWrong : ChangeSpec := { name := "wideRoots", fn := fun _ => fun
  | [d] => { results := [.lit (.bool false)], args := [d] }
  | _ => none }
def WideRootsWrongFalsely : Prop := wideRootsRow.holds Try.pinned (OpenSpec.ofChange wideRootsWrong)

/-- 'astrolabelaw1.WideRing': WHATEVER THE INPUT: true; the input reads as it did. -/
def wideRingSpec : ChangeSpec := { name := "wideRing", fn := fun _ => fun
  | [d1, d2, d3, d4, d5] => { results := [.lit (.bool true)], args := [d1, d2, d3, d4, d5] }
  | _ => none }
def wideRingRow : OpenClaim := { program := "ytcalippagaaikaa", sum := "0c2fc2c61412c8544bee3f2593b387259b598eebe9794e5d77bac11be3b55ce4", func := "astrolabe/astrolabelaw1.WideRing", spec := "wideRing", inPlace := ["math/bits.Add64", "math/bits.Sub64"], named := ["math/bits.divideError", "math/bits.overflowError"], apart := false }
def WideRingSaid : Prop := wideRingRow.holds Try.pinned (OpenSpec.ofChange wideRingSpec)

/-- ITS FALSE NEIGHBOUR: 'it returns false'. Refute it at one input. -/
def wideRingWrong : ChangeSpec := { name := "wideRing", fn := fun _ => fun
  | [d1, d2, d3, d4, d5] => { results := [.lit (.bool false)], args := [d1, d2, d3, d4, d5] }
  | _ => none }
def WideRingWrongFalsely : Prop := wideRingRow.holds Try.pinned (OpenSpec.ofChange wideRingWrong)

/-- 'astrolabelaw1.WideShifts': WHATEVER THE INPUT: true; the input reads as it did. -/
def wideShiftsSpec : ChangeSpec := { name := "wideShifts", fn := fun _ => fun
  | [d1, d2, d3] => { results := [.lit (.bool true)], args := [d1, d2, d3] }
  | _ => none }
def wideShiftsRow : OpenClaim := { program := "ytcalippagaaikaa", sum := "0c2fc2c61412c8544bee3f2593b387259b598eebe9794e5d77bac11be3b55ce4", func := "astrolabe/astrolabelaw1.WideShifts", spec := "wideShifts", inPlace := ["math/bits.Add64", "math/bits.Sub64"], named := ["math/bits.divideError", "math/bits.overflowError"], apart := false }
def WideShiftsSaid : Prop := wideShiftsRow.holds Try.pinned (OpenSpec.ofChange wideShiftsSpec)

/-- ITS FALSE NEIGHBOUR: 'it returns false'. Refute it at one input. -/
def wideShiftsWrong : ChangeSpec := { name := "wideShifts", fn := fun _ => fun
  | [d1, d2, d3] => { results := [.lit (.bool false)], args := [d1, d2, d3] }
  | _ => none }
def WideShiftsWrongFalsely : Prop := wideShiftsRow.holds Try.pinned (OpenSpec.ofChange wideShiftsWrong)

/-- 'astrolabelaw8.EarthKnown': WHATEVER THE INPUT: true; the input reads as it did. -/
def earthKnownSpec : ChangeSpec := { name := "earthKnown", fn := fun _ => fun
  | [] => { results := [.lit (.bool true)], args := [] }
  | _ => none }
def earthKnownRow : OpenClaim := { program := "ytcalippagaaikaa", sum := "0c2fc2c61412c8544bee3f2593b387259b598eebe9794e5d77bac11be3b55ce4", func := "astrolabe/astrolabelaw8.EarthKnown", spec := "earthKnown", inPlace := ["math/bits.Add64", "math/bits.Sub64"], unfollowed := true, recurses := true, named := ["math/bits.divideError", "math/bits.overflowError"], apart := false }
def EarthKnownSaid : Prop := earthKnownRow.holds Try.pinned (OpenSpec.ofChange earthKnownSpec)

/-- ITS FALSE NEIGHBOUR: 'it returns false'. Refute it at one input. -/
def earthKnownWrong : ChangeSpec := { name := "earthKnown", fn := fun _ => fun
  | [] => { results := [.lit (.bool false)], args := [] }
  | _ => none }
def EarthKnownWrongFalsely : Prop := earthKnownRow.holds Try.pinned (OpenSpec.ofChange earthKnownWrong)

/-- 'astrolabelaw8.EarthSays': WHATEVER THE INPUT: true; the input reads as it did. -/
def earthSaysSpec : ChangeSpec := { name := "earthSays", fn := fun _ => fun
  | [d1, d2] => { results := [.lit (.bool true)], args := [d1, d2] }
  | _ => none }
def earthSaysRow : OpenClaim := { program := "ytcalippagaaikaa", sum := "0c2fc2c61412c8544bee3f2593b387259b598eebe9794e5d77bac11be3b55ce4", func := "astrolabe/astrolabelaw8.EarthSays", spec := "earthSays", inPlace := ["math/bits.Add64", "math/bits.Sub64"], unfollowed := true, recurses := true, named := ["math/bits.divideError", "math/bits.overflowError"], apart := false }
def EarthSaysSaid : Prop := earthSaysRow.holds Try.pinned (OpenSpec.ofChange earthSaysSpec)

/-- ITS FALSE NEIGHBOUR: 'it returns false'. Refute it at one input. -/
def earthSaysWrong : ChangeSpec := { name := "earthSays", fn := fun _ => fun
  | [d1, d2] => { results := [.lit (.bool false)], args := [d1, d2] }
  | _ => none }
def EarthSaysWrongFalsely : Prop := earthSaysRow.holds Try.pinned (OpenSpec.ofChange earthSaysWrong)

/-- 'astrolabelaw8.EarthPlane': WHATEVER THE INPUT: true; the input reads as it did. -/
def earthPlaneSpec : ChangeSpec := { name := "earthPlane", fn := fun _ => fun
  | [d1, d2, d3, d4] => { results := [.lit (.bool true)], args := [d1, d2, d3, d4] }
  | _ => none }
def earthPlaneRow : OpenClaim := { program := "ytcalippagaaikaa", sum := "0c2fc2c61412c8544bee3f2593b387259b598eebe9794e5d77bac11be3b55ce4", func := "astrolabe/astrolabelaw8.EarthPlane", spec := "earthPlane", inPlace := ["math/bits.Add64", "math/bits.Sub64"], unfollowed := true, recurses := true, named := ["math/bits.divideError", "math/bits.overflowError"], apart := false }
def EarthPlaneSaid : Prop := earthPlaneRow.holds Try.pinned (OpenSpec.ofChange earthPlaneSpec)

/-- ITS FALSE NEIGHBOUR: 'it returns false'. Refute it at one input. -/
def earthPlaneWrong : ChangeSpec := { name := "earthPlane", fn := fun _ => fun
  | [d1, d2, d3, d4] => { results := [.lit (.bool false)], args := [d1, d2, d3, d4] }
  | _ => none }
def EarthPlaneWrongFalsely : Prop := earthPlaneRow.holds Try.pinned (OpenSpec.ofChange earthPlaneWrong)

/-- 'astrolabelaw8.EarthRound': WHATEVER THE INPUT: true; the input reads as it did. -/
def earthRoundSpec : ChangeSpec := { name := "earthRound", fn := fun _ => fun
  | [d1, d2, d3] => { results := [.lit (.bool true)], args := [d1, d2, d3] }
  | _ => none }
def earthRoundRow : OpenClaim := { program := "ytcalippagaaikaa", sum := "0c2fc2c61412c8544bee3f2593b387259b598eebe9794e5d77bac11be3b55ce4", func := "astrolabe/astrolabelaw8.EarthRound", spec := "earthRound", inPlace := ["math/bits.Add64", "math/bits.Sub64"], unfollowed := true, recurses := true, named := ["math/bits.divideError", "math/bits.overflowError"], apart := false }
def EarthRoundSaid : Prop := earthRoundRow.holds Try.pinned (OpenSpec.ofChange earthRoundSpec)

/-- ITS FALSE NEIGHBOUR: 'it returns false'. Refute it at one input. -/
def earthRoundWrong : ChangeSpec := { name := "earthRound", fn := fun _ => fun
  | [d1, d2, d3] => { results := [.lit (.bool false)], args := [d1, d2, d3] }
  | _ => none }
def EarthRoundWrongFalsely : Prop := earthRoundRow.holds Try.pinned (OpenSpec.ofChange earthRoundWrong)

/-- 'astrolabelaw8.EarthBounds': WHATEVER THE INPUT: true; the input reads as it did. -/
def earthBoundsSpec : ChangeSpec := { name := "earthBounds", fn := fun _ => fun
  | [d1, d2, d3] => { results := [.lit (.bool true)], args := [d1, d2, d3] }
  | _ => none }
def earthBoundsRow : OpenClaim := { program := "ytcalippagaaikaa", sum := "0c2fc2c61412c8544bee3f2593b387259b598eebe9794e5d77bac11be3b55ce4", func := "astrolabe/astrolabelaw8.EarthBounds", spec := "earthBounds", inPlace := ["math/bits.Add64", "math/bits.Sub64"], unfollowed := true, recurses := true, named := ["math/bits.divideError", "math/bits.overflowError"], apart := false }
def EarthBoundsSaid : Prop := earthBoundsRow.holds Try.pinned (OpenSpec.ofChange earthBoundsSpec)

/-- ITS FALSE NEIGHBOUR: 'it returns false'. Refute it at one input. -/
def earthBoundsWrong : ChangeSpec := { name := "earthBounds", fn := fun _ => fun
  | [d1, d2, d3] => { results := [.lit (.bool false)], args := [d1, d2, d3] }
  | _ => none }
def EarthBoundsWrongFalsely : Prop := earthBoundsRow.holds Try.pinned (OpenSpec.ofChange earthBoundsWrong)

/- THE SECOND FORM. 'bulk': how many values and letters a reading holds, each counted each time it is reached (what is shared counts as often as it is met; a slice's spare places count too). A statement '..UptoSaid' is the law's where the arguments, and the package variables that the reading takes, are together of bulk at most 1048576: NARROWER than '..Said'. Prove '..Said' where nothing that the law and all that it calls make is longer than what came in: it says more and counts as full. Else prove '..UptoSaid'. A law counts once. -/
mutual
def uptoBulk {H : Type} : DataW H → Nat
  | .lit (.string bytes) => bytes.length + 1
  | .lit _ => 1
  | .nil => 1
  | .ptr d => uptoBulk d + 1
  | .slice elems spare => uptoBulkAll elems + uptoBulkAll spare + 1
  | .agg parts => uptoBulkAll parts + 1
  | .iface _ d => uptoBulk d + 1
  | .map entries => uptoBulkEntries entries + 1
  | .held _ => 1
def uptoBulkAll {H : Type} : List (DataW H) → Nat
  | [] => 0
  | d :: r => uptoBulk d + uptoBulkAll r
def uptoBulkEntries {H : Type} : List (Lit × DataW H) → Nat
  | [] => 0
  | x :: r => uptoBulkEntry x + uptoBulkEntries r
def uptoBulkEntry {H : Type} : Lit × DataW H → Nat
  | (.string bytes, d) => bytes.length + uptoBulk d + 1
  | (_, d) => uptoBulk d + 1
 end
def uptoSmall : (H : Type) → List (DataW H) → Bool := fun _ ds => decide (uptoBulkAll ds ≤ 1048576)
def OpenSpec.upto (s : _root_.Go.ChangeSpec) : _root_.Go.OpenSpec := { _root_.Go.OpenSpec.ofChange s with cond := some uptoSmall }

/-- 'astrolabelaw1.WideKnown', WHERE WHAT IT READS IS OF BULK AT MOST 1048576: true; the input reads as it did. -/
def wideKnownUptoRow : OpenClaim := { program := "ytcalippagaaikaa", sum := "0c2fc2c61412c8544bee3f2593b387259b598eebe9794e5d77bac11be3b55ce4", func := "astrolabe/astrolabelaw1.WideKnown", spec := "wideKnown", inPlace := ["math/bits.Add64", "math/bits.Sub64"], named := ["math/bits.divideError", "math/bits.overflowError"], apart := false, narrowed := true }
def WideKnownUptoSaid : Prop := wideKnownUptoRow.holds Try.pinned (OpenSpec.upto wideKnownSpec)

/-- 'astrolabelaw1.WideReckons', WHERE WHAT IT READS IS OF BULK AT MOST 1048576: true; the input reads as it did. -/
def wideReckonsUptoRow : OpenClaim := { program := "ytcalippagaaikaa", sum := "0c2fc2c61412c8544bee3f2593b387259b598eebe9794e5d77bac11be3b55ce4", func := "astrolabe/astrolabelaw1.WideReckons", spec := "wideReckons", inPlace := ["math/bits.Add64", "math/bits.Sub64"], named := ["math/bits.divideError", "math/bits.overflowError"], apart := false, narrowed := true }
def WideReckonsUptoSaid : Prop := wideReckonsUptoRow.holds Try.pinned (OpenSpec.upto wideReckonsSpec)

/-- 'astrolabelaw1.WideRounds', WHERE WHAT IT READS IS OF BULK AT MOST 1048576: true; the input reads as it did. -/
def wideRoundsUptoRow : OpenClaim := { program := "ytcalippagaaikaa", sum := "0c2fc2c61412c8544bee3f2593b387259b598eebe9794e5d77bac11be3b55ce4", func := "astrolabe/astrolabelaw1.WideRounds", spec := "wideRounds", inPlace := ["math/bits.Add64", "math/bits.Sub64"], named := ["math/bits.divideError", "math/bits.overflowError"], apart := false, narrowed := true }
def WideRoundsUptoSaid : Prop := wideRoundsUptoRow.holds Try.pinned (OpenSpec.upto wideRoundsSpec)

/-- 'astrolabelaw1.WideRoots', WHERE WHAT IT READS IS OF BULK AT MOST 1048576: true; the input reads as it did. -/
def wideRootsUptoRow : OpenClaim := { program := "ytcalippagaaikaa", sum := "0c2fc2c61412c8544bee3f2593b387259b598eebe9794e5d77bac11be3b55ce4", func := "astrolabe/astrolabelaw1.WideRoots", spec := "wideRoots", inPlace := ["math/bits.Add64", "math/bits.Sub64"], named := ["math/bits.divideError", "math/bits.overflowError"], apart := false, narrowed := true }
def WideRootsUptoSaid : Prop := wideRootsUptoRow.holds Try.pinned (OpenSpec.upto wideRootsSpec)

/-- 'astrolabelaw1.WideRing', WHERE WHAT IT READS IS OF BULK AT MOST 1048576: true; the input reads as it did. -/
def wideRingUptoRow : OpenClaim := { program := "ytcalippagaaikaa", sum := "0c2fc2c61412c8544bee3f2593b387259b598eebe9794e5d77bac11be3b55ce4", func := "astrolabe/astrolabelaw1.WideRing", spec := "wideRing", inPlace := ["math/bits.Add64", "math/bits.Sub64"], named := ["math/bits.divideError", "math/bits.overflowError"], apart := false, narrowed := true }
def WideRingUptoSaid : Prop := wideRingUptoRow.holds Try.pinned (OpenSpec.upto wideRingSpec)

/-- 'astrolabelaw1.WideShifts', WHERE WHAT IT READS IS OF BULK AT MOST 1048576: true; the input reads as it did. -/
def wideShiftsUptoRow : OpenClaim := { program := "ytcalippagaaikaa", sum := "0c2fc2c61412c8544bee3f2593b387259b598eebe9794e5d77bac11be3b55ce4", func := "astrolabe/astrolabelaw1.WideShifts", spec := "wideShifts", inPlace := ["math/bits.Add64", "math/bits.Sub64"], named := ["math/bits.divideError", "math/bits.overflowError"], apart := false, narrowed := true }
def WideShiftsUptoSaid : Prop := wideShiftsUptoRow.holds Try.pinned (OpenSpec.upto wideShiftsSpec)

/-- 'astrolabelaw8.EarthKnown', WHERE WHAT IT READS IS OF BULK AT MOST 1048576: true; the input reads as it did. -/
def earthKnownUptoRow : OpenClaim := { program := "ytcalippagaaikaa", sum := "0c2fc2c61412c8544bee3f2593b387259b598eebe9794e5d77bac11be3b55ce4", func := "astrolabe/astrolabelaw8.EarthKnown", spec := "earthKnown", inPlace := ["math/bits.Add64", "math/bits.Sub64"], unfollowed := true, recurses := true, named := ["math/bits.divideError", "math/bits.overflowError"], apart := false, narrowed := true }
def EarthKnownUptoSaid : Prop := earthKnownUptoRow.holds Try.pinned (OpenSpec.upto earthKnownSpec)

/-- 'astrolabelaw8.EarthSays', WHERE WHAT IT READS IS OF BULK AT MOST 1048576: true; the input reads as it did. -/
def earthSaysUptoRow : OpenClaim := { program := "ytcalippagaaikaa", sum := "0c2fc2c61412c8544bee3f2593b387259b598eebe9794e5d77bac11be3b55ce4", func := "astrolabe/astrolabelaw8.EarthSays", spec := "earthSays", inPlace := ["math/bits.Add64", "math/bits.Sub64"], unfollowed := true, recurses := true, named := ["math/bits.divideError", "math/bits.overflowError"], apart := false, narrowed := true }
def EarthSaysUptoSaid : Prop := earthSaysUptoRow.holds Try.pinned (OpenSpec.upto earthSaysSpec)

/-- 'astrolabelaw8.EarthPlane', WHERE WHAT IT READS IS OF BULK AT MOST 1048576: true; the input reads as it did. -/
def earthPlaneUptoRow : OpenClaim := { program := "ytcalippagaaikaa", sum := "0c2fc2c61412c8544bee3f2593b387259b598eebe9794e5d77bac11be3b55ce4", func := "astrolabe/astrolabelaw8.EarthPlane", spec := "earthPlane", inPlace := ["math/bits.Add64", "math/bits.Sub64"], unfollowed := true, recurses := true, named := ["math/bits.divideError", "math/bits.overflowError"], apart := false, narrowed := true }
def EarthPlaneUptoSaid : Prop := earthPlaneUptoRow.holds Try.pinned (OpenSpec.upto earthPlaneSpec)

/-- 'astrolabelaw8.EarthRound', WHERE WHAT IT READS IS OF BULK AT MOST 1048576: true; the input reads as it did. -/
def earthRoundUptoRow : OpenClaim := { program := "ytcalippagaaikaa", sum := "0c2fc2c61412c8544bee3f2593b387259b598eebe9794e5d77bac11be3b55ce4", func := "astrolabe/astrolabelaw8.EarthRound", spec := "earthRound", inPlace := ["math/bits.Add64", "math/bits.Sub64"], unfollowed := true, recurses := true, named := ["math/bits.divideError", "math/bits.overflowError"], apart := false, narrowed := true }
def EarthRoundUptoSaid : Prop := earthRoundUptoRow.holds Try.pinned (OpenSpec.upto earthRoundSpec)

/-- 'astrolabelaw8.EarthBounds', WHERE WHAT IT READS IS OF BULK AT MOST 1048576: true; the input reads as it did. -/
def earthBoundsUptoRow : OpenClaim := { program := "ytcalippagaaikaa", sum := "0c2fc2c61412c8544bee3f2593b387259b598eebe9794e5d77bac11be3b55ce4", func := "astrolabe/astrolabelaw8.EarthBounds", spec := "earthBounds", inPlace := ["math/bits.Add64", "math/bits.Sub64"], unfollowed := true, recurses := true, named := ["math/bits.divideError", "math/bits.overflowError"], apart := false, narrowed := true }
def EarthBoundsUptoSaid : Prop := earthBoundsUptoRow.holds Try.pinned (OpenSpec.upto earthBoundsSpec)

end Rows
end Go.Proofs.Ytcalippagaaikaa
