/-
  No cell of these rows narrows 'for every input' (looked for: loops, veiled, ifaces, maps, wideKeys, modest, calm, conditions, laid).
  DERIVED. THE GIVEN ROWS OF THIS SEAT. 12 by the template 'for every input the law returns true; each argument reads behind the call as it read before'; 0 by the template 'total and deterministic' (their statements: YthbnojedlbeglaaTotals.lean).
  GIVEN WITH THE SEED: the statements are not yours to turn. If you find one false, say at which input.
  Laid BY PROGRAM, IN A SANDBOX (cutbox-rows.mjs): the forced cells as the released guide's own fill.sh prints them over the translation cbc93c714f6ef7a9… (all of the seat's roots in one cut). By AI agents, Wed Nov 11 2026. No macro, syntax, notation, axiom, sorry.
-/
import Derived.Test.YthbnojedlbeglaaChecked
import GoSem.Claim
import GoSem.ClaimJoined
import GoSem.ClaimMapViews
import Derived.JoinedTies
import Derived.KernelRfl
namespace Go.Proofs.Ythbnojedlbeglaa
/- THE CELL 'sum', in the pinned program and in every row, IS THE sha256 OF THE DUMP (.gsa) THAT YthbnojedlbeglaaProg.lean LOADS. Nothing in Lean hashes anything: it is a label: what it is worth is what the hold of that sum in a sandbox is worth. -/
noncomputable def Try.pinned : Pinned := { name := "ythbnojedlbeglaa", sum := "cbc93c714f6ef7a9bd579b1330169efa1fb1093401eb0eb6c2d1cd982d66f244", checked := Try.checked }
namespace Rows
def none {H : Type} : Left H := { results := [], args := [] }

/-- 'astrolabelaw13.RingKnown': WHATEVER THE INPUT: true; the input reads as it did. -/
def ringKnownSpec : ChangeSpec := { name := "ringKnown", fn := fun _ => fun
  | [] => { results := [.lit (.bool true)], args := [] }
  | _ => none }
def ringKnownRow : OpenClaim := { program := "ythbnojedlbeglaa", sum := "cbc93c714f6ef7a9bd579b1330169efa1fb1093401eb0eb6c2d1cd982d66f244", func := "astrolabe/astrolabelaw13.RingKnown", spec := "ringKnown", inPlace := ["slices.overlaps[astrolabe/api.Sample]"], unfollowed := true, recurses := true, apart := false }
def RingKnownSaid : Prop := ringKnownRow.holds Try.pinned (OpenSpec.ofChange ringKnownSpec)

/-- ITS FALSE NEIGHBOUR: 'it returns false'. Refute it at one input. -/
def ringKnownWrong : ChangeSpec := { name := "ringKnown", fn := fun _ => fun
  | [] => { results := [.lit (.bool false)], args := [] }
  | _ => none }
def RingKnownWrongFalsely : Prop := ringKnownRow.holds Try.pinned (OpenSpec.ofChange ringKnownWrong)

/-- 'astrolabelaw13.RingPlays': WHATEVER THE INPUT: true; the input reads as it did. -/
def ringPlaysSpec : ChangeSpec := { name := "ringPlays", fn := fun _ => fun
  | [d1, d2] => { results := [.lit (.bool true)], args := [d1, d2] }
  | _ => none }
def ringPlaysRow : OpenClaim := { program := "ythbnojedlbeglaa", sum := "cbc93c714f6ef7a9bd579b1330169efa1fb1093401eb0eb6c2d1cd982d66f244", func := "astrolabe/astrolabelaw13.RingPlays", spec := "ringPlays", inPlace := ["slices.overlaps[astrolabe/api.Sample]"], unfollowed := true, recurses := true, apart := false }
def RingPlaysSaid : Prop := ringPlaysRow.holds Try.pinned (OpenSpec.ofChange ringPlaysSpec)

/-- ITS FALSE NEIGHBOUR: 'it returns false'. Refute it at one input. -/
def ringPlaysWrong : ChangeSpec := { name := "ringPlays", fn := fun _ => fun
  | [d1, d2] => { results := [.lit (.bool false)], args := [d1, d2] }
  | _ => none }
def RingPlaysWrongFalsely : Prop := ringPlaysRow.holds Try.pinned (OpenSpec.ofChange ringPlaysWrong)

/-- 'astrolabelaw13.RingOrders': WHATEVER THE INPUT: true; the input reads as it did. -/
def ringOrdersSpec : ChangeSpec := { name := "ringOrders", fn := fun _ => fun
  | [d1, d2, d3] => { results := [.lit (.bool true)], args := [d1, d2, d3] }
  | _ => none }
def ringOrdersRow : OpenClaim := { program := "ythbnojedlbeglaa", sum := "cbc93c714f6ef7a9bd579b1330169efa1fb1093401eb0eb6c2d1cd982d66f244", func := "astrolabe/astrolabelaw13.RingOrders", spec := "ringOrders", inPlace := ["slices.overlaps[astrolabe/api.Sample]"], unfollowed := true, recurses := true, apart := false }
def RingOrdersSaid : Prop := ringOrdersRow.holds Try.pinned (OpenSpec.ofChange ringOrdersSpec)

/-- ITS FALSE NEIGHBOUR: 'it returns false'. Refute it at one input. -/
def ringOrdersWrong : ChangeSpec := { name := "ringOrders", fn := fun _ => fun
  | [d1, d2, d3] => { results := [.lit (.bool false)], args := [d1, d2, d3] }
  | _ => none }
def RingOrdersWrongFalsely : Prop := ringOrdersRow.holds Try.pinned (OpenSpec.ofChange ringOrdersWrong)

/-- 'astrolabelaw13.RingLatest': WHATEVER THE INPUT: true; the input reads as it did. -/
def ringLatestSpec : ChangeSpec := { name := "ringLatest", fn := fun _ => fun
  | [d1, d2] => { results := [.lit (.bool true)], args := [d1, d2] }
  | _ => none }
def ringLatestRow : OpenClaim := { program := "ythbnojedlbeglaa", sum := "cbc93c714f6ef7a9bd579b1330169efa1fb1093401eb0eb6c2d1cd982d66f244", func := "astrolabe/astrolabelaw13.RingLatest", spec := "ringLatest", inPlace := ["slices.overlaps[astrolabe/api.Sample]"], unfollowed := true, recurses := true, apart := false }
def RingLatestSaid : Prop := ringLatestRow.holds Try.pinned (OpenSpec.ofChange ringLatestSpec)

/-- ITS FALSE NEIGHBOUR: 'it returns false'. Refute it at one input. -/
def ringLatestWrong : ChangeSpec := { name := "ringLatest", fn := fun _ => fun
  | [d1, d2] => { results := [.lit (.bool false)], args := [d1, d2] }
  | _ => none }
def RingLatestWrongFalsely : Prop := ringLatestRow.holds Try.pinned (OpenSpec.ofChange ringLatestWrong)

/-- 'astrolabelaw13.RingTimes': WHATEVER THE INPUT: true; the input reads as it did. -/
def ringTimesSpec : ChangeSpec := { name := "ringTimes", fn := fun _ => fun
  | [d1, d2] => { results := [.lit (.bool true)], args := [d1, d2] }
  | _ => none }
def ringTimesRow : OpenClaim := { program := "ythbnojedlbeglaa", sum := "cbc93c714f6ef7a9bd579b1330169efa1fb1093401eb0eb6c2d1cd982d66f244", func := "astrolabe/astrolabelaw13.RingTimes", spec := "ringTimes", inPlace := ["slices.overlaps[astrolabe/api.Sample]"], unfollowed := true, recurses := true, apart := false }
def RingTimesSaid : Prop := ringTimesRow.holds Try.pinned (OpenSpec.ofChange ringTimesSpec)

/-- ITS FALSE NEIGHBOUR: 'it returns false'. Refute it at one input. -/
def ringTimesWrong : ChangeSpec := { name := "ringTimes", fn := fun _ => fun
  | [d1, d2] => { results := [.lit (.bool false)], args := [d1, d2] }
  | _ => none }
def RingTimesWrongFalsely : Prop := ringTimesRow.holds Try.pinned (OpenSpec.ofChange ringTimesWrong)

/-- 'astrolabelaw13.RingParts': WHATEVER THE INPUT: true; the input reads as it did. -/
def ringPartsSpec : ChangeSpec := { name := "ringParts", fn := fun _ => fun
  | [d1, d2, d3] => { results := [.lit (.bool true)], args := [d1, d2, d3] }
  | _ => none }
def ringPartsRow : OpenClaim := { program := "ythbnojedlbeglaa", sum := "cbc93c714f6ef7a9bd579b1330169efa1fb1093401eb0eb6c2d1cd982d66f244", func := "astrolabe/astrolabelaw13.RingParts", spec := "ringParts", inPlace := ["slices.overlaps[astrolabe/api.Sample]"], unfollowed := true, recurses := true, apart := false }
def RingPartsSaid : Prop := ringPartsRow.holds Try.pinned (OpenSpec.ofChange ringPartsSpec)

/-- ITS FALSE NEIGHBOUR: 'it returns false'. Refute it at one input. -/
def ringPartsWrong : ChangeSpec := { name := "ringParts", fn := fun _ => fun
  | [d1, d2, d3] => { results := [.lit (.bool false)], args := [d1, d2, d3] }
  | _ => none }
def RingPartsWrongFalsely : Prop := ringPartsRow.holds Try.pinned (OpenSpec.ofChange ringPartsWrong)

/-- 'astrolabelaw5.VecKnown': WHATEVER THE INPUT: true; the input reads as it did. -/
def vecKnownSpec : ChangeSpec := { name := "vecKnown", fn := fun _ => fun
  | [] => { results := [.lit (.bool true)], args := [] }
  | _ => none }
def vecKnownRow : OpenClaim := { program := "ythbnojedlbeglaa", sum := "cbc93c714f6ef7a9bd579b1330169efa1fb1093401eb0eb6c2d1cd982d66f244", func := "astrolabe/astrolabelaw5.VecKnown", spec := "vecKnown", inPlace := ["math/bits.Add64", "math/bits.Sub64"], apart := false }
def VecKnownSaid : Prop := vecKnownRow.holds Try.pinned (OpenSpec.ofChange vecKnownSpec)

/-- ITS FALSE NEIGHBOUR: 'it returns false'. Refute it at one input. -/
def vecKnownWrong : ChangeSpec := { name := "vecKnown", fn := fun _ => fun
  | [] => { results := [.lit (.bool false)], args := [] }
  | _ => none }
def VecKnownWrongFalsely : Prop := vecKnownRow.holds Try.pinned (OpenSpec.ofChange vecKnownWrong)

/-- 'astrolabelaw5.VecSays': WHATEVER THE INPUT: true; the input reads as it did. -/
def vecSaysSpec : ChangeSpec := { name := "vecSays", fn := fun _ => fun
  | [d1, d2, d3] => { results := [.lit (.bool true)], args := [d1, d2, d3] }
  | _ => none }
def vecSaysRow : OpenClaim := { program := "ythbnojedlbeglaa", sum := "cbc93c714f6ef7a9bd579b1330169efa1fb1093401eb0eb6c2d1cd982d66f244", func := "astrolabe/astrolabelaw5.VecSays", spec := "vecSays", inPlace := ["math/bits.Add64", "math/bits.Sub64"], apart := false }
def VecSaysSaid : Prop := vecSaysRow.holds Try.pinned (OpenSpec.ofChange vecSaysSpec)

/-- ITS FALSE NEIGHBOUR: 'it returns false'. Refute it at one input. -/
def vecSaysWrong : ChangeSpec := { name := "vecSays", fn := fun _ => fun
  | [d1, d2, d3] => { results := [.lit (.bool false)], args := [d1, d2, d3] }
  | _ => none }
def VecSaysWrongFalsely : Prop := vecSaysRow.holds Try.pinned (OpenSpec.ofChange vecSaysWrong)

/-- 'astrolabelaw5.VecLaws': WHATEVER THE INPUT: true; the input reads as it did. -/
def vecLawsSpec : ChangeSpec := { name := "vecLaws", fn := fun _ => fun
  | [d1, d2] => { results := [.lit (.bool true)], args := [d1, d2] }
  | _ => none }
def vecLawsRow : OpenClaim := { program := "ythbnojedlbeglaa", sum := "cbc93c714f6ef7a9bd579b1330169efa1fb1093401eb0eb6c2d1cd982d66f244", func := "astrolabe/astrolabelaw5.VecLaws", spec := "vecLaws", inPlace := ["math/bits.Add64", "math/bits.Sub64"], apart := false }
def VecLawsSaid : Prop := vecLawsRow.holds Try.pinned (OpenSpec.ofChange vecLawsSpec)

/-- ITS FALSE NEIGHBOUR: 'it returns false'. Refute it at one input. -/
def vecLawsWrong : ChangeSpec := { name := "vecLaws", fn := fun _ => fun
  | [d1, d2] => { results := [.lit (.bool false)], args := [d1, d2] }
  | _ => none }
def VecLawsWrongFalsely : Prop := vecLawsRow.holds Try.pinned (OpenSpec.ofChange vecLawsWrong)

/-- 'astrolabelaw5.VecMany': WHATEVER THE INPUT: true; the input reads as it did. -/
def vecManySpec : ChangeSpec := { name := "vecMany", fn := fun _ => fun
  | [d] => { results := [.lit (.bool true)], args := [d] }
  | _ => none }
def vecManyRow : OpenClaim := { program := "ythbnojedlbeglaa", sum := "cbc93c714f6ef7a9bd579b1330169efa1fb1093401eb0eb6c2d1cd982d66f244", func := "astrolabe/astrolabelaw5.VecMany", spec := "vecMany", inPlace := ["math/bits.Add64", "math/bits.Sub64"], apart := false }
def VecManySaid : Prop := vecManyRow.holds Try.pinned (OpenSpec.ofChange vecManySpec)

/-- ITS FALSE NEIGHBOUR: 'it returns false'. Refute it at one input. -/
def vecManyWrong : ChangeSpec := { name := "vecMany", fn := fun _ => fun
  | [d] => { results := [.lit (.bool false)], args := [d] }
  | _ => none }
def VecManyWrongFalsely : Prop := vecManyRow.holds Try.pinned (OpenSpec.ofChange vecManyWrong)

/-- 'astrolabelaw5.VecSides': WHATEVER THE INPUT: true; the input reads as it did. -/
def vecSidesSpec : ChangeSpec := { name := "vecSides", fn := fun _ => fun
  | [d1, d2, d3] => { results := [.lit (.bool true)], args := [d1, d2, d3] }
  | _ => none }
def vecSidesRow : OpenClaim := { program := "ythbnojedlbeglaa", sum := "cbc93c714f6ef7a9bd579b1330169efa1fb1093401eb0eb6c2d1cd982d66f244", func := "astrolabe/astrolabelaw5.VecSides", spec := "vecSides", inPlace := ["math/bits.Add64", "math/bits.Sub64"], apart := false }
def VecSidesSaid : Prop := vecSidesRow.holds Try.pinned (OpenSpec.ofChange vecSidesSpec)

/-- ITS FALSE NEIGHBOUR: 'it returns false'. Refute it at one input. -/
def vecSidesWrong : ChangeSpec := { name := "vecSides", fn := fun _ => fun
  | [d1, d2, d3] => { results := [.lit (.bool false)], args := [d1, d2, d3] }
  | _ => none }
def VecSidesWrongFalsely : Prop := vecSidesRow.holds Try.pinned (OpenSpec.ofChange vecSidesWrong)

/-- 'astrolabelaw5.VecParts': WHATEVER THE INPUT: true; the input reads as it did. -/
def vecPartsSpec : ChangeSpec := { name := "vecParts", fn := fun _ => fun
  | [d1, d2] => { results := [.lit (.bool true)], args := [d1, d2] }
  | _ => none }
def vecPartsRow : OpenClaim := { program := "ythbnojedlbeglaa", sum := "cbc93c714f6ef7a9bd579b1330169efa1fb1093401eb0eb6c2d1cd982d66f244", func := "astrolabe/astrolabelaw5.VecParts", spec := "vecParts", inPlace := ["math/bits.Add64", "math/bits.Sub64"], apart := false }
def VecPartsSaid : Prop := vecPartsRow.holds Try.pinned (OpenSpec.ofChange vecPartsSpec)

/-- ITS FALSE NEIGHBOUR: 'it returns false'. Refute it at one input. -/
def vecPartsWrong : ChangeSpec := { name := "vecParts", fn := fun _ => fun
  | [d1, d2] => { results := [.lit (.bool false)], args := [d1, d2] }
  | _ => none }
def VecPartsWrongFalsely : Prop := vecPartsRow.holds Try.pinned (OpenSpec.ofChange vecPartsWrong)

/- THE SECOND FORM. 'bulk': how many values and letters a reading holds, each counted each time it is reached (what is shared counts as often as it is met; a slice's spare places count too). A statement '..UptoSaid' is the law's where the arguments, and the package variables that the reading takes, are together of bulk at most 1048576: NARROWER than '..Said'. Prove '..Said' where nothing that the law and all that it calls make is longer than what came in: it says more and counts as full. Else prove '..UptoSaid'. A law counts once. -/
mutual
def uptoBulk {H : Type} : DataW H → Nat
  | .lit (.string bytes) => bytes.length + 1
  | .lit _ => 1
  | .nil => 1
  | .ptr d => uptoBulk d + 1
  | .slice elems spare => uptoBulkAll elems + uptoBulkAll spare + 1
  | .agg parts => uptoBulkAll parts + 1
  | .iface _ d => uptoBulk d + 1
  | .map entries => uptoBulkEntries entries + 1
  | .held _ => 1
def uptoBulkAll {H : Type} : List (DataW H) → Nat
  | [] => 0
  | d :: r => uptoBulk d + uptoBulkAll r
def uptoBulkEntries {H : Type} : List (Lit × DataW H) → Nat
  | [] => 0
  | x :: r => uptoBulkEntry x + uptoBulkEntries r
def uptoBulkEntry {H : Type} : Lit × DataW H → Nat
  | (.string bytes, d) => bytes.length + uptoBulk d + 1
  | (_, d) => uptoBulk d + 1
 end
def uptoSmall : (H : Type) → List (DataW H) → Bool := fun _ ds => decide (uptoBulkAll ds ≤ 1048576)
def OpenSpec.upto (s : _root_.Go.ChangeSpec) : _root_.Go.OpenSpec := { _root_.Go.OpenSpec.ofChange s with cond := some uptoSmall }

/-- 'astrolabelaw13.RingKnown', WHERE WHAT IT READS IS OF BULK AT MOST 1048576: true; the input reads as it did. -/
def ringKnownUptoRow : OpenClaim := { program := "ythbnojedlbeglaa", sum := "cbc93c714f6ef7a9bd579b1330169efa1fb1093401eb0eb6c2d1cd982d66f244", func := "astrolabe/astrolabelaw13.RingKnown", spec := "ringKnown", inPlace := ["slices.overlaps[astrolabe/api.Sample]"], unfollowed := true, recurses := true, apart := false, narrowed := true }
def RingKnownUptoSaid : Prop := ringKnownUptoRow.holds Try.pinned (OpenSpec.upto ringKnownSpec)

/-- 'astrolabelaw13.RingPlays', WHERE WHAT IT READS IS OF BULK AT MOST 1048576: true; the input reads as it did. -/
def ringPlaysUptoRow : OpenClaim := { program := "ythbnojedlbeglaa", sum := "cbc93c714f6ef7a9bd579b1330169efa1fb1093401eb0eb6c2d1cd982d66f244", func := "astrolabe/astrolabelaw13.RingPlays", spec := "ringPlays", inPlace := ["slices.overlaps[astrolabe/api.Sample]"], unfollowed := true, recurses := true, apart := false, narrowed := true }
def RingPlaysUptoSaid : Prop := ringPlaysUptoRow.holds Try.pinned (OpenSpec.upto ringPlaysSpec)

/-- 'astrolabelaw13.RingOrders', WHERE WHAT IT READS IS OF BULK AT MOST 1048576: true; the input reads as it did. -/
def ringOrdersUptoRow : OpenClaim := { program := "ythbnojedlbeglaa", sum := "cbc93c714f6ef7a9bd579b1330169efa1fb1093401eb0eb6c2d1cd982d66f244", func := "astrolabe/astrolabelaw13.RingOrders", spec := "ringOrders", inPlace := ["slices.overlaps[astrolabe/api.Sample]"], unfollowed := true, recurses := true, apart := false, narrowed := true }
def RingOrdersUptoSaid : Prop := ringOrdersUptoRow.holds Try.pinned (OpenSpec.upto ringOrdersSpec)

/-- 'astrolabelaw13.RingLatest', WHERE WHAT IT READS IS OF BULK AT MOST 1048576: true; the input reads as it did. -/
def ringLatestUptoRow : OpenClaim := { program := "ythbnojedlbeglaa", sum := "cbc93c714f6ef7a9bd579b1330169efa1fb1093401eb0eb6c2d1cd982d66f244", func := "astrolabe/astrolabelaw13.RingLatest", spec := "ringLatest", inPlace := ["slices.overlaps[astrolabe/api.Sample]"], unfollowed := true, recurses := true, apart := false, narrowed := true }
def RingLatestUptoSaid : Prop := ringLatestUptoRow.holds Try.pinned (OpenSpec.upto ringLatestSpec)

/-- 'astrolabelaw13.RingTimes', WHERE WHAT IT READS IS OF BULK AT MOST 1048576: true; the input reads as it did. -/
def ringTimesUptoRow : OpenClaim := { program := "ythbnojedlbeglaa", sum := "cbc93c714f6ef7a9bd579b1330169efa1fb1093401eb0eb6c2d1cd982d66f244", func := "astrolabe/astrolabelaw13.RingTimes", spec := "ringTimes", inPlace := ["slices.overlaps[astrolabe/api.Sample]"], unfollowed := true, recurses := true, apart := false, narrowed := true }
def RingTimesUptoSaid : Prop := ringTimesUptoRow.holds Try.pinned (OpenSpec.upto ringTimesSpec)

/-- 'astrolabelaw13.RingParts', WHERE WHAT IT READS IS OF BULK AT MOST 1048576: true; the input reads as it did. -/
def ringPartsUptoRow : OpenClaim := { program := "ythbnojedlbeglaa", sum := "cbc93c714f6ef7a9bd579b1330169efa1fb1093401eb0eb6c2d1cd982d66f244", func := "astrolabe/astrolabelaw13.RingParts", spec := "ringParts", inPlace := ["slices.overlaps[astrolabe/api.Sample]"], unfollowed := true, recurses := true, apart := false, narrowed := true }
def RingPartsUptoSaid : Prop := ringPartsUptoRow.holds Try.pinned (OpenSpec.upto ringPartsSpec)

/-- 'astrolabelaw5.VecKnown', WHERE WHAT IT READS IS OF BULK AT MOST 1048576: true; the input reads as it did. -/
def vecKnownUptoRow : OpenClaim := { program := "ythbnojedlbeglaa", sum := "cbc93c714f6ef7a9bd579b1330169efa1fb1093401eb0eb6c2d1cd982d66f244", func := "astrolabe/astrolabelaw5.VecKnown", spec := "vecKnown", inPlace := ["math/bits.Add64", "math/bits.Sub64"], apart := false, narrowed := true }
def VecKnownUptoSaid : Prop := vecKnownUptoRow.holds Try.pinned (OpenSpec.upto vecKnownSpec)

/-- 'astrolabelaw5.VecSays', WHERE WHAT IT READS IS OF BULK AT MOST 1048576: true; the input reads as it did. -/
def vecSaysUptoRow : OpenClaim := { program := "ythbnojedlbeglaa", sum := "cbc93c714f6ef7a9bd579b1330169efa1fb1093401eb0eb6c2d1cd982d66f244", func := "astrolabe/astrolabelaw5.VecSays", spec := "vecSays", inPlace := ["math/bits.Add64", "math/bits.Sub64"], apart := false, narrowed := true }
def VecSaysUptoSaid : Prop := vecSaysUptoRow.holds Try.pinned (OpenSpec.upto vecSaysSpec)

/-- 'astrolabelaw5.VecLaws', WHERE WHAT IT READS IS OF BULK AT MOST 1048576: true; the input reads as it did. -/
def vecLawsUptoRow : OpenClaim := { program := "ythbnojedlbeglaa", sum := "cbc93c714f6ef7a9bd579b1330169efa1fb1093401eb0eb6c2d1cd982d66f244", func := "astrolabe/astrolabelaw5.VecLaws", spec := "vecLaws", inPlace := ["math/bits.Add64", "math/bits.Sub64"], apart := false, narrowed := true }
def VecLawsUptoSaid : Prop := vecLawsUptoRow.holds Try.pinned (OpenSpec.upto vecLawsSpec)

/-- 'astrolabelaw5.VecMany', WHERE WHAT IT READS IS OF BULK AT MOST 1048576: true; the input reads as it did. -/
def vecManyUptoRow : OpenClaim := { program := "ythbnojedlbeglaa", sum := "cbc93c714f6ef7a9bd579b1330169efa1fb1093401eb0eb6c2d1cd982d66f244", func := "astrolabe/astrolabelaw5.VecMany", spec := "vecMany", inPlace := ["math/bits.Add64", "math/bits.Sub64"], apart := false, narrowed := true }
def VecManyUptoSaid : Prop := vecManyUptoRow.holds Try.pinned (OpenSpec.upto vecManySpec)

/-- 'astrolabelaw5.VecSides', WHERE WHAT IT READS IS OF BULK AT MOST 1048576: true; the input reads as it did. -/
def vecSidesUptoRow : OpenClaim := { program := "ythbnojedlbeglaa", sum := "cbc93c714f6ef7a9bd579b1330169efa1fb1093401eb0eb6c2d1cd982d66f244", func := "astrolabe/astrolabelaw5.VecSides", spec := "vecSides", inPlace := ["math/bits.Add64", "math/bits.Sub64"], apart := false, narrowed := true }
def VecSidesUptoSaid : Prop := vecSidesUptoRow.holds Try.pinned (OpenSpec.upto vecSidesSpec)

/-- 'astrolabelaw5.VecParts', WHERE WHAT IT READS IS OF BULK AT MOST 1048576: true; the input reads as it did. -/
def vecPartsUptoRow : OpenClaim := { program := "ythbnojedlbeglaa", sum := "cbc93c714f6ef7a9bd579b1330169efa1fb1093401eb0eb6c2d1cd982d66f244", func := "astrolabe/astrolabelaw5.VecParts", spec := "vecParts", inPlace := ["math/bits.Add64", "math/bits.Sub64"], apart := false, narrowed := true }
def VecPartsUptoSaid : Prop := vecPartsUptoRow.holds Try.pinned (OpenSpec.upto vecPartsSpec)

end Rows
end Go.Proofs.Ythbnojedlbeglaa
