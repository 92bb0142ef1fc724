/-
  No cell of these rows narrows 'for every input' (looked for: loops, veiled, ifaces, maps, wideKeys, modest, calm, conditions, laid).
  DERIVED. THE GIVEN ROWS OF THIS SEAT. 8 by the template 'for every input the law returns true; each argument reads behind the call as it read before'; 0 by the template 'total and deterministic' (their statements: YtldgljclcgaibaaGreatTotals.lean).
  GIVEN WITH THE SEED: the statements are not yours to turn. If you find one false, say at which input.
  Laid BY PROGRAM, IN A SANDBOX (cutbox-rows.mjs): the forced cells as the released guide's own fill.sh prints them over the translation e18ef4a56287ceb3… (all of the seat's roots in one cut). By AI agents, Wed Nov 11 2026. No macro, syntax, notation, axiom, sorry.
-/
import Derived.Test.YtldgljclcgaibaaGreatChecked
import GoSem.Claim
import GoSem.ClaimJoined
import GoSem.ClaimMapViews
import Derived.JoinedTies
import Derived.KernelRfl
namespace Go.Proofs.YtldgljclcgaibaaGreat
/- THE CELL 'sum', in the pinned program and in every row, IS THE sha256 OF THE DUMP (.gsa) THAT YtldgljclcgaibaaGreatProg.lean LOADS. Nothing in Lean hashes anything: it is a label: what it is worth is what the hold of that sum in a sandbox is worth. -/
noncomputable def Tryz.pinned : Pinned := { name := "ytldgljclcgaibaagreat", sum := "e18ef4a56287ceb3416bb98a9a49a9fd8efb4b7e7bf9f7e379299fdc51a25b88", checked := Tryz.checked }
namespace Rows
def none {H : Type} : Left H := { results := [], args := [] }

/-- 'astrolabetop.TopSilent': WHATEVER THE INPUT: true; the input reads as it did. -/
def topSilentSpec : ChangeSpec := { name := "topSilent", fn := fun _ => fun
  | [d1, d2] => { results := [.lit (.bool true)], args := [d1, d2] }
  | _ => none }
def topSilentRow : OpenClaim := { program := "ytldgljclcgaibaagreat", sum := "e18ef4a56287ceb3416bb98a9a49a9fd8efb4b7e7bf9f7e379299fdc51a25b88", func := "astrolabe/astrolabetop.TopSilent", spec := "topSilent", inPlace := ["math/bits.Add64", "math/bits.Sub64", "slices.overlaps[astrolabe/api.Sample]"], unfollowed := true, recurses := true, named := ["math/bits.divideError", "math/bits.overflowError"], apart := false }
def TopSilentSaid : Prop := topSilentRow.holds Tryz.pinned (OpenSpec.ofChange topSilentSpec)

/-- ITS FALSE NEIGHBOUR: 'it returns false'. Refute it at one input. -/
def topSilentWrong : ChangeSpec := { name := "topSilent", fn := fun _ => fun
  | [d1, d2] => { results := [.lit (.bool false)], args := [d1, d2] }
  | _ => none }
def TopSilentWrongFalsely : Prop := topSilentRow.holds Tryz.pinned (OpenSpec.ofChange topSilentWrong)

/-- 'astrolabelaw28.EkfOrders': WHATEVER THE INPUT: true; the input reads as it did. -/
def ekfOrdersSpec : ChangeSpec := { name := "ekfOrders", fn := fun _ => fun
  | [d1, d2, d3, d4, d5] => { results := [.lit (.bool true)], args := [d1, d2, d3, d4, d5] }
  | _ => none }
def ekfOrdersRow : OpenClaim := { program := "ytldgljclcgaibaagreat", sum := "e18ef4a56287ceb3416bb98a9a49a9fd8efb4b7e7bf9f7e379299fdc51a25b88", func := "astrolabe/astrolabelaw28.EkfOrders", spec := "ekfOrders", inPlace := ["math/bits.Add64", "math/bits.Sub64", "slices.overlaps[astrolabe/api.Sample]"], unfollowed := true, recurses := true, named := ["math/bits.divideError", "math/bits.overflowError"], apart := false }
def EkfOrdersSaid : Prop := ekfOrdersRow.holds Tryz.pinned (OpenSpec.ofChange ekfOrdersSpec)

/-- ITS FALSE NEIGHBOUR: 'it returns false'. Refute it at one input. -/
def ekfOrdersWrong : ChangeSpec := { name := "ekfOrders", fn := fun _ => fun
  | [d1, d2, d3, d4, d5] => { results := [.lit (.bool false)], args := [d1, d2, d3, d4, d5] }
  | _ => none }
def EkfOrdersWrongFalsely : Prop := ekfOrdersRow.holds Tryz.pinned (OpenSpec.ofChange ekfOrdersWrong)

/-- 'astrolabelaw28.EkfHalves': WHATEVER THE INPUT: true; the input reads as it did. -/
def ekfHalvesSpec : ChangeSpec := { name := "ekfHalves", fn := fun _ => fun
  | [d1, d2] => { results := [.lit (.bool true)], args := [d1, d2] }
  | _ => none }
def ekfHalvesRow : OpenClaim := { program := "ytldgljclcgaibaagreat", sum := "e18ef4a56287ceb3416bb98a9a49a9fd8efb4b7e7bf9f7e379299fdc51a25b88", func := "astrolabe/astrolabelaw28.EkfHalves", spec := "ekfHalves", inPlace := ["math/bits.Add64", "math/bits.Sub64", "slices.overlaps[astrolabe/api.Sample]"], unfollowed := true, recurses := true, named := ["math/bits.divideError", "math/bits.overflowError"], apart := false }
def EkfHalvesSaid : Prop := ekfHalvesRow.holds Tryz.pinned (OpenSpec.ofChange ekfHalvesSpec)

/-- ITS FALSE NEIGHBOUR: 'it returns false'. Refute it at one input. -/
def ekfHalvesWrong : ChangeSpec := { name := "ekfHalves", fn := fun _ => fun
  | [d1, d2] => { results := [.lit (.bool false)], args := [d1, d2] }
  | _ => none }
def EkfHalvesWrongFalsely : Prop := ekfHalvesRow.holds Tryz.pinned (OpenSpec.ofChange ekfHalvesWrong)

/-- 'astrolabelaw28.EkfWaits': WHATEVER THE INPUT: true; the input reads as it did. -/
def ekfWaitsSpec : ChangeSpec := { name := "ekfWaits", fn := fun _ => fun
  | [d1, d2, d3, d4] => { results := [.lit (.bool true)], args := [d1, d2, d3, d4] }
  | _ => none }
def ekfWaitsRow : OpenClaim := { program := "ytldgljclcgaibaagreat", sum := "e18ef4a56287ceb3416bb98a9a49a9fd8efb4b7e7bf9f7e379299fdc51a25b88", func := "astrolabe/astrolabelaw28.EkfWaits", spec := "ekfWaits", inPlace := ["math/bits.Add64", "math/bits.Sub64", "slices.overlaps[astrolabe/api.Sample]"], unfollowed := true, recurses := true, named := ["math/bits.divideError", "math/bits.overflowError"], apart := false }
def EkfWaitsSaid : Prop := ekfWaitsRow.holds Tryz.pinned (OpenSpec.ofChange ekfWaitsSpec)

/-- ITS FALSE NEIGHBOUR: 'it returns false'. Refute it at one input. -/
def ekfWaitsWrong : ChangeSpec := { name := "ekfWaits", fn := fun _ => fun
  | [d1, d2, d3, d4] => { results := [.lit (.bool false)], args := [d1, d2, d3, d4] }
  | _ => none }
def EkfWaitsWrongFalsely : Prop := ekfWaitsRow.holds Tryz.pinned (OpenSpec.ofChange ekfWaitsWrong)

/-- 'astrolabelaw28.EkfGood': WHATEVER THE INPUT: true; the input reads as it did. -/
def ekfGoodSpec : ChangeSpec := { name := "ekfGood", fn := fun _ => fun
  | [d1, d2] => { results := [.lit (.bool true)], args := [d1, d2] }
  | _ => none }
def ekfGoodRow : OpenClaim := { program := "ytldgljclcgaibaagreat", sum := "e18ef4a56287ceb3416bb98a9a49a9fd8efb4b7e7bf9f7e379299fdc51a25b88", func := "astrolabe/astrolabelaw28.EkfGood", spec := "ekfGood", inPlace := ["math/bits.Add64", "math/bits.Sub64", "slices.overlaps[astrolabe/api.Sample]"], unfollowed := true, recurses := true, named := ["math/bits.divideError", "math/bits.overflowError"], apart := false }
def EkfGoodSaid : Prop := ekfGoodRow.holds Tryz.pinned (OpenSpec.ofChange ekfGoodSpec)

/-- ITS FALSE NEIGHBOUR: 'it returns false'. Refute it at one input. -/
def ekfGoodWrong : ChangeSpec := { name := "ekfGood", fn := fun _ => fun
  | [d1, d2] => { results := [.lit (.bool false)], args := [d1, d2] }
  | _ => none }
def EkfGoodWrongFalsely : Prop := ekfGoodRow.holds Tryz.pinned (OpenSpec.ofChange ekfGoodWrong)

/-- 'astrolabetop.TopCovers': WHATEVER THE INPUT: true; the input reads as it did. -/
def topCoversSpec : ChangeSpec := { name := "topCovers", fn := fun _ => fun
  | [d1, d2, d3] => { results := [.lit (.bool true)], args := [d1, d2, d3] }
  | _ => none }
def topCoversRow : OpenClaim := { program := "ytldgljclcgaibaagreat", sum := "e18ef4a56287ceb3416bb98a9a49a9fd8efb4b7e7bf9f7e379299fdc51a25b88", func := "astrolabe/astrolabetop.TopCovers", spec := "topCovers", inPlace := ["math/bits.Add64", "math/bits.Sub64", "slices.overlaps[astrolabe/api.Sample]"], unfollowed := true, recurses := true, named := ["math/bits.divideError", "math/bits.overflowError"], apart := false }
def TopCoversSaid : Prop := topCoversRow.holds Tryz.pinned (OpenSpec.ofChange topCoversSpec)

/-- ITS FALSE NEIGHBOUR: 'it returns false'. Refute it at one input. -/
def topCoversWrong : ChangeSpec := { name := "topCovers", fn := fun _ => fun
  | [d1, d2, d3] => { results := [.lit (.bool false)], args := [d1, d2, d3] }
  | _ => none }
def TopCoversWrongFalsely : Prop := topCoversRow.holds Tryz.pinned (OpenSpec.ofChange topCoversWrong)

/-- 'astrolabetop.TopOnce': WHATEVER THE INPUT: true; the input reads as it did. -/
def topOnceSpec : ChangeSpec := { name := "topOnce", fn := fun _ => fun
  | [d1, d2] => { results := [.lit (.bool true)], args := [d1, d2] }
  | _ => none }
def topOnceRow : OpenClaim := { program := "ytldgljclcgaibaagreat", sum := "e18ef4a56287ceb3416bb98a9a49a9fd8efb4b7e7bf9f7e379299fdc51a25b88", func := "astrolabe/astrolabetop.TopOnce", spec := "topOnce", inPlace := ["math/bits.Add64", "math/bits.Sub64", "slices.overlaps[astrolabe/api.Sample]"], unfollowed := true, recurses := true, named := ["math/bits.divideError", "math/bits.overflowError"], apart := false }
def TopOnceSaid : Prop := topOnceRow.holds Tryz.pinned (OpenSpec.ofChange topOnceSpec)

/-- ITS FALSE NEIGHBOUR: 'it returns false'. Refute it at one input. -/
def topOnceWrong : ChangeSpec := { name := "topOnce", fn := fun _ => fun
  | [d1, d2] => { results := [.lit (.bool false)], args := [d1, d2] }
  | _ => none }
def TopOnceWrongFalsely : Prop := topOnceRow.holds Tryz.pinned (OpenSpec.ofChange topOnceWrong)

/-- 'astrolabetop.TopSteps': WHATEVER THE INPUT: true; the input reads as it did. -/
def topStepsSpec : ChangeSpec := { name := "topSteps", fn := fun _ => fun
  | [d1, d2] => { results := [.lit (.bool true)], args := [d1, d2] }
  | _ => none }
def topStepsRow : OpenClaim := { program := "ytldgljclcgaibaagreat", sum := "e18ef4a56287ceb3416bb98a9a49a9fd8efb4b7e7bf9f7e379299fdc51a25b88", func := "astrolabe/astrolabetop.TopSteps", spec := "topSteps", inPlace := ["math/bits.Add64", "math/bits.Sub64", "slices.overlaps[astrolabe/api.Sample]"], unfollowed := true, recurses := true, named := ["math/bits.divideError", "math/bits.overflowError"], apart := false }
def TopStepsSaid : Prop := topStepsRow.holds Tryz.pinned (OpenSpec.ofChange topStepsSpec)

/-- ITS FALSE NEIGHBOUR: 'it returns false'. Refute it at one input. -/
def topStepsWrong : ChangeSpec := { name := "topSteps", fn := fun _ => fun
  | [d1, d2] => { results := [.lit (.bool false)], args := [d1, d2] }
  | _ => none }
def TopStepsWrongFalsely : Prop := topStepsRow.holds Tryz.pinned (OpenSpec.ofChange topStepsWrong)

/- THE SECOND FORM. 'bulk': how many values and letters a reading holds, each counted each time it is reached (what is shared counts as often as it is met; a slice's spare places count too). A statement '..UptoSaid' is the law's where the arguments, and the package variables that the reading takes, are together of bulk at most 1048576: NARROWER than '..Said'. Prove '..Said' where nothing that the law and all that it calls make is longer than what came in: it says more and counts as full. Else prove '..UptoSaid'. A law counts once. -/
mutual
def uptoBulk {H : Type} : DataW H → Nat
  | .lit (.string bytes) => bytes.length + 1
  | .lit _ => 1
  | .nil => 1
  | .ptr d => uptoBulk d + 1
  | .slice elems spare => uptoBulkAll elems + uptoBulkAll spare + 1
  | .agg parts => uptoBulkAll parts + 1
  | .iface _ d => uptoBulk d + 1
  | .map entries => uptoBulkEntries entries + 1
  | .held _ => 1
def uptoBulkAll {H : Type} : List (DataW H) → Nat
  | [] => 0
  | d :: r => uptoBulk d + uptoBulkAll r
def uptoBulkEntries {H : Type} : List (Lit × DataW H) → Nat
  | [] => 0
  | x :: r => uptoBulkEntry x + uptoBulkEntries r
def uptoBulkEntry {H : Type} : Lit × DataW H → Nat
  | (.string bytes, d) => bytes.length + uptoBulk d + 1
  | (_, d) => uptoBulk d + 1
 end
def uptoSmall : (H : Type) → List (DataW H) → Bool := fun _ ds => decide (uptoBulkAll ds ≤ 1048576)
def OpenSpec.upto (s : _root_.Go.ChangeSpec) : _root_.Go.OpenSpec := { _root_.Go.OpenSpec.ofChange s with cond := some uptoSmall }

/-- 'astrolabetop.TopSilent', WHERE WHAT IT READS IS OF BULK AT MOST 1048576: true; the input reads as it did. -/
def topSilentUptoRow : OpenClaim := { program := "ytldgljclcgaibaagreat", sum := "e18ef4a56287ceb3416bb98a9a49a9fd8efb4b7e7bf9f7e379299fdc51a25b88", func := "astrolabe/astrolabetop.TopSilent", spec := "topSilent", inPlace := ["math/bits.Add64", "math/bits.Sub64", "slices.overlaps[astrolabe/api.Sample]"], unfollowed := true, recurses := true, named := ["math/bits.divideError", "math/bits.overflowError"], apart := false, narrowed := true }
def TopSilentUptoSaid : Prop := topSilentUptoRow.holds Tryz.pinned (OpenSpec.upto topSilentSpec)

/-- 'astrolabelaw28.EkfOrders', WHERE WHAT IT READS IS OF BULK AT MOST 1048576: true; the input reads as it did. -/
def ekfOrdersUptoRow : OpenClaim := { program := "ytldgljclcgaibaagreat", sum := "e18ef4a56287ceb3416bb98a9a49a9fd8efb4b7e7bf9f7e379299fdc51a25b88", func := "astrolabe/astrolabelaw28.EkfOrders", spec := "ekfOrders", inPlace := ["math/bits.Add64", "math/bits.Sub64", "slices.overlaps[astrolabe/api.Sample]"], unfollowed := true, recurses := true, named := ["math/bits.divideError", "math/bits.overflowError"], apart := false, narrowed := true }
def EkfOrdersUptoSaid : Prop := ekfOrdersUptoRow.holds Tryz.pinned (OpenSpec.upto ekfOrdersSpec)

/-- 'astrolabelaw28.EkfHalves', WHERE WHAT IT READS IS OF BULK AT MOST 1048576: true; the input reads as it did. -/
def ekfHalvesUptoRow : OpenClaim := { program := "ytldgljclcgaibaagreat", sum := "e18ef4a56287ceb3416bb98a9a49a9fd8efb4b7e7bf9f7e379299fdc51a25b88", func := "astrolabe/astrolabelaw28.EkfHalves", spec := "ekfHalves", inPlace := ["math/bits.Add64", "math/bits.Sub64", "slices.overlaps[astrolabe/api.Sample]"], unfollowed := true, recurses := true, named := ["math/bits.divideError", "math/bits.overflowError"], apart := false, narrowed := true }
def EkfHalvesUptoSaid : Prop := ekfHalvesUptoRow.holds Tryz.pinned (OpenSpec.upto ekfHalvesSpec)

/-- 'astrolabelaw28.EkfWaits', WHERE WHAT IT READS IS OF BULK AT MOST 1048576: true; the input reads as it did. -/
def ekfWaitsUptoRow : OpenClaim := { program := "ytldgljclcgaibaagreat", sum := "e18ef4a56287ceb3416bb98a9a49a9fd8efb4b7e7bf9f7e379299fdc51a25b88", func := "astrolabe/astrolabelaw28.EkfWaits", spec := "ekfWaits", inPlace := ["math/bits.Add64", "math/bits.Sub64", "slices.overlaps[astrolabe/api.Sample]"], unfollowed := true, recurses := true, named := ["math/bits.divideError", "math/bits.overflowError"], apart := false, narrowed := true }
def EkfWaitsUptoSaid : Prop := ekfWaitsUptoRow.holds Tryz.pinned (OpenSpec.upto ekfWaitsSpec)

/-- 'astrolabelaw28.EkfGood', WHERE WHAT IT READS IS OF BULK AT MOST 1048576: true; the input reads as it did. -/
def ekfGoodUptoRow : OpenClaim := { program := "ytldgljclcgaibaagreat", sum := "e18ef4a56287ceb3416bb98a9a49a9fd8efb4b7e7bf9f7e379299fdc51a25b88", func := "astrolabe/astrolabelaw28.EkfGood", spec := "ekfGood", inPlace := ["math/bits.Add64", "math/bits.Sub64", "slices.overlaps[astrolabe/api.Sample]"], unfollowed := true, recurses := true, named := ["math/bits.divideError", "math/bits.overflowError"], apart := false, narrowed := true }
def EkfGoodUptoSaid : Prop := ekfGoodUptoRow.holds Tryz.pinned (OpenSpec.upto ekfGoodSpec)

/-- 'astrolabetop.TopCovers', WHERE WHAT IT READS IS OF BULK AT MOST 1048576: true; the input reads as it did. -/
def topCoversUptoRow : OpenClaim := { program := "ytldgljclcgaibaagreat", sum := "e18ef4a56287ceb3416bb98a9a49a9fd8efb4b7e7bf9f7e379299fdc51a25b88", func := "astrolabe/astrolabetop.TopCovers", spec := "topCovers", inPlace := ["math/bits.Add64", "math/bits.Sub64", "slices.overlaps[astrolabe/api.Sample]"], unfollowed := true, recurses := true, named := ["math/bits.divideError", "math/bits.overflowError"], apart := false, narrowed := true }
def TopCoversUptoSaid : Prop := topCoversUptoRow.holds Tryz.pinned (OpenSpec.upto topCoversSpec)

/-- 'astrolabetop.TopOnce', WHERE WHAT IT READS IS OF BULK AT MOST 1048576: true; the input reads as it did. -/
def topOnceUptoRow : OpenClaim := { program := "ytldgljclcgaibaagreat", sum := "e18ef4a56287ceb3416bb98a9a49a9fd8efb4b7e7bf9f7e379299fdc51a25b88", func := "astrolabe/astrolabetop.TopOnce", spec := "topOnce", inPlace := ["math/bits.Add64", "math/bits.Sub64", "slices.overlaps[astrolabe/api.Sample]"], unfollowed := true, recurses := true, named := ["math/bits.divideError", "math/bits.overflowError"], apart := false, narrowed := true }
def TopOnceUptoSaid : Prop := topOnceUptoRow.holds Tryz.pinned (OpenSpec.upto topOnceSpec)

/-- 'astrolabetop.TopSteps', WHERE WHAT IT READS IS OF BULK AT MOST 1048576: true; the input reads as it did. -/
def topStepsUptoRow : OpenClaim := { program := "ytldgljclcgaibaagreat", sum := "e18ef4a56287ceb3416bb98a9a49a9fd8efb4b7e7bf9f7e379299fdc51a25b88", func := "astrolabe/astrolabetop.TopSteps", spec := "topSteps", inPlace := ["math/bits.Add64", "math/bits.Sub64", "slices.overlaps[astrolabe/api.Sample]"], unfollowed := true, recurses := true, named := ["math/bits.divideError", "math/bits.overflowError"], apart := false, narrowed := true }
def TopStepsUptoSaid : Prop := topStepsUptoRow.holds Tryz.pinned (OpenSpec.upto topStepsSpec)

end Rows
end Go.Proofs.YtldgljclcgaibaaGreat
