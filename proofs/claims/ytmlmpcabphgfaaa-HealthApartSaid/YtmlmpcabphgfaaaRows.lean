/-
  No cell of these rows narrows 'for every input' (looked for: loops, veiled, ifaces, maps, wideKeys, modest, calm, conditions, laid).
  DERIVED. THE GIVEN ROWS OF THIS SEAT. 12 by the template 'for every input the law returns true; each argument reads behind the call as it read before'; 0 by the template 'total and deterministic' (their statements: YtmlmpcabphgfaaaTotals.lean).
  GIVEN WITH THE SEED: the statements are not yours to turn. If you find one false, say at which input.
  Laid BY PROGRAM, IN A SANDBOX (cutbox-rows.mjs): the forced cells as the released guide's own fill.sh prints them over the translation 072ee2b7d2432c56… (all of the seat's roots in one cut). By AI agents, Wed Nov 11 2026. No macro, syntax, notation, axiom, sorry.
-/
import Derived.Test.YtmlmpcabphgfaaaChecked
import GoSem.Claim
import GoSem.ClaimJoined
import GoSem.ClaimMapViews
import Derived.JoinedTies
import Derived.KernelRfl
namespace Go.Proofs.Ytmlmpcabphgfaaa
/- THE CELL 'sum', in the pinned program and in every row, IS THE sha256 OF THE DUMP (.gsa) THAT YtmlmpcabphgfaaaProg.lean LOADS. Nothing in Lean hashes anything: it is a label: what it is worth is what the hold of that sum in a sandbox is worth. -/
noncomputable def Try.pinned : Pinned := { name := "ytmlmpcabphgfaaa", sum := "072ee2b7d2432c56500d0e2eaf5078fa63926d49d658559712b23874ac38ab08", checked := Try.checked }
namespace Rows
def none {H : Type} : Left H := { results := [], args := [] }

/-- 'astrolabelaw24.HealthKnown': WHATEVER THE INPUT: true; the input reads as it did. -/
def healthKnownSpec : ChangeSpec := { name := "healthKnown", fn := fun _ => fun
  | [] => { results := [.lit (.bool true)], args := [] }
  | _ => none }
def healthKnownRow : OpenClaim := { program := "ytmlmpcabphgfaaa", sum := "072ee2b7d2432c56500d0e2eaf5078fa63926d49d658559712b23874ac38ab08", func := "astrolabe/astrolabelaw24.HealthKnown", spec := "healthKnown", apart := false }
def HealthKnownSaid : Prop := healthKnownRow.holds Try.pinned (OpenSpec.ofChange healthKnownSpec)

/-- ITS FALSE NEIGHBOUR: 'it returns false'. Refute it at one input. -/
def healthKnownWrong : ChangeSpec := { name := "healthKnown", fn := fun _ => fun
  | [] => { results := [.lit (.bool false)], args := [] }
  | _ => none }
def HealthKnownWrongFalsely : Prop := healthKnownRow.holds Try.pinned (OpenSpec.ofChange healthKnownWrong)

/-- 'astrolabelaw24.HealthPlays': WHATEVER THE INPUT: true; the input reads as it did. -/
def healthPlaysSpec : ChangeSpec := { name := "healthPlays", fn := fun _ => fun
  | [d1, d2, d3] => { results := [.lit (.bool true)], args := [d1, d2, d3] }
  | _ => none }
def healthPlaysRow : OpenClaim := { program := "ytmlmpcabphgfaaa", sum := "072ee2b7d2432c56500d0e2eaf5078fa63926d49d658559712b23874ac38ab08", func := "astrolabe/astrolabelaw24.HealthPlays", spec := "healthPlays", apart := false }
def HealthPlaysSaid : Prop := healthPlaysRow.holds Try.pinned (OpenSpec.ofChange healthPlaysSpec)

/-- ITS FALSE NEIGHBOUR: 'it returns false'. Refute it at one input. -/
def healthPlaysWrong : ChangeSpec := { name := "healthPlays", fn := fun _ => fun
  | [d1, d2, d3] => { results := [.lit (.bool false)], args := [d1, d2, d3] }
  | _ => none }
def HealthPlaysWrongFalsely : Prop := healthPlaysRow.holds Try.pinned (OpenSpec.ofChange healthPlaysWrong)

/-- 'astrolabelaw24.HealthWatches': WHATEVER THE INPUT: true; the input reads as it did. -/
def healthWatchesSpec : ChangeSpec := { name := "healthWatches", fn := fun _ => fun
  | [d1, d2, d3, d4] => { results := [.lit (.bool true)], args := [d1, d2, d3, d4] }
  | _ => none }
def healthWatchesRow : OpenClaim := { program := "ytmlmpcabphgfaaa", sum := "072ee2b7d2432c56500d0e2eaf5078fa63926d49d658559712b23874ac38ab08", func := "astrolabe/astrolabelaw24.HealthWatches", spec := "healthWatches", apart := false }
def HealthWatchesSaid : Prop := healthWatchesRow.holds Try.pinned (OpenSpec.ofChange healthWatchesSpec)

/-- ITS FALSE NEIGHBOUR: 'it returns false'. Refute it at one input. -/
def healthWatchesWrong : ChangeSpec := { name := "healthWatches", fn := fun _ => fun
  | [d1, d2, d3, d4] => { results := [.lit (.bool false)], args := [d1, d2, d3, d4] }
  | _ => none }
def HealthWatchesWrongFalsely : Prop := healthWatchesRow.holds Try.pinned (OpenSpec.ofChange healthWatchesWrong)

/-- 'astrolabelaw24.HealthApart': WHATEVER THE INPUT: true; the input reads as it did. -/
def healthApartSpec : ChangeSpec := { name := "healthApart", fn := fun _ => fun
  | [d1, d2, d3] => { results := [.lit (.bool true)], args := [d1, d2, d3] }
  | _ => none }
def healthApartRow : OpenClaim := { program := "ytmlmpcabphgfaaa", sum := "072ee2b7d2432c56500d0e2eaf5078fa63926d49d658559712b23874ac38ab08", func := "astrolabe/astrolabelaw24.HealthApart", spec := "healthApart", apart := false }
def HealthApartSaid : Prop := healthApartRow.holds Try.pinned (OpenSpec.ofChange healthApartSpec)

/-- ITS FALSE NEIGHBOUR: 'it returns false'. Refute it at one input. -/
def healthApartWrong : ChangeSpec := { name := "healthApart", fn := fun _ => fun
  | [d1, d2, d3] => { results := [.lit (.bool false)], args := [d1, d2, d3] }
  | _ => none }
def HealthApartWrongFalsely : Prop := healthApartRow.holds Try.pinned (OpenSpec.ofChange healthApartWrong)

/-- 'astrolabelaw14.DownsKnown': WHATEVER THE INPUT: true; the input reads as it did. -/
def downsKnownSpec : ChangeSpec := { name := "downsKnown", fn := fun _ => fun
  | [] => { results := [.lit (.bool true)], args := [] }
  | _ => none }
def downsKnownRow : OpenClaim := { program := "ytmlmpcabphgfaaa", sum := "072ee2b7d2432c56500d0e2eaf5078fa63926d49d658559712b23874ac38ab08", func := "astrolabe/astrolabelaw14.DownsKnown", spec := "downsKnown", inPlace := ["math/bits.Add64"], apart := false }
def DownsKnownSaid : Prop := downsKnownRow.holds Try.pinned (OpenSpec.ofChange downsKnownSpec)

/-- ITS FALSE NEIGHBOUR: 'it returns false'. Refute it at one input. -/
def downsKnownWrong : ChangeSpec := { name := "downsKnown", fn := fun _ => fun
  | [] => { results := [.lit (.bool false)], args := [] }
  | _ => none }
def DownsKnownWrongFalsely : Prop := downsKnownRow.holds Try.pinned (OpenSpec.ofChange downsKnownWrong)

/-- 'astrolabelaw14.DownsPlays': WHATEVER THE INPUT: true; the input reads as it did. -/
def downsPlaysSpec : ChangeSpec := { name := "downsPlays", fn := fun _ => fun
  | [d1, d2] => { results := [.lit (.bool true)], args := [d1, d2] }
  | _ => none }
def downsPlaysRow : OpenClaim := { program := "ytmlmpcabphgfaaa", sum := "072ee2b7d2432c56500d0e2eaf5078fa63926d49d658559712b23874ac38ab08", func := "astrolabe/astrolabelaw14.DownsPlays", spec := "downsPlays", inPlace := ["math/bits.Add64"], apart := false }
def DownsPlaysSaid : Prop := downsPlaysRow.holds Try.pinned (OpenSpec.ofChange downsPlaysSpec)

/-- ITS FALSE NEIGHBOUR: 'it returns false'. Refute it at one input. -/
def downsPlaysWrong : ChangeSpec := { name := "downsPlays", fn := fun _ => fun
  | [d1, d2] => { results := [.lit (.bool false)], args := [d1, d2] }
  | _ => none }
def DownsPlaysWrongFalsely : Prop := downsPlaysRow.holds Try.pinned (OpenSpec.ofChange downsPlaysWrong)

/-- 'astrolabelaw14.DownsJoins': WHATEVER THE INPUT: true; the input reads as it did. -/
def downsJoinsSpec : ChangeSpec := { name := "downsJoins", fn := fun _ => fun
  | [d1, d2] => { results := [.lit (.bool true)], args := [d1, d2] }
  | _ => none }
def downsJoinsRow : OpenClaim := { program := "ytmlmpcabphgfaaa", sum := "072ee2b7d2432c56500d0e2eaf5078fa63926d49d658559712b23874ac38ab08", func := "astrolabe/astrolabelaw14.DownsJoins", spec := "downsJoins", inPlace := ["math/bits.Add64"], apart := false }
def DownsJoinsSaid : Prop := downsJoinsRow.holds Try.pinned (OpenSpec.ofChange downsJoinsSpec)

/-- ITS FALSE NEIGHBOUR: 'it returns false'. Refute it at one input. -/
def downsJoinsWrong : ChangeSpec := { name := "downsJoins", fn := fun _ => fun
  | [d1, d2] => { results := [.lit (.bool false)], args := [d1, d2] }
  | _ => none }
def DownsJoinsWrongFalsely : Prop := downsJoinsRow.holds Try.pinned (OpenSpec.ofChange downsJoinsWrong)

/-- 'astrolabelaw14.DownsSplits': WHATEVER THE INPUT: true; the input reads as it did. -/
def downsSplitsSpec : ChangeSpec := { name := "downsSplits", fn := fun _ => fun
  | [d1, d2, d3, d4] => { results := [.lit (.bool true)], args := [d1, d2, d3, d4] }
  | _ => none }
def downsSplitsRow : OpenClaim := { program := "ytmlmpcabphgfaaa", sum := "072ee2b7d2432c56500d0e2eaf5078fa63926d49d658559712b23874ac38ab08", func := "astrolabe/astrolabelaw14.DownsSplits", spec := "downsSplits", inPlace := ["math/bits.Add64"], apart := false }
def DownsSplitsSaid : Prop := downsSplitsRow.holds Try.pinned (OpenSpec.ofChange downsSplitsSpec)

/-- ITS FALSE NEIGHBOUR: 'it returns false'. Refute it at one input. -/
def downsSplitsWrong : ChangeSpec := { name := "downsSplits", fn := fun _ => fun
  | [d1, d2, d3, d4] => { results := [.lit (.bool false)], args := [d1, d2, d3, d4] }
  | _ => none }
def DownsSplitsWrongFalsely : Prop := downsSplitsRow.holds Try.pinned (OpenSpec.ofChange downsSplitsWrong)

/-- 'astrolabelaw9.TriKnown': WHATEVER THE INPUT: true; the input reads as it did. -/
def triKnownSpec : ChangeSpec := { name := "triKnown", fn := fun _ => fun
  | [] => { results := [.lit (.bool true)], args := [] }
  | _ => none }
def triKnownRow : OpenClaim := { program := "ytmlmpcabphgfaaa", sum := "072ee2b7d2432c56500d0e2eaf5078fa63926d49d658559712b23874ac38ab08", func := "astrolabe/astrolabelaw9.TriKnown", spec := "triKnown", inPlace := ["math/bits.Add64"], apart := false }
def TriKnownSaid : Prop := triKnownRow.holds Try.pinned (OpenSpec.ofChange triKnownSpec)

/-- ITS FALSE NEIGHBOUR: 'it returns false'. Refute it at one input. -/
def triKnownWrong : ChangeSpec := { name := "triKnown", fn := fun _ => fun
  | [] => { results := [.lit (.bool false)], args := [] }
  | _ => none }
def TriKnownWrongFalsely : Prop := triKnownRow.holds Try.pinned (OpenSpec.ofChange triKnownWrong)

/-- 'astrolabelaw9.TriSays': WHATEVER THE INPUT: true; the input reads as it did. -/
def triSaysSpec : ChangeSpec := { name := "triSays", fn := fun _ => fun
  | [d1, d2, d3, d4, d5] => { results := [.lit (.bool true)], args := [d1, d2, d3, d4, d5] }
  | _ => none }
def triSaysRow : OpenClaim := { program := "ytmlmpcabphgfaaa", sum := "072ee2b7d2432c56500d0e2eaf5078fa63926d49d658559712b23874ac38ab08", func := "astrolabe/astrolabelaw9.TriSays", spec := "triSays", inPlace := ["math/bits.Add64"], apart := false }
def TriSaysSaid : Prop := triSaysRow.holds Try.pinned (OpenSpec.ofChange triSaysSpec)

/-- ITS FALSE NEIGHBOUR: 'it returns false'. Refute it at one input. -/
def triSaysWrong : ChangeSpec := { name := "triSays", fn := fun _ => fun
  | [d1, d2, d3, d4, d5] => { results := [.lit (.bool false)], args := [d1, d2, d3, d4, d5] }
  | _ => none }
def TriSaysWrongFalsely : Prop := triSaysRow.holds Try.pinned (OpenSpec.ofChange triSaysWrong)

/-- 'astrolabelaw9.TriSets': WHATEVER THE INPUT: true; the input reads as it did. -/
def triSetsSpec : ChangeSpec := { name := "triSets", fn := fun _ => fun
  | [d1, d2, d3, d4, d5, d6] => { results := [.lit (.bool true)], args := [d1, d2, d3, d4, d5, d6] }
  | _ => none }
def triSetsRow : OpenClaim := { program := "ytmlmpcabphgfaaa", sum := "072ee2b7d2432c56500d0e2eaf5078fa63926d49d658559712b23874ac38ab08", func := "astrolabe/astrolabelaw9.TriSets", spec := "triSets", inPlace := ["math/bits.Add64"], apart := false }
def TriSetsSaid : Prop := triSetsRow.holds Try.pinned (OpenSpec.ofChange triSetsSpec)

/-- ITS FALSE NEIGHBOUR: 'it returns false'. Refute it at one input. -/
def triSetsWrong : ChangeSpec := { name := "triSets", fn := fun _ => fun
  | [d1, d2, d3, d4, d5, d6] => { results := [.lit (.bool false)], args := [d1, d2, d3, d4, d5, d6] }
  | _ => none }
def TriSetsWrongFalsely : Prop := triSetsRow.holds Try.pinned (OpenSpec.ofChange triSetsWrong)

/-- 'astrolabelaw9.TriPositive': WHATEVER THE INPUT: true; the input reads as it did. -/
def triPositiveSpec : ChangeSpec := { name := "triPositive", fn := fun _ => fun
  | [d1, d2, d3] => { results := [.lit (.bool true)], args := [d1, d2, d3] }
  | _ => none }
def triPositiveRow : OpenClaim := { program := "ytmlmpcabphgfaaa", sum := "072ee2b7d2432c56500d0e2eaf5078fa63926d49d658559712b23874ac38ab08", func := "astrolabe/astrolabelaw9.TriPositive", spec := "triPositive", inPlace := ["math/bits.Add64"], apart := false }
def TriPositiveSaid : Prop := triPositiveRow.holds Try.pinned (OpenSpec.ofChange triPositiveSpec)

/-- ITS FALSE NEIGHBOUR: 'it returns false'. Refute it at one input. -/
def triPositiveWrong : ChangeSpec := { name := "triPositive", fn := fun _ => fun
  | [d1, d2, d3] => { results := [.lit (.bool false)], args := [d1, d2, d3] }
  | _ => none }
def TriPositiveWrongFalsely : Prop := triPositiveRow.holds Try.pinned (OpenSpec.ofChange triPositiveWrong)

/- THE SECOND FORM. 'bulk': how many values and letters a reading holds, each counted each time it is reached (what is shared counts as often as it is met; a slice's spare places count too). A statement '..UptoSaid' is the law's where the arguments, and the package variables that the reading takes, are together of bulk at most 1048576: NARROWER than '..Said'. Prove '..Said' where nothing that the law and all that it calls make is longer than what came in: it says more and counts as full. Else prove '..UptoSaid'. A law counts once. -/
mutual
def uptoBulk {H : Type} : DataW H → Nat
  | .lit (.string bytes) => bytes.length + 1
  | .lit _ => 1
  | .nil => 1
  | .ptr d => uptoBulk d + 1
  | .slice elems spare => uptoBulkAll elems + uptoBulkAll spare + 1
  | .agg parts => uptoBulkAll parts + 1
  | .iface _ d => uptoBulk d + 1
  | .map entries => uptoBulkEntries entries + 1
  | .held _ => 1
def uptoBulkAll {H : Type} : List (DataW H) → Nat
  | [] => 0
  | d :: r => uptoBulk d + uptoBulkAll r
def uptoBulkEntries {H : Type} : List (Lit × DataW H) → Nat
  | [] => 0
  | x :: r => uptoBulkEntry x + uptoBulkEntries r
def uptoBulkEntry {H : Type} : Lit × DataW H → Nat
  | (.string bytes, d) => bytes.length + uptoBulk d + 1
  | (_, d) => uptoBulk d + 1
 end
def uptoSmall : (H : Type) → List (DataW H) → Bool := fun _ ds => decide (uptoBulkAll ds ≤ 1048576)
def OpenSpec.upto (s : _root_.Go.ChangeSpec) : _root_.Go.OpenSpec := { _root_.Go.OpenSpec.ofChange s with cond := some uptoSmall }

/-- 'astrolabelaw24.HealthKnown', WHERE WHAT IT READS IS OF BULK AT MOST 1048576: true; the input reads as it did. -/
def healthKnownUptoRow : OpenClaim := { program := "ytmlmpcabphgfaaa", sum := "072ee2b7d2432c56500d0e2eaf5078fa63926d49d658559712b23874ac38ab08", func := "astrolabe/astrolabelaw24.HealthKnown", spec := "healthKnown", apart := false, narrowed := true }
def HealthKnownUptoSaid : Prop := healthKnownUptoRow.holds Try.pinned (OpenSpec.upto healthKnownSpec)

/-- 'astrolabelaw24.HealthPlays', WHERE WHAT IT READS IS OF BULK AT MOST 1048576: true; the input reads as it did. -/
def healthPlaysUptoRow : OpenClaim := { program := "ytmlmpcabphgfaaa", sum := "072ee2b7d2432c56500d0e2eaf5078fa63926d49d658559712b23874ac38ab08", func := "astrolabe/astrolabelaw24.HealthPlays", spec := "healthPlays", apart := false, narrowed := true }
def HealthPlaysUptoSaid : Prop := healthPlaysUptoRow.holds Try.pinned (OpenSpec.upto healthPlaysSpec)

/-- 'astrolabelaw24.HealthWatches', WHERE WHAT IT READS IS OF BULK AT MOST 1048576: true; the input reads as it did. -/
def healthWatchesUptoRow : OpenClaim := { program := "ytmlmpcabphgfaaa", sum := "072ee2b7d2432c56500d0e2eaf5078fa63926d49d658559712b23874ac38ab08", func := "astrolabe/astrolabelaw24.HealthWatches", spec := "healthWatches", apart := false, narrowed := true }
def HealthWatchesUptoSaid : Prop := healthWatchesUptoRow.holds Try.pinned (OpenSpec.upto healthWatchesSpec)

/-- 'astrolabelaw24.HealthApart', WHERE WHAT IT READS IS OF BULK AT MOST 1048576: true; the input reads as it did. -/
def healthApartUptoRow : OpenClaim := { program := "ytmlmpcabphgfaaa", sum := "072ee2b7d2432c56500d0e2eaf5078fa63926d49d658559712b23874ac38ab08", func := "astrolabe/astrolabelaw24.HealthApart", spec := "healthApart", apart := false, narrowed := true }
def HealthApartUptoSaid : Prop := healthApartUptoRow.holds Try.pinned (OpenSpec.upto healthApartSpec)

/-- 'astrolabelaw14.DownsKnown', WHERE WHAT IT READS IS OF BULK AT MOST 1048576: true; the input reads as it did. -/
def downsKnownUptoRow : OpenClaim := { program := "ytmlmpcabphgfaaa", sum := "072ee2b7d2432c56500d0e2eaf5078fa63926d49d658559712b23874ac38ab08", func := "astrolabe/astrolabelaw14.DownsKnown", spec := "downsKnown", inPlace := ["math/bits.Add64"], apart := false, narrowed := true }
def DownsKnownUptoSaid : Prop := downsKnownUptoRow.holds Try.pinned (OpenSpec.upto downsKnownSpec)

/-- 'astrolabelaw14.DownsPlays', WHERE WHAT IT READS IS OF BULK AT MOST 1048576: true; the input reads as it did. -/
def downsPlaysUptoRow : OpenClaim := { program := "ytmlmpcabphgfaaa", sum := "072ee2b7d2432c56500d0e2eaf5078fa63926d49d658559712b23874ac38ab08", func := "astrolabe/astrolabelaw14.DownsPlays", spec := "downsPlays", inPlace := ["math/bits.Add64"], apart := false, narrowed := true }
def DownsPlaysUptoSaid : Prop := downsPlaysUptoRow.holds Try.pinned (OpenSpec.upto downsPlaysSpec)

/-- 'astrolabelaw14.DownsJoins', WHERE WHAT IT READS IS OF BULK AT MOST 1048576: true; the input reads as it did. -/
def downsJoinsUptoRow : OpenClaim := { program := "ytmlmpcabphgfaaa", sum := "072ee2b7d2432c56500d0e2eaf5078fa63926d49d658559712b23874ac38ab08", func := "astrolabe/astrolabelaw14.DownsJoins", spec := "downsJoins", inPlace := ["math/bits.Add64"], apart := false, narrowed := true }
def DownsJoinsUptoSaid : Prop := downsJoinsUptoRow.holds Try.pinned (OpenSpec.upto downsJoinsSpec)

/-- 'astrolabelaw14.DownsSplits', WHERE WHAT IT READS IS OF BULK AT MOST 1048576: true; the input reads as it did. -/
def downsSplitsUptoRow : OpenClaim := { program := "ytmlmpcabphgfaaa", sum := "072ee2b7d2432c56500d0e2eaf5078fa63926d49d658559712b23874ac38ab08", func := "astrolabe/astrolabelaw14.DownsSplits", spec := "downsSplits", inPlace := ["math/bits.Add64"], apart := false, narrowed := true }
def DownsSplitsUptoSaid : Prop := downsSplitsUptoRow.holds Try.pinned (OpenSpec.upto downsSplitsSpec)

/-- 'astrolabelaw9.TriKnown', WHERE WHAT IT READS IS OF BULK AT MOST 1048576: true; the input reads as it did. -/
def triKnownUptoRow : OpenClaim := { program := "ytmlmpcabphgfaaa", sum := "072ee2b7d2432c56500d0e2eaf5078fa63926d49d658559712b23874ac38ab08", func := "astrolabe/astrolabelaw9.TriKnown", spec := "triKnown", inPlace := ["math/bits.Add64"], apart := false, narrowed := true }
def TriKnownUptoSaid : Prop := triKnownUptoRow.holds Try.pinned (OpenSpec.upto triKnownSpec)

/-- 'astrolabelaw9.TriSays', WHERE WHAT IT READS IS OF BULK AT MOST 1048576: true; the input reads as it did. -/
def triSaysUptoRow : OpenClaim := { program := "ytmlmpcabphgfaaa", sum := "072ee2b7d2432c56500d0e2eaf5078fa63926d49d658559712b23874ac38ab08", func := "astrolabe/astrolabelaw9.TriSays", spec := "triSays", inPlace := ["math/bits.Add64"], apart := false, narrowed := true }
def TriSaysUptoSaid : Prop := triSaysUptoRow.holds Try.pinned (OpenSpec.upto triSaysSpec)

/-- 'astrolabelaw9.TriSets', WHERE WHAT IT READS IS OF BULK AT MOST 1048576: true; the input reads as it did. -/
def triSetsUptoRow : OpenClaim := { program := "ytmlmpcabphgfaaa", sum := "072ee2b7d2432c56500d0e2eaf5078fa63926d49d658559712b23874ac38ab08", func := "astrolabe/astrolabelaw9.TriSets", spec := "triSets", inPlace := ["math/bits.Add64"], apart := false, narrowed := true }
def TriSetsUptoSaid : Prop := triSetsUptoRow.holds Try.pinned (OpenSpec.upto triSetsSpec)

/-- 'astrolabelaw9.TriPositive', WHERE WHAT IT READS IS OF BULK AT MOST 1048576: true; the input reads as it did. -/
def triPositiveUptoRow : OpenClaim := { program := "ytmlmpcabphgfaaa", sum := "072ee2b7d2432c56500d0e2eaf5078fa63926d49d658559712b23874ac38ab08", func := "astrolabe/astrolabelaw9.TriPositive", spec := "triPositive", inPlace := ["math/bits.Add64"], apart := false, narrowed := true }
def TriPositiveUptoSaid : Prop := triPositiveUptoRow.holds Try.pinned (OpenSpec.upto triPositiveSpec)

end Rows
end Go.Proofs.Ytmlmpcabphgfaaa
