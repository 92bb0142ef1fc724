/-
  No cell of these rows narrows 'for every input' (looked for: loops, veiled, ifaces, maps, wideKeys, modest, calm, conditions, laid).
  DERIVED. THE GIVEN ROWS OF THIS SEAT. 6 by the template 'for every input the law returns true; each argument reads behind the call as it read before'; 0 by the template 'total and deterministic' (their statements: YtgbgdihahmecoaaTotals.lean).
  GIVEN WITH THE SEED: the statements are not yours to turn. If you find one false, say at which input.
  Laid BY PROGRAM, IN A SANDBOX (cutbox-rows.mjs): the forced cells as the released guide's own fill.sh prints them over the translation 0fcf403b2bd93698… (all of the seat's roots in one cut). By AI agents, Wed Nov 11 2026. No macro, syntax, notation, axiom, sorry.
-/
import Derived.Test.YtgbgdihahmecoaaChecked
import GoSem.Claim
import GoSem.ClaimJoined
import GoSem.ClaimMapViews
import Derived.JoinedTies
import Derived.KernelRfl
namespace Go.Proofs.Ytgbgdihahmecoaa
/- THE CELL 'sum', in the pinned program and in every row, IS THE sha256 OF THE DUMP (.gsa) THAT YtgbgdihahmecoaaProg.lean LOADS. Nothing in Lean hashes anything: it is a label: what it is worth is what the hold of that sum in a sandbox is worth. -/
noncomputable def Try.pinned : Pinned := { name := "ytgbgdihahmecoaa", sum := "0fcf403b2bd93698a59e161d19d66ba85e0257527c7214174d36ee69da7539ef", checked := Try.checked }
namespace Rows
def none {H : Type} : Left H := { results := [], args := [] }

/-- 'astrolabelaw25.ModeKnown': WHATEVER THE INPUT: true; the input reads as it did. -/
def modeKnownSpec : ChangeSpec := { name := "modeKnown", fn := fun _ => fun
  | [] => { results := [.lit (.bool true)], args := [] }
  | _ => none }
def modeKnownRow : OpenClaim := { program := "ytgbgdihahmecoaa", sum := "0fcf403b2bd93698a59e161d19d66ba85e0257527c7214174d36ee69da7539ef", func := "astrolabe/astrolabelaw25.ModeKnown", spec := "modeKnown", apart := false }
def ModeKnownSaid : Prop := modeKnownRow.holds Try.pinned (OpenSpec.ofChange modeKnownSpec)

/-- ITS FALSE NEIGHBOUR: 'it returns false'. Refute it at one input. -/
def modeKnownWrong : ChangeSpec := { name := "modeKnown", fn := fun _ => fun
  | [] => { results := [.lit (.bool false)], args := [] }
  | _ => none }
def ModeKnownWrongFalsely : Prop := modeKnownRow.holds Try.pinned (OpenSpec.ofChange modeKnownWrong)

/-- 'astrolabelaw25.ModeSteps': WHATEVER THE INPUT: true; the input reads as it did. -/
def modeStepsSpec : ChangeSpec := { name := "modeSteps", fn := fun _ => fun
  | [d1, d2] => { results := [.lit (.bool true)], args := [d1, d2] }
  | _ => none }
def modeStepsRow : OpenClaim := { program := "ytgbgdihahmecoaa", sum := "0fcf403b2bd93698a59e161d19d66ba85e0257527c7214174d36ee69da7539ef", func := "astrolabe/astrolabelaw25.ModeSteps", spec := "modeSteps", apart := false }
def ModeStepsSaid : Prop := modeStepsRow.holds Try.pinned (OpenSpec.ofChange modeStepsSpec)

/-- ITS FALSE NEIGHBOUR: 'it returns false'. Refute it at one input. -/
def modeStepsWrong : ChangeSpec := { name := "modeSteps", fn := fun _ => fun
  | [d1, d2] => { results := [.lit (.bool false)], args := [d1, d2] }
  | _ => none }
def ModeStepsWrongFalsely : Prop := modeStepsRow.holds Try.pinned (OpenSpec.ofChange modeStepsWrong)

/-- 'astrolabelaw25.ModePaths': WHATEVER THE INPUT: true; the input reads as it did. -/
def modePathsSpec : ChangeSpec := { name := "modePaths", fn := fun _ => fun
  | [d1, d2] => { results := [.lit (.bool true)], args := [d1, d2] }
  | _ => none }
def modePathsRow : OpenClaim := { program := "ytgbgdihahmecoaa", sum := "0fcf403b2bd93698a59e161d19d66ba85e0257527c7214174d36ee69da7539ef", func := "astrolabe/astrolabelaw25.ModePaths", spec := "modePaths", apart := false }
def ModePathsSaid : Prop := modePathsRow.holds Try.pinned (OpenSpec.ofChange modePathsSpec)

/-- ITS FALSE NEIGHBOUR: 'it returns false'. Refute it at one input. -/
def modePathsWrong : ChangeSpec := { name := "modePaths", fn := fun _ => fun
  | [d1, d2] => { results := [.lit (.bool false)], args := [d1, d2] }
  | _ => none }
def ModePathsWrongFalsely : Prop := modePathsRow.holds Try.pinned (OpenSpec.ofChange modePathsWrong)

/-- 'astrolabelaw25.ModeSilent': WHATEVER THE INPUT: true; the input reads as it did. -/
def modeSilentSpec : ChangeSpec := { name := "modeSilent", fn := fun _ => fun
  | [d1, d2] => { results := [.lit (.bool true)], args := [d1, d2] }
  | _ => none }
def modeSilentRow : OpenClaim := { program := "ytgbgdihahmecoaa", sum := "0fcf403b2bd93698a59e161d19d66ba85e0257527c7214174d36ee69da7539ef", func := "astrolabe/astrolabelaw25.ModeSilent", spec := "modeSilent", apart := false }
def ModeSilentSaid : Prop := modeSilentRow.holds Try.pinned (OpenSpec.ofChange modeSilentSpec)

/-- ITS FALSE NEIGHBOUR: 'it returns false'. Refute it at one input. -/
def modeSilentWrong : ChangeSpec := { name := "modeSilent", fn := fun _ => fun
  | [d1, d2] => { results := [.lit (.bool false)], args := [d1, d2] }
  | _ => none }
def ModeSilentWrongFalsely : Prop := modeSilentRow.holds Try.pinned (OpenSpec.ofChange modeSilentWrong)

/-- 'astrolabelaw25.ModeBlind': WHATEVER THE INPUT: true; the input reads as it did. -/
def modeBlindSpec : ChangeSpec := { name := "modeBlind", fn := fun _ => fun
  | [d1, d2, d3, d4] => { results := [.lit (.bool true)], args := [d1, d2, d3, d4] }
  | _ => none }
def modeBlindRow : OpenClaim := { program := "ytgbgdihahmecoaa", sum := "0fcf403b2bd93698a59e161d19d66ba85e0257527c7214174d36ee69da7539ef", func := "astrolabe/astrolabelaw25.ModeBlind", spec := "modeBlind", apart := false }
def ModeBlindSaid : Prop := modeBlindRow.holds Try.pinned (OpenSpec.ofChange modeBlindSpec)

/-- ITS FALSE NEIGHBOUR: 'it returns false'. Refute it at one input. -/
def modeBlindWrong : ChangeSpec := { name := "modeBlind", fn := fun _ => fun
  | [d1, d2, d3, d4] => { results := [.lit (.bool false)], args := [d1, d2, d3, d4] }
  | _ => none }
def ModeBlindWrongFalsely : Prop := modeBlindRow.holds Try.pinned (OpenSpec.ofChange modeBlindWrong)

/-- 'astrolabelaw25.ModeStays': WHATEVER THE INPUT: true; the input reads as it did. -/
def modeStaysSpec : ChangeSpec := { name := "modeStays", fn := fun _ => fun
  | [d1, d2] => { results := [.lit (.bool true)], args := [d1, d2] }
  | _ => none }
def modeStaysRow : OpenClaim := { program := "ytgbgdihahmecoaa", sum := "0fcf403b2bd93698a59e161d19d66ba85e0257527c7214174d36ee69da7539ef", func := "astrolabe/astrolabelaw25.ModeStays", spec := "modeStays", apart := false }
def ModeStaysSaid : Prop := modeStaysRow.holds Try.pinned (OpenSpec.ofChange modeStaysSpec)

/-- ITS FALSE NEIGHBOUR: 'it returns false'. Refute it at one input. -/
def modeStaysWrong : ChangeSpec := { name := "modeStays", fn := fun _ => fun
  | [d1, d2] => { results := [.lit (.bool false)], args := [d1, d2] }
  | _ => none }
def ModeStaysWrongFalsely : Prop := modeStaysRow.holds Try.pinned (OpenSpec.ofChange modeStaysWrong)

/- THE SECOND FORM. 'bulk': how many values and letters a reading holds, each counted each time it is reached (what is shared counts as often as it is met; a slice's spare places count too). A statement '..UptoSaid' is the law's where the arguments, and the package variables that the reading takes, are together of bulk at most 1048576: NARROWER than '..Said'. Prove '..Said' where nothing that the law and all that it calls make is longer than what came in: it says more and counts as full. Else prove '..UptoSaid'. A law counts once. -/
mutual
def uptoBulk {H : Type} : DataW H → Nat
  | .lit (.string bytes) => bytes.length + 1
  | .lit _ => 1
  | .nil => 1
  | .ptr d => uptoBulk d + 1
  | .slice elems spare => uptoBulkAll elems + uptoBulkAll spare + 1
  | .agg parts => uptoBulkAll parts + 1
  | .iface _ d => uptoBulk d + 1
  | .map entries => uptoBulkEntries entries + 1
  | .held _ => 1
def uptoBulkAll {H : Type} : List (DataW H) → Nat
  | [] => 0
  | d :: r => uptoBulk d + uptoBulkAll r
def uptoBulkEntries {H : Type} : List (Lit × DataW H) → Nat
  | [] => 0
  | x :: r => uptoBulkEntry x + uptoBulkEntries r
def uptoBulkEntry {H : Type} : Lit × DataW H → Nat
  | (.string bytes, d) => bytes.length + uptoBulk d + 1
  | (_, d) => uptoBulk d + 1
 end
def uptoSmall : (H : Type) → List (DataW H) → Bool := fun _ ds => decide (uptoBulkAll ds ≤ 1048576)
def OpenSpec.upto (s : _root_.Go.ChangeSpec) : _root_.Go.OpenSpec := { _root_.Go.OpenSpec.ofChange s with cond := some uptoSmall }

/-- 'astrolabelaw25.ModeKnown', WHERE WHAT IT READS IS OF BULK AT MOST 1048576: true; the input reads as it did. -/
def modeKnownUptoRow : OpenClaim := { program := "ytgbgdihahmecoaa", sum := "0fcf403b2bd93698a59e161d19d66ba85e0257527c7214174d36ee69da7539ef", func := "astrolabe/astrolabelaw25.ModeKnown", spec := "modeKnown", apart := false, narrowed := true }
def ModeKnownUptoSaid : Prop := modeKnownUptoRow.holds Try.pinned (OpenSpec.upto modeKnownSpec)

/-- 'astrolabelaw25.ModeSteps', WHERE WHAT IT READS IS OF BULK AT MOST 1048576: true; the input reads as it did. -/
def modeStepsUptoRow : OpenClaim := { program := "ytgbgdihahmecoaa", sum := "0fcf403b2bd93698a59e161d19d66ba85e0257527c7214174d36ee69da7539ef", func := "astrolabe/astrolabelaw25.ModeSteps", spec := "modeSteps", apart := false, narrowed := true }
def ModeStepsUptoSaid : Prop := modeStepsUptoRow.holds Try.pinned (OpenSpec.upto modeStepsSpec)

/-- 'astrolabelaw25.ModePaths', WHERE WHAT IT READS IS OF BULK AT MOST 1048576: true; the input reads as it did. -/
def modePathsUptoRow : OpenClaim := { program := "ytgbgdihahmecoaa", sum := "0fcf403b2bd93698a59e161d19d66ba85e0257527c7214174d36ee69da7539ef", func := "astrolabe/astrolabelaw25.ModePaths", spec := "modePaths", apart := false, narrowed := true }
def ModePathsUptoSaid : Prop := modePathsUptoRow.holds Try.pinned (OpenSpec.upto modePathsSpec)

/-- 'astrolabelaw25.ModeSilent', WHERE WHAT IT READS IS OF BULK AT MOST 1048576: true; the input reads as it did. -/
def modeSilentUptoRow : OpenClaim := { program := "ytgbgdihahmecoaa", sum := "0fcf403b2bd93698a59e161d19d66ba85e0257527c7214174d36ee69da7539ef", func := "astrolabe/astrolabelaw25.ModeSilent", spec := "modeSilent", apart := false, narrowed := true }
def ModeSilentUptoSaid : Prop := modeSilentUptoRow.holds Try.pinned (OpenSpec.upto modeSilentSpec)

/-- 'astrolabelaw25.ModeBlind', WHERE WHAT IT READS IS OF BULK AT MOST 1048576: true; the input reads as it did. -/
def modeBlindUptoRow : OpenClaim := { program := "ytgbgdihahmecoaa", sum := "0fcf403b2bd93698a59e161d19d66ba85e0257527c7214174d36ee69da7539ef", func := "astrolabe/astrolabelaw25.ModeBlind", spec := "modeBlind", apart := false, narrowed := true }
def ModeBlindUptoSaid : Prop := modeBlindUptoRow.holds Try.pinned (OpenSpec.upto modeBlindSpec)

/-- 'astrolabelaw25.ModeStays', WHERE WHAT IT READS IS OF BULK AT MOST 1048576: true; the input reads as it did. -/
def modeStaysUptoRow : OpenClaim := { program := "ytgbgdihahmecoaa", sum := "0fcf403b2bd93698a59e161d19d66ba85e0257527c7214174d36ee69da7539ef", func := "astrolabe/astrolabelaw25.ModeStays", spec := "modeStays", apart := false, narrowed := true }
def ModeStaysUptoSaid : Prop := modeStaysUptoRow.holds Try.pinned (OpenSpec.upto modeStaysSpec)

end Rows
end Go.Proofs.Ytgbgdihahmecoaa
