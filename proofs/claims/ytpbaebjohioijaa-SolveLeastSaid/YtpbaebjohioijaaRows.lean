/-
  No cell of these rows narrows 'for every input' (looked for: loops, veiled, ifaces, maps, wideKeys, modest, calm, conditions, laid).
  DERIVED. THE GIVEN ROWS OF THIS SEAT. 4 by the template 'for every input the law returns true; each argument reads behind the call as it read before'; 0 by the template 'total and deterministic' (their statements: YtpbaebjohioijaaTotals.lean).
  GIVEN WITH THE SEED: the statements are not yours to turn. If you find one false, say at which input.
  Laid BY PROGRAM, IN A SANDBOX (cutbox-rows.mjs): the forced cells as the released guide's own fill.sh prints them over the translation 3165c4cfe9419574… (all of the seat's roots in one cut). By AI agents, Wed Nov 11 2026. No macro, syntax, notation, axiom, sorry.
-/
import Derived.Test.YtpbaebjohioijaaChecked
import GoSem.Claim
import GoSem.ClaimJoined
import GoSem.ClaimMapViews
import Derived.JoinedTies
import Derived.KernelRfl
namespace Go.Proofs.Ytpbaebjohioijaa
/- THE CELL 'sum', in the pinned program and in every row, IS THE sha256 OF THE DUMP (.gsa) THAT YtpbaebjohioijaaProg.lean LOADS. Nothing in Lean hashes anything: it is a label: what it is worth is what the hold of that sum in a sandbox is worth. -/
noncomputable def Try.pinned : Pinned := { name := "ytpbaebjohioijaa", sum := "3165c4cfe94195749e748f592c6e4f17c2678c5fe331ca1aa11472d24dd55d91", checked := Try.checked }
namespace Rows
def none {H : Type} : Left H := { results := [], args := [] }

/-- 'portcullislaw21.SolveBelow': WHATEVER THE INPUT: true; the input reads as it did. -/
def solveBelowSpec : ChangeSpec := { name := "solveBelow", fn := fun _ => fun
  | [d1, d2] => { results := [.lit (.bool true)], args := [d1, d2] }
  | _ => none }
def solveBelowRow : OpenClaim := { program := "ytpbaebjohioijaa", sum := "3165c4cfe94195749e748f592c6e4f17c2678c5fe331ca1aa11472d24dd55d91", func := "portcullis/portcullislaw21.SolveBelow", spec := "solveBelow", unfollowed := true, recurses := true, apart := false }
def SolveBelowSaid : Prop := solveBelowRow.holds Try.pinned (OpenSpec.ofChange solveBelowSpec)

/-- ITS FALSE NEIGHBOUR: 'it returns false'. Refute it at one input. -/
def solveBelowWrong : ChangeSpec := { name := "solveBelow", fn := fun _ => fun
  | [d1, d2] => { results := [.lit (.bool false)], args := [d1, d2] }
  | _ => none }
def SolveBelowWrongFalsely : Prop := solveBelowRow.holds Try.pinned (OpenSpec.ofChange solveBelowWrong)

/-- 'portcullislaw21.SolveMore': WHATEVER THE INPUT: true; the input reads as it did. -/
def solveMoreSpec : ChangeSpec := { name := "solveMore", fn := fun _ => fun
  | [d1, d2, d3] => { results := [.lit (.bool true)], args := [d1, d2, d3] }
  | _ => none }
def solveMoreRow : OpenClaim := { program := "ytpbaebjohioijaa", sum := "3165c4cfe94195749e748f592c6e4f17c2678c5fe331ca1aa11472d24dd55d91", func := "portcullis/portcullislaw21.SolveMore", spec := "solveMore", unfollowed := true, recurses := true, apart := false }
def SolveMoreSaid : Prop := solveMoreRow.holds Try.pinned (OpenSpec.ofChange solveMoreSpec)

/-- ITS FALSE NEIGHBOUR: 'it returns false'. Refute it at one input. -/
def solveMoreWrong : ChangeSpec := { name := "solveMore", fn := fun _ => fun
  | [d1, d2, d3] => { results := [.lit (.bool false)], args := [d1, d2, d3] }
  | _ => none }
def SolveMoreWrongFalsely : Prop := solveMoreRow.holds Try.pinned (OpenSpec.ofChange solveMoreWrong)

/-- 'portcullislaw21.SolveOne': WHATEVER THE INPUT: true; the input reads as it did. -/
def solveOneSpec : ChangeSpec := { name := "solveOne", fn := fun _ => fun
  | [d1, d2] => { results := [.lit (.bool true)], args := [d1, d2] }
  | _ => none }
def solveOneRow : OpenClaim := { program := "ytpbaebjohioijaa", sum := "3165c4cfe94195749e748f592c6e4f17c2678c5fe331ca1aa11472d24dd55d91", func := "portcullis/portcullislaw21.SolveOne", spec := "solveOne", unfollowed := true, recurses := true, apart := false }
def SolveOneSaid : Prop := solveOneRow.holds Try.pinned (OpenSpec.ofChange solveOneSpec)

/-- ITS FALSE NEIGHBOUR: 'it returns false'. Refute it at one input. -/
def solveOneWrong : ChangeSpec := { name := "solveOne", fn := fun _ => fun
  | [d1, d2] => { results := [.lit (.bool false)], args := [d1, d2] }
  | _ => none }
def SolveOneWrongFalsely : Prop := solveOneRow.holds Try.pinned (OpenSpec.ofChange solveOneWrong)

/-- 'portcullislaw21.SolveLeast': WHATEVER THE INPUT: true; the input reads as it did. -/
def solveLeastSpec : ChangeSpec := { name := "solveLeast", fn := fun _ => fun
  | [d] => { results := [.lit (.bool true)], args := [d] }
  | _ => none }
def solveLeastRow : OpenClaim := { program := "ytpbaebjohioijaa", sum := "3165c4cfe94195749e748f592c6e4f17c2678c5fe331ca1aa11472d24dd55d91", func := "portcullis/portcullislaw21.SolveLeast", spec := "solveLeast", unfollowed := true, recurses := true, apart := false }
def SolveLeastSaid : Prop := solveLeastRow.holds Try.pinned (OpenSpec.ofChange solveLeastSpec)

/-- ITS FALSE NEIGHBOUR: 'it returns false'. Refute it at one input. -/
def solveLeastWrong : ChangeSpec := { name := "solveLeast", fn := fun _ => fun
  | [d] => { results := [.lit (.bool false)], args := [d] }
  | _ => none }
def SolveLeastWrongFalsely : Prop := solveLeastRow.holds Try.pinned (OpenSpec.ofChange solveLeastWrong)

/- THE SECOND FORM. 'bulk': how many values and letters a reading holds, each counted each time it is reached (what is shared counts as often as it is met; a slice's spare places count too). A statement '..UptoSaid' is the law's where the arguments, and the package variables that the reading takes, are together of bulk at most 1048576: NARROWER than '..Said'. Prove '..Said' where nothing that the law and all that it calls make is longer than what came in: it says more and counts as full. Else prove '..UptoSaid'. A law counts once. -/
mutual
def uptoBulk {H : Type} : DataW H → Nat
  | .lit (.string bytes) => bytes.length + 1
  | .lit _ => 1
  | .nil => 1
  | .ptr d => uptoBulk d + 1
  | .slice elems spare => uptoBulkAll elems + uptoBulkAll spare + 1
  | .agg parts => uptoBulkAll parts + 1
  | .iface _ d => uptoBulk d + 1
  | .map entries => uptoBulkEntries entries + 1
  | .held _ => 1
def uptoBulkAll {H : Type} : List (DataW H) → Nat
  | [] => 0
  | d :: r => uptoBulk d + uptoBulkAll r
def uptoBulkEntries {H : Type} : List (Lit × DataW H) → Nat
  | [] => 0
  | x :: r => uptoBulkEntry x + uptoBulkEntries r
def uptoBulkEntry {H : Type} : Lit × DataW H → Nat
  | (.string bytes, d) => bytes.length + uptoBulk d + 1
  | (_, d) => uptoBulk d + 1
 end
def uptoSmall : (H : Type) → List (DataW H) → Bool := fun _ ds => decide (uptoBulkAll ds ≤ 1048576)
def OpenSpec.upto (s : _root_.Go.ChangeSpec) : _root_.Go.OpenSpec := { _root_.Go.OpenSpec.ofChange s with cond := some uptoSmall }

/-- 'portcullislaw21.SolveBelow', WHERE WHAT IT READS IS OF BULK AT MOST 1048576: true; the input reads as it did. -/
def solveBelowUptoRow : OpenClaim := { program := "ytpbaebjohioijaa", sum := "3165c4cfe94195749e748f592c6e4f17c2678c5fe331ca1aa11472d24dd55d91", func := "portcullis/portcullislaw21.SolveBelow", spec := "solveBelow", unfollowed := true, recurses := true, apart := false, narrowed := true }
def SolveBelowUptoSaid : Prop := solveBelowUptoRow.holds Try.pinned (OpenSpec.upto solveBelowSpec)

/-- 'portcullislaw21.SolveMore', WHERE WHAT IT READS IS OF BULK AT MOST 1048576: true; the input reads as it did. -/
def solveMoreUptoRow : OpenClaim := { program := "ytpbaebjohioijaa", sum := "3165c4cfe94195749e748f592c6e4f17c2678c5fe331ca1aa11472d24dd55d91", func := "portcullis/portcullislaw21.SolveMore", spec := "solveMore", unfollowed := true, recurses := true, apart := false, narrowed := true }
def SolveMoreUptoSaid : Prop := solveMoreUptoRow.holds Try.pinned (OpenSpec.upto solveMoreSpec)

/-- 'portcullislaw21.SolveOne', WHERE WHAT IT READS IS OF BULK AT MOST 1048576: true; the input reads as it did. -/
def solveOneUptoRow : OpenClaim := { program := "ytpbaebjohioijaa", sum := "3165c4cfe94195749e748f592c6e4f17c2678c5fe331ca1aa11472d24dd55d91", func := "portcullis/portcullislaw21.SolveOne", spec := "solveOne", unfollowed := true, recurses := true, apart := false, narrowed := true }
def SolveOneUptoSaid : Prop := solveOneUptoRow.holds Try.pinned (OpenSpec.upto solveOneSpec)

/-- 'portcullislaw21.SolveLeast', WHERE WHAT IT READS IS OF BULK AT MOST 1048576: true; the input reads as it did. -/
def solveLeastUptoRow : OpenClaim := { program := "ytpbaebjohioijaa", sum := "3165c4cfe94195749e748f592c6e4f17c2678c5fe331ca1aa11472d24dd55d91", func := "portcullis/portcullislaw21.SolveLeast", spec := "solveLeast", unfollowed := true, recurses := true, apart := false, narrowed := true }
def SolveLeastUptoSaid : Prop := solveLeastUptoRow.holds Try.pinned (OpenSpec.upto solveLeastSpec)

end Rows
end Go.Proofs.Ytpbaebjohioijaa
