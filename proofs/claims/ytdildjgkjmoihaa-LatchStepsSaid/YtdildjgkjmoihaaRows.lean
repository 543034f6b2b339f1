/-
  No cell of these rows narrows 'for every input' (looked for: loops, veiled, ifaces, maps, wideKeys, modest, calm, conditions, laid).
  DERIVED. THE GIVEN ROWS OF THIS SEAT. 4 by the template 'for every input the law returns true; each argument reads behind the call as it read before'; 0 by the template 'total and deterministic' (their statements: YtdildjgkjmoihaaTotals.lean).
  GIVEN WITH THE SEED: the statements are not yours to turn. If you find one false, say at which input.
  Laid BY PROGRAM, IN A SANDBOX (cutbox-rows.mjs): the forced cells as the released guide's own fill.sh prints them over the translation 017a75cf9a63e780… (all of the seat's roots in one cut). By AI agents, Wed Nov 11 2026. No macro, syntax, notation, axiom, sorry.
-/
import Derived.Test.YtdildjgkjmoihaaChecked
import GoSem.Claim
import GoSem.ClaimJoined
import GoSem.ClaimMapViews
import Derived.JoinedTies
import Derived.KernelRfl
namespace Go.Proofs.Ytdildjgkjmoihaa
/- THE CELL 'sum', in the pinned program and in every row, IS THE sha256 OF THE DUMP (.gsa) THAT YtdildjgkjmoihaaProg.lean LOADS. Nothing in Lean hashes anything: it is a label: what it is worth is what the hold of that sum in a sandbox is worth. -/
noncomputable def Try.pinned : Pinned := { name := "ytdildjgkjmoihaa", sum := "017a75cf9a63e780f753f6a3913b5ebd58e6e3b67fd3a52b9c9dd95fb46b564c", checked := Try.checked }
namespace Rows
def none {H : Type} : Left H := { results := [], args := [] }

/-- 'portcullislaw14.LatchSteps': WHATEVER THE INPUT: true; the input reads as it did. -/
def latchStepsSpec : ChangeSpec := { name := "latchSteps", fn := fun _ => fun
  | [d1, d2, d3] => { results := [.lit (.bool true)], args := [d1, d2, d3] }
  | _ => none }
def latchStepsRow : OpenClaim := { program := "ytdildjgkjmoihaa", sum := "017a75cf9a63e780f753f6a3913b5ebd58e6e3b67fd3a52b9c9dd95fb46b564c", func := "portcullis/portcullislaw14.LatchSteps", spec := "latchSteps", apart := false }
def LatchStepsSaid : Prop := latchStepsRow.holds Try.pinned (OpenSpec.ofChange latchStepsSpec)

/-- ITS FALSE NEIGHBOUR: 'it returns false'. Refute it at one input. -/
def latchStepsWrong : ChangeSpec := { name := "latchSteps", fn := fun _ => fun
  | [d1, d2, d3] => { results := [.lit (.bool false)], args := [d1, d2, d3] }
  | _ => none }
def LatchStepsWrongFalsely : Prop := latchStepsRow.holds Try.pinned (OpenSpec.ofChange latchStepsWrong)

/-- 'portcullislaw14.LatchRings': WHATEVER THE INPUT: true; the input reads as it did. -/
def latchRingsSpec : ChangeSpec := { name := "latchRings", fn := fun _ => fun
  | [d1, d2] => { results := [.lit (.bool true)], args := [d1, d2] }
  | _ => none }
def latchRingsRow : OpenClaim := { program := "ytdildjgkjmoihaa", sum := "017a75cf9a63e780f753f6a3913b5ebd58e6e3b67fd3a52b9c9dd95fb46b564c", func := "portcullis/portcullislaw14.LatchRings", spec := "latchRings", apart := false }
def LatchRingsSaid : Prop := latchRingsRow.holds Try.pinned (OpenSpec.ofChange latchRingsSpec)

/-- ITS FALSE NEIGHBOUR: 'it returns false'. Refute it at one input. -/
def latchRingsWrong : ChangeSpec := { name := "latchRings", fn := fun _ => fun
  | [d1, d2] => { results := [.lit (.bool false)], args := [d1, d2] }
  | _ => none }
def LatchRingsWrongFalsely : Prop := latchRingsRow.holds Try.pinned (OpenSpec.ofChange latchRingsWrong)

/-- 'portcullislaw14.LatchOne': WHATEVER THE INPUT: true; the input reads as it did. -/
def latchOneSpec : ChangeSpec := { name := "latchOne", fn := fun _ => fun
  | [d] => { results := [.lit (.bool true)], args := [d] }
  | _ => none }
def latchOneRow : OpenClaim := { program := "ytdildjgkjmoihaa", sum := "017a75cf9a63e780f753f6a3913b5ebd58e6e3b67fd3a52b9c9dd95fb46b564c", func := "portcullis/portcullislaw14.LatchOne", spec := "latchOne", apart := false }
def LatchOneSaid : Prop := latchOneRow.holds Try.pinned (OpenSpec.ofChange latchOneSpec)

/-- ITS FALSE NEIGHBOUR: 'it returns false'. Refute it at one input. -/
def latchOneWrong : ChangeSpec := { name := "latchOne", fn := fun _ => fun
  | [d] => { results := [.lit (.bool false)], args := [d] }
  | _ => none }
def LatchOneWrongFalsely : Prop := latchOneRow.holds Try.pinned (OpenSpec.ofChange latchOneWrong)

/-- 'portcullislaw14.LatchHeld': WHATEVER THE INPUT: true; the input reads as it did. -/
def latchHeldSpec : ChangeSpec := { name := "latchHeld", fn := fun _ => fun
  | [d1, d2] => { results := [.lit (.bool true)], args := [d1, d2] }
  | _ => none }
def latchHeldRow : OpenClaim := { program := "ytdildjgkjmoihaa", sum := "017a75cf9a63e780f753f6a3913b5ebd58e6e3b67fd3a52b9c9dd95fb46b564c", func := "portcullis/portcullislaw14.LatchHeld", spec := "latchHeld", apart := false }
def LatchHeldSaid : Prop := latchHeldRow.holds Try.pinned (OpenSpec.ofChange latchHeldSpec)

/-- ITS FALSE NEIGHBOUR: 'it returns false'. Refute it at one input. -/
def latchHeldWrong : ChangeSpec := { name := "latchHeld", fn := fun _ => fun
  | [d1, d2] => { results := [.lit (.bool false)], args := [d1, d2] }
  | _ => none }
def LatchHeldWrongFalsely : Prop := latchHeldRow.holds Try.pinned (OpenSpec.ofChange latchHeldWrong)

/- THE SECOND FORM. 'bulk': how many values and letters a reading holds, each counted each time it is reached (what is shared counts as often as it is met; a slice's spare places count too). A statement '..UptoSaid' is the law's where the arguments, and the package variables that the reading takes, are together of bulk at most 1048576: NARROWER than '..Said'. Prove '..Said' where nothing that the law and all that it calls make is longer than what came in: it says more and counts as full. Else prove '..UptoSaid'. A law counts once. -/
mutual
def uptoBulk {H : Type} : DataW H → Nat
  | .lit (.string bytes) => bytes.length + 1
  | .lit _ => 1
  | .nil => 1
  | .ptr d => uptoBulk d + 1
  | .slice elems spare => uptoBulkAll elems + uptoBulkAll spare + 1
  | .agg parts => uptoBulkAll parts + 1
  | .iface _ d => uptoBulk d + 1
  | .map entries => uptoBulkEntries entries + 1
  | .held _ => 1
def uptoBulkAll {H : Type} : List (DataW H) → Nat
  | [] => 0
  | d :: r => uptoBulk d + uptoBulkAll r
def uptoBulkEntries {H : Type} : List (Lit × DataW H) → Nat
  | [] => 0
  | x :: r => uptoBulkEntry x + uptoBulkEntries r
def uptoBulkEntry {H : Type} : Lit × DataW H → Nat
  | (.string bytes, d) => bytes.length + uptoBulk d + 1
  | (_, d) => uptoBulk d + 1
 end
def uptoSmall : (H : Type) → List (DataW H) → Bool := fun _ ds => decide (uptoBulkAll ds ≤ 1048576)
def OpenSpec.upto (s : _root_.Go.ChangeSpec) : _root_.Go.OpenSpec := { _root_.Go.OpenSpec.ofChange s with cond := some uptoSmall }

/-- 'portcullislaw14.LatchSteps', WHERE WHAT IT READS IS OF BULK AT MOST 1048576: true; the input reads as it did. -/
def latchStepsUptoRow : OpenClaim := { program := "ytdildjgkjmoihaa", sum := "017a75cf9a63e780f753f6a3913b5ebd58e6e3b67fd3a52b9c9dd95fb46b564c", func := "portcullis/portcullislaw14.LatchSteps", spec := "latchSteps", apart := false, narrowed := true }
def LatchStepsUptoSaid : Prop := latchStepsUptoRow.holds Try.pinned (OpenSpec.upto latchStepsSpec)

/-- 'portcullislaw14.LatchRings', WHERE WHAT IT READS IS OF BULK AT MOST 1048576: true; the input reads as it did. -/
def latchRingsUptoRow : OpenClaim := { program := "ytdildjgkjmoihaa", sum := "017a75cf9a63e780f753f6a3913b5ebd58e6e3b67fd3a52b9c9dd95fb46b564c", func := "portcullis/portcullislaw14.LatchRings", spec := "latchRings", apart := false, narrowed := true }
def LatchRingsUptoSaid : Prop := latchRingsUptoRow.holds Try.pinned (OpenSpec.upto latchRingsSpec)

/-- 'portcullislaw14.LatchOne', WHERE WHAT IT READS IS OF BULK AT MOST 1048576: true; the input reads as it did. -/
def latchOneUptoRow : OpenClaim := { program := "ytdildjgkjmoihaa", sum := "017a75cf9a63e780f753f6a3913b5ebd58e6e3b67fd3a52b9c9dd95fb46b564c", func := "portcullis/portcullislaw14.LatchOne", spec := "latchOne", apart := false, narrowed := true }
def LatchOneUptoSaid : Prop := latchOneUptoRow.holds Try.pinned (OpenSpec.upto latchOneSpec)

/-- 'portcullislaw14.LatchHeld', WHERE WHAT IT READS IS OF BULK AT MOST 1048576: true; the input reads as it did. -/
def latchHeldUptoRow : OpenClaim := { program := "ytdildjgkjmoihaa", sum := "017a75cf9a63e780f753f6a3913b5ebd58e6e3b67fd3a52b9c9dd95fb46b564c", func := "portcullis/portcullislaw14.LatchHeld", spec := "latchHeld", apart := false, narrowed := true }
def LatchHeldUptoSaid : Prop := latchHeldUptoRow.holds Try.pinned (OpenSpec.upto latchHeldSpec)

end Rows
end Go.Proofs.Ytdildjgkjmoihaa
