/-
  No cell of these rows narrows 'for every input' (looked for: loops, veiled, ifaces, maps, wideKeys, modest, calm, conditions, laid).
  DERIVED. THE GIVEN ROWS OF THIS SEAT. 7 by the template 'for every input the law returns true; each argument reads behind the call as it read before'; 0 by the template 'total and deterministic' (their statements: YtnjfiinnidklaaaTotals.lean).
  GIVEN WITH THE SEED: the statements are not yours to turn. If you find one false, say at which input.
  Laid BY PROGRAM, IN A SANDBOX (cutbox-rows.mjs): the forced cells as the released guide's own fill.sh prints them over the translation 7ea2d64812a50760… (all of the seat's roots in one cut). By AI agents, Wed Nov 11 2026. No macro, syntax, notation, axiom, sorry.
-/
import Derived.Test.YtnjfiinnidklaaaChecked
import GoSem.Claim
import GoSem.ClaimJoined
import GoSem.ClaimMapViews
import Derived.JoinedTies
import Derived.KernelRfl
namespace Go.Proofs.Ytnjfiinnidklaaa
/- THE CELL 'sum', in the pinned program and in every row, IS THE sha256 OF THE DUMP (.gsa) THAT YtnjfiinnidklaaaProg.lean LOADS. Nothing in Lean hashes anything: it is a label: what it is worth is what the hold of that sum in a sandbox is worth. -/
noncomputable def Try.pinned : Pinned := { name := "ytnjfiinnidklaaa", sum := "7ea2d64812a50760d17262eb124cbd5e1137cc10c4eca2368dbfe7c0ec983ae2", checked := Try.checked }
namespace Rows
def none {H : Type} : Left H := { results := [], args := [] }

/-- 'portcullislaw01.LatticeLists': WHATEVER THE INPUT: true; the input reads as it did. -/
def latticeListsSpec : ChangeSpec := { name := "latticeLists", fn := fun _ => fun
  | [d1, d2, d3] => { results := [.lit (.bool true)], args := [d1, d2, d3] }
  | _ => none }
def latticeListsRow : OpenClaim := { program := "ytnjfiinnidklaaa", sum := "7ea2d64812a50760d17262eb124cbd5e1137cc10c4eca2368dbfe7c0ec983ae2", func := "portcullis/portcullislaw01.LatticeLists", spec := "latticeLists", unfollowed := true, recurses := true, apart := false }
def LatticeListsSaid : Prop := latticeListsRow.holds Try.pinned (OpenSpec.ofChange latticeListsSpec)

/-- ITS FALSE NEIGHBOUR: 'it returns false'. Refute it at one input. -/
def latticeListsWrong : ChangeSpec := { name := "latticeLists", fn := fun _ => fun
  | [d1, d2, d3] => { results := [.lit (.bool false)], args := [d1, d2, d3] }
  | _ => none }
def LatticeListsWrongFalsely : Prop := latticeListsRow.holds Try.pinned (OpenSpec.ofChange latticeListsWrong)

/-- 'portcullislaw01.LatticeBelow': WHATEVER THE INPUT: true; the input reads as it did. -/
def latticeBelowSpec : ChangeSpec := { name := "latticeBelow", fn := fun _ => fun
  | [d1, d2] => { results := [.lit (.bool true)], args := [d1, d2] }
  | _ => none }
def latticeBelowRow : OpenClaim := { program := "ytnjfiinnidklaaa", sum := "7ea2d64812a50760d17262eb124cbd5e1137cc10c4eca2368dbfe7c0ec983ae2", func := "portcullis/portcullislaw01.LatticeBelow", spec := "latticeBelow", unfollowed := true, recurses := true, apart := false }
def LatticeBelowSaid : Prop := latticeBelowRow.holds Try.pinned (OpenSpec.ofChange latticeBelowSpec)

/-- ITS FALSE NEIGHBOUR: 'it returns false'. Refute it at one input. -/
def latticeBelowWrong : ChangeSpec := { name := "latticeBelow", fn := fun _ => fun
  | [d1, d2] => { results := [.lit (.bool false)], args := [d1, d2] }
  | _ => none }
def LatticeBelowWrongFalsely : Prop := latticeBelowRow.holds Try.pinned (OpenSpec.ofChange latticeBelowWrong)

/-- 'portcullislaw01.LatticeAgain': WHATEVER THE INPUT: true; the input reads as it did. -/
def latticeAgainSpec : ChangeSpec := { name := "latticeAgain", fn := fun _ => fun
  | [d1, d2] => { results := [.lit (.bool true)], args := [d1, d2] }
  | _ => none }
def latticeAgainRow : OpenClaim := { program := "ytnjfiinnidklaaa", sum := "7ea2d64812a50760d17262eb124cbd5e1137cc10c4eca2368dbfe7c0ec983ae2", func := "portcullis/portcullislaw01.LatticeAgain", spec := "latticeAgain", unfollowed := true, recurses := true, apart := false }
def LatticeAgainSaid : Prop := latticeAgainRow.holds Try.pinned (OpenSpec.ofChange latticeAgainSpec)

/-- ITS FALSE NEIGHBOUR: 'it returns false'. Refute it at one input. -/
def latticeAgainWrong : ChangeSpec := { name := "latticeAgain", fn := fun _ => fun
  | [d1, d2] => { results := [.lit (.bool false)], args := [d1, d2] }
  | _ => none }
def LatticeAgainWrongFalsely : Prop := latticeAgainRow.holds Try.pinned (OpenSpec.ofChange latticeAgainWrong)

/-- 'portcullislaw01.LatticeHeight': WHATEVER THE INPUT: true; the input reads as it did. -/
def latticeHeightSpec : ChangeSpec := { name := "latticeHeight", fn := fun _ => fun
  | [d1, d2, d3] => { results := [.lit (.bool true)], args := [d1, d2, d3] }
  | _ => none }
def latticeHeightRow : OpenClaim := { program := "ytnjfiinnidklaaa", sum := "7ea2d64812a50760d17262eb124cbd5e1137cc10c4eca2368dbfe7c0ec983ae2", func := "portcullis/portcullislaw01.LatticeHeight", spec := "latticeHeight", unfollowed := true, recurses := true, apart := false }
def LatticeHeightSaid : Prop := latticeHeightRow.holds Try.pinned (OpenSpec.ofChange latticeHeightSpec)

/-- ITS FALSE NEIGHBOUR: 'it returns false'. Refute it at one input. -/
def latticeHeightWrong : ChangeSpec := { name := "latticeHeight", fn := fun _ => fun
  | [d1, d2, d3] => { results := [.lit (.bool false)], args := [d1, d2, d3] }
  | _ => none }
def LatticeHeightWrongFalsely : Prop := latticeHeightRow.holds Try.pinned (OpenSpec.ofChange latticeHeightWrong)

/-- 'portcullislaw01.LatticeNews': WHATEVER THE INPUT: true; the input reads as it did. -/
def latticeNewsSpec : ChangeSpec := { name := "latticeNews", fn := fun _ => fun
  | [d1, d2] => { results := [.lit (.bool true)], args := [d1, d2] }
  | _ => none }
def latticeNewsRow : OpenClaim := { program := "ytnjfiinnidklaaa", sum := "7ea2d64812a50760d17262eb124cbd5e1137cc10c4eca2368dbfe7c0ec983ae2", func := "portcullis/portcullislaw01.LatticeNews", spec := "latticeNews", unfollowed := true, recurses := true, apart := false }
def LatticeNewsSaid : Prop := latticeNewsRow.holds Try.pinned (OpenSpec.ofChange latticeNewsSpec)

/-- ITS FALSE NEIGHBOUR: 'it returns false'. Refute it at one input. -/
def latticeNewsWrong : ChangeSpec := { name := "latticeNews", fn := fun _ => fun
  | [d1, d2] => { results := [.lit (.bool false)], args := [d1, d2] }
  | _ => none }
def LatticeNewsWrongFalsely : Prop := latticeNewsRow.holds Try.pinned (OpenSpec.ofChange latticeNewsWrong)

/-- 'portcullislaw01.LatticeAlgebra': WHATEVER THE INPUT: true; the input reads as it did. -/
def latticeAlgebraSpec : ChangeSpec := { name := "latticeAlgebra", fn := fun _ => fun
  | [d1, d2, d3, d4, d5] => { results := [.lit (.bool true)], args := [d1, d2, d3, d4, d5] }
  | _ => none }
def latticeAlgebraRow : OpenClaim := { program := "ytnjfiinnidklaaa", sum := "7ea2d64812a50760d17262eb124cbd5e1137cc10c4eca2368dbfe7c0ec983ae2", func := "portcullis/portcullislaw01.LatticeAlgebra", spec := "latticeAlgebra", unfollowed := true, recurses := true, apart := false }
def LatticeAlgebraSaid : Prop := latticeAlgebraRow.holds Try.pinned (OpenSpec.ofChange latticeAlgebraSpec)

/-- ITS FALSE NEIGHBOUR: 'it returns false'. Refute it at one input. -/
def latticeAlgebraWrong : ChangeSpec := { name := "latticeAlgebra", fn := fun _ => fun
  | [d1, d2, d3, d4, d5] => { results := [.lit (.bool false)], args := [d1, d2, d3, d4, d5] }
  | _ => none }
def LatticeAlgebraWrongFalsely : Prop := latticeAlgebraRow.holds Try.pinned (OpenSpec.ofChange latticeAlgebraWrong)

/-- 'portcullislaw01.LatticeTurned': WHATEVER THE INPUT: true; the input reads as it did. -/
def latticeTurnedSpec : ChangeSpec := { name := "latticeTurned", fn := fun _ => fun
  | [d1, d2, d3, d4] => { results := [.lit (.bool true)], args := [d1, d2, d3, d4] }
  | _ => none }
def latticeTurnedRow : OpenClaim := { program := "ytnjfiinnidklaaa", sum := "7ea2d64812a50760d17262eb124cbd5e1137cc10c4eca2368dbfe7c0ec983ae2", func := "portcullis/portcullislaw01.LatticeTurned", spec := "latticeTurned", unfollowed := true, recurses := true, apart := false }
def LatticeTurnedSaid : Prop := latticeTurnedRow.holds Try.pinned (OpenSpec.ofChange latticeTurnedSpec)

/-- ITS FALSE NEIGHBOUR: 'it returns false'. Refute it at one input. -/
def latticeTurnedWrong : ChangeSpec := { name := "latticeTurned", fn := fun _ => fun
  | [d1, d2, d3, d4] => { results := [.lit (.bool false)], args := [d1, d2, d3, d4] }
  | _ => none }
def LatticeTurnedWrongFalsely : Prop := latticeTurnedRow.holds Try.pinned (OpenSpec.ofChange latticeTurnedWrong)

/- THE SECOND FORM. 'bulk': how many values and letters a reading holds, each counted each time it is reached (what is shared counts as often as it is met; a slice's spare places count too). A statement '..UptoSaid' is the law's where the arguments, and the package variables that the reading takes, are together of bulk at most 1048576: NARROWER than '..Said'. Prove '..Said' where nothing that the law and all that it calls make is longer than what came in: it says more and counts as full. Else prove '..UptoSaid'. A law counts once. -/
mutual
def uptoBulk {H : Type} : DataW H → Nat
  | .lit (.string bytes) => bytes.length + 1
  | .lit _ => 1
  | .nil => 1
  | .ptr d => uptoBulk d + 1
  | .slice elems spare => uptoBulkAll elems + uptoBulkAll spare + 1
  | .agg parts => uptoBulkAll parts + 1
  | .iface _ d => uptoBulk d + 1
  | .map entries => uptoBulkEntries entries + 1
  | .held _ => 1
def uptoBulkAll {H : Type} : List (DataW H) → Nat
  | [] => 0
  | d :: r => uptoBulk d + uptoBulkAll r
def uptoBulkEntries {H : Type} : List (Lit × DataW H) → Nat
  | [] => 0
  | x :: r => uptoBulkEntry x + uptoBulkEntries r
def uptoBulkEntry {H : Type} : Lit × DataW H → Nat
  | (.string bytes, d) => bytes.length + uptoBulk d + 1
  | (_, d) => uptoBulk d + 1
 end
def uptoSmall : (H : Type) → List (DataW H) → Bool := fun _ ds => decide (uptoBulkAll ds ≤ 1048576)
def OpenSpec.upto (s : _root_.Go.ChangeSpec) : _root_.Go.OpenSpec := { _root_.Go.OpenSpec.ofChange s with cond := some uptoSmall }

/-- 'portcullislaw01.LatticeLists', WHERE WHAT IT READS IS OF BULK AT MOST 1048576: true; the input reads as it did. -/
def latticeListsUptoRow : OpenClaim := { program := "ytnjfiinnidklaaa", sum := "7ea2d64812a50760d17262eb124cbd5e1137cc10c4eca2368dbfe7c0ec983ae2", func := "portcullis/portcullislaw01.LatticeLists", spec := "latticeLists", unfollowed := true, recurses := true, apart := false, narrowed := true }
def LatticeListsUptoSaid : Prop := latticeListsUptoRow.holds Try.pinned (OpenSpec.upto latticeListsSpec)

/-- 'portcullislaw01.LatticeBelow', WHERE WHAT IT READS IS OF BULK AT MOST 1048576: true; the input reads as it did. -/
def latticeBelowUptoRow : OpenClaim := { program := "ytnjfiinnidklaaa", sum := "7ea2d64812a50760d17262eb124cbd5e1137cc10c4eca2368dbfe7c0ec983ae2", func := "portcullis/portcullislaw01.LatticeBelow", spec := "latticeBelow", unfollowed := true, recurses := true, apart := false, narrowed := true }
def LatticeBelowUptoSaid : Prop := latticeBelowUptoRow.holds Try.pinned (OpenSpec.upto latticeBelowSpec)

/-- 'portcullislaw01.LatticeAgain', WHERE WHAT IT READS IS OF BULK AT MOST 1048576: true; the input reads as it did. -/
def latticeAgainUptoRow : OpenClaim := { program := "ytnjfiinnidklaaa", sum := "7ea2d64812a50760d17262eb124cbd5e1137cc10c4eca2368dbfe7c0ec983ae2", func := "portcullis/portcullislaw01.LatticeAgain", spec := "latticeAgain", unfollowed := true, recurses := true, apart := false, narrowed := true }
def LatticeAgainUptoSaid : Prop := latticeAgainUptoRow.holds Try.pinned (OpenSpec.upto latticeAgainSpec)

/-- 'portcullislaw01.LatticeHeight', WHERE WHAT IT READS IS OF BULK AT MOST 1048576: true; the input reads as it did. -/
def latticeHeightUptoRow : OpenClaim := { program := "ytnjfiinnidklaaa", sum := "7ea2d64812a50760d17262eb124cbd5e1137cc10c4eca2368dbfe7c0ec983ae2", func := "portcullis/portcullislaw01.LatticeHeight", spec := "latticeHeight", unfollowed := true, recurses := true, apart := false, narrowed := true }
def LatticeHeightUptoSaid : Prop := latticeHeightUptoRow.holds Try.pinned (OpenSpec.upto latticeHeightSpec)

/-- 'portcullislaw01.LatticeNews', WHERE WHAT IT READS IS OF BULK AT MOST 1048576: true; the input reads as it did. -/
def latticeNewsUptoRow : OpenClaim := { program := "ytnjfiinnidklaaa", sum := "7ea2d64812a50760d17262eb124cbd5e1137cc10c4eca2368dbfe7c0ec983ae2", func := "portcullis/portcullislaw01.LatticeNews", spec := "latticeNews", unfollowed := true, recurses := true, apart := false, narrowed := true }
def LatticeNewsUptoSaid : Prop := latticeNewsUptoRow.holds Try.pinned (OpenSpec.upto latticeNewsSpec)

/-- 'portcullislaw01.LatticeAlgebra', WHERE WHAT IT READS IS OF BULK AT MOST 1048576: true; the input reads as it did. -/
def latticeAlgebraUptoRow : OpenClaim := { program := "ytnjfiinnidklaaa", sum := "7ea2d64812a50760d17262eb124cbd5e1137cc10c4eca2368dbfe7c0ec983ae2", func := "portcullis/portcullislaw01.LatticeAlgebra", spec := "latticeAlgebra", unfollowed := true, recurses := true, apart := false, narrowed := true }
def LatticeAlgebraUptoSaid : Prop := latticeAlgebraUptoRow.holds Try.pinned (OpenSpec.upto latticeAlgebraSpec)

/-- 'portcullislaw01.LatticeTurned', WHERE WHAT IT READS IS OF BULK AT MOST 1048576: true; the input reads as it did. -/
def latticeTurnedUptoRow : OpenClaim := { program := "ytnjfiinnidklaaa", sum := "7ea2d64812a50760d17262eb124cbd5e1137cc10c4eca2368dbfe7c0ec983ae2", func := "portcullis/portcullislaw01.LatticeTurned", spec := "latticeTurned", unfollowed := true, recurses := true, apart := false, narrowed := true }
def LatticeTurnedUptoSaid : Prop := latticeTurnedUptoRow.holds Try.pinned (OpenSpec.upto latticeTurnedSpec)

end Rows
end Go.Proofs.Ytnjfiinnidklaaa
