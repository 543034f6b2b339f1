import Derived.Test.YtogjcogejfidbaaOpen
import Derived.Test.YtogjcogejfidbaaRows
import Derived.KernelRfl
namespace Go.Proofs.Ytogjcogejfidbaa
open Go.Proofs.YtogjcogejfidbaaW.PrintWords
theorem o_int : Opens Try.prog 3 (Kd.int .i64) (fun n => (Lit.int .i64 n).wf = true) := opens_int Try.underlying3 (by kernel_rfl)
theorem o_ints : Opens Try.prog 22 (Kd.slice 3 (Kd.int .i64)) (fun xs => ∀ x ∈ xs, (Lit.int .i64 x).wf = true) := opens_slice Try.underlying22 (by kernel_rfl) o_int
end Go.Proofs.Ytogjcogejfidbaa
