import Derived.Test.YtnjfiinnidklaaaOpen
import Derived.Test.YtnjfiinnidklaaaRows
import Derived.KernelRfl
namespace Go.Proofs.Ytnjfiinnidklaaa.Lat
open Go.Proofs.YtnjfiinnidklaaaW.PrintWords
theorem o_int : Opens Try.prog 3 (Kd.int .i64) (fun n => (Lit.int .i64 n).wf = true) := opens_int Try.underlying3 (by kernel_rfl)
theorem o_edges : Opens Try.prog 22 (Kd.slice 41 (Kd.pair (Kd.int .i64) (Kd.int .i64))) (fun es => ∀ x ∈ es, (Lit.int .i64 x.1).wf = true ∧ (Lit.int .i64 x.2).wf = true) := opens_slice Try.underlying22 (by kernel_rfl) (opens_array2 Try.underlying41 (by kernel_rfl) o_int)
theorem o_ints : Opens Try.prog 23 (Kd.slice 3 (Kd.int .i64)) (fun xs => ∀ x ∈ xs, (Lit.int .i64 x).wf = true) := opens_slice Try.underlying23 (by kernel_rfl) o_int
end Go.Proofs.Ytnjfiinnidklaaa.Lat
