import Derived.Test.YtpbaebjohioijaaI
namespace Go.Proofs.Ytpbaebjohioijaa.Lat
open Go.RowKit Go.Proofs.YtpbaebjohioijaaW.PrintWords Go.Proofs.YtpbaebjohioijaaW.PrintLast Go.Proofs.YtpbaebjohioijaaW.PrintMore Go.Proofs.Ytpbaebjohioijaa.PSolveLeast
set_option linter.unusedVariables false
set_option linter.unusedSimpArgs false

/-! ### copies -/
theorem info48 : (Try.prog.info? 48).map (fun i => (i.zero, i.size, i.bytes)) = some (some (.agg #[.int .i64 0, .int .i64 0]), 2, 16) := by kernel_rfl
/-- A literal of edges. -/
def flatE (es : List (Int × Int)) : List Value := es.flatMap (fun e => [.int .i64 e.1, .int .i64 e.2])
theorem flatE_reps (W : World) (es : List (Int × Int)) : Reps (KE.K W) 2 es (flatE es) := by
  induction es with
  | nil => exact Reps.none _ _
  | cons e es ih =>
    refine ⟨by simp only [flatE, List.flatMap_cons, List.length_append, List.length_cons, List.length_nil]; have := ih.1; simp only [flatE] at this; omega, fun j p hj => ?_⟩
    cases j with
    | zero =>
      obtain rfl : e = p := by simpa using hj
      exact ⟨[.int .i64 e.1], [.int .i64 e.2], rfl, rfl, rfl⟩
    | succ j =>
      have := ih.2 j p (by simpa using hj)
      have e2 : (flatE (e :: es)).drop ((j + 1) * 2) = (flatE es).drop (j * 2) := by
        rw [show (j + 1) * 2 = j * 2 + 1 + 1 from by omega]
        rfl
      rw [e2]
      exact this
theorem C_flat (W : World) (b : Nat) (es : List (Int × Int)) (hb : W.heap[b]? = some (.cells (flatE es).toArray 48 (0, 0))) (hl : es.length ≤ 1000000) : Kd.C KE W (some ⟨b, 0, none⟩) es.length es := by
  have hR := flatE_reps W es
  refine ⟨rfl, by omega, fun _ => ⟨_, rfl, fun j p hj => ⟨((flatE es).drop (j * 2)).take 2, ?_, hR.2 j p hj, fun i u hi => ?_⟩⟩⟩
  · have := (List.getElem?_eq_some_iff.1 hj).1
    have h2 := hR.1
    show _ = 2
    rw [List.length_take, List.length_drop, h2]
    omega
  · show W.cell? ((⟨b, 0, none⟩ : Addr).add (j * 2 + i)) = some u
    rw [add_plain, blk_cell hb]
    rw [List.getElem?_take] at hi
    split at hi
    · rw [List.getElem?_drop] at hi
      simpa using hi
    · cases hi
theorem C_ints (W : World) (b : Nat) (xs : List Int) (hb : W.heap[b]? = some (.cells (nums .i64 xs).toArray 3 (0, 0))) (hl : xs.length ≤ 1000000) : Kd.C (Kd.int .i64) W (some ⟨b, 0, none⟩) xs.length xs := by
  refine Kd.C_of_reads (d := (0 : Int)) (h1 := fun _ => rfl) ⟨rfl, by omega, fun hn => ⟨_, rfl, fun j hj => ?_⟩⟩
  rw [add_plain, blk_cell hb, numsI_get xs j hj]
  simp [rd]

/-! ### alive -/
def E4 : List (Int × Int) := [(0, 1), (0, 2), (1, 3), (2, 3)]
def E3 : List (Int × Int) := [(0, 1), (0, 2), (1, 3)]
end Go.Proofs.Ytpbaebjohioijaa.Lat
