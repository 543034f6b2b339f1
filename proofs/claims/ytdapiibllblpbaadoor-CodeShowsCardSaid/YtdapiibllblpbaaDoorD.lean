import Derived.Test.YtdapiibllblpbaaDoorC
namespace Go.Proofs.YtdapiibllblpbaaDoor.Code
open Go.RowKit Go.Proofs.YtdapiibllblpbaaDoorW.PrintWords Go.Proofs.YtdapiibllblpbaaDoorW.PrintLast Go.Proofs.YtdapiibllblpbaaDoorW.PrintMore Go.Proofs.YtdapiibllblpbaaDoor.PCodeAnswers
set_option linter.unusedVariables false
set_option linter.unusedSimpArgs false

/-- A list of numbers that has just been laid. -/
theorem lit_ints (w : World) (H : Nat) (hH : w.heap.size = H) (l : List Int) (vs : Array Value) (hv : vs = (l.map (Value.int .i64)).toArray) (hl : l.length ≤ 1000000) :
    Kd.C (Kd.int .i64) (w.alloc (.cells vs 3)) (some ⟨H, 0, none⟩) l.length l := by
  subst hH hv
  refine Kd.C_of_reads (d := (0 : Int)) (h1 := fun _ => rfl) ⟨rfl, by omega, fun hn => ⟨_, rfl, fun j hj => ?_⟩⟩
  rw [add_plain, blk_cell (blk_new w _)]
  simp only [Nat.zero_add, List.getElem?_toArray, List.getElem?_map]
  have hj' : j < l.length := by omega
  rw [List.getElem?_eq_getElem hj']
  simp [List.getD_eq_getElem?_getD, hj']
theorem zero_list (A : Option Addr) (c : Nat) (zs : List Int) (w : World) (hr : Kd.C (Kd.int .i64) w A zs.length zs) (hl : zs.length ≤ 1000000) :
    Calls Tryd.prog 58 #[.slice A zs.length c] w fun e w' => e = .returned (.bool (zero zs)) ∧ Below w.heap.size w w' := by
  have H := Aside0.mk (below_list 1 A c zs w hr hl)
  clear hr
  go_enter Tryd.func58, Tryd.ntmps58
  go_wp2_with fail
  refine H.out.mono ?_
  rintro e w' ⟨rfl, b⟩
  have B := Aside0.mk b
  clear b
  go_wp2_with fail
  go_ret
  exact ⟨rfl, B.out⟩
end Go.Proofs.YtdapiibllblpbaaDoor.Code
