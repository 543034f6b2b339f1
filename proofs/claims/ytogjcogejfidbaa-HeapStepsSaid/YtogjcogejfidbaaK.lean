import Derived.Test.YtogjcogejfidbaaJ
namespace Go.Proofs.Ytogjcogejfidbaa.Heap
open Go.RowKit Go.Proofs.YtogjcogejfidbaaW.PrintWords Go.Proofs.YtogjcogejfidbaaW.PrintLast Go.Proofs.YtogjcogejfidbaaW.PrintMore Go.Proofs.Ytogjcogejfidbaa.PHeapSteps
set_option linter.unusedVariables false
set_option linter.unusedSimpArgs false

/-! ### alive -/
def al0 : List S65 := [z65, z65]
def al1 : List S65 := [z65, ⟨[z46, z46, z46], [⟨0, 3, 7, 8⟩]⟩]
def al2 : List S65 := [z65, ⟨[z46, z46, z46, z46], [⟨0, 3, 7, 8⟩, ⟨3, 1, 7, 9⟩]⟩]
def al3 : List S65 := [z65, ⟨[z46, ⟨5, 2⟩, z46, z46], [⟨0, 3, 7, 8⟩, ⟨3, 1, 7, 9⟩]⟩]
theorem al0_eq : new 2 = al0 := rfl
theorem al1_eq : make al0 1 3 7 8 = (al1, 65, true) := rfl
theorem al2_eq : make al1 1 1 7 9 = (al2, 68, true) := rfl
theorem al_of : objOf al2 67 = (1, ⟨0, 3, 7, 8⟩, true) := rfl
theorem al3_eq : store al2 66 ⟨5, 2⟩ = (al3, true) := rfl

set_option maxHeartbeats 1000000 in
theorem alive (w : World) : Calls Try.prog 7 #[] w fun e w' => e = .returned (.bool true) ∧ Below w.heap.size w w' := by
  go_enter Try.func7, Try.ntmps7
  go_wp2_with fail
  refine (new_HR 2 w).mono ?_
  rintro e w1 ⟨rfl, h1, b1⟩
  rw [al0_eq] at h1
  have H1 := Aside0.mk h1
  have B1 := Aside0.mk b1
  have s1 := b1.size
  clear h1 b1
  go_wp2_with fail
  refine (make_any H1.out (by omega) 1 3 7 8).mono ?_
  rintro e w2 ⟨rfl, h2, f2⟩
  rw [al1_eq] at h2 ⊢
  have H2 := Aside0.mk h2
  have F2 := Aside0.mk f2
  have s2 := f2.size
  clear h2 f2
  go_wp2_with fail
  refine (make_any H2.out (by omega) 1 1 7 9).mono ?_
  rintro e w3 ⟨rfl, h3, f3⟩
  rw [al2_eq] at h3 ⊢
  have H3 := Aside0.mk h3
  have F3 := Aside0.mk f3
  have s3 := f3.size
  clear h3 f3
  go_wp2_with fail
  refine (of_any H3.out 67 (by omega)).mono ?_
  rintro e w4 ⟨rfl, b4⟩
  rw [al_of]
  have h4 := H3.out.below b4
  have s4 := b4.size
  have H4 := Aside0.mk (h4.below (below_alloc (Below.refl _ _) (.cells #[.int .i64 0, .int .i64 3, .int .i64 7, .int .i64 8] 51)))
  have B4 := Aside0.mk b4
  clear h4 b4
  go_wp2_with fail
  refine (store_any H4.out 66 (by omega) ⟨5, 2⟩).mono ?_
  rintro e w5 ⟨rfl, h5, f5⟩
  rw [al3_eq] at h5 ⊢
  have H5 := Aside0.mk h5
  have F5 := Aside0.mk f5
  have s5 := f5.size
  clear h5 f5
  go_wp2_with fail
  refine (words_any H5.out 1).mono ?_
  rintro e w6 ⟨v6, rfl, h6, b6⟩
  obtain ⟨A6, c6, rfl⟩ : ∃ A c, v6 = .slice A 4 c := Kd.R_slice h6
  have H6 := Aside0.mk (H5.out.below b6)
  have B6 := Aside0.mk b6
  have s6 := b6.size
  clear h6 b6
  go_wp2_with fail
  refine (objects_any H6.out 1).mono ?_
  rintro e w7 ⟨v7, rfl, h7, b7⟩
  obtain ⟨A7, c7, rfl⟩ : ∃ A c, v7 = .slice A 2 c := Kd.R_slice h7
  have B7 := Aside0.mk b7
  clear h7 b7
  go_wp2_with fail
  go_ret
  refine ⟨rfl, ?_⟩
  have t1 := B1.out.trans (F2.out.below (B := w.heap.size) (by omega) (fun b hb => hb))
  have t2 := t1.trans (F3.out.below (B := w.heap.size) (by omega) (fun b hb => by omega))
  have t3 := below_then t2 (by omega) B4.out
  have t4 := t3.trans ((below_alloc (Below.refl w4.heap.size w4) (.cells #[.int .i64 0, .int .i64 3, .int .i64 7, .int .i64 8] 51)).mono (by omega))
  have t5 := t4.trans (F5.out.below (B := w.heap.size) (by simp; omega) (fun b hb => by omega))
  simp at s5
  have t6 := below_then t5 (by omega) B6.out
  exact below_then t6 (by omega) B7.out
end Go.Proofs.Ytogjcogejfidbaa.Heap
