import Derived.Test.YtogjcogejfidbaaA
import Derived.WalkSpells
namespace Go.Proofs.Ytogjcogejfidbaa.Heap
open Go.RowKit Go.Proofs.YtogjcogejfidbaaW.PrintWords Go.Proofs.YtogjcogejfidbaaW.PrintLast Go.Proofs.YtogjcogejfidbaaW.PrintMore Go.Proofs.Ytogjcogejfidbaa.PHeapSteps
set_option linter.unusedVariables false
set_option linter.unusedSimpArgs false

/-! ### Load -/
set_option maxHeartbeats 400000 in
theorem load_of_no (h : Addr) (a : Int) (w : World)
    (hw : ∀ W, Below w.heap.size w W → Calls Try.prog 27 #[.pointer (some h), .int .i64 a] W fun e w' => e = .returned (.tuple #[.int .i64 0, .int .i64 0, .pointer none]) ∧ W = w') :
    Calls Try.prog 16 #[.pointer (some h), .int .i64 a] w fun e w' => e = .returned (.tuple #[.agg #[.int .i64 0, .int .i64 0], .bool false]) ∧ Below w.heap.size w w' := by
  have HW := Aside0.mk (hw _ (below_alloc (Below.refl _ _) (.cells #[.int .i64 0, .int .i64 0] 46)))
  clear hw
  go_enter Try.func16, Try.ntmps16
  go_wp2_with (go_at_call 27; refine (HW.out).mono ?_; rintro e w' ⟨rfl, rfl⟩)
  exact bodyPost_ret (results_ct rfl _ _ w.heap.size 46 #[.int .i64 0, .int .i64 0] (0, 0) _ rfl (blk_new _ _) Try.underlying46 rfl (by kernel_rfl)) rfl ⟨rfl, below_alloc (Below.refl _ _) _⟩

set_option maxHeartbeats 400000 in
theorem load_of_yes (h : Addr) (a : Int) (w : World) (t k : Int) (g j : Nat) (x y : Int)
    (hw : ∀ W, Below w.heap.size w W → Calls Try.prog 27 #[.pointer (some h), .int .i64 a] W fun e w' => e = .returned (.tuple #[.int .i64 t, .int .i64 k, .pointer (some ⟨g, j, none⟩)]) ∧ Drawn0 W w')
    (h0 : w.cell? ⟨g, j, none⟩ = some (.int .i64 x)) (h1 : w.cell? ⟨g, j + 1, none⟩ = some (.int .i64 y)) :
    Calls Try.prog 16 #[.pointer (some h), .int .i64 a] w fun e w' => e = .returned (.tuple #[.agg #[.int .i64 x, .int .i64 y], .bool true]) ∧ Below w.heap.size w w' := by
  have HW := Aside0.mk (hw _ (below_alloc (Below.refl _ _) (.cells #[.int .i64 0, .int .i64 0] 46)))
  clear hw
  have hg : g < w.heap.size := World.block_lt_of_cell? w _ h0
  go_enter Try.func16, Try.ntmps16
  go_wp2_with (go_at_call 27; refine (HW.out).mono ?_; rintro e w' ⟨rfl, ⟨nn, rfl⟩⟩)
  exact bodyPost_ret (results_ct rfl _ _ w.heap.size 46 #[.int .i64 x, .int .i64 y] (0, 0) _ rfl (blk_set (blk_set (blk_drewN (blk_new _ _) nn) 0 _) 1 _) Try.underlying46 rfl (by kernel_rfl)) rfl
    ⟨rfl, ((pw_below_drewN (below_alloc (Below.refl _ _) _) _).setCell (Nat.le_refl _) _).setCell (Nat.le_refl _) _⟩

/-! ### Store -/
set_option maxHeartbeats 400000 in
theorem store_of_no (h : Addr) (a x y : Int) (w : World)
    (hw : ∀ W, Below w.heap.size w W → Calls Try.prog 27 #[.pointer (some h), .int .i64 a] W fun e w' => e = .returned (.tuple #[.int .i64 0, .int .i64 0, .pointer none]) ∧ W = w') :
    Calls Try.prog 15 #[.pointer (some h), .int .i64 a, .agg #[.int .i64 x, .int .i64 y]] w fun e w' => e = .returned (.bool false) ∧ Below w.heap.size w w' := by
  have HW := Aside0.mk (hw _ (below_alloc (Below.refl _ _) (.cells #[.int .i64 x, .int .i64 y] 46)))
  clear hw
  go_enter Try.func15, Try.ntmps15
  go_wp2_with (go_at_call 27; refine (HW.out).mono ?_; rintro e w' ⟨rfl, rfl⟩)
  go_ret
  exact ⟨rfl, below_alloc (Below.refl _ _) _⟩

set_option maxHeartbeats 400000 in
theorem store_of_yes (h : Addr) (a x y : Int) (w : World) (t k : Int) (g j : Nat) (x0 y0 : Int)
    (hw : ∀ W, Below w.heap.size w W → Calls Try.prog 27 #[.pointer (some h), .int .i64 a] W fun e w' => e = .returned (.tuple #[.int .i64 t, .int .i64 k, .pointer (some ⟨g, j, none⟩)]) ∧ Drawn0 W w')
    (h0 : w.cell? ⟨g, j, none⟩ = some (.int .i64 x0)) (h1 : w.cell? ⟨g, j + 1, none⟩ = some (.int .i64 y0))
    (f0 : w.frozen? ⟨g, j, none⟩ = false) (f1 : w.frozen? ⟨g, j + 1, none⟩ = false) :
    Calls Try.prog 15 #[.pointer (some h), .int .i64 a, .agg #[.int .i64 x, .int .i64 y]] w fun e w' => e = .returned (.bool true) ∧
      ∃ w1, Below w.heap.size w w1 ∧ w' = (w1.setCell ⟨g, j, none⟩ (.int .i64 x)).setCell ⟨g, j + 1, none⟩ (.int .i64 y) := by
  have HW := Aside0.mk (hw _ (below_alloc (Below.refl _ _) (.cells #[.int .i64 x, .int .i64 y] 46)))
  clear hw
  have hg : g < w.heap.size := World.block_lt_of_cell? w _ h0
  go_enter Try.func15, Try.ntmps15
  go_wp2_with (go_at_call 27; refine (HW.out).mono ?_; rintro e w' ⟨rfl, ⟨nn, rfl⟩⟩)
  go_ret
  exact ⟨rfl, _, pw_below_drewN (below_alloc (Below.refl _ _) _) nn, rfl⟩

/-! ### slices.Clone, twice -/
theorem lit_nil {α : Type} (d : Kd α) (e : Nat) (w : World) (base : Nat) (hb : base ≤ w.heap.size) : d.R e (w.alloc (.cells #[] e)) base (fun _ => True) (.slice (some ⟨w.heap.size, 0, none⟩) 0 0) [] :=
  ⟨fun _ _ => trivial, OwnRow.lit (R := d.M (w.alloc (.cells #[] e)) base (fun k => True ∧ some k ≠ (Value.slice (some ⟨w.heap.size, 0, none⟩) 0 0).ownBlock)) (ps := []) w base (Reps.none _ _) hb (by simp)⟩


theorem clone46_nil (w : World) :
    Calls Try.prog 23 #[.slice none 0 0] w fun e w' => e = .returned (.slice none 0 0) ∧ w = w' := by
  have he := fun W => Lib.run_eql_slice_nil (P := Try.prog) W 28 46 none 0 0 0 0 Try.underlying28
  go_enter Try.func23, Try.ntmps23
  go_wp2
  go_ret
  exact ⟨rfl, rfl⟩

theorem clone46_some (ad : Addr) (n c : Nat) (xs : List S46) (w : World) (hr : Kd.C k46 w (some ad) n xs) (hl : n ≤ 1000000) :
    Calls Try.prog 23 #[.slice (some ad) n c] w fun e w' => ∃ v, e = .returned v ∧ k46.R 46 w' w.heap.size (fun _ => True) v xs ∧ Below w.heap.size w w' := by
  have he := fun W => Lib.run_eql_slice_nil (P := Try.prog) W 28 46 (some ad) n c 0 0 Try.underlying28
  have HR := Aside0.mk hr
  clear hr
  go_enter Try.func23, Try.ntmps23
  go_wp2_with (at_builtin; refine Kd.R_append_rows k46 w.heap.size rfl (.tmp 5) (.tmp 6) 28 46 _ 16 rfl Try.underlying28 info46 rfl (by decide) (by decide) (.slice (some ⟨w.heap.size, 0, none⟩) 0 0) [] xs (some ad) n c (fun _ => True) (fun _ => False) rfl rfl (lit_nil k46 46 w w.heap.size (Nat.le_refl _)) (Kd.C_below HR.out (below_alloc (Below.refl _ _) _)) (fun x cs h => h) (fun _ h => h.elim) (fun _ _ => trivial) (below_alloc (Below.refl _ _) _) (by simp) (by simp; omega) ?_; intro v1 w1 hv1 hb1 hg1 hat1)
  have HV := Aside0.mk hv1
  clear hv1
  go_wp2
  go_ret
  exact ⟨_, rfl, HV.out, hb1⟩

theorem clone46 (A : Option Addr) (c : Nat) (xs : List S46) (w : World) (hc : A = none → c = 0) (hr : Kd.C k46 w A xs.length xs) (hl : xs.length ≤ 1000000) :
    Calls Try.prog 23 #[.slice A xs.length c] w fun e w' => ∃ v, e = .returned v ∧ k46.R 46 w' w.heap.size (fun _ => True) v xs ∧ Below w.heap.size w w' := by
  cases A with
  | none =>
    have h0 : xs.length = 0 := by
      rcases Nat.eq_zero_or_pos xs.length with h | h
      · exact h
      · obtain ⟨_, h, _⟩ := hr.2.2 h
        cases h
    have : xs = [] := List.eq_nil_of_length_eq_zero h0
    subst this
    rw [hc rfl]
    refine (clone46_nil w).mono ?_
    rintro e w' ⟨rfl, rfl⟩
    exact ⟨_, rfl, Kd.R_nil _ _ _ _ _, Below.refl _ _⟩
  | some ad => exact clone46_some ad _ c xs w hr hl

theorem clone51_nil (w : World) :
    Calls Try.prog 24 #[.slice none 0 0] w fun e w' => e = .returned (.slice none 0 0) ∧ w = w' := by
  have he := fun W => Lib.run_eql_slice_nil (P := Try.prog) W 30 51 none 0 0 0 0 Try.underlying30
  go_enter Try.func24, Try.ntmps24
  go_wp2
  go_ret
  exact ⟨rfl, rfl⟩

theorem clone51_some (ad : Addr) (n c : Nat) (xs : List S51) (w : World) (hr : Kd.C k51 w (some ad) n xs) (hl : n ≤ 1000000) :
    Calls Try.prog 24 #[.slice (some ad) n c] w fun e w' => ∃ v, e = .returned v ∧ k51.R 51 w' w.heap.size (fun _ => True) v xs ∧ Below w.heap.size w w' := by
  have he := fun W => Lib.run_eql_slice_nil (P := Try.prog) W 30 51 (some ad) n c 0 0 Try.underlying30
  have HR := Aside0.mk hr
  clear hr
  go_enter Try.func24, Try.ntmps24
  go_wp2_with (at_builtin; refine Kd.R_append_rows k51 w.heap.size rfl (.tmp 5) (.tmp 6) 30 51 _ 32 rfl Try.underlying30 info51 rfl (by decide) (by decide) (.slice (some ⟨w.heap.size, 0, none⟩) 0 0) [] xs (some ad) n c (fun _ => True) (fun _ => False) rfl rfl (lit_nil k51 51 w w.heap.size (Nat.le_refl _)) (Kd.C_below HR.out (below_alloc (Below.refl _ _) _)) (fun x cs h => h) (fun _ h => h.elim) (fun _ _ => trivial) (below_alloc (Below.refl _ _) _) (by simp) (by simp; omega) ?_; intro v1 w1 hv1 hb1 hg1 hat1)
  have HV := Aside0.mk hv1
  clear hv1
  go_wp2
  go_ret
  exact ⟨_, rfl, HV.out, hb1⟩

theorem clone51 (A : Option Addr) (c : Nat) (xs : List S51) (w : World) (hc : A = none → c = 0) (hr : Kd.C k51 w A xs.length xs) (hl : xs.length ≤ 1000000) :
    Calls Try.prog 24 #[.slice A xs.length c] w fun e w' => ∃ v, e = .returned v ∧ k51.R 51 w' w.heap.size (fun _ => True) v xs ∧ Below w.heap.size w w' := by
  cases A with
  | none =>
    have h0 : xs.length = 0 := by
      rcases Nat.eq_zero_or_pos xs.length with h | h
      · exact h
      · obtain ⟨_, h, _⟩ := hr.2.2 h
        cases h
    have : xs = [] := List.eq_nil_of_length_eq_zero h0
    subst this
    rw [hc rfl]
    refine (clone51_nil w).mono ?_
    rintro e w' ⟨rfl, rfl⟩
    exact ⟨_, rfl, Kd.R_nil _ _ _ _ _, Below.refl _ _⟩
  | some ad => exact clone51_some ad _ c xs w hr hl

end Go.Proofs.Ytogjcogejfidbaa.Heap
