import Derived.Test.YtogjcogejfidbaaB
namespace Go.Proofs.Ytogjcogejfidbaa.Heap
open Go.RowKit Go.Proofs.YtogjcogejfidbaaW.PrintWords Go.Proofs.YtogjcogejfidbaaW.PrintLast Go.Proofs.YtogjcogejfidbaaW.PrintMore Go.Proofs.Ytogjcogejfidbaa.PHeapSteps
set_option linter.unusedVariables false
set_option linter.unusedSimpArgs false

/-! ### Of's closure, slices.BinarySearchFunc -/
theorem of1 (x : S51) (k : Int) (w : World) (h0 : 0 ≤ x.f0) (h1 : x.f0 ≤ 64) (h2 : 0 ≤ k) (h3 : k ≤ 64) :
    Calls Try.prog 29 #[.agg #[.int .i64 x.f0, .int .i64 x.f1, .int .i64 x.f2, .int .i64 x.f3], .int .i64 k] w fun e w' => e = .returned (.int .i64 (x.f0 - k)) ∧ Below w.heap.size w w' := by
  go_enter Try.func29, Try.ntmps29
  go_wp2
  go_ret
  exact ⟨rfl, below_alloc (Below.refl _ _) _⟩

theorem bsearch (A : Option Addr) (c : Nat) (xs : List S51) (k : Int) (w : World) (hr : Kd.C k51 w A xs.length xs) (hl : xs.length ≤ 64) (h2 : 0 ≤ k) (h3 : k ≤ 64)
    (hx : ∀ i, i < xs.length → 0 ≤ (rd_T51 xs i).f0 ∧ (rd_T51 xs i).f0 ≤ 64)
    (hs : ∀ i j, i < j → j < xs.length → (rd_T51 xs i).f0 < (rd_T51 xs j).f0) :
    Calls Try.prog 28 #[.slice A xs.length c, .int .i64 k, .func (.func 29) #[] #[]] w fun e w' => (∃ n : Nat, n ≤ xs.length ∧ (∀ i : Nat, i < n → (rd_T51 xs i).f0 < k) ∧ (∀ i : Nat, n ≤ i → i < xs.length → k ≤ (rd_T51 xs i).f0) ∧ e = .returned (.tuple #[.int .i64 n, .bool (decide (n < xs.length ∧ (rd_T51 xs n).f0 = k))])) ∧ Below w.heap.size w w' := by
  have HR := Aside0.mk hr
  have HX := Aside0.mk hx
  have HS := Aside0.mk hs
  clear hr hx hs
  go_enter Try.func28, Try.ntmps28
  go_wp2
  go_loopw [9, 10] (fun i j wr => ∃ p q : Nat, i = .int .i64 p ∧ j = .int .i64 q ∧ p ≤ q ∧ q ≤ xs.length ∧ Aside0 (∀ i : Nat, i < p → (rd_T51 xs i).f0 < k) ∧ Aside0 (∀ i : Nat, q ≤ i → i < xs.length → k ≤ (rd_T51 xs i).f0) ∧ Below w.heap.size w wr) (fun i j _ => (intOf j - intOf i).toNat)
  case atStart => exact ⟨0, xs.length, rfl, rfl, Nat.zero_le _, Nat.le_refl _, ⟨fun i h => absurd h (by omega)⟩, ⟨fun i h h' => absurd h (by omega)⟩, Below.refl _ _⟩
  case round =>
    obtain ⟨p, q, rfl, rfl, hpq, hq, HP, HQ, HB⟩ := hrel
    by_cases hlt : p < q
    · have p1 : 0 ≤ ((p : Int) + q) / 2 := by omega
      have p2 : ((p : Int) + q) / 2 < xs.length := by omega
      obtain ⟨ad, hA, g0, g1, g2, g3⟩ := at_T51 (Kd.C_below HR.out HB) (((p : Int) + q) / 2) p1 p2
      subst hA
      have hm : ((p : Int) + q) / 2 = ((p + q) / 2 : Nat) := by omega
      have hb := HX.out ((p + q) / 2) (by omega)
      rw [hm] at g0 g1 g2 g3
      rw [Int.toNat_natCast] at g0 g1 g2 g3
      clear hm
      obtain ⟨x, hx⟩ : ∃ x, rd_T51 xs ((p + q) / 2 : Nat) = x := ⟨_, rfl⟩
      rw [hx] at g0 g1 g2 g3 hb
      have HE := Aside0.mk hx
      clear hx
      obtain ⟨hb0, hb1⟩ := hb
      by_cases hc : x.f0 - k < 0
      · go_wp2_with (go_at_call 29; refine (of1 x k _ hb0 hb1 h2 h3).mono ?_; rintro e w' ⟨rfl, hb'⟩)
        go_roundw
        case rel =>
          refine ⟨(p + q) / 2 + 1, q, by go_num, rfl, by omega, hq, ⟨fun i hi => ?_⟩, HQ, below_then HB HB.size hb'⟩
          rcases Nat.lt_or_ge i ((p + q) / 2) with h | h
          · have := HS.out i ((p + q) / 2) h (by omega)
            rw [HE.out] at this
            omega
          · obtain rfl : i = (p + q) / 2 := by omega
            rw [HE.out]
            omega
        case measure => simp [intOf]; omega
      · go_wp2_with (go_at_call 29; refine (of1 x k _ hb0 hb1 h2 h3).mono ?_; rintro e w' ⟨rfl, hb'⟩)
        go_roundw
        case rel =>
          refine ⟨p, (p + q) / 2, rfl, by go_num, by omega, by omega, HP, ⟨fun i hi hi' => ?_⟩, below_then HB HB.size hb'⟩
          rcases Nat.lt_or_ge ((p + q) / 2) i with h | h
          · have := HS.out ((p + q) / 2) i h (by omega)
            rw [HE.out] at this
            omega
          · obtain rfl : i = (p + q) / 2 := by omega
            rw [HE.out]
            omega
        case measure => simp [intOf]; omega
    · obtain rfl : p = q := by omega
      by_cases hn : p < xs.length
      · obtain ⟨ad, hA, g0, g1, g2, g3⟩ := at_T51 (Kd.C_below HR.out HB) p (by omega) (by omega)
        subst hA
        have hb := HX.out p (by omega)
        rw [Int.toNat_natCast] at g0 g1 g2 g3
        obtain ⟨x, hx⟩ : ∃ x, rd_T51 xs (p : Nat) = x := ⟨_, rfl⟩
        rw [hx] at g0 g1 g2 g3 hb
        have HE := Aside0.mk hx
        clear hx
        obtain ⟨hb0, hb1⟩ := hb
        go_wp2_with (go_at_call 29; refine (of1 x k _ hb0 hb1 h2 h3).mono ?_; rintro e w' ⟨rfl, hb'⟩)
        go_ret2
        refine ⟨⟨p, hq, HP.out, HQ.out, ?_⟩, below_then HB HB.size hb'⟩
        rw [HE.out]
        have : (x.f0 - k == 0) = decide (p < xs.length ∧ x.f0 = k) := by
          rw [Bool.eq_iff_iff]
          simp [hn]
          omega
        simp [this]
      · go_wp2
        go_ret2
        exact ⟨⟨p, hq, HP.out, HQ.out, by simp [hn]⟩, HB⟩

/-! ### New -/
def nl : Value := .slice none 0 0
def arCells (vs : List (Value × Value)) : List Value := vs.flatMap fun p => [p.1, p.2]
def newWorld (w : World) (m : Nat) : World := (w.alloc (.cells (arCells (List.replicate m (nl, nl))).toArray 65)).alloc (.cells #[.slice (some ⟨w.heap.size, 0, none⟩) m m] 61)

theorem new_at (n : Int) (m : Nat) (hm : (m : Int) = max 0 (min n 4)) (w : World)
    (hk : ∀ W : World, (Instr.makeSlice 59 (.int .i64 m) (.int .i64 m)).run Try.prog W = .ok (.slice (some ⟨W.heap.size, 0, none⟩) m m) (W.alloc (.cells (arCells (List.replicate m (nl, nl))).toArray 65))) :
    Calls Try.prog 8 #[.int .i64 n] w fun e w' => e = .returned (.pointer (some ⟨w.heap.size + 1, 0, none⟩)) ∧ w' = newWorld w m := by
  by_cases h4 : 4 < n
  · obtain rfl : m = 4 := by omega
    clear hm
    have hk4 : ∀ W : World, (Instr.makeSlice 59 (.int .i64 4) (.int .i64 4)).run Try.prog W = .ok (.slice (some ⟨W.heap.size, 0, none⟩) 4 4) (W.alloc (.cells (arCells (List.replicate 4 (nl, nl))).toArray 65)) := hk
    clear hk
    go_enter Try.func8, Try.ntmps8
    go_wp2
    go_ret
    exact ⟨by simp, rfl⟩
  · by_cases h0 : 0 < n
    · obtain rfl : n = m := by omega
      clear hm
      go_enter Try.func8, Try.ntmps8
      go_wp2
      go_ret
      exact ⟨by simp, rfl⟩
    · obtain rfl : m = 0 := by omega
      clear hm
      have hk0 : ∀ W : World, (Instr.makeSlice 59 (.int .i64 0) (.int .i64 0)).run Try.prog W = .ok (.slice (some ⟨W.heap.size, 0, none⟩) 0 0) (W.alloc (.cells (arCells (List.replicate 0 (nl, nl))).toArray 65)) := hk
      clear hk
      go_enter Try.func8, Try.ntmps8
      go_wp2
      go_ret
      exact ⟨by simp, rfl⟩

theorem new_any (n : Int) (m : Nat) (hm : (m : Int) = max 0 (min n 4)) (w : World) :
    Calls Try.prog 8 #[.int .i64 n] w fun e w' => e = .returned (.pointer (some ⟨w.heap.size + 1, 0, none⟩)) ∧ w' = newWorld w m := by
  have : m = 0 ∨ m = 1 ∨ m = 2 ∨ m = 3 ∨ m = 4 := by omega
  rcases this with rfl | rfl | rfl | rfl | rfl <;> exact new_at n _ hm w (fun W => by kernel_rfl)

end Go.Proofs.Ytogjcogejfidbaa.Heap
