import Derived.Test.YtnjfiinnidklaaaBD
namespace Go.Proofs.Ytnjfiinnidklaaa.Lat
open Go.RowKit Go.Proofs.YtnjfiinnidklaaaW.PrintWords Go.Proofs.YtnjfiinnidklaaaW.PrintLast Go.Proofs.YtnjfiinnidklaaaW.PrintMore Go.Proofs.Ytnjfiinnidklaaa.PLatticeNews
set_option linter.unusedVariables false
set_option linter.unusedSimpArgs false

/-! ### The reference's New -/
/-- Two levels are as a lattice wants it. -/
def pairG (n : Nat) (M : Nat → Nat → Bool) (i j : Nat) : Bool := !((decide (i ≠ j) && (M i j && M j i)) || (decide (leastG n M [(i : Int), (j : Int)] n 0 < 0) || decide (leastG n (fun a b => M b a) [(i : Int), (j : Int)] n 0 < 0)))
theorem lub_two {n : Nat} {M : Nat → Nat → Bool} {i j : Nat} : (¬ leastG n M [(i : Int), (j : Int)] n 0 < 0) ↔ ∃ l < n, (M i l && M j l) = true ∧ ∀ x < n, (M i x && M j x) = true → M l x = true := by
  have e : ([(i : Int), (j : Int)].map Int.toNat) = [i, j] := by simp
  rcases leastG_is (n := n) (M := M) (list := [(i : Int), (j : Int)]) n 0 (by omega) with ⟨k, _, h1, h2⟩ | ⟨h1, h2⟩
  · rw [h1, e] at *
    constructor
    · intro _
      refine ⟨k, h2.lt, by simp [h2.up i (by simp), h2.up j (by simp)], fun x hx ha => h2.least x hx (fun l hl => ?_)⟩
      rw [Bool.and_eq_true] at ha
      rcases List.mem_cons.1 hl with rfl | hl
      · exact ha.1
      · rw [List.mem_singleton.1 hl]; exact ha.2
    · intro _; omega
  · rw [h1]
    constructor
    · intro h; exact absurd (by decide) h
    · rintro ⟨l, hl, ha, hx⟩ _
      rw [Bool.and_eq_true] at ha
      refine h2 l (Nat.zero_le _) ⟨hl, fun y hy => ?_, fun x hxn hu => hx x hxn ?_⟩
      · rw [e] at hy
        rcases List.mem_cons.1 hy with rfl | hy
        · exact ha.1
        · rw [List.mem_singleton.1 hy]; exact ha.2
      · rw [e] at hu
        simp [hu i (by simp), hu j (by simp)]
theorem pair_is {n : Nat} (hn : n ≤ 8) {us ds : List Int} {le : Nat → Nat → Bool} (h : Mk n us le) (k : Mk n ds (fun a b => le b a)) {a b : Nat} (ha : a < n) (hb : b < n) : pairG n le a b = okP us ds a b := by
  rw [Bool.eq_iff_iff, okP_is hn h k ha hb, ← lub_two, ← lub_two (M := fun a b => le b a), pairG]
  simp only [Bool.not_eq_true', Bool.or_eq_false_iff, decide_eq_false_iff_not, Bool.and_eq_false_iff]
  constructor
  · rintro ⟨h1, h2, h3⟩
    refine ⟨fun hne hh => ?_, h2, h3⟩
    rcases h1 with h1 | h1 | h1
    · exact h1 hne
    · rw [hh.1] at h1; cases h1
    · rw [hh.2] at h1; cases h1
  · rintro ⟨h1, h2, h3⟩
    refine ⟨?_, h2, h3⟩
    by_cases e : a = b
    · exact .inl (fun hne => hne e)
    · have := h1 e
      cases h4 : le a b with
      | false => exact .inr (.inl rfl)
      | true =>
        cases h5 : le b a with
        | false => exact .inr (.inr rfl)
        | true => exact absurd ⟨h4, h5⟩ this
/-- Right edges: the answer hangs on the pairs. -/
theorem code_pairs {m : Nat} (h0 : 0 < m) (hm : m ≤ 8) {es : List (Int × Int)} (hb : badE m es = false) : codeM m es = if ∀ i < m, ∀ j < m, pairG m (rch m (natE es)) i j = true then 0 else 31 := by
  obtain ⟨h1, h2⟩ := clos_Mk hm hb
  rw [codeM, if_neg (by omega), hb, Int.toNat_natCast]
  have : rightb m (closE m es).1 (closE m es).2 = true ↔ ∀ i < m, ∀ j < m, pairG m (rch m (natE es)) i j = true := by
    rw [rightb_is]
    exact ⟨fun h i hi j hj => (pair_is hm h1 h2 hi hj).trans (h i hi j hj), fun h i hi j hj => (pair_is hm h1 h2 hi hj).symm.trans (h i hi j hj)⟩
  by_cases hr : rightb m (closE m es).1 (closE m es).2 = true
  · rw [if_pos (this.1 hr)]
    simp [hr]
  · rw [if_neg (fun h => hr (this.2 h))]
    simp [hr]
end Go.Proofs.Ytnjfiinnidklaaa.Lat
