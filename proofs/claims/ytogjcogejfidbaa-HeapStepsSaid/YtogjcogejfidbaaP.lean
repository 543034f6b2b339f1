import Derived.Test.YtogjcogejfidbaaM
namespace Go.Proofs.Ytogjcogejfidbaa.Heap
open Go.RowKit Go.Proofs.YtogjcogejfidbaaW.PrintWords Go.Proofs.YtogjcogejfidbaaW.PrintLast Go.Proofs.YtogjcogejfidbaaW.PrintMore Go.Proofs.Ytogjcogejfidbaa.PHeapSteps
set_option linter.unusedVariables false
set_option linter.unusedSimpArgs false

/-- A Make that gives memory. -/
structure Gave (A A' : List S65) (t s f o a : Int) : Prop where
  t0 : 0 ≤ t
  t1 : t < A.length
  s0 : 0 < s
  s1 : s ≤ 64 - ((ar A t).f0.length : Int)
  eq : A' = A.set t.toNat ⟨(ar A t).f0 ++ List.replicate s.toNat z46, (ar A t).f1 ++ [ob (ar A t).f0.length s f o]⟩
  at_ : a = 1 + t * 64 + (ar A t).f0.length

theorem make_cases (A : List S65) (t s f o : Int) : (make A t s f o = (A, 0, false) ∧ (t < 0 ∨ (A.length : Int) ≤ t ∨ s < 0 ∨ 64 - ((ar A t).f0.length : Int) < s)) ∨ (make A t s f o = (A, 0, true) ∧ s = 0 ∧ 0 ≤ t ∧ t < A.length) ∨
    ∃ A' a, make A t s f o = (A', a, true) ∧ Gave A A' t s f o a := by
  unfold make
  by_cases h : t < 0 ∨ (A.length : Int) ≤ t ∨ s < 0 ∨ 64 - ((ar A t).f0.length : Int) < s
  · rw [if_pos h]; exact .inl ⟨rfl, h⟩
  · rw [if_neg h]
    by_cases h0 : s = 0
    · rw [if_pos h0]; exact .inr (.inl ⟨rfl, h0, by omega, by omega⟩)
    · rw [if_neg h0]
      exact .inr (.inr ⟨_, _, rfl, by omega, by omega, by omega, by omega, rfl, rfl⟩)

section
variable {A A' : List S65} {t s f o a : Int} (g : Gave A A' t s f o a)
include g
theorem Gave.ar_same : ar A' t = ⟨(ar A t).f0 ++ List.replicate s.toNat z46, (ar A t).f1 ++ [ob (ar A t).f0.length s f o]⟩ := by
  have h0 := g.t0
  have h1 := g.t1
  have h2 := g.eq
  rw [ar_nat A' _ h0, h2, List.getD_eq_getElem?_getD, List.getElem?_set_self (by omega)]
  rfl
theorem Gave.ar_other (u : Int) (hu : u ≠ t) : ar A' u = ar A u := by
  have h0 := g.t0
  rw [g.eq]
  unfold ar
  split
  · rfl
  · rw [List.getD_eq_getElem?_getD, List.getElem?_set_ne (by omega), ← List.getD_eq_getElem?_getD]
theorem Gave.lo : 1 ≤ a := by have := g.t0; have := g.at_; omega
theorem Gave.hi (h4 : A.length ≤ 4) : a + s ≤ 257 := by have := g.t1; have := g.at_; have := g.s1; omega
theorem Gave.in_ (b : Int) (h : a ≤ b ∧ b < a + s) : Heap.place A b = none ∧ Heap.place A' b = some (t.toNat, ((ar A t).f0.length + (b - a)).toNat) := by
  have h0 := g.t0
  have h1 := g.at_
  have h2 := g.s1
  have e1 : (b - 1) / 64 = t := by omega
  have e2 : (b - 1) % 64 = (ar A t).f0.length + (b - a) := by omega
  unfold Heap.place
  rw [e1, e2, g.ar_same]
  constructor
  · rw [if_neg (by omega)]
  · rw [if_pos ⟨by omega, by simp; omega⟩]
theorem Gave.out_ (b : Int) (h : ¬ (a ≤ b ∧ b < a + s)) : Heap.place A' b = Heap.place A b := by
  have h0 := g.t0
  have h1 := g.at_
  have h2 := g.s1
  unfold Heap.place
  by_cases e : (b - 1) / 64 = t
  · rw [e, g.ar_same]
    by_cases hb : 1 ≤ b ∧ (b - 1) % 64 < ((ar A t).f0.length : Int)
    · rw [if_pos hb, if_pos ⟨hb.1, by simp; omega⟩]
    · rw [if_neg hb, if_neg (by simp; omega)]
  · rw [g.ar_other _ e]
theorem Gave.isSome (b : Int) : (Heap.place A' b).isSome = ((Heap.place A b).isSome || (decide (a ≤ b) && decide (b < a + s))) := by
  by_cases h : a ≤ b ∧ b < a + s
  · rw [(g.in_ b h).1, (g.in_ b h).2]
    simp [h.1, h.2]
  · rw [g.out_ b h]
    have : (decide (a ≤ b) && decide (b < a + s)) = false := by simp; omega
    rw [this, Bool.or_false]
theorem Gave.load_ (b : Int) (h : a ≤ b ∧ b < a + s) : load A' b = (z46, true) := by
  unfold load
  rw [(g.in_ b h).2]
  dsimp only
  unfold rdw
  rw [← ar_nat A' _ g.t0, g.ar_same]
  dsimp only
  rw [List.getD_eq_getElem?_getD, List.getElem?_append_right (by omega), List.getElem?_replicate]
  split <;> rfl
theorem Gave.obj_ (hg : GoodAr (ar A t)) (b : Int) (h : a ≤ b ∧ b < a + s) : objOf A' b = (t, ob (ar A t).f0.length s f o, true) := by
  have h0 := g.t0
  have h1 := g.s0
  unfold objOf
  rw [(g.in_ b h).2]
  dsimp only
  rw [← ar_nat A' _ g.t0, g.ar_same]
  dsimp only
  have hc := contig_snoc (ob (ar A t).f0.length s f o) hg.2 rfl h1
  have e : rd_T51 ((ar A t).f1 ++ [ob (ar A t).f0.length s f o]) ((ar A t).f1.length : Nat) = ob (ar A t).f0.length s f o := by
    unfold rd_T51
    rw [Int.toNat_natCast, List.getD_eq_getElem?_getD, List.getElem?_append_right (Nat.le_refl _), Nat.sub_self]
    rfl
  have := objAt_of (k := (((ar A t).f0.length + (b - a)).toNat : Int)) hc (ar A t).f1.length (by simp) (by rw [e]; simp [ob]; omega) (by rw [e]; simp [ob]; omega)
  rw [this, e]
  congr 1
  omega
end
theorem ar_good {A : List S65} (h : ∀ x ∈ A, GoodAr x) (t : Int) : GoodAr (ar A t) := by
  unfold ar
  split
  · exact ⟨by simp [z65], by simp [z65, Contig]⟩
  · rw [List.getD_eq_getElem?_getD]
    cases he : A[t.toNat]? with
    | none => exact ⟨by simp [z65], by simp [z65, Contig]⟩
    | some x => exact h x (List.mem_of_getElem? he)
theorem HR.le4 {w : World} {base : Nat} {F : Nat → Prop} {hb : Nat} {A : List S65} (h : HR w base F hb A) : A.length ≤ 4 := by obtain ⟨_, _, h⟩ := h; exact h.le4
theorem HR.good {w : World} {base : Nat} {F : Nat → Prop} {hb : Nat} {A : List S65} (h : HR w base F hb A) (t : Int) : GoodAr (ar A t) := by obtain ⟨_, _, h⟩ := h; exact ar_good h.good t

/-! ### The array of 300 -/
def seenCells (S : Int → Bool) : Array Value := ((List.range 300).map fun (a : Nat) => Value.int .i64 (if S (a : Int) then 1 else 0)).toArray
theorem seen_at (S : Int → Bool) (a : Int) (h0 : 0 ≤ a) (h1 : a < 300) : (seenCells S)[a.toNat]? = some (.int .i64 (if S a then 1 else 0)) := by
  unfold seenCells
  rw [List.getElem?_toArray, List.getElem?_map, List.getElem?_range (by omega)]
  simp only [Option.map_some]
  rw [Int.toNat_of_nonneg h0]
theorem seen_set (S : Int → Bool) (a : Int) (h0 : 0 ≤ a) : (seenCells S).setIfInBounds a.toNat (.int .i64 1) = seenCells (fun b => S b || b == a) := by
  apply Array.ext'
  unfold seenCells
  rw [Array.toList_setIfInBounds]
  apply List.ext_getElem?
  intro i
  simp only [List.getElem?_set, List.getElem?_map, List.length_map, List.length_range]
  by_cases hi : i < 300
  · rw [List.getElem?_range hi]
    by_cases e : a.toNat = i
    · subst e
      rw [if_pos rfl, if_pos hi]
      simp [Int.toNat_of_nonneg h0]
    · rw [if_neg e]
      have : ¬ (i : Int) = a := by omega
      simp [this]
  · rw [List.getElem?_eq_none (by simp; omega)]
    split
    · rename_i e
      subst e
      rw [if_neg hi]
      rfl
    · rfl
theorem seen_congr {S T : Int → Bool} (h : ∀ a, S a = T a) : seenCells S = seenCells T := by rw [funext h]
end Go.Proofs.Ytogjcogejfidbaa.Heap
