import Derived.Test.YtogjcogejfidbaaD
namespace Go.Proofs.Ytogjcogejfidbaa.Heap
open Go.RowKit Go.Proofs.YtogjcogejfidbaaW.PrintWords Go.Proofs.YtogjcogejfidbaaW.PrintLast Go.Proofs.YtogjcogejfidbaaW.PrintMore Go.Proofs.Ytogjcogejfidbaa.PHeapSteps
set_option linter.unusedVariables false
set_option linter.unusedSimpArgs false

/-! ### The model: arenas as values -/
def Contig : Int → List S51 → Int → Prop
  | a, [], n => a = n
  | a, o :: os, n => o.f0 = a ∧ 0 < o.f1 ∧ Contig (a + o.f1) os n
def GoodAr (x : S65) : Prop := x.f0.length ≤ 64 ∧ Contig 0 x.f1 x.f0.length
def ar (A : List S65) (t : Int) : S65 := if t < 0 then z65 else A.getD t.toNat z65
/-- Thread and number of the word at an address. -/
def place (A : List S65) (a : Int) : Option (Nat × Nat) :=
  if 1 ≤ a ∧ (a - 1) % 64 < (ar A ((a - 1) / 64)).f0.length then some (((a - 1) / 64).toNat, ((a - 1) % 64).toNat) else none
def rdw (A : List S65) (t k : Nat) : S46 := (A.getD t z65).f0.getD k z46
def load (A : List S65) (a : Int) : S46 × Bool := match place A a with | some (t, k) => (rdw A t k, true) | none => (z46, false)
def store (A : List S65) (a : Int) (x : S46) : List S65 × Bool := match place A a with
  | some (t, k) => (A.set t ⟨(A.getD t z65).f0.set k x, (A.getD t z65).f1⟩, true) | none => (A, false)
def objAt (os : List S51) (k : Int) : S51 := (os.find? fun o => decide (o.f0 ≤ k) && decide (k < o.f0 + o.f1)).getD z51
def objOf (A : List S65) (a : Int) : Int × S51 × Bool := match place A a with
  | some (t, k) => (t, objAt (A.getD t z65).f1 k, true) | none => (0, z51, false)
def make (A : List S65) (t s f o : Int) : List S65 × Int × Bool :=
  if t < 0 ∨ (A.length : Int) ≤ t ∨ s < 0 ∨ 64 - ((ar A t).f0.length : Int) < s then (A, 0, false)
  else if s = 0 then (A, 0, true)
  else (A.set t.toNat ⟨(ar A t).f0 ++ List.replicate s.toNat z46, (ar A t).f1 ++ [ob (ar A t).f0.length s f o]⟩, 1 + t * 64 + (ar A t).f0.length, true)
def new (n : Int) : List S65 := List.replicate (max 0 (min n 4)).toNat z65

theorem contig_len {os : List S51} : ∀ {a n : Int}, Contig a os n → a + os.length ≤ n := by
  induction os with
  | nil => intro a n h; simp [Contig] at h; simp; omega
  | cons o os ih => intro a n h; obtain ⟨h1, h2, h3⟩ := h; have := ih h3; simp; omega
theorem contig_snoc {os : List S51} : ∀ {a n : Int} (o : S51), Contig a os n → o.f0 = n → 0 < o.f1 → Contig a (os ++ [o]) (n + o.f1) := by
  induction os with
  | nil => intro a n o h h0 h1; simp [Contig] at h; subst h; exact ⟨h0, h1, rfl⟩
  | cons p os ih => intro a n o h h0 h1; obtain ⟨g1, g2, g3⟩ := h; exact ⟨g1, g2, ih o g3 h0 h1⟩
theorem contig_rise {os : List S51} : ∀ {a n : Int}, Contig a os n → ∀ i : Nat, i < os.length → a ≤ (rd_T51 os i).f0 ∧ (rd_T51 os i).f0 + (rd_T51 os i).f1 ≤ n ∧ 0 < (rd_T51 os i).f1 := by
  induction os with
  | nil => intro a n h i hi; simp at hi
  | cons o os ih =>
    intro a n h i hi
    obtain ⟨h1, h2, h3⟩ := h
    cases i with
    | zero =>
      have := contig_len h3
      simp [rd_T51]
      omega
    | succ i =>
      have := ih h3 i (by simpa using hi)
      simp [rd_T51] at this ⊢
      omega
theorem contig_next {os : List S51} : ∀ {a n : Int}, Contig a os n → ∀ i j : Nat, i < j → j < os.length → (rd_T51 os i).f0 + (rd_T51 os i).f1 ≤ (rd_T51 os j).f0 := by
  induction os with
  | nil => intro a n h i j _ hj; simp at hj
  | cons o os ih =>
    intro a n h i j hij hj
    obtain ⟨h1, h2, h3⟩ := h
    cases j with
    | zero => omega
    | succ j =>
      have ej : ((j : Int) + 1).toNat = j + 1 := by omega
      cases i with
      | zero =>
        have := contig_rise h3 j (by simpa using hj)
        simp [rd_T51] at this ⊢
        omega
      | succ i =>
        have ei : ((i : Int) + 1).toNat = i + 1 := by omega
        have := ih h3 i j (by omega) (by simpa using hj)
        simp [rd_T51] at this ⊢
        exact this
theorem contig_last {os : List S51} : ∀ {a n : Int}, Contig a os n → ∀ i : Nat, i < os.length → (if i + 1 < os.length then (rd_T51 os i).f0 + (rd_T51 os i).f1 = (rd_T51 os (i + 1 : Nat)).f0 else (rd_T51 os i).f0 + (rd_T51 os i).f1 = n) := by
  induction os with
  | nil => intro a n h i hi; simp at hi
  | cons o os ih =>
    intro a n h i hi
    obtain ⟨h1, h2, h3⟩ := h
    cases i with
    | zero =>
      cases os with
      | nil => simp [Contig] at h3; simp [rd_T51]; omega
      | cons p os => obtain ⟨g1, _, _⟩ := h3; simp [rd_T51]; omega
    | succ i =>
      have ei : ((i : Int) + 1).toNat = i + 1 := by omega
      have ei2 : ((i : Int) + 1 + 1).toNat = i + 2 := by omega
      have := ih h3 i (by simpa using hi)
      simp [rd_T51] at this ⊢
      rw [ei2, List.getElem?_cons_succ]
      exact this

/-- What the search finds is the object of the word. -/
theorem objAt_of {os : List S51} {n k : Int} (hc : Contig 0 os n) (i : Nat) (hi : i < os.length) (h1 : (rd_T51 os i).f0 ≤ k) (h2 : k < (rd_T51 os i).f0 + (rd_T51 os i).f1) : objAt os k = rd_T51 os i := by
  have key : ∀ (os : List S51) (a : Int), Contig a os n → ∀ i : Nat, i < os.length → (rd_T51 os i).f0 ≤ k → k < (rd_T51 os i).f0 + (rd_T51 os i).f1 → os.find? (fun o => decide (o.f0 ≤ k) && decide (k < o.f0 + o.f1)) = some (rd_T51 os i) := by
    intro os
    induction os with
    | nil => intro a _ i hi; simp at hi
    | cons o os ih =>
      intro a hc i hi g1 g2
      cases i with
      | zero =>
        simp [rd_T51] at g1 g2 ⊢
        simp [List.find?_cons, g1, g2]
      | succ i =>
        have hn := contig_next hc 0 (i + 1) (by omega) hi
        have ei : ((i : Int) + 1).toNat = i + 1 := by omega
        have e1 : rd_T51 (o :: os) ((i + 1 : Nat) : Int) = rd_T51 os (i : Nat) := by simp [rd_T51, ei]
        have e0 : rd_T51 (o :: os) ((0 : Nat) : Int) = o := by simp [rd_T51]
        rw [e1] at g1 g2 hn ⊢
        rw [e0] at hn
        have hno : (decide (o.f0 ≤ k) && decide (k < o.f0 + o.f1)) = false := by simp; omega
        rw [List.find?_cons, hno]
        exact ih _ hc.2.2 i (by simpa using hi) g1 g2
  unfold objAt
  rw [key os 0 hc i hi h1 h2]
  rfl
end Go.Proofs.Ytogjcogejfidbaa.Heap
