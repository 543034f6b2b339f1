import Derived.Test.YtogjcogejfidbaaQ
import Derived.Test.YtogjcogejfidbaaPHeapStepsx5
import Derived.Test.YtogjcogejfidbaaP
namespace Go.Proofs.Ytogjcogejfidbaa.Heap
open Go.RowKit Go.Proofs.YtogjcogejfidbaaW.PrintWords Go.Proofs.YtogjcogejfidbaaW.PrintLast Go.Proofs.YtogjcogejfidbaaW.PrintMore Go.Proofs.Ytogjcogejfidbaa.PHeapSteps
set_option linter.unusedVariables false
set_option linter.unusedSimpArgs false

/-! ### The document's functions as the model -/
abbrev wsM (A : List S65) : List (List S46) := A.map (·.f0)
abbrev osM (A : List S65) : List (List S51) := A.map (·.f1)
theorem wsM_len (A : List S65) : (wsM A).length = A.length := List.length_map _
theorem osM_len (A : List S65) : (osM A).length = A.length := List.length_map _
theorem wsM_at (A : List S65) (t : Nat) : rd_L2 (wsM A) (t : Int) = (A.getD t z65).f0 := by
  unfold rd_L2 wsM
  rw [Int.toNat_natCast, List.getD_eq_getElem?_getD, List.getD_eq_getElem?_getD, List.getElem?_map]
  cases A[t]? <;> rfl
theorem osM_at (A : List S65) (t : Nat) : rd_L4 (osM A) (t : Int) = (A.getD t z65).f1 := by
  unfold rd_L4 osM
  rw [Int.toNat_natCast, List.getD_eq_getElem?_getD, List.getD_eq_getElem?_getD, List.getElem?_map]
  cases A[t]? <;> rfl
theorem wrap_small {x : Int} (h0 : -1000000000 ≤ x) (h1 : x ≤ 1000000000) : wrap64 x = x := by unfold wrap64; omega
theorem newR_l0 (n : Int) : ∀ (d i : Nat), i + d = 4 → (i : Int) ≤ max 0 (min n 4) → ∃ k, portcullisref12_New.l0 k n i (List.replicate i []) (List.replicate i []) = some (wsM (Heap.new n), osM (Heap.new n)) := by
  have he : ∀ i : Nat, (i : Int) = max 0 (min n 4) → (some ((List.replicate i [] : List (List S46)), (List.replicate i [] : List (List S51)))) = some (wsM (Heap.new n), osM (Heap.new n)) := by
    intro i h
    unfold Heap.new wsM osM
    rw [← h, Int.toNat_natCast]
    simp [z65]
  intro d
  induction d with
  | zero =>
    intro i h hi
    refine ⟨1, ?_⟩
    simp only [portcullisref12_New.l0]
    by_cases h1 : (i : Int) < n
    · rw [if_pos h1, if_neg (by omega)]
      exact he i (by omega)
    · rw [if_neg h1]
      exact he i (by omega)
  | succ d ih =>
    intro i h hi
    by_cases h1 : (i : Int) < n
    · obtain ⟨k, hk⟩ := ih (i + 1) (by omega) (by omega)
      refine ⟨k + 1, ?_⟩
      simp only [portcullisref12_New.l0]
      rw [if_pos h1, if_pos (by omega), if_pos (by simp; omega), if_pos (by simp; omega), wrap_small (by omega) (by omega)]
      rw [List.replicate_succ', List.replicate_succ'] at hk
      exact_mod_cast hk
    · refine ⟨1, ?_⟩
      simp only [portcullisref12_New.l0]
      rw [if_neg h1]
      exact he i (by omega)
theorem newR (n : Int) : ∃ k, portcullisref12_New.f k n = some (wsM (Heap.new n), osM (Heap.new n)) := newR_l0 n 4 0 rfl (by omega)
theorem copiedR_l0 (A : List S65) (hA : A.length ≤ 4) (hg : ∀ x ∈ A, x.f0.length ≤ 64 ∧ x.f1.length ≤ 64) : ∀ (d i : Nat), i + d = A.length → ∃ k, portcullisref12_Heap_copied.l0 k i (wsM A) (osM A) (wsM (A.take i)) (osM (A.take i)) = some (wsM A, osM A) := by
  intro d
  induction d with
  | zero =>
    intro i h
    refine ⟨1, ?_⟩
    simp only [portcullisref12_Heap_copied.l0]
    rw [if_neg (by rw [wsM_len]; omega), List.take_of_length_le (by omega)]
  | succ d ih =>
    intro i h
    obtain ⟨k, hk⟩ := ih (i + 1) (by omega)
    have hi : i < A.length := by omega
    have hx := hg (A.getD i z65) (by rw [List.getD_eq_getElem?_getD, List.getElem?_eq_getElem hi]; exact List.getElem_mem hi)
    have e1 : wsM (A.take (i + 1)) = wsM (A.take i) ++ [(A.getD i z65).f0] := by
      rw [List.take_add_one, List.getElem?_eq_getElem hi, List.getD_eq_getElem?_getD, List.getElem?_eq_getElem hi]
      exact List.map_append
    have e2 : osM (A.take (i + 1)) = osM (A.take i) ++ [(A.getD i z65).f1] := by
      rw [List.take_add_one, List.getElem?_eq_getElem hi, List.getD_eq_getElem?_getD, List.getElem?_eq_getElem hi]
      exact List.map_append
    have hl : (A.take i).length ≤ 4 := by rw [List.length_take]; omega
    refine ⟨k + 1, ?_⟩
    simp only [portcullisref12_Heap_copied.l0, Option.bind_some, wsM_at, osM_at, List.length_nil, List.nil_append, wsM_len, osM_len]
    rw [if_pos (by omega), if_pos (by omega), if_pos (by omega), if_pos (by omega), if_pos (by omega), if_pos (by omega), if_pos (by omega), wrap_small (by omega) (by omega), ← e1, ← e2]
    exact_mod_cast hk
theorem copiedR (A : List S65) (hA : A.length ≤ 4) (hg : ∀ x ∈ A, x.f0.length ≤ 64 ∧ x.f1.length ≤ 64) : ∃ k, portcullisref12_Heap_copied.f k (wsM A) (osM A) = some (wsM A, osM A) := by
  have := copiedR_l0 A hA hg A.length 0 (by omega)
  exact this
/-- place, as the document has it. -/
def placeG (A : List S65) (a : Int) : Nat → Nat → Option (Nat × Nat)
  | 0, _ => none
  | d + 1, t => if 1 + (t : Int) * 64 ≤ a ∧ a - (1 + (t : Int) * 64) < (A.getD t z65).f0.length then some (t, (a - (1 + (t : Int) * 64)).toNat) else placeG A a d (t + 1)
def tup (p : Option (Nat × Nat)) : Int × Int × Bool := match p with | some (t, k) => ((t : Int), (k : Int), true) | none => (0, 0, false)
theorem placeR_l0 (A : List S65) (hA : A.length ≤ 4) (a : Int) (ha : a ≤ 9223372036854775807) : ∀ (d t : Nat), t + d = A.length → ∃ k, portcullisref12_Heap_place.l0 k a t (wsM A) (osM A) = some (tup (placeG A a d t)) := by
  intro d
  induction d with
  | zero =>
    intro t h
    refine ⟨1, ?_⟩
    simp only [portcullisref12_Heap_place.l0]
    rw [if_neg (by rw [wsM_len]; omega)]
    rfl
  | succ d ih =>
    intro t h
    obtain ⟨k, hk⟩ := ih (t + 1) (by omega)
    refine ⟨k + 1, ?_⟩
    simp only [portcullisref12_Heap_place.l0, wsM_at, wsM_len]
    rw [if_pos (by omega), wrap_small (x := (t : Int) * 64) (by omega) (by omega), wrap_small (x := 1 + (t : Int) * 64) (by omega) (by omega), wrap_small (x := (t : Int) + 1) (by omega) (by omega)]
    have hk' : portcullisref12_Heap_place.l0 k a ((t : Int) + 1) (wsM A) (osM A) = some (tup (placeG A a d (t + 1))) := by exact_mod_cast hk
    by_cases h1 : 1 + (t : Int) * 64 ≤ a
    · have hw : wrap64 (a - (1 + (t : Int) * 64)) = a - (1 + (t : Int) * 64) := by unfold wrap64; omega
      rw [if_pos h1, if_pos (by omega), hw]
      by_cases h2 : a - (1 + (t : Int) * 64) < (A.getD t z65).f0.length
      · rw [if_pos h2, placeG, if_pos ⟨h1, h2⟩]
        simp only [tup]
        rw [Int.toNat_of_nonneg (by omega)]
      · rw [if_neg h2, placeG, if_neg (by rintro ⟨_, h⟩; exact h2 h)]
        exact hk'
    · rw [if_neg h1, placeG, if_neg (by rintro ⟨h, _⟩; exact h1 h)]
      exact hk'
theorem placeG_is (A : List S65) (hg : ∀ x ∈ A, x.f0.length ≤ 64) (a : Int) : ∀ (d t : Nat), t + d = A.length → placeG A a d t = if 1 + (t : Int) * 64 ≤ a then Heap.place A a else none := by
  have hb : ∀ t : Nat, ((A.getD t z65).f0.length : Int) ≤ 64 := by
    intro t
    rw [List.getD_eq_getElem?_getD]
    rcases Nat.lt_or_ge t A.length with h | h
    · rw [List.getElem?_eq_getElem h]
      have := hg _ (List.getElem_mem h)
      simp
      omega
    · rw [List.getElem?_eq_none h]
      simp [z65]
  intro d
  induction d with
  | zero =>
    intro t h
    rw [placeG]
    split
    · rename_i h1
      unfold Heap.place
      rw [if_neg]
      rintro ⟨h2, h3⟩
      rw [ar_nat _ _ (by omega)] at h3
      rw [List.getD_eq_getElem?_getD, List.getElem?_eq_none (by omega)] at h3
      simp [z65] at h3
      omega
    · rfl
  | succ d ih =>
    intro t h
    rw [placeG, ih (t + 1) (by omega)]
    have hbt := hb t
    by_cases h1 : 1 + (t : Int) * 64 ≤ a
    · rw [if_pos h1]
      by_cases h2 : a - (1 + (t : Int) * 64) < (A.getD t z65).f0.length
      · have e1 : (a - 1) / 64 = t := by omega
        have e2 : (a - 1) % 64 = a - (1 + (t : Int) * 64) := by omega
        rw [if_pos ⟨h1, h2⟩]
        unfold Heap.place
        rw [e1, e2, ar_nat _ _ (by omega), Int.toNat_natCast, if_pos ⟨by omega, h2⟩]
      · rw [if_neg (by rintro ⟨_, h⟩; exact h2 h)]
        by_cases h3 : 1 + ((t + 1 : Nat) : Int) * 64 ≤ a
        · rw [if_pos h3]
        · rw [if_neg h3]
          have e1 : (a - 1) / 64 = t := by omega
          have e2 : (a - 1) % 64 = a - (1 + (t : Int) * 64) := by omega
          unfold Heap.place
          rw [e1, e2, ar_nat _ _ (by omega), Int.toNat_natCast, if_neg (by rintro ⟨_, h⟩; exact h2 h)]
    · rw [if_neg h1, if_neg (by rintro ⟨h, _⟩; exact h1 h), if_neg (by omega)]
theorem placeR (A : List S65) (hA : A.length ≤ 4) (hg : ∀ x ∈ A, x.f0.length ≤ 64) (a : Int) (ha : a ≤ 9223372036854775807) : ∃ k, portcullisref12_Heap_place.f k (wsM A) (osM A) a = some (tup (Heap.place A a)) := by
  obtain ⟨k, hk⟩ := placeR_l0 A hA a ha A.length 0 (by omega)
  refine ⟨k, ?_⟩
  unfold portcullisref12_Heap_place.f
  have e := placeG_is A hg a A.length 0 (by omega)
  rw [e] at hk
  have : (if 1 + ((0 : Nat) : Int) * 64 ≤ a then Heap.place A a else none) = Heap.place A a := by
    split
    · rfl
    · rename_i h
      unfold Heap.place
      rw [if_neg (by rintro ⟨h2, _⟩; omega)]
  rw [this] at hk
  exact hk
theorem loadR (A : List S65) (hA : A.length ≤ 4) (hg : ∀ x ∈ A, x.f0.length ≤ 64) (a : Int) (ha : a ≤ 9223372036854775807) : ∃ k, portcullisref12_Heap_Load.f k (wsM A) (osM A) a = some ((load A a).1.f0, (load A a).1.f1, (load A a).2) := by
  obtain ⟨k, hk⟩ := placeR A hA hg a ha
  refine ⟨k, ?_⟩
  unfold portcullisref12_Heap_Load.f
  rw [hk, Option.bind_some]
  unfold load
  cases hp : Heap.place A a with
  | none => rfl
  | some p =>
    obtain ⟨t, i⟩ := p
    obtain ⟨h1, h2, h3, h4, h5⟩ := place_some hp
    simp only [tup, wsM_at, wsM_len]
    rw [if_pos trivial, if_pos (by omega), if_pos (by omega), if_pos (by omega), if_pos (by omega)]
    rfl
/-! #### Of -/
def findG (os : List S51) (k : Int) : Nat → Nat → Option S51
  | 0, _ => none
  | d + 1, i => if (rd_T51 os (i : Int)).f0 ≤ k ∧ k < (rd_T51 os (i : Int)).f0 + (rd_T51 os (i : Int)).f1 then some (rd_T51 os (i : Int)) else findG os k d (i + 1)
def otup (t : Int) (p : Option S51) : Int × Int × Int × Int × Int × Bool := match p with | some x => (t, x.f0, x.f1, x.f2, x.f3, true) | none => (0, 0, 0, 0, 0, false)
theorem findG_is (os : List S51) (k : Int) : ∀ (d i : Nat), i + d = os.length → findG os k d i = (os.drop i).find? fun o => decide (o.f0 ≤ k) && decide (k < o.f0 + o.f1) := by
  intro d
  induction d with
  | zero =>
    intro i h
    rw [List.drop_of_length_le (by omega)]
    rfl
  | succ d ih =>
    intro i h
    have hi : i < os.length := by omega
    have hr : rd_T51 os (i : Int) = os[i] := by
      unfold rd_T51
      rw [Int.toNat_natCast, List.getD_eq_getElem?_getD, List.getElem?_eq_getElem hi]
      rfl
    rw [findG, ih (i + 1) (by omega), List.drop_eq_getElem_cons hi, List.find?_cons, hr]
    by_cases h1 : os[i].f0 ≤ k ∧ k < os[i].f0 + os[i].f1
    · rw [if_pos h1]
      simp [h1.1, h1.2]
    · rw [if_neg h1]
      have : (decide (os[i].f0 ≤ k) && decide (k < os[i].f0 + os[i].f1)) = false := by
        rw [Bool.eq_false_iff]
        simpa using h1
      rw [this]
theorem ofR_l0 (A : List S65) (t : Nat) (ht : t < A.length) (k : Int) (hl : (A.getD t z65).f1.length ≤ 64)
    (hb : ∀ i : Nat, i < (A.getD t z65).f1.length → 0 ≤ (rd_T51 (A.getD t z65).f1 i).f0 ∧ (rd_T51 (A.getD t z65).f1 i).f0 + (rd_T51 (A.getD t z65).f1 i).f1 ≤ 64 ∧ 0 < (rd_T51 (A.getD t z65).f1 i).f1) :
    ∀ (d i : Nat), i + d = (A.getD t z65).f1.length → ∃ q, portcullisref12_Heap_Of.l0 q t k true i (wsM A) (osM A) = some (otup t (findG (A.getD t z65).f1 k d i)) := by
  intro d
  induction d with
  | zero =>
    intro i h
    refine ⟨2, ?_⟩
    simp only [portcullisref12_Heap_Of.l0, portcullisref12_Heap_Of.j1, osM_at, osM_len]
    rw [if_pos trivial, if_pos (by omega), if_pos (by omega), if_neg (by rw [decide_eq_true_iff]; omega)]
    rfl
  | succ d ih =>
    intro i h
    obtain ⟨q, hq⟩ := ih (i + 1) (by omega)
    obtain ⟨b0, b1, b2⟩ := hb i (by omega)
    have hq' : portcullisref12_Heap_Of.l0 q t k true ((i : Int) + 1) (wsM A) (osM A) = some (otup t (findG (A.getD t z65).f1 k d (i + 1))) := by exact_mod_cast hq
    refine ⟨q + 2, ?_⟩
    simp only [portcullisref12_Heap_Of.l0, portcullisref12_Heap_Of.j1, osM_at, osM_len]
    rw [wrap_small (x := (i : Int) + 1) (by omega) (by omega), wrap_small (x := (rd_T51 (A.getD t z65).f1 (i : Int)).f0 + (rd_T51 (A.getD t z65).f1 (i : Int)).f1) (by omega) (by omega)]
    rw [if_pos trivial, if_pos (by omega), if_pos (by omega), if_pos (by rw [decide_eq_true_iff]; omega), if_pos (by omega), if_pos (by omega), if_pos (by omega), if_pos (by omega)]
    by_cases h1 : (rd_T51 (A.getD t z65).f1 (i : Int)).f0 ≤ k
    · rw [if_pos h1]
      by_cases h2 : k < (rd_T51 (A.getD t z65).f1 (i : Int)).f0 + (rd_T51 (A.getD t z65).f1 (i : Int)).f1
      · rw [if_pos h2, findG, if_pos ⟨h1, h2⟩]
        rfl
      · rw [if_neg h2, findG, if_neg (by rintro ⟨_, h⟩; exact h2 h)]
        exact hq'
    · rw [if_neg h1, findG, if_neg (by rintro ⟨h, _⟩; exact h1 h)]
      exact hq'
theorem ofR_no (A : List S65) : ∃ q, portcullisref12_Heap_Of.l0 q 0 0 false 0 (wsM A) (osM A) = some (0, 0, 0, 0, 0, false) := by
  refine ⟨2, ?_⟩
  simp only [portcullisref12_Heap_Of.l0, portcullisref12_Heap_Of.j1]
  rfl
theorem contig_any {os : List S51} : ∀ {a n : Int}, Contig a os n → ∀ k, a ≤ k → k < n → ∃ x ∈ os, x.f0 ≤ k ∧ k < x.f0 + x.f1 := by
  induction os with
  | nil => intro a n h k h1 h2; simp [Contig] at h; omega
  | cons o os ih =>
    intro a n h k h1 h2
    obtain ⟨h3, h4, h5⟩ := h
    by_cases hk : k < o.f0 + o.f1
    · exact ⟨o, by simp, by omega, hk⟩
    · obtain ⟨x, hx, h6⟩ := ih h5 k (by omega) h2
      exact ⟨x, by simp [hx], h6⟩
theorem ofR (A : List S65) (hA : A.length ≤ 4) (hg : ∀ x ∈ A, GoodAr x) (a : Int) (ha : a ≤ 9223372036854775807) :
    ∃ k, portcullisref12_Heap_Of.f k (wsM A) (osM A) a = some ((objOf A a).1, (objOf A a).2.1.f0, (objOf A a).2.1.f1, (objOf A a).2.1.f2, (objOf A a).2.1.f3, (objOf A a).2.2) := by
  obtain ⟨k, hk⟩ := placeR A hA (fun x hx => (hg x hx).1) a ha
  have key : ∃ q, portcullisref12_Heap_Of.l0 q (tup (Heap.place A a)).1 (tup (Heap.place A a)).2.1 (tup (Heap.place A a)).2.2 0 (wsM A) (osM A) = some ((objOf A a).1, (objOf A a).2.1.f0, (objOf A a).2.1.f1, (objOf A a).2.1.f2, (objOf A a).2.1.f3, (objOf A a).2.2) := by
    unfold objOf
    cases hp : Heap.place A a with
    | none => exact ofR_no A
    | some p =>
      obtain ⟨t, i⟩ := p
      obtain ⟨h1, h2, h3, h4, h5⟩ := place_some hp
      have hx : A.getD t z65 ∈ A := by
        rw [List.getD_eq_getElem?_getD, List.getElem?_eq_getElem h4]
        exact List.getElem_mem h4
      obtain ⟨g1, g2⟩ := hg _ hx
      have hcl := contig_len g2
      obtain ⟨q, hq⟩ := ofR_l0 A t h4 i (by omega) (fun j hj => by
        have := contig_rise g2 j hj
        omega) _ 0 (Nat.zero_add _)
      refine ⟨q, ?_⟩
      rw [findG_is _ _ _ 0 (Nat.zero_add _), List.drop_zero] at hq
      obtain ⟨x, hx1, hx2⟩ := contig_any g2 (i : Int) (by omega) (by omega)
      simp only [tup]
      refine Eq.trans (by exact_mod_cast hq) ?_
      unfold objAt
      cases hf : (A.getD t z65).f1.find? (fun o => decide (o.f0 ≤ (i : Int)) && decide ((i : Int) < o.f0 + o.f1)) with
      | none =>
        have := List.find?_eq_none.1 hf x hx1
        simp [hx2.1, hx2.2] at this
      | some y => rfl
  obtain ⟨q, hq⟩ := key
  refine ⟨k + q, ?_⟩
  unfold portcullisref12_Heap_Of.f
  have h1 : portcullisref12_Heap_place.f (k + q) (wsM A) (osM A) a = some (tup (Heap.place A a)) := by
    have : ∀ d, portcullisref12_Heap_place.f (k + d) (wsM A) (osM A) a = some (tup (Heap.place A a)) := fun d => by
      induction d with
      | zero => exact hk
      | succ d ih => exact portcullisref12_Heap_place.mono _ _ _ _ _ ih
    exact this q
  rw [h1, Option.bind_some]
  have : ∀ d, portcullisref12_Heap_Of.l0 (q + d) (tup (Heap.place A a)).1 (tup (Heap.place A a)).2.1 (tup (Heap.place A a)).2.2 0 (wsM A) (osM A) = some ((objOf A a).1, (objOf A a).2.1.f0, (objOf A a).2.1.f1, (objOf A a).2.1.f2, (objOf A a).2.1.f3, (objOf A a).2.2) := fun d => by
    induction d with
    | zero => exact hq
    | succ d ih => exact (portcullisref12_Heap_Of.mono_l (q + d)).1 _ _ _ _ _ _ _ ih
  have := this k
  rwa [Nat.add_comm] at this
theorem sameWR (xs : List S46) (hl : xs.length ≤ 1000) : ∃ k, portcullisref12_SameWords.f k xs xs = some true := by
  have : ∀ (d i : Nat), i + d = xs.length → ∃ k, portcullisref12_SameWords.l0 k xs xs i = some true := by
    intro d
    induction d with
    | zero =>
      intro i h
      refine ⟨1, ?_⟩
      simp only [portcullisref12_SameWords.l0]
      rw [if_neg (by omega)]
    | succ d ih =>
      intro i h
      obtain ⟨k, hk⟩ := ih (i + 1) (by omega)
      refine ⟨k + 1, ?_⟩
      simp only [portcullisref12_SameWords.l0]
      rw [if_pos (by omega), if_pos (by omega), if_pos (by omega), wrap_small (by omega) (by omega), if_neg (by simp)]
      exact_mod_cast hk
  obtain ⟨k, hk⟩ := this xs.length 0 (by omega)
  exact ⟨k, by unfold portcullisref12_SameWords.f; rw [if_pos rfl]; exact hk⟩
theorem sameOR (xs : List S51) (hl : xs.length ≤ 1000) : ∃ k, portcullisref12_SameObjects.f k xs xs = some true := by
  have : ∀ (d i : Nat), i + d = xs.length → ∃ k, portcullisref12_SameObjects.l0 k xs xs i = some true := by
    intro d
    induction d with
    | zero =>
      intro i h
      refine ⟨1, ?_⟩
      simp only [portcullisref12_SameObjects.l0]
      rw [if_neg (by omega)]
    | succ d ih =>
      intro i h
      obtain ⟨k, hk⟩ := ih (i + 1) (by omega)
      refine ⟨k + 1, ?_⟩
      simp only [portcullisref12_SameObjects.l0]
      rw [if_pos (by omega), if_pos (by omega), if_pos (by omega), wrap_small (by omega) (by omega), if_neg (by simp)]
      exact_mod_cast hk
  obtain ⟨k, hk⟩ := this xs.length 0 (by omega)
  exact ⟨k, by unfold portcullisref12_SameObjects.f; rw [if_pos rfl]; exact hk⟩
end Go.Proofs.Ytogjcogejfidbaa.Heap
