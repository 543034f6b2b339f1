import Derived.Test.YthkndoglmajehaaDoorE
namespace Go.Proofs.YthkndoglmajehaaDoor.Lex
open Go.Proofs.YthkndoglmajehaaDoor.PLexTokens
set_option linter.unusedVariables false
set_option linter.unusedSimpArgs false

/-! ### What a token hangs on -/
theorem takeWhile_take {p : UInt8 → Bool} (l : List UInt8) (m : Nat) (h : (l.takeWhile p).length ≤ m) : (l.take m).takeWhile p = l.takeWhile p := by
  induction l generalizing m with
  | nil => simp
  | cons c l ih =>
    by_cases hc : p c = true
    · rw [List.takeWhile_cons_of_pos hc] at h ⊢
      rw [List.length_cons] at h
      obtain ⟨m, rfl⟩ : ∃ k, m = k + 1 := ⟨m - 1, by omega⟩
      rw [List.take_succ_cons, List.takeWhile_cons_of_pos hc, ih m (by omega)]
    · rw [List.takeWhile_cons_of_neg hc]
      cases m with
      | zero => rfl
      | succ m => rw [List.take_succ_cons, List.takeWhile_cons_of_neg hc]
theorem takeWhile_app {p : UInt8 → Bool} (l r : List UInt8) (c : UInt8) (h : p c = false) : (l ++ c :: r).takeWhile p = l.takeWhile p := by
  induction l with
  | nil => rw [List.nil_append, List.takeWhile_cons_of_neg (by rw [h]; decide)]; rfl
  | cons d l ih =>
    rw [List.cons_append]
    by_cases hd : p d = true
    · rw [List.takeWhile_cons_of_pos hd, List.takeWhile_cons_of_pos hd, ih]
    · rw [List.takeWhile_cons_of_neg hd, List.takeWhile_cons_of_neg hd]
theorem isTwo_cons (c : UInt8) (t : List UInt8) : isTwo (c :: t) = match t with
    | [] => false
    | d :: _ => (c == 60 && d == 61) || ((c == 61 && d == 61) || (c == 33 && d == 61)) := by
  unfold isTwo twos Lib.hasPrefix
  have hb : ∀ a b : UInt8, (a == b) = (b == a) := fun a b => by rw [Bool.eq_iff_iff, beq_iff_eq, beq_iff_eq]; exact eq_comm
  cases t with
  | nil => simp [List.isPrefixOf]
  | cons d u =>
    simp only [List.any_cons, List.any_nil, List.isPrefixOf, Bool.or_false, Bool.and_true]
    rw [hb 60 c, hb 61 d, hb 61 c, hb 33 c]
/-- The text behind a token's end may be cut away. -/
theorem cut_take (c : UInt8) (t : List UInt8) (m : Nat) (hk : (cutM (c :: t)).1 ≠ 0) (hm : (cutM (c :: t)).2 ≤ m) : cutM ((c :: t).take m) = cutM (c :: t) := by
  have h1 := (cut_len c t).2.1 hk
  obtain ⟨m, rfl⟩ : ∃ k, m = k + 1 := ⟨m - 1, by omega⟩
  rw [List.take_succ_cons]
  simp only [cutM] at hk hm ⊢
  by_cases hl : isLet c = true
  · rw [if_pos hl] at hm ⊢
    rw [if_pos hl]
    dsimp only at hm
    have e1 : (c :: t.take m).takeWhile isInner = (c :: t).takeWhile isInner := by
      have := takeWhile_take (p := isInner) (c :: t) (m + 1) hm
      rwa [List.take_succ_cons] at this
    have e2 : (c :: t.take m).take ((c :: t).takeWhile isInner).length = (c :: t).take ((c :: t).takeWhile isInner).length := by
      have : c :: t.take m = (c :: t).take (m + 1) := rfl
      rw [this, List.take_take, Nat.min_eq_left hm]
    rw [e1, e2]
  · rw [if_neg hl] at hk hm ⊢
    rw [if_neg hl]
    by_cases hd : isDig c = true
    · rw [if_pos hd] at hm ⊢
      rw [if_pos hd]
      dsimp only at hm
      have e1 : (c :: t.take m).takeWhile isDig = (c :: t).takeWhile isDig := by
        have := takeWhile_take (p := isDig) (c :: t) (m + 1) hm
        rwa [List.take_succ_cons] at this
      rw [e1]
    · rw [if_neg hd] at hk hm ⊢
      rw [if_neg hd]
      by_cases h2 : isTwo (c :: t) = true
      · rw [if_pos h2] at hm ⊢
        dsimp only at hm
        have : isTwo (c :: t.take m) = true := by
          rw [isTwo_cons] at h2 ⊢
          obtain ⟨m, rfl⟩ : ∃ k, m = k + 1 := ⟨m - 1, by omega⟩
          cases t with
          | nil => exact h2
          | cons d u => exact h2
        rw [if_pos this]
      · rw [if_neg h2] at hk hm ⊢
        have : ¬ isTwo (c :: t.take m) = true := by
          rw [isTwo_cons] at h2 ⊢
          cases t with
          | nil => simp
          | cons d u =>
            cases m with
            | zero => simp
            | succ m => exact h2
        rw [if_neg this]
/-- A blank behind a text makes no difference to its first token. -/
theorem cut_app (c : UInt8) (t r : List UInt8) : cutM ((c :: t) ++ 32 :: r) = cutM (c :: t) := by
  rw [List.cons_append]
  have ha : ∀ p : UInt8 → Bool, p 32 = false → (c :: (t ++ 32 :: r)).takeWhile p = (c :: t).takeWhile p := fun p hp => takeWhile_app (c :: t) r 32 hp
  have h2 : isTwo (c :: (t ++ 32 :: r)) = isTwo (c :: t) := by
    rw [isTwo_cons, isTwo_cons]
    cases t with
    | nil => show ((c == 60 && (32 : UInt8) == 61) || ((c == 61 && (32 : UInt8) == 61) || (c == 33 && (32 : UInt8) == 61))) = false; simp
    | cons d u => rfl
  simp only [cutM]
  rw [ha isInner (by decide), ha isDig (by decide), h2]
  have : (c :: (t ++ 32 :: r)).take ((c :: t).takeWhile isInner).length = (c :: t).take ((c :: t).takeWhile isInner).length := by
    have h3 := (List.takeWhile_prefix (l := c :: t) isInner).length_le
    have h4 : c :: (t ++ 32 :: r) = (c :: t) ++ 32 :: r := rfl
    rw [h4, List.take_append_of_le_length h3]
  rw [this]
/-- No blank is in a token. -/
theorem cut_clean (c : UInt8) (t : List UInt8) (hk : (cutM (c :: t)).1 ≠ 0) : ∀ x ∈ (c :: t).take (cutM (c :: t)).2, 32 < x.toNat := by
  have tw : ∀ p : UInt8 → Bool, (∀ x, p x = true → 32 < x.toNat) → ∀ x ∈ (c :: t).take ((c :: t).takeWhile p).length, 32 < x.toNat := by
    intro p hp x hx
    have : (c :: t).take ((c :: t).takeWhile p).length = (c :: t).takeWhile p := (List.prefix_iff_eq_take.1 (List.takeWhile_prefix p)).symm
    rw [this] at hx
    have all : ∀ (l : List UInt8) x, x ∈ l.takeWhile p → p x = true := by
      intro l
      induction l with
      | nil => intro x h; cases h
      | cons c l ih =>
        intro x h
        by_cases hc : p c = true
        · rw [List.takeWhile_cons_of_pos hc] at h
          rcases List.mem_cons.1 h with rfl | h
          · exact hc
          · exact ih x h
        · rw [List.takeWhile_cons_of_neg hc] at h; cases h
    exact hp x (all _ x hx)
  have hin : ∀ x, isInner x = true → 32 < x.toNat := by
    have : ∀ x : UInt8, isInner x = true → 32 < x.toNat := fun x => byte_all (P := fun x => isInner x = true → 32 < x.toNat) (by decide +kernel) x
    exact this
  have hdg : ∀ x, isDig x = true → 32 < x.toNat := fun x h => hin x (dig_inner x h)
  have hsg : ∀ x : UInt8, isSign x = true → 32 < x.toNat := fun x => byte_all (P := fun x => isSign x = true → 32 < x.toNat) (by decide +kernel) x
  simp only [cutM] at hk ⊢
  by_cases hl : isLet c = true
  · rw [if_pos hl]
    exact tw isInner hin
  · rw [if_neg hl] at hk ⊢
    by_cases hd : isDig c = true
    · rw [if_pos hd]
      exact tw isDig hdg
    · rw [if_neg hd] at hk ⊢
      by_cases h2 : isTwo (c :: t) = true
      · rw [if_pos h2]
        rw [isTwo_cons] at h2
        cases t with
        | nil => cases h2
        | cons d u =>
          intro x hx
          have hx2 : x = c ∨ x = d := by simpa using hx
          simp only [Bool.or_eq_true, Bool.and_eq_true, beq_iff_eq] at h2
          rcases h2 with ⟨rfl, rfl⟩ | ⟨rfl, rfl⟩ | ⟨rfl, rfl⟩ <;> rcases hx2 with rfl | rfl <;> decide
      · rw [if_neg h2] at hk ⊢
        by_cases h3 : isSign c = true
        · rw [if_pos h3]
          intro x hx
          have hx2 : x = c := by simpa using hx
          rw [hx2]
          exact hsg c h3
        · rw [if_neg h3] at hk
          exact absurd rfl hk
end Go.Proofs.YthkndoglmajehaaDoor.Lex
