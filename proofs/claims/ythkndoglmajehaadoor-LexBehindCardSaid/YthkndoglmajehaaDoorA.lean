import Derived.Test.YthkndoglmajehaaDoorPLexTokensx0
import Derived.Lib.SlTrimSet
import Derived.Lib.Bytealg
import Derived.Lib.Index
import Derived.Lib.IndexMore
import Derived.Lib.Strings
namespace Go.Proofs.YthkndoglmajehaaDoor.Lex
open Go.Proofs.YthkndoglmajehaaDoor.PLexTokens
set_option linter.unusedVariables false
set_option linter.unusedSimpArgs false

/-! ### Bytes -/
def isLet (c : UInt8) : Bool := decide (97 ≤ c.toNat) && decide (c.toNat ≤ 122)
def isDig (c : UInt8) : Bool := decide (48 ≤ c.toNat) && decide (c.toNat ≤ 57)
def isInner (c : UInt8) : Bool := isLet c || isDig c || c == 95
def isSp (c : UInt8) : Bool := c == 32 || c == 10
def letters : List UInt8 := [97, 98, 99, 100, 101, 102, 103, 104, 105, 106, 107, 108, 109, 110, 111, 112, 113, 114, 115, 116, 117, 118, 119, 120, 121, 122]
def figures : List UInt8 := [48, 49, 50, 51, 52, 53, 54, 55, 56, 57]
def inners : List UInt8 := letters ++ figures ++ [95]
def signs : List UInt8 := [123, 125, 40, 41, 91, 93, 44, 59, 46, 58, 61, 43, 45, 42, 47, 37, 60, 33, 38, 124]
def isSign (c : UInt8) : Bool := signs.contains c
def wordsL : List (List UInt8) := [[98, 111, 111, 108], [99, 97, 108, 108], [99, 104, 97, 110], [101, 108, 115, 101], [102, 97, 108, 115, 101], [102, 117, 110, 99], [105, 102], [105, 110, 112, 117, 116], [105, 110, 116], [108, 101, 110], [108, 111, 99, 107], [109, 97, 107, 101], [110, 101, 119], [110, 105, 108], [111, 117, 116], [114, 101, 99, 118], [114, 101, 108, 101, 97, 115, 101], [114, 101, 116, 117, 114, 110], [115, 101, 110, 100], [115, 101, 116], [115, 105, 110, 107], [115, 116, 114, 117, 99, 116], [116, 104, 114, 101, 97, 100], [116, 114, 117, 101], [117, 110, 108, 111, 99, 107], [118, 97, 114], [119, 104, 105, 108, 101]]
theorem byte_all {P : UInt8 → Prop} (h : ∀ n : Fin 256, P (UInt8.ofNat n.val)) (c : UInt8) : P c := by
  have := h ⟨c.toNat, c.toNat_lt⟩
  simpa using this
theorem letters_is (c : UInt8) : letters.contains c = isLet c := byte_all (P := fun c => letters.contains c = isLet c) (by decide +kernel) c
theorem figures_is (c : UInt8) : figures.contains c = isDig c := byte_all (P := fun c => figures.contains c = isDig c) (by decide +kernel) c
theorem inners_is (c : UInt8) : inners.contains c = isInner c := byte_all (P := fun c => inners.contains c = isInner c) (by decide +kernel) c
theorem spaces_is (c : UInt8) : ([32, 10] : List UInt8).contains c = isSp c := byte_all (P := fun c => ([32, 10] : List UInt8).contains c = isSp c) (by decide +kernel) c
theorem let_inner (c : UInt8) (h : isLet c = true) : isInner c = true := by unfold isInner; rw [h]; rfl
theorem dig_inner (c : UInt8) (h : isDig c = true) : isInner c = true := by unfold isInner; rw [h]; simp

/-! ### What indexByte says -/
theorem indexByte_has (l : List UInt8) (c : UInt8) : decide (0 ≤ Lib.indexByte l c) = l.contains c := by
  induction l with
  | nil => rfl
  | cons b l ih =>
    unfold Lib.indexByte
    have hc : (b :: l).contains c = ((b == c) || l.contains c) := by
      simp only [List.contains, List.elem]
      rw [show (c == b) = (b == c) from by rw [Bool.eq_iff_iff]; simp only [beq_iff_eq]; exact eq_comm]
      cases (b == c) <;> rfl
    rw [hc]
    have hlo : -1 ≤ Lib.indexByte l c := by
      clear ih hc
      induction l with
      | nil => unfold Lib.indexByte; omega
      | cons b l ih => unfold Lib.indexByte; split <;> (try split) <;> omega
    by_cases h : (b == c) = true
    · rw [if_pos h, h]; rfl
    · rw [if_neg h, Bool.eq_false_iff.2 h, Bool.false_or, ← ih]
      by_cases h2 : (Lib.indexByte l c == -1) = true
      · rw [if_pos h2]
        have := beq_iff_eq.1 h2
        rw [this]
      · rw [if_neg h2]
        have h3 : Lib.indexByte l c ≠ -1 := fun e => h2 (beq_iff_eq.2 e)
        by_cases h4 : 0 ≤ Lib.indexByte l c
        · have : 0 ≤ Lib.indexByte l c + 1 := by omega
          simp [h4, this]
        · omega

/-! ### Trim -/
theorem takeWhile_len_drop {p : UInt8 → Bool} (l : List UInt8) : (l.takeWhile p).length + (l.dropWhile p).length = l.length := by
  rw [← List.length_append, List.takeWhile_append_dropWhile]
theorem trimLeft_len (l cs : List UInt8) (p : UInt8 → Bool) (h : ∀ c, cs.contains c = p c) : (l.length : Int) - ((Lib.trimLeftS l cs).length : Int) = ((l.takeWhile p).length : Int) := by
  unfold Lib.trimLeftS
  rw [show (fun x => cs.contains x) = p from funext h]
  have := takeWhile_len_drop (p := p) l
  omega
theorem dropWhile_nil {p : UInt8 → Bool} (l : List UInt8) : l.dropWhile p = [] ↔ l.all p = true := by
  induction l with
  | nil => simp
  | cons c l ih =>
    rw [List.dropWhile_cons]
    by_cases h : p c = true
    · rw [if_pos h, ih]; simp [h]
    · rw [if_neg h]; simp [h]
theorem trim_nil (l cs : List UInt8) (p : UInt8 → Bool) (h : ∀ c, cs.contains c = p c) : Lib.trimS l cs = [] ↔ l.all p = true := by
  unfold Lib.trimS Lib.trimLeftS Lib.trimRightS
  rw [show (fun x => cs.contains x) = p from funext h, dropWhile_nil, List.all_reverse]
  constructor
  · intro h1
    have h2 : (l.reverse.dropWhile p).all p = true := h1
    have h3 : l.reverse.dropWhile p = [] := by
      cases he : l.reverse.dropWhile p with
      | nil => rfl
      | cons b t =>
        have := List.head_dropWhile_not (p := p) (l := l.reverse) (by rw [he]; simp)
        rw [he] at h2
        simp [he] at this h2
        rw [h2.1] at this
        cases this
    have := (dropWhile_nil _).1 h3
    rwa [List.all_reverse] at this
  · intro h1
    have h3 : l.reverse.dropWhile p = [] := (dropWhile_nil _).2 (by rw [List.all_reverse]; exact h1)
    rw [h3]; rfl

/-! ### A word among words -/
theorem index_infix (l sub : List UInt8) : Lib.contains l sub = true ↔ sub <:+: l := by
  unfold Lib.contains
  rw [decide_eq_true_iff]
  induction l with
  | nil =>
    unfold Lib.index
    cases sub with
    | nil => simp
    | cons b t => simp
  | cons b l ih =>
    unfold Lib.index
    by_cases h : sub.isPrefixOf (b :: l) = true
    · rw [if_pos h]
      have := List.isPrefixOf_iff_prefix.1 h
      exact ⟨fun _ => this.isInfix, fun _ => Int.le_refl 0⟩
    · rw [if_neg h]
      have hn : ¬ sub <+: (b :: l) := fun e => h (List.isPrefixOf_iff_prefix.2 e)
      rw [List.infix_cons_iff]
      have hlo : -1 ≤ Lib.index l sub := by
        clear ih h hn
        induction l with
        | nil => unfold Lib.index; split <;> omega
        | cons b l ih => unfold Lib.index; split <;> (try split) <;> omega
      by_cases h2 : (Lib.index l sub == -1) = true
      · rw [if_pos h2]
        have := beq_iff_eq.1 h2
        rw [this] at ih
        constructor
        · intro h; omega
        · rintro (h | h)
          · exact absurd h hn
          · have := ih.2 h; omega
      · rw [if_neg h2]
        have h3 : Lib.index l sub ≠ -1 := fun e => h2 (beq_iff_eq.2 e)
        constructor
        · intro h; exact .inr (ih.1 (by omega))
        · rintro (h | h)
          · exact absurd h hn
          · have := ih.2 h; omega
/-- Words, each with a blank ahead, and one behind the last. -/
def spaced : List (List UInt8) → List UInt8
  | [] => [32]
  | x :: xs => 32 :: x ++ spaced xs
theorem pre_word {s x r : List UInt8} (hs : ∀ c ∈ s, c ≠ 32) (hx : ∀ c ∈ x, c ≠ 32) : s ++ [32] <+: x ++ 32 :: r ↔ s = x := by
  induction s generalizing x with
  | nil =>
    cases x with
    | nil => simp
    | cons b t =>
      constructor
      · intro h
        have := (List.cons_prefix_cons.1 (show (32 : UInt8) :: [] <+: b :: (t ++ 32 :: r) from h)).1
        exact absurd this.symm (hx b (by simp))
      · intro h; cases h
  | cons a s ih =>
    cases x with
    | nil =>
      constructor
      · intro h
        have := (List.cons_prefix_cons.1 (show a :: (s ++ [32]) <+: 32 :: r from h)).1
        exact absurd this (hs a (by simp))
      · intro h; cases h
    | cons b t =>
      rw [List.cons_append, List.cons_append, List.cons_prefix_cons, ih (fun c h => hs c (by simp [h])) (fun c h => hx c (by simp [h]))]
      constructor
      · rintro ⟨rfl, rfl⟩; rfl
      · intro h; cases h; exact ⟨rfl, rfl⟩
theorem spaced_cons (xs : List (List UInt8)) : ∃ r, spaced xs = 32 :: r := by cases xs <;> exact ⟨_, rfl⟩
theorem skip_word {s x r : List UInt8} (hx : ∀ c ∈ x, c ≠ 32) : 32 :: s <:+: x ++ r ↔ 32 :: s <:+: r := by
  induction x with
  | nil => rfl
  | cons b t ih =>
    rw [List.cons_append, List.infix_cons_iff, ih (fun c h => hx c (by simp [h]))]
    constructor
    · rintro (h | h)
      · exact absurd (List.cons_prefix_cons.1 h).1.symm (hx b (by simp))
      · exact h
    · exact .inr
theorem spaced_has {s : List UInt8} (hs : ∀ c ∈ s, c ≠ 32) (h0 : s ≠ []) : ∀ xs : List (List UInt8), (∀ x ∈ xs, ∀ c ∈ x, c ≠ 32) → (32 :: (s ++ [32]) <:+: spaced xs ↔ s ∈ xs) := by
  intro xs
  induction xs with
  | nil =>
    intro _
    unfold spaced
    constructor
    · intro h
      have := h.length_le
      simp at this
    · intro h; cases h
  | cons x xs ih =>
    intro hx
    obtain ⟨r, hr⟩ := spaced_cons xs
    have hx1 := hx x (by simp)
    unfold spaced
    rw [List.cons_append, List.infix_cons_iff, skip_word hx1, ih (fun y hy => hx y (by simp [hy])), List.cons_prefix_cons, hr, pre_word hs hx1]
    simp
theorem words_spaced : spaced wordsL = ([32, 98, 111, 111, 108, 32, 99, 97, 108, 108, 32, 99, 104, 97, 110, 32, 101, 108, 115, 101, 32, 102, 97, 108, 115, 101, 32, 102, 117, 110, 99, 32, 105, 102, 32, 105, 110, 112, 117, 116, 32, 105, 110, 116, 32, 108, 101, 110, 32, 108, 111, 99, 107, 32, 109, 97, 107, 101, 32, 110, 101, 119, 32, 110, 105, 108, 32, 111, 117, 116, 32, 114, 101, 99, 118, 32, 114, 101, 108, 101, 97, 115, 101, 32, 114, 101, 116, 117, 114, 110, 32, 115, 101, 110, 100, 32, 115, 101, 116, 32, 115, 105, 110, 107, 32, 115, 116, 114, 117, 99, 116, 32, 116, 104, 114, 101, 97, 100, 32, 116, 114, 117, 101, 32, 117, 110, 108, 111, 99, 107, 32, 118, 97, 114, 32, 119, 104, 105, 108, 101, 32] : List UInt8) := by decide +kernel
def isWord (l : List UInt8) : Bool := wordsL.contains l
theorem word_ne (x : List UInt8) (h : x ∈ wordsL) : x ≠ [] ∧ x.all isLet = true := by
  have : ∀ x ∈ wordsL, x ≠ [] ∧ x.all isLet = true := by decide +kernel
  exact this x h
theorem all_ne {l : List UInt8} (h : l.all isLet = true) : ∀ c ∈ l, c ≠ 32 := by
  intro c hc e
  subst e
  have := List.all_eq_true.1 h _ hc
  exact absurd this (by decide)
/-- What the program's Word asks is: is it one of the words. -/
theorem word_is (l : List UInt8) : (decide (l ≠ []) && (decide (Lib.trimS l letters = []) && Lib.contains (spaced wordsL) (32 :: (l ++ [32])))) = isWord l := by
  rw [Bool.eq_iff_iff]
  unfold isWord
  simp only [Bool.and_eq_true, decide_eq_true_eq, List.contains_iff_mem]
  rw [trim_nil l letters isLet letters_is, index_infix]
  constructor
  · rintro ⟨h0, h1, h2⟩
    exact (spaced_has (all_ne h1) h0 wordsL (fun x hx => all_ne (word_ne x hx).2)).1 h2
  · intro h
    have := word_ne l h
    exact ⟨this.1, this.2, (spaced_has (all_ne this.2) this.1 wordsL (fun x hx => all_ne (word_ne x hx).2)).2 h⟩
end Go.Proofs.YthkndoglmajehaaDoor.Lex
