import Derived.Test.YthkndoglmajehaaDoorD
namespace Go.Proofs.YthkndoglmajehaaDoor.Lex
open Go.RowKit Go.Proofs.YthkndoglmajehaaDoorW.PrintWords Go.Proofs.YthkndoglmajehaaDoorW.PrintLast Go.Proofs.YthkndoglmajehaaDoorW.PrintMore Go.Proofs.YthkndoglmajehaaDoor.PLexTokens
set_option linter.unusedVariables false
set_option linter.unusedSimpArgs false

/-! ### The tokens of a text -/
inductive R where
  | bad (at_ : Nat) (e : Int)
  | ok (ts : List S31)
def R.push (t : S31) : R → R
  | .bad a e => .bad a e
  | .ok ts => .ok (t :: ts)
def tokAt (l : List UInt8) (at_ : Nat) : S31 := ⟨(cutM l).1, str (l.take (cutM l).2), at_⟩
def errAt (l : List UInt8) (ahead : Nat) : Int := wrongM (cutM l).1 (l.take (cutM l).2) ahead
def runK : Nat → List UInt8 → Nat → Nat → R
  | 0, _, _, _ => .ok []
  | _ + 1, [], _, _ => .ok []
  | k + 1, c :: t, at_, ahead => if isSp c then runK k t (at_ + 1) ahead
      else if errAt (c :: t) ahead = 0 then (runK k (t.drop ((cutM (c :: t)).2 - 1)) (at_ + (cutM (c :: t)).2) (ahead + 1)).push (tokAt (c :: t) at_)
      else .bad at_ (errAt (c :: t) ahead)
def run (l : List UInt8) (at_ ahead : Nat) : R := runK l.length l at_ ahead
theorem runK_run (n : Nat) : ∀ (l : List UInt8), l.length ≤ n → ∀ k at_ ahead, l.length ≤ k → runK k l at_ ahead = runK l.length l at_ ahead := by
  induction n with
  | zero =>
    intro l hl k at_ ahead hk
    obtain rfl : l = [] := List.length_eq_zero_iff.1 (by omega)
    cases k <;> rfl
  | succ n ih =>
    intro l hl k at_ ahead hk
    cases l with
    | nil => cases k <;> rfl
    | cons c t =>
      rw [List.length_cons] at hl hk
      obtain ⟨k, rfl⟩ : ∃ m, k = m + 1 := ⟨k - 1, by omega⟩
      rw [List.length_cons]
      simp only [runK]
      have h1 := ih t (by omega) k (at_ + 1) ahead (by omega)
      have hd : (t.drop ((cutM (c :: t)).2 - 1)).length ≤ t.length := by rw [List.length_drop]; omega
      have h2 := ih (t.drop ((cutM (c :: t)).2 - 1)) (by omega) k (at_ + (cutM (c :: t)).2) (ahead + 1) (by omega)
      have h3 := ih (t.drop ((cutM (c :: t)).2 - 1)) (by omega) t.length (at_ + (cutM (c :: t)).2) (ahead + 1) (by omega)
      rw [h1, h2, h3]
theorem run_nil (at_ ahead : Nat) : run [] at_ ahead = .ok [] := rfl
theorem run_sp (c : UInt8) (t : List UInt8) (at_ ahead : Nat) (h : isSp c = true) : run (c :: t) at_ ahead = run t (at_ + 1) ahead := by
  unfold run
  rw [List.length_cons]
  simp only [runK]
  rw [if_pos h]
theorem cut_hi (l : List UInt8) : (cutM l).2 ≤ l.length ∨ ((cutM l).1 = 3 ∧ (cutM l).2 ≤ 2) := by
  cases l with
  | nil => exact .inl (Nat.le_refl _)
  | cons c t =>
    simp only [cutM]
    split
    · exact .inl (List.takeWhile_prefix _).length_le
    · split
      · exact .inl (List.takeWhile_prefix _).length_le
      · split
        · exact .inr ⟨rfl, Nat.le_refl _⟩
        · split
          · exact .inr ⟨rfl, by omega⟩
          · exact .inl (Nat.zero_le _)
theorem two_len {l : List UInt8} (h : isTwo l = true) : 2 ≤ l.length := by
  unfold isTwo twos at h
  rw [List.any_eq_true] at h
  obtain ⟨t, ht, h2⟩ := h
  have h3 := (List.isPrefixOf_iff_prefix.1 h2).length_le
  simp at ht
  rcases ht with rfl | rfl | rfl <;> exact h3
/-- A token is no longer than the text, and of one byte at least. -/
theorem cut_len (c : UInt8) (t : List UInt8) : (cutM (c :: t)).2 ≤ t.length + 1 ∧ ((cutM (c :: t)).1 ≠ 0 → 1 ≤ (cutM (c :: t)).2) ∧ ((cutM (c :: t)).1 = 0 ∨ (cutM (c :: t)).1 = 1 ∨ (cutM (c :: t)).1 = 2 ∨ (cutM (c :: t)).1 = 3 ∨ (cutM (c :: t)).1 = 4) := by
  simp only [cutM]
  split
  · rename_i h
    refine ⟨(List.takeWhile_prefix _).length_le, fun _ => ?_, ?_⟩
    · rw [List.takeWhile_cons_of_pos (let_inner c h)]; simp
    · dsimp only; split <;> simp
  · split
    · rename_i h
      refine ⟨(List.takeWhile_prefix _).length_le, fun _ => ?_, by simp⟩
      rw [List.takeWhile_cons_of_pos h]; simp
    · split
      · rename_i h
        exact ⟨two_len h, fun _ => by dsimp only; omega, by simp⟩
      · split
        · exact ⟨by dsimp only; omega, fun _ => by dsimp only; omega, by simp⟩
        · exact ⟨by dsimp only; omega, fun h => absurd rfl h, by simp⟩
theorem err_kind {l : List UInt8} {ahead : Nat} (h : errAt l ahead = 0) : (cutM l).1 ≠ 0 := by
  intro e
  unfold errAt wrongM at h
  rw [e, if_pos rfl] at h
  cases h
theorem run_tok (c : UInt8) (t : List UInt8) (at_ ahead : Nat) (h : isSp c = false) (he : errAt (c :: t) ahead = 0) :
    run (c :: t) at_ ahead = (run ((c :: t).drop (cutM (c :: t)).2) (at_ + (cutM (c :: t)).2) (ahead + 1)).push (tokAt (c :: t) at_) := by
  have h1 := (cut_len c t).2.1 (err_kind he)
  have hd : (c :: t).drop (cutM (c :: t)).2 = t.drop ((cutM (c :: t)).2 - 1) := by
    obtain ⟨n, hn⟩ : ∃ n, (cutM (c :: t)).2 = n + 1 := ⟨(cutM (c :: t)).2 - 1, by omega⟩
    rw [hn]; rfl
  rw [hd]
  unfold run
  rw [List.length_cons]
  simp only [runK]
  rw [h, if_neg (by decide), if_pos he]
  have hl : (t.drop ((cutM (c :: t)).2 - 1)).length ≤ t.length := by rw [List.length_drop]; omega
  rw [runK_run t.length _ hl t.length _ _ hl]
theorem run_bad (c : UInt8) (t : List UInt8) (at_ ahead : Nat) (h : isSp c = false) (he : errAt (c :: t) ahead ≠ 0) : run (c :: t) at_ ahead = .bad at_ (errAt (c :: t) ahead) := by
  unfold run
  rw [List.length_cons]
  simp only [runK]
  rw [h, if_neg (by decide), if_neg he]
/-- Blanks ahead are passed over. -/
theorem run_spaces (l : List UInt8) (at_ ahead : Nat) : run l at_ ahead = run (l.drop (l.takeWhile isSp).length) (at_ + (l.takeWhile isSp).length) ahead := by
  induction l generalizing at_ with
  | nil => rfl
  | cons c t ih =>
    by_cases h : isSp c = true
    · rw [run_sp c t at_ ahead h, ih, List.takeWhile_cons_of_pos h, List.length_cons, List.drop_succ_cons]
      congr 1
      omega
    · rw [List.takeWhile_cons_of_neg h]; rfl
def R.pre (ts : List S31) (r : R) : R := ts.foldr R.push r
theorem pre_snoc (ts : List S31) (t : S31) (r : R) : R.pre ts (r.push t) = R.pre (ts ++ [t]) r := by simp [R.pre]
theorem pre_bad (ts : List S31) (a : Nat) (e : Int) : R.pre ts (.bad a e) = .bad a e := by
  induction ts with
  | nil => rfl
  | cons t ts ih => show R.push t (R.pre ts (.bad a e)) = _; rw [ih]; rfl
theorem pre_ok (ts us : List S31) : R.pre ts (.ok us) = .ok (ts ++ us) := by
  induction ts with
  | nil => rfl
  | cons t ts ih => show R.push t (R.pre ts (.ok us)) = _; rw [ih]; rfl
/-- What Tokens answers: the tokens, the place and the number of an error. -/
def R.out : R → List S31 × Int × Int
  | .bad a e => ([], a, e)
  | .ok ts => (ts, 0, 0)
def toks (l : List UInt8) : List S31 × Int × Int := if 16384 < l.length then ([], 0, 12) else (run l 0 0).out
end Go.Proofs.YthkndoglmajehaaDoor.Lex
