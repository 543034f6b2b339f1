import Derived.Test.YthkndoglmajehaaDoorH
namespace Go.Proofs.YthkndoglmajehaaDoor.Lex
open Go.RowKit Go.Proofs.YthkndoglmajehaaDoorW.PrintWords Go.Proofs.YthkndoglmajehaaDoorW.PrintLast Go.Proofs.YthkndoglmajehaaDoorW.PrintMore Go.Proofs.YthkndoglmajehaaDoor.PLexTokens
set_option linter.unusedVariables false
set_option linter.unusedSimpArgs false

theorem tw_all (p : UInt8 → Bool) : ∀ (l : List UInt8) x, x ∈ l.takeWhile p → p x = true := by
  intro l
  induction l with
  | nil => intro x h; cases h
  | cons c l ih =>
    intro x h
    by_cases hc : p c = true
    · rw [List.takeWhile_cons_of_pos hc] at h
      rcases List.mem_cons.1 h with rfl | h
      · exact hc
      · exact ih x h
    · rw [List.takeWhile_cons_of_neg hc] at h; cases h
theorem tw_at (p : UInt8 → Bool) (s : ByteArray) (q e : Nat) (h0 : q ≤ e) (h1 : e < q + ((s.data.toList.drop q).takeWhile p).length) : ∃ h : e < s.size, p (s[e]'h) = true := by
  obtain ⟨l, hl⟩ : ∃ l, s.data.toList.drop q = l := ⟨_, rfl⟩
  rw [hl] at h1
  have hle := (List.takeWhile_prefix (l := l) p).length_le
  have hll : l.length = s.size - q := by rw [← hl, List.length_drop, size_list]
  have he : e < s.size := by omega
  refine ⟨he, ?_⟩
  have hi : e - q < (l.takeWhile p).length := by omega
  have h2 : (l.takeWhile p)[e - q] = s[e] := by
    have h3 : (l.takeWhile p)[e - q] = l[e - q]'(by omega) := by
      have := (List.takeWhile_prefix (l := l) p).getElem (i := e - q) hi
      exact this
    rw [h3]
    have h4 : e < s.data.toList.length := by rw [size_list]; exact he
    have h5 : s[e] = s.data.toList[e] := rfl
    rw [h5]
    subst hl
    rw [List.getElem_drop]
    congr 1
    omega
  rw [← h2]
  exact tw_all p l _ (List.getElem_mem hi)
theorem tw_end (p : UInt8 → Bool) (s : ByteArray) (q e : Nat) (h1 : e = q + ((s.data.toList.drop q).takeWhile p).length) (h : e < s.size) : p (s[e]'h) = false := by
  obtain ⟨l, hl⟩ : ∃ l, s.data.toList.drop q = l := ⟨_, rfl⟩
  rw [hl] at h1
  have h2 := drop_tw p l
  have h3 : l.drop (l.takeWhile p).length = s.data.toList.drop e := by rw [← hl, List.drop_drop, hl, ← h1]
  rw [h3] at h2
  have h4 : e < s.data.toList.length := by rw [size_list]; exact h
  rw [List.drop_eq_getElem_cons h4] at h2
  have h5 := List.head_dropWhile_not (p := p) (l := l) (by rw [← h2]; simp)
  simp only [← h2, List.head_cons] at h5
  have h6 : s[e] = s.data.toList[e] := rfl
  rw [h6]
  simpa using h5
end Go.Proofs.YthkndoglmajehaaDoor.Lex
