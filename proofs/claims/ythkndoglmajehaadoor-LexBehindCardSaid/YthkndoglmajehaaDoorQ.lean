import Derived.Test.YthkndoglmajehaaDoorP
namespace Go.Proofs.YthkndoglmajehaaDoor.Lex
open Go.Proofs.YthkndoglmajehaaDoor.PLexTokens
set_option linter.unusedVariables false
set_option linter.unusedSimpArgs false

/-! ### Induction along a text's tokens -/
theorem run_ind {Pr : List UInt8 → Nat → Nat → Prop} (h0 : ∀ at_ ahead, Pr [] at_ ahead)
    (h1 : ∀ c t at_ ahead, isSp c = true → Pr t (at_ + 1) ahead → Pr (c :: t) at_ ahead)
    (h2 : ∀ c t at_ ahead, isSp c = false → errAt (c :: t) ahead ≠ 0 → Pr (c :: t) at_ ahead)
    (h3 : ∀ c t at_ ahead, isSp c = false → errAt (c :: t) ahead = 0 → 1 ≤ (cutM (c :: t)).2 → (cutM (c :: t)).2 ≤ t.length + 1 → Pr ((c :: t).drop (cutM (c :: t)).2) (at_ + (cutM (c :: t)).2) (ahead + 1) → Pr (c :: t) at_ ahead) :
    ∀ l at_ ahead, Pr l at_ ahead := by
  have main : ∀ n : Nat, ∀ l : List UInt8, l.length ≤ n → ∀ at_ ahead, Pr l at_ ahead := by
    intro n
    induction n with
    | zero =>
      intro l hl at_ ahead
      obtain rfl : l = [] := List.length_eq_zero_iff.1 (by omega)
      exact h0 _ _
    | succ n ih =>
      intro l hl at_ ahead
      cases l with
      | nil => exact h0 _ _
      | cons c t =>
        rw [List.length_cons] at hl
        by_cases hs : isSp c = true
        · exact h1 c t at_ ahead hs (ih t (by omega) _ _)
        · obtain hs : isSp c = false := by simpa using hs
          by_cases he : errAt (c :: t) ahead = 0
          · have hp := (cut_len c t).2.1 (err_kind he)
            exact h3 c t at_ ahead hs he hp (cut_len c t).1 (ih _ (by rw [List.length_drop, List.length_cons]; omega) _ _)
          · exact h2 c t at_ ahead hs he
  exact fun l => main l.length l (Nat.le_refl _)
theorem push_ok {t : S31} {r : R} {us : List S31} (h : r.push t = .ok us) : ∃ vs, r = .ok vs ∧ us = t :: vs := by
  cases r with
  | bad a e => cases h
  | ok vs => injection h with h; exact ⟨vs, rfl, h.symm⟩
theorem push_bad {t : S31} {r : R} {a : Nat} {e : Int} (h : r.push t = .bad a e) : r = .bad a e := by
  cases r with
  | bad a' e' => injection h with h1 h2; rw [h1, h2]
  | ok vs => cases h
theorem tok_f1 (c : UInt8) (t : List UInt8) (at_ : Nat) (hn : (cutM (c :: t)).2 ≤ t.length + 1) : (tokAt (c :: t) at_).f1.data.toList = (c :: t).take (cutM (c :: t)).2 ∧ (tokAt (c :: t) at_).f1.size = (cutM (c :: t)).2 := by
  refine ⟨rfl, ?_⟩
  show (str ((c :: t).take (cutM (c :: t)).2)).size = _
  show ((c :: t).take (cutM (c :: t)).2).toArray.size = _
  rw [List.size_toArray, List.length_take, List.length_cons]
  omega
theorem run_bad_ne : ∀ l at_ ahead a e, run l at_ ahead = .bad a e → e ≠ 0 := by
  refine run_ind (Pr := fun l at_ ahead => ∀ a e, run l at_ ahead = .bad a e → e ≠ 0) ?_ ?_ ?_ ?_
  · intro at_ ahead a e h; rw [run_nil] at h; cases h
  · intro c t at_ ahead hs ih a e h; rw [run_sp c t _ _ hs] at h; exact ih a e h
  · intro c t at_ ahead hs he a e h; rw [run_bad c t _ _ hs he] at h; injection h with _ h; rw [← h]; exact he
  · intro c t at_ ahead hs he h1 h2 ih a e h; rw [run_tok c t _ _ hs he] at h; exact ih a e (push_bad h)

/-! ### LexAgain -/
/-- Each token's text, and a blank behind it. -/
def spread (ts : List S31) : List UInt8 := ts.flatMap fun t => t.f1.data.toList ++ [32]
theorem spread_cons (t : S31) (ts : List S31) : spread (t :: ts) = t.f1.data.toList ++ 32 :: spread ts := by simp [spread]
/-- What each token of a text is like (at_: the text's own place). -/
structure TokOk (s : List UInt8) (t : S31) : Prop where
  pos : 0 < t.f1.size
  at0 : 0 ≤ t.f2
  fits : t.f2.toNat + t.f1.size ≤ s.length
  same : (s.drop t.f2.toNat).take t.f1.size = t.f1.data.toList
  clean : ∀ x ∈ t.f1.data.toList, 32 < x.toNat
/-- The tokens stand one behind the other from a place on. -/
def Rising : Nat → List S31 → Prop
  | _, [] => True
  | p, t :: ts => (p : Int) ≤ t.f2 ∧ Rising (t.f2.toNat + t.f1.size) ts
theorem rising_le {p q : Nat} (h : p ≤ q) : ∀ {ts}, Rising q ts → Rising p ts
  | [], _ => trivial
  | t :: ts, hr => ⟨by have := hr.1; omega, hr.2⟩
theorem run_good (s : List UInt8) : ∀ l at_ ahead, s.drop at_ = l → at_ ≤ s.length → ∀ ts, run l at_ ahead = .ok ts → Rising at_ ts ∧ ∀ t ∈ ts, TokOk s t := by
  refine run_ind (Pr := fun l at_ ahead => s.drop at_ = l → at_ ≤ s.length → ∀ ts, run l at_ ahead = .ok ts → Rising at_ ts ∧ ∀ t ∈ ts, TokOk s t) ?_ ?_ ?_ ?_
  · intro at_ ahead _ _ ts h
    rw [run_nil] at h
    injection h with h
    subst h
    exact ⟨trivial, fun t ht => by cases ht⟩
  · intro c t at_ ahead hs ih hd hl ts h
    rw [run_sp c t _ _ hs] at h
    have hlen := congrArg List.length hd
    rw [List.length_drop, List.length_cons] at hlen
    have hd2 : s.drop (at_ + 1) = t := by rw [← List.drop_drop, hd]; rfl
    have := ih hd2 (by omega) ts h
    exact ⟨rising_le (by omega) this.1, this.2⟩
  · intro c t at_ ahead hs he _ _ ts h; rw [run_bad c t _ _ hs he] at h; cases h
  · intro c t at_ ahead hs he h1 h2 ih hd hl ts h
    rw [run_tok c t _ _ hs he] at h
    obtain ⟨vs, hv, rfl⟩ := push_ok h
    have hlen := congrArg List.length hd
    rw [List.length_drop, List.length_cons] at hlen
    have hd2 : s.drop (at_ + (cutM (c :: t)).2) = (c :: t).drop (cutM (c :: t)).2 := by rw [← List.drop_drop, hd]
    obtain ⟨g1, g2⟩ := ih hd2 (by omega) vs hv
    obtain ⟨f1, f2⟩ := tok_f1 c t at_ h2
    have fa : (tokAt (c :: t) at_).f2 = (at_ : Int) := rfl
    refine ⟨⟨by rw [fa]; exact Int.le_refl _, by rw [fa, Int.toNat_natCast, f2]; exact g1⟩, fun u hu => ?_⟩
    rcases List.mem_cons.1 hu with rfl | hu
    · exact ⟨by rw [f2]; omega, by rw [fa]; omega, by rw [fa, Int.toNat_natCast, f2]; omega, by rw [fa, Int.toNat_natCast, f2, f1, hd], by rw [f1]; exact cut_clean c t (err_kind he)⟩
    · exact g2 u hu
/-- The tokens, written with blanks between, are the same tokens. -/
theorem run_again : ∀ l at_ ahead, ∀ ts, run l at_ ahead = .ok ts → ∀ at2, ∃ us, run (spread ts) at2 ahead = .ok us ∧ us.map (fun t => (t.f0, t.f1)) = ts.map (fun t => (t.f0, t.f1)) := by
  refine run_ind (Pr := fun l at_ ahead => ∀ ts, run l at_ ahead = .ok ts → ∀ at2, ∃ us, run (spread ts) at2 ahead = .ok us ∧ us.map (fun t => (t.f0, t.f1)) = ts.map (fun t => (t.f0, t.f1))) ?_ ?_ ?_ ?_
  · intro at_ ahead ts h at2
    rw [run_nil] at h
    injection h with h
    subst h
    exact ⟨[], rfl, rfl⟩
  · intro c t at_ ahead hs ih ts h at2
    rw [run_sp c t _ _ hs] at h
    exact ih ts h at2
  · intro c t at_ ahead hs he ts h; rw [run_bad c t _ _ hs he] at h; cases h
  · intro c t at_ ahead hs he h1 h2 ih ts h at2
    rw [run_tok c t _ _ hs he] at h
    obtain ⟨vs, hv, rfl⟩ := push_ok h
    obtain ⟨us, hu1, hu2⟩ := ih vs hv (at2 + (cutM (c :: t)).2 + 1)
    obtain ⟨f1, f2⟩ := tok_f1 c t at_ h2
    rw [spread_cons, f1]
    obtain ⟨n, hn⟩ : ∃ n, (cutM (c :: t)).2 = n + 1 := ⟨(cutM (c :: t)).2 - 1, by omega⟩
    have hc : cutM ((c :: t).take (cutM (c :: t)).2 ++ 32 :: spread vs) = cutM (c :: t) := by
      have e : (c :: t).take (cutM (c :: t)).2 = c :: t.take n := by rw [hn]; rfl
      have := cut_take c t (cutM (c :: t)).2 (err_kind he) (Nat.le_refl _)
      rw [e] at this ⊢
      rw [cut_app, this]
    have e2 : (c :: t).take (cutM (c :: t)).2 ++ 32 :: spread vs = c :: (t.take n ++ 32 :: spread vs) := by rw [hn]; rfl
    have hlen : ((c :: t).take (cutM (c :: t)).2).length = (cutM (c :: t)).2 := by rw [List.length_take, List.length_cons]; omega
    have htk : ((c :: t).take (cutM (c :: t)).2 ++ 32 :: spread vs).take (cutM (c :: t)).2 = (c :: t).take (cutM (c :: t)).2 := by
      rw [List.take_append_of_le_length (by omega), List.take_of_length_le (by omega)]
    have hdp : ((c :: t).take (cutM (c :: t)).2 ++ 32 :: spread vs).drop (cutM (c :: t)).2 = 32 :: spread vs := by
      rw [List.drop_append_of_le_length (by omega), List.drop_of_length_le (by omega)]; rfl
    have he2 : errAt (c :: (t.take n ++ 32 :: spread vs)) ahead = 0 := by
      unfold errAt
      rw [← e2, hc, htk]
      exact he
    refine ⟨tokAt (c :: (t.take n ++ 32 :: spread vs)) at2 :: us, ?_, ?_⟩
    · rw [e2, run_tok c _ at2 ahead hs he2, ← e2, hc, hdp, run_sp 32 _ _ _ rfl, hu1]
      rfl
    · rw [List.map_cons, List.map_cons, hu2]
      congr 1
      unfold tokAt
      rw [← e2, hc, htk]
/-- How long the text with blanks between is. -/
theorem spread_len : ∀ l at_ ahead, ∀ ts, run l at_ ahead = .ok ts → (spread ts).length ≤ 2 * l.length := by
  refine run_ind (Pr := fun l at_ ahead => ∀ ts, run l at_ ahead = .ok ts → (spread ts).length ≤ 2 * l.length) ?_ ?_ ?_ ?_
  · intro at_ ahead ts h
    rw [run_nil] at h
    injection h with h
    subst h
    exact Nat.zero_le _
  · intro c t at_ ahead hs ih ts h
    rw [run_sp c t _ _ hs] at h
    have := ih ts h
    rw [List.length_cons]
    omega
  · intro c t at_ ahead hs he ts h; rw [run_bad c t _ _ hs he] at h; cases h
  · intro c t at_ ahead hs he h1 h2 ih ts h
    rw [run_tok c t _ _ hs he] at h
    obtain ⟨vs, hv, rfl⟩ := push_ok h
    have := ih vs hv
    rw [List.length_drop, List.length_cons] at this
    rw [spread_cons, (tok_f1 c t at_ h2).1, List.length_append, List.length_cons, List.length_take, List.length_cons]
    omega

/-! ### LexBehind -/
theorem run_behind (b : List UInt8) : ∀ l at_ ahead, run (l ++ 32 :: b) at_ ahead = match run l at_ ahead with
    | .bad a e => .bad a e
    | .ok ts => R.pre ts (run b (at_ + l.length + 1) (ahead + ts.length)) := by
  refine run_ind (Pr := fun l at_ ahead => run (l ++ 32 :: b) at_ ahead = match run l at_ ahead with
    | .bad a e => .bad a e
    | .ok ts => R.pre ts (run b (at_ + l.length + 1) (ahead + ts.length))) ?_ ?_ ?_ ?_
  · intro at_ ahead
    rw [run_nil, List.nil_append, run_sp 32 b _ _ rfl]
    rfl
  · intro c t at_ ahead hs ih
    rw [List.cons_append, run_sp c _ _ _ hs, run_sp c _ _ _ hs, ih]
    cases run t (at_ + 1) ahead with
    | bad a e => rfl
    | ok ts => dsimp only; rw [List.length_cons]; congr 2; omega
  · intro c t at_ ahead hs he
    have e2 : errAt (c :: (t ++ 32 :: b)) ahead = errAt (c :: t) ahead := by
      unfold errAt
      have : c :: (t ++ 32 :: b) = (c :: t) ++ 32 :: b := rfl
      rw [this, cut_app, List.take_append_of_le_length (cut_len c t).1]
    rw [List.cons_append, run_bad c _ _ _ hs he, run_bad c _ _ _ hs (by rw [e2]; exact he), e2]
  · intro c t at_ ahead hs he h1 h2 ih
    have e0 : c :: (t ++ 32 :: b) = (c :: t) ++ 32 :: b := rfl
    have ec : cutM (c :: (t ++ 32 :: b)) = cutM (c :: t) := by rw [e0, cut_app]
    have et : (c :: (t ++ 32 :: b)).take (cutM (c :: t)).2 = (c :: t).take (cutM (c :: t)).2 := by rw [e0, List.take_append_of_le_length (by rw [List.length_cons]; omega)]
    have ed : (c :: (t ++ 32 :: b)).drop (cutM (c :: t)).2 = (c :: t).drop (cutM (c :: t)).2 ++ 32 :: b := by rw [e0, List.drop_append_of_le_length (by rw [List.length_cons]; omega)]
    have e2 : errAt (c :: (t ++ 32 :: b)) ahead = errAt (c :: t) ahead := by unfold errAt; rw [ec, et]
    rw [List.cons_append, run_tok c _ _ _ hs (by rw [e2]; exact he), run_tok c t _ _ hs he, ec, ed, ih]
    have ek : tokAt (c :: (t ++ 32 :: b)) at_ = tokAt (c :: t) at_ := by unfold tokAt; rw [ec, et]
    rw [ek]
    cases run ((c :: t).drop (cutM (c :: t)).2) (at_ + (cutM (c :: t)).2) (ahead + 1) with
    | bad a e => rfl
    | ok ts =>
      dsimp only [R.push]
      show R.push _ (R.pre ts _) = R.push _ (R.pre ts _)
      congr 3
      · rw [List.length_drop, List.length_cons]; omega
      · rw [List.length_cons]; omega
/-- Another place, other tokens ahead. -/
def shiftT (d : Nat) (t : S31) : S31 := ⟨t.f0, t.f1, t.f2 + d⟩
theorem wrong_more (k : Int) (x : List UInt8) (a b : Nat) (h : b < 4096) : wrongM k x b = wrongM k x 0 := by
  unfold wrongM
  by_cases h0 : k = 0
  · rw [if_pos h0, if_pos h0]
  · rw [if_neg h0, if_neg h0]
    by_cases h1 : k = 1 ∧ 16 < x.length
    · rw [if_pos (.inl h1), if_pos (.inl h1)]
    · have e1 : ¬ (k = 1 ∧ 16 < x.length ∨ 4096 ≤ b) := by
        rintro (h' | h')
        · exact h1 h'
        · omega
      have e2 : ¬ (k = 1 ∧ 16 < x.length ∨ 4096 ≤ 0) := by
        rintro (h' | h')
        · exact h1 h'
        · omega
      rw [if_neg e1, if_neg e2]
/-- Tokens ahead make a difference at the bound alone. -/
theorem wrong_two (k : Int) (x : List UInt8) (a d : Nat) : wrongM k x (a + d) = wrongM k x a ∨ (0 < d ∧ wrongM k x (a + d) = 12 ∧ 4096 ≤ a + d) := by
  by_cases h : 4096 ≤ a + d
  · by_cases ha : 4096 ≤ a
    · left
      unfold wrongM
      by_cases h0 : k = 0
      · rw [if_pos h0, if_pos h0]
      · rw [if_neg h0, if_neg h0, if_pos (.inr h), if_pos (.inr ha)]
    · by_cases h0 : k = 0
      · left
        unfold wrongM
        rw [if_pos h0, if_pos h0]
      · right
        refine ⟨by omega, ?_, h⟩
        unfold wrongM
        rw [if_neg h0, if_pos (.inr h)]
  · left
    rw [wrong_more k x 0 (a + d) (by omega), wrong_more k x 0 a (by omega)]
/-- The tokens of a text elsewhere, with d tokens more ahead. -/
theorem run_shift (p d : Nat) : ∀ l at_ ahead, match run l at_ ahead with
    | .bad a e => run l (at_ + p) (ahead + d) = .bad (a + p) e ∨ (0 < d ∧ ∃ q, run l (at_ + p) (ahead + d) = .bad q 12)
    | .ok ts => (ahead + d + ts.length ≤ 4096 ∨ ts = [] → run l (at_ + p) (ahead + d) = .ok (ts.map (shiftT p))) ∧ (4096 < ahead + d + ts.length ∧ ts ≠ [] → ∃ q e, run l (at_ + p) (ahead + d) = .bad q e) := by
  refine run_ind (Pr := fun l at_ ahead => match run l at_ ahead with
    | .bad a e => run l (at_ + p) (ahead + d) = .bad (a + p) e ∨ (0 < d ∧ ∃ q, run l (at_ + p) (ahead + d) = .bad q 12)
    | .ok ts => (ahead + d + ts.length ≤ 4096 ∨ ts = [] → run l (at_ + p) (ahead + d) = .ok (ts.map (shiftT p))) ∧ (4096 < ahead + d + ts.length ∧ ts ≠ [] → ∃ q e, run l (at_ + p) (ahead + d) = .bad q e)) ?_ ?_ ?_ ?_
  · intro at_ ahead
    rw [run_nil, run_nil]
    exact ⟨fun _ => rfl, fun h => absurd rfl h.2⟩
  · intro c t at_ ahead hs ih
    rw [run_sp c t _ _ hs, run_sp c t _ _ hs, show at_ + p + 1 = at_ + 1 + p from by omega]
    exact ih
  · intro c t at_ ahead hs he
    rw [run_bad c t _ _ hs he]
    dsimp only
    rcases wrong_two (cutM (c :: t)).1 ((c :: t).take (cutM (c :: t)).2) ahead d with h | ⟨h1, h2, h3⟩
    · left
      have e : errAt (c :: t) (ahead + d) = errAt (c :: t) ahead := h
      rw [run_bad c t _ _ hs (by rw [e]; exact he), e]
    · right
      have e : errAt (c :: t) (ahead + d) = 12 := h2
      exact ⟨h1, at_ + p, by rw [run_bad c t _ _ hs (by rw [e]; decide), e]⟩
  · intro c t at_ ahead hs he h1 h2 ih
    rw [run_tok c t _ _ hs he]
    rcases wrong_two (cutM (c :: t)).1 ((c :: t).take (cutM (c :: t)).2) ahead d with h | ⟨g1, g2, g3⟩
    · have e : errAt (c :: t) (ahead + d) = 0 := Eq.trans h he
      rw [run_tok c t _ _ hs e, show at_ + p + (cutM (c :: t)).2 = at_ + (cutM (c :: t)).2 + p from by omega, show ahead + d + 1 = ahead + 1 + d from by omega]
      have hlt : ahead + d < 4096 := by
        by_cases h4 : 4096 ≤ ahead + d
        · exfalso
          unfold errAt wrongM at e
          by_cases k0 : (cutM (c :: t)).1 = 0
          · exact err_kind he k0
          · rw [if_neg k0, if_pos (.inr h4)] at e
            cases e
        · omega
      cases hr : run ((c :: t).drop (cutM (c :: t)).2) (at_ + (cutM (c :: t)).2) (ahead + 1) with
      | bad a e =>
        rw [hr] at ih
        dsimp only [R.push] at ih ⊢
        rcases ih with ih | ⟨j1, q, ih⟩
        · left; rw [ih]
        · right; exact ⟨j1, q, by rw [ih]⟩
      | ok ts =>
        rw [hr] at ih
        dsimp only [R.push] at ih ⊢
        obtain ⟨i1, i2⟩ := ih
        constructor
        · intro h
          have h' : ahead + d + (ts.length + 1) ≤ 4096 := by
            rcases h with h | h
            · rwa [List.length_cons] at h
            · cases h
          rw [i1 (.inl (by omega))]
          dsimp only [R.push]
          rw [List.map_cons]
          congr 2
        · rintro ⟨h, _⟩
          rw [List.length_cons] at h
          obtain ⟨q, e, hq⟩ := i2 ⟨by omega, by
            intro h0
            rw [h0] at h
            simp at h
            omega⟩
          exact ⟨q, e, by rw [hq]⟩
    · have e : errAt (c :: t) (ahead + d) = 12 := g2
      have hb : run (c :: t) (at_ + p) (ahead + d) = .bad (at_ + p) 12 := by rw [run_bad c t _ _ hs (by rw [e]; decide), e]
      cases hr : run ((c :: t).drop (cutM (c :: t)).2) (at_ + (cutM (c :: t)).2) (ahead + 1) with
      | bad a e' =>
        dsimp only [R.push]
        exact .inr ⟨g1, at_ + p, hb⟩
      | ok ts =>
        dsimp only [R.push]
        refine ⟨?_, fun _ => ⟨_, _, hb⟩⟩
        rintro (h | h)
        · rw [List.length_cons] at h; omega
        · cases h

/-! ### LexCuts -/
theorem run_cuts : ∀ l at_ ahead, ∀ ts, run l at_ ahead = .ok ts → ∀ (k : Nat) (hk : k < ts.length), (at_ : Int) ≤ ts[k].f2 ∧ ts[k].f2.toNat + ts[k].f1.size ≤ at_ + l.length ∧ run (l.take (ts[k].f2.toNat + ts[k].f1.size - at_)) at_ ahead = .ok (ts.take (k + 1)) := by
  refine run_ind (Pr := fun l at_ ahead => ∀ ts, run l at_ ahead = .ok ts → ∀ (k : Nat) (hk : k < ts.length), (at_ : Int) ≤ ts[k].f2 ∧ ts[k].f2.toNat + ts[k].f1.size ≤ at_ + l.length ∧ run (l.take (ts[k].f2.toNat + ts[k].f1.size - at_)) at_ ahead = .ok (ts.take (k + 1))) ?_ ?_ ?_ ?_
  · intro at_ ahead ts h k hk
    rw [run_nil] at h
    injection h with h
    subst h
    cases hk
  · intro c t at_ ahead hs ih ts h k hk
    rw [run_sp c t _ _ hs] at h
    obtain ⟨i1, i2, i3⟩ := ih ts h k hk
    refine ⟨by omega, by rw [List.length_cons]; omega, ?_⟩
    obtain ⟨m, hm⟩ : ∃ m, ts[k].f2.toNat + ts[k].f1.size - at_ = m + 1 := ⟨ts[k].f2.toNat + ts[k].f1.size - at_ - 1, by omega⟩
    have hm2 : ts[k].f2.toNat + ts[k].f1.size - (at_ + 1) = m := by omega
    rw [hm, List.take_succ_cons, run_sp c _ _ _ hs]
    rw [hm2] at i3
    exact i3
  · intro c t at_ ahead hs he ts h; rw [run_bad c t _ _ hs he] at h; cases h
  · intro c t at_ ahead hs he h1 h2 ih ts h k hk
    rw [run_tok c t _ _ hs he] at h
    obtain ⟨vs, hv, rfl⟩ := push_ok h
    obtain ⟨f1, f2⟩ := tok_f1 c t at_ h2
    obtain ⟨n, hn⟩ : ∃ n, (cutM (c :: t)).2 = n + 1 := ⟨(cutM (c :: t)).2 - 1, by omega⟩
    -- the first token of a text that is cut behind it
    have key : ∀ m, (cutM (c :: t)).2 ≤ m → run ((c :: t).take m) at_ ahead = (run (((c :: t).drop (cutM (c :: t)).2).take (m - (cutM (c :: t)).2)) (at_ + (cutM (c :: t)).2) (ahead + 1)).push (tokAt (c :: t) at_) := by
      intro m hm
      obtain ⟨m', rfl⟩ : ∃ k, m = k + 1 := ⟨m - 1, by omega⟩
      have ec := cut_take c t (m' + 1) (err_kind he) hm
      have e0 : (c :: t).take (m' + 1) = c :: t.take m' := rfl
      have et : ((c :: t).take (m' + 1)).take (cutM (c :: t)).2 = (c :: t).take (cutM (c :: t)).2 := by rw [List.take_take, Nat.min_eq_left hm]
      have e2 : errAt ((c :: t).take (m' + 1)) ahead = 0 := by unfold errAt; rw [ec, et]; exact he
      have ek : tokAt ((c :: t).take (m' + 1)) at_ = tokAt (c :: t) at_ := by unfold tokAt; rw [ec, et]
      rw [e0] at ec et e2 ek ⊢
      rw [run_tok c _ _ _ hs e2, ec, ek, ← e0, List.drop_take]
    cases k with
    | zero =>
      have fa : (tokAt (c :: t) at_).f2 = (at_ : Int) := rfl
      simp only [List.getElem_cons_zero]
      rw [fa, f2, Int.toNat_natCast]
      refine ⟨Int.le_refl _, by rw [List.length_cons]; omega, ?_⟩
      rw [show at_ + (cutM (c :: t)).2 - at_ = (cutM (c :: t)).2 from by omega, key _ (Nat.le_refl _), Nat.sub_self, List.take_zero, run_nil]
      rfl
    | succ k =>
      simp only [List.getElem_cons_succ]
      have hk' : k < vs.length := by rw [List.length_cons] at hk; omega
      obtain ⟨i1, i2, i3⟩ := ih vs hv k hk'
      rw [List.length_drop, List.length_cons] at i2
      refine ⟨by omega, by rw [List.length_cons]; omega, ?_⟩
      rw [key _ (by omega), show vs[k].f2.toNat + vs[k].f1.size - at_ - (cutM (c :: t)).2 = vs[k].f2.toNat + vs[k].f1.size - (at_ + (cutM (c :: t)).2) from by omega, i3]
      rfl

/-! ### LexSpaces -/
def turnC (c : UInt8) : UInt8 := if c = 32 then 10 else if c = 10 then 32 else c
theorem turn_eq (c : UInt8) (h : 32 < c.toNat) : turnC c = c := by
  unfold turnC
  rw [if_neg (by rintro rfl; revert h; decide), if_neg (by rintro rfl; revert h; decide)]
theorem turn_inner (c : UInt8) : isInner (turnC c) = isInner c := byte_all (P := fun c => isInner (turnC c) = isInner c) (by decide +kernel) c
theorem turn_dig (c : UInt8) : isDig (turnC c) = isDig c := byte_all (P := fun c => isDig (turnC c) = isDig c) (by decide +kernel) c
theorem turn_sp (c : UInt8) : isSp (turnC c) = isSp c := byte_all (P := fun c => isSp (turnC c) = isSp c) (by decide +kernel) c
theorem turn_61 (c : UInt8) : (turnC c == 61) = (c == 61) := byte_all (P := fun c => (turnC c == 61) = (c == 61)) (by decide +kernel) c
theorem sp_turn (c : UInt8) (h : isSp c = false) : turnC c = c := byte_all (P := fun c => isSp c = false → turnC c = c) (by decide +kernel) c h
theorem takeWhile_turn (p : UInt8 → Bool) (hp : ∀ c, p (turnC c) = p c) (l : List UInt8) : ((l.map turnC).takeWhile p).length = (l.takeWhile p).length := by
  induction l with
  | nil => rfl
  | cons c l ih =>
    rw [List.map_cons]
    by_cases h : p c = true
    · rw [List.takeWhile_cons_of_pos h, List.takeWhile_cons_of_pos (by rw [hp, h]), List.length_cons, List.length_cons, ih]
    · rw [List.takeWhile_cons_of_neg h, List.takeWhile_cons_of_neg (by rw [hp]; exact h)]
theorem map_turn_take (l : List UInt8) (n : Nat) (h : ∀ x ∈ l.take n, 32 < x.toNat) : (l.map turnC).take n = l.take n := by
  rw [← List.map_take]
  calc (l.take n).map turnC = (l.take n).map id := List.map_congr_left (fun x hx => turn_eq x (h x hx))
    _ = l.take n := List.map_id _
theorem cut_turn (c : UInt8) (t : List UInt8) (hs : isSp c = false) : (cutM (c :: t.map turnC)).1 = (cutM (c :: t)).1 ∧ (cutM (c :: t.map turnC)).2 = (cutM (c :: t)).2 ∧ (c :: t.map turnC).take (cutM (c :: t)).2 = (c :: t).take (cutM (c :: t)).2 := by
  have em : c :: t.map turnC = (c :: t).map turnC := by rw [List.map_cons, sp_turn c hs]
  have e1 : ((c :: t.map turnC).takeWhile isInner).length = ((c :: t).takeWhile isInner).length := by rw [em]; exact takeWhile_turn _ turn_inner _
  have e2 : ((c :: t.map turnC).takeWhile isDig).length = ((c :: t).takeWhile isDig).length := by rw [em]; exact takeWhile_turn _ turn_dig _
  have e3 : isTwo (c :: t.map turnC) = isTwo (c :: t) := by
    rw [isTwo_cons, isTwo_cons]
    cases t with
    | nil => rfl
    | cons d u =>
      rw [List.map_cons]
      dsimp only
      rw [turn_61]
  have e4 : isLet c = true → (c :: t.map turnC).take ((c :: t).takeWhile isInner).length = (c :: t).take ((c :: t).takeWhile isInner).length := by
    intro hl
    rw [em]
    refine map_turn_take _ _ ?_
    have hk : (cutM (c :: t)).1 ≠ 0 := by
      simp only [cutM]
      rw [if_pos hl]
      dsimp only
      split <;> decide
    have h2 : (cutM (c :: t)).2 = ((c :: t).takeWhile isInner).length := by
      simp only [cutM]
      rw [if_pos hl]
    rw [← h2]
    exact cut_clean c t hk
  have ecut : cutM (c :: t.map turnC) = cutM (c :: t) := by
    simp only [cutM]
    by_cases hl : isLet c = true
    · rw [if_pos hl, if_pos hl, e1, e4 hl]
    · rw [if_neg hl, if_neg hl, e2, e3]
  rw [ecut]
  refine ⟨rfl, rfl, ?_⟩
  by_cases hk : (cutM (c :: t)).1 = 0
  · have h0 : (cutM (c :: t)).2 = 0 := by
      simp only [cutM] at hk ⊢
      by_cases hl : isLet c = true
      · rw [if_pos hl] at hk
        dsimp only at hk
        split at hk <;> cases hk
      · rw [if_neg hl] at hk ⊢
        by_cases hd : isDig c = true
        · rw [if_pos hd] at hk; cases hk
        · rw [if_neg hd] at hk ⊢
          by_cases h2 : isTwo (c :: t) = true
          · rw [if_pos h2] at hk; cases hk
          · rw [if_neg h2] at hk ⊢
            by_cases h3 : isSign c = true
            · rw [if_pos h3] at hk; cases hk
            · rw [if_neg h3]
    rw [h0]; rfl
  · rw [em]
    exact map_turn_take _ _ (cut_clean c t hk)
theorem run_turn : ∀ l at_ ahead, run (l.map turnC) at_ ahead = run l at_ ahead := by
  refine run_ind (Pr := fun l at_ ahead => run (l.map turnC) at_ ahead = run l at_ ahead) ?_ ?_ ?_ ?_
  · intro at_ ahead; rfl
  · intro c t at_ ahead hs ih
    rw [List.map_cons, run_sp _ _ _ _ (by rw [turn_sp, hs]), run_sp c t _ _ hs, ih]
  · intro c t at_ ahead hs he
    obtain ⟨e1, e2, e3⟩ := cut_turn c t hs
    have e4 : errAt (c :: t.map turnC) ahead = errAt (c :: t) ahead := by unfold errAt; rw [e1, e2, e3]
    rw [List.map_cons, sp_turn c hs, run_bad c _ _ _ hs (by rw [e4]; exact he), run_bad c t _ _ hs he, e4]
  · intro c t at_ ahead hs he h1 h2 ih
    obtain ⟨e1, e2, e3⟩ := cut_turn c t hs
    have e4 : errAt (c :: t.map turnC) ahead = errAt (c :: t) ahead := by unfold errAt; rw [e1, e2, e3]
    have e5 : tokAt (c :: t.map turnC) at_ = tokAt (c :: t) at_ := by unfold tokAt; rw [e1, e2, e3]
    have e6 : (c :: t.map turnC).drop (cutM (c :: t)).2 = ((c :: t).drop (cutM (c :: t)).2).map turnC := by
      rw [List.map_drop, List.map_cons, sp_turn c hs]
    rw [List.map_cons, sp_turn c hs, run_tok c _ _ _ hs (by rw [e4]; exact he), run_tok c t _ _ hs he, e2, e5, e6, ih]
theorem toks_turn (l : List UInt8) : toks (l.map turnC) = toks l := by
  unfold toks
  rw [List.length_map, run_turn]
end Go.Proofs.YthkndoglmajehaaDoor.Lex
