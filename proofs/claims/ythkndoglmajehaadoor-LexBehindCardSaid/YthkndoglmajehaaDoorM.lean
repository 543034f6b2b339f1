import Derived.Test.YthkndoglmajehaaDoorL
import Derived.Deep.QuietTactic
namespace Go.Proofs.YthkndoglmajehaaDoor.Lex
open Go.RowKit Go.Proofs.YthkndoglmajehaaDoorW.PrintWords Go.Proofs.YthkndoglmajehaaDoorW.PrintLast Go.Proofs.YthkndoglmajehaaDoorW.PrintMore Go.Proofs.YthkndoglmajehaaDoor.PLexTokens
set_option linter.unusedVariables false
set_option linter.unusedSimpArgs false

/-- Tokens, in a form that is easily met. -/
theorem tok_any (s : ByteArray) (w : World) (hm : ML w) (hs : s.size ≤ 1000000) :
    Calls Tryd.prog 14 #[.string s] w fun e w' => ∃ (A : Option Addr) (c : Nat), e = .returned (.tuple #[.slice A (toks s.data.toList).1.length c, .int .i64 (toks s.data.toList).2.1, .int .i64 (toks s.data.toList).2.2]) ∧ (toks s.data.toList).1.length ≤ c ∧ Kd.C k31 w' A (toks s.data.toList).1.length (toks s.data.toList).1 ∧ Below w.heap.size w w' := by
  refine (tokens_any s w hm hs).mono ?_
  rintro e w' ⟨⟨v, rfl, hv⟩, b⟩
  obtain ⟨A, c, rfl, hl, hC⟩ := Kd.R_reads hv
  exact ⟨A, c, rfl, hl, hC, b⟩
theorem run_len (n : Nat) : ∀ (l : List UInt8), l.length ≤ n → ∀ at_ ahead ts, run l at_ ahead = .ok ts → ts.length ≤ l.length := by
  induction n with
  | zero =>
    intro l hl at_ ahead ts h
    obtain rfl : l = [] := List.length_eq_zero_iff.1 (by omega)
    rw [run_nil] at h
    injection h with h
    subst h
    exact Nat.le_refl _
  | succ n ih =>
    intro l hl at_ ahead ts h
    cases l with
    | nil =>
      rw [run_nil] at h
      injection h with h
      subst h
      exact Nat.le_refl _
    | cons c t =>
      rw [List.length_cons] at hl ⊢
      by_cases hs : isSp c = true
      · rw [run_sp c t at_ ahead hs] at h
        have := ih t (by omega) _ _ _ h
        omega
      · obtain hs : isSp c = false := by simpa using hs
        by_cases he : errAt (c :: t) ahead = 0
        · rw [run_tok c t at_ ahead hs he] at h
          have h1 := (cut_len c t).2.1 (err_kind he)
          cases hr : run ((c :: t).drop (cutM (c :: t)).2) (at_ + (cutM (c :: t)).2) (ahead + 1) with
          | bad a e => rw [hr] at h; cases h
          | ok us =>
            rw [hr] at h
            injection h with h
            have := ih _ (by rw [List.length_drop, List.length_cons]; omega) _ _ _ hr
            rw [List.length_drop, List.length_cons] at this
            rw [← h, List.length_cons]
            omega
        · rw [run_bad c t at_ ahead hs he] at h
          cases h
theorem toks_len (l : List UInt8) : (toks l).1.length ≤ l.length := by
  unfold toks
  split
  · exact Nat.zero_le _
  · cases h : run l 0 0 with
    | bad a e => exact Nat.zero_le _
    | ok ts => exact run_len l.length l (Nat.le_refl _) _ _ _ h
/-! ### alive -/
def alT : List S31 := [⟨1, ⟨#[97, 49]⟩, 0⟩, ⟨3, ⟨#[60, 61]⟩, 3⟩, ⟨3, ⟨#[45]⟩, 5⟩, ⟨2, ⟨#[51]⟩, 6⟩, ⟨3, ⟨#[59]⟩, 7⟩]
theorem al1 : toks (⟨#[97, 49, 32, 60, 61, 45, 51, 59]⟩ : ByteArray).data.toList = (alT, 0, 0) := by kernel_rfl
theorem al2 : toks (⟨#[97, 66]⟩ : ByteArray).data.toList = ([], 1, 10) := by kernel_rfl
set_option maxHeartbeats 2000000 in
set_option maxRecDepth 100000 in
theorem alive (w : World) (hm : ML w) : Calls Tryd.prog 13 #[] w fun e w' => e = .returned (.bool true) ∧ Below w.heap.size w w' := by
  have HM := Aside0.mk hm
  have A1 := Aside0.mk al1
  have AL2 := Aside0.mk al2
  clear hm
  go_enter Tryd.func13, Tryd.ntmps13
  go_wp2_with fail
  refine (tokens_any _ _ HM.out (by decide)).mono ?_
  rintro e w1 ⟨⟨v, rfl, hv⟩, b1⟩
  rw [A1.out] at hv ⊢
  obtain ⟨g, c, e0, _, _, _⟩ := Kd.R_form hv (by decide)
  subst e0
  have hC := (Kd.R_reads' hv).2.2
  have B1 := Aside0.mk b1
  have HM1 := Aside0.mk (HM.out.next b1)
  have HC1 := Aside0.mk hC
  clear b1 hC hv
  have e5 : alT.length = 5 := rfl
  go_wp2_with fail
  refine (tok_any _ _ HM1.out (by decide)).mono ?_
  rintro e w2 ⟨A2, c2, rfl, hl2, hC2, b2⟩
  rw [AL2.out]
  have B2 := Aside0.mk (below_then B1.out B1.out.size b2)
  obtain ⟨ad, e1, x0, x1, x2⟩ := at_T31 (Kd.C_below HC1.out b2) 1 (by decide) (by decide)
  cases e1
  obtain ⟨ad2, e2, y0, y1, y2⟩ := at_T31 (Kd.C_below HC1.out b2) 3 (by decide) (by decide)
  cases e2
  have x0' : w2.cell? ⟨g, 3, none⟩ = some (.int .i64 3) := x0
  have x1' : w2.cell? ⟨g, 4, none⟩ = some (.string ⟨#[60, 61]⟩) := x1
  have y0' : w2.cell? ⟨g, 9, none⟩ = some (.int .i64 2) := y0
  have y2' : w2.cell? ⟨g, 11, none⟩ = some (.int .i64 6) := y2
  clear b2 hC2 hl2 x0 x1 x2 y0 y1 y2
  go_wp2
  go_ret
  exact ⟨rfl, B2.out⟩
/-! ### The law LexTokens -/
set_option maxHeartbeats 2000000 in
set_option maxRecDepth 100000 in
theorem lexTokens_walk (s : ByteArray) (w : World) (hm : ML w) (hs : s.size ≤ 140737488351232) :
    Calls Tryd.prog 4 #[.string s] w fun e w' => e = .returned (.bool true) ∧ Below w.heap.size w w' := by
  have HM := Aside0.mk hm
  clear hm
  by_cases hbig : 40000 < s.size
  · go_enter Tryd.func4, Tryd.ntmps4
    go_wp2_with fail
    refine (alive _ HM.out).mono ?_
    rintro e w1 ⟨rfl, b1⟩
    go_wp2_with fail
    go_ret
    exact ⟨rfl, b1⟩
  · have hl := toks_len s.data.toList
    rw [size_list] at hl
    obtain ⟨r, hr⟩ : ∃ r, toks s.data.toList = r := ⟨_, rfl⟩
    have HR := Aside0.mk hr
    rw [hr] at hl
    clear hr
    obtain ⟨ts, p, er⟩ := r
    dsimp only at hl
    go_enter Tryd.func4, Tryd.ntmps4
    go_wp2_with fail
    refine (alive _ HM.out).mono ?_
    rintro e w1 ⟨rfl, b1⟩
    have B1 := Aside0.mk b1
    have HM1 := Aside0.mk (HM.out.next b1)
    clear b1
    go_wp2_with fail
    refine (tok_any s _ HM1.out (by omega)).mono ?_
    rintro e w2 ⟨A, c, rfl, _, hC, b2⟩
    rw [HR.out] at hC ⊢
    have B2 := Aside0.mk (below_then B1.out B1.out.size b2)
    have HC2 := Aside0.mk hC
    clear b2 hC B1
    go_wp2_with fail
    refine (refTokens_any s _ (by omega)).mono ?_
    rintro e w3 ⟨⟨v, rfl, hv⟩, b3⟩
    rw [HR.out] at hv ⊢
    obtain ⟨A2, c2, hv2, _, hC3⟩ := Kd.R_reads hv
    subst hv2
    have B3 := Aside0.mk (below_then B2.out B2.out.size b3)
    have HC3 := Aside0.mk hC3
    have HC4 := Aside0.mk (Kd.C_below HC2.out b3)
    clear b3 hC3 hv B2 HC2
    go_wp2_with fail
    refine (same_any A A2 c c2 ts _ HC4.out HC3.out (by omega)).mono ?_
    rintro e w4 ⟨rfl, b4⟩
    have B4 := Aside0.mk (below_then B3.out B3.out.size b4)
    clear b4
    go_wp2_with fail
    go_ret
    exact ⟨rfl, B4.out⟩
end Go.Proofs.YthkndoglmajehaaDoor.Lex
