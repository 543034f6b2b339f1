import Derived.Test.YthkndoglmajehaaDoorC
namespace Go.Proofs.YthkndoglmajehaaDoor.Lex
open Go.RowKit Go.Proofs.YthkndoglmajehaaDoorW.PrintWords Go.Proofs.YthkndoglmajehaaDoorW.PrintLast Go.Proofs.YthkndoglmajehaaDoorW.PrintMore Go.Proofs.YthkndoglmajehaaDoor.PLexTokens
set_option linter.unusedVariables false
set_option linter.unusedSimpArgs false

/-! ### wrong -/
/-- What is wrong with a token (kind, text), so many being ahead of it. -/
def wrongM (k : Int) (x : List UInt8) (ahead : Nat) : Int :=
  if k = 0 then 10 else if k = 1 ∧ 16 < x.length ∨ 4096 ≤ ahead then 12 else if k = 2 ∧ (18 < x.length ∨ 1 < x.length ∧ x.head? = some 48) then 11 else 0
set_option maxHeartbeats 4000000 in
set_option maxRecDepth 100000 in
theorem wrong_any (k : Int) (hk : k = 0 ∨ k = 1 ∨ k = 2 ∨ k = 3 ∨ k = 4) (x : ByteArray) (at_ : Int) (ahead : Nat) (w : World) (hx : x.size ≤ 1000000) (ha : ahead ≤ 1000000) :
    Calls Tryd.prog 23 #[.agg #[.int .i64 k, .string x, .int .i64 at_], .int .i64 ahead] w fun e w' => e = .returned (.int .i64 (wrongM k x.data.toList ahead)) ∧ Below w.heap.size w w' := by
  have hl := size_list x
  have B1 := Aside0.mk (below_alloc (Below.refl w.heap.size w) (.cells #[.int .i64 k, .string x, .int .i64 at_] 31))
  rcases hk with rfl | rfl | rfl | rfl | rfl
  · have E : Aside0 (wrongM 0 x.data.toList ahead = 10) := ⟨rfl⟩
    clear hl
    go_enter Tryd.func23, Tryd.ntmps23
    go_wp2
    go_ret
    exact ⟨by rw [E.out]; rfl, B1.out⟩
  · by_cases h1 : 16 < x.size
    · have E : Aside0 (wrongM 1 x.data.toList ahead = 12) := ⟨by unfold wrongM; rw [if_neg (by decide), if_pos (.inl ⟨rfl, by omega⟩)]⟩
      clear hl
      go_enter Tryd.func23, Tryd.ntmps23
      go_wp2
      go_ret
      exact ⟨by rw [E.out]; rfl, B1.out⟩
    · by_cases h2 : 4096 ≤ ahead
      · have E : Aside0 (wrongM 1 x.data.toList ahead = 12) := ⟨by unfold wrongM; rw [if_neg (by decide), if_pos (.inr h2)]⟩
        clear hl
        go_enter Tryd.func23, Tryd.ntmps23
        go_wp2
        go_ret
        exact ⟨by rw [E.out]; rfl, B1.out⟩
      · have E : Aside0 (wrongM 1 x.data.toList ahead = 0) := ⟨by unfold wrongM; rw [if_neg (by decide), if_neg (by rintro (h | h) <;> omega), if_neg (by rintro ⟨h, _⟩; cases h)]⟩
        clear hl
        go_enter Tryd.func23, Tryd.ntmps23
        go_wp2
        go_ret
        exact ⟨by rw [E.out]; rfl, B1.out⟩
  · by_cases h2 : 4096 ≤ ahead
    · have E : Aside0 (wrongM 2 x.data.toList ahead = 12) := ⟨by unfold wrongM; rw [if_neg (by decide), if_pos (.inr h2)]⟩
      clear hl
      go_enter Tryd.func23, Tryd.ntmps23
      go_wp2
      go_ret
      exact ⟨by rw [E.out]; rfl, B1.out⟩
    · by_cases h3 : 18 < x.size
      · have E : Aside0 (wrongM 2 x.data.toList ahead = 11) := ⟨by unfold wrongM; rw [if_neg (by decide), if_neg (by rintro (⟨h, _⟩ | h) <;> omega), if_pos ⟨rfl, .inl (by omega)⟩]⟩
        clear hl
        go_enter Tryd.func23, Tryd.ntmps23
        go_wp2
        go_ret
        exact ⟨by rw [E.out]; rfl, B1.out⟩
      · by_cases h4 : 1 < x.size
        · have h0 : 0 < x.size := by omega
          obtain ⟨t, ht⟩ := head_of x h0
          by_cases h5 : ((x[0].toNat : Int) == 48) = true
          · have hc : x[0] = 48 := by
              have := beq_iff_eq.1 h5
              have h6 : x[0].toNat = 48 := by omega
              exact UInt8.toNat_inj.1 h6
            have E : Aside0 (wrongM 2 x.data.toList ahead = 11) := ⟨by unfold wrongM; rw [if_neg (by decide), if_neg (by rintro (⟨h, _⟩ | h) <;> omega), if_pos ⟨rfl, .inr ⟨by omega, by rw [ht, hc]; rfl⟩⟩]⟩
            clear hl hc ht
            go_enter Tryd.func23, Tryd.ntmps23
            go_wp2
            go_ret
            exact ⟨by rw [E.out]; rfl, B1.out⟩
          · have h5 : ((x[0].toNat : Int) == 48) = false := by simpa using h5
            have E : Aside0 (wrongM 2 x.data.toList ahead = 0) := ⟨by
              unfold wrongM; rw [if_neg (by decide), if_neg (by rintro (⟨h, _⟩ | h) <;> omega), if_neg]
              rintro ⟨_, h | ⟨_, h⟩⟩
              · omega
              · rw [ht] at h
                have := beq_eq_false_iff_ne.1 h5
                simp at h
                rw [h] at this
                exact this rfl⟩
            clear hl ht
            go_enter Tryd.func23, Tryd.ntmps23
            go_wp2
            go_ret
            exact ⟨by rw [E.out]; rfl, B1.out⟩
        · have E : Aside0 (wrongM 2 x.data.toList ahead = 0) := ⟨by unfold wrongM; rw [if_neg (by decide), if_neg (by rintro (⟨h, _⟩ | h) <;> omega), if_neg (by rintro ⟨_, h | ⟨h, _⟩⟩ <;> omega)]⟩
          clear hl
          go_enter Tryd.func23, Tryd.ntmps23
          go_wp2
          go_ret
          exact ⟨by rw [E.out]; rfl, B1.out⟩
  all_goals
    by_cases h2 : 4096 ≤ ahead
    · first
      | have E : Aside0 (wrongM 3 x.data.toList ahead = 12) := ⟨by unfold wrongM; rw [if_neg (by decide), if_pos (.inr h2)]⟩
      | skip
      have E : Aside0 (wrongM 4 x.data.toList ahead = 12) := ⟨by unfold wrongM; rw [if_neg (by decide), if_pos (.inr h2)]⟩
      have E2 : Aside0 (wrongM 3 x.data.toList ahead = 12) := ⟨by unfold wrongM; rw [if_neg (by decide), if_pos (.inr h2)]⟩
      clear hl
      go_enter Tryd.func23, Tryd.ntmps23
      go_wp2
      go_ret
      exact ⟨by first | (rw [E.out]; rfl) | (rw [E2.out]; rfl), B1.out⟩
    · have E : Aside0 (wrongM 3 x.data.toList ahead = 0) := ⟨by unfold wrongM; rw [if_neg (by decide), if_neg (by rintro (⟨h, _⟩ | h) <;> omega), if_neg (by rintro ⟨h, _⟩; cases h)]⟩
      have E2 : Aside0 (wrongM 4 x.data.toList ahead = 0) := ⟨by unfold wrongM; rw [if_neg (by decide), if_neg (by rintro (⟨h, _⟩ | h) <;> omega), if_neg (by rintro ⟨h, _⟩; cases h)]⟩
      clear hl
      go_enter Tryd.func23, Tryd.ntmps23
      go_wp2
      go_ret
      exact ⟨by first | (rw [E.out]; rfl) | (rw [E2.out]; rfl), B1.out⟩
end Go.Proofs.YthkndoglmajehaaDoor.Lex
