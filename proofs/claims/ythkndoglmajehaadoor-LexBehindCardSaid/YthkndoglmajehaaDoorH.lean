import Derived.Test.YthkndoglmajehaaDoorG
import Derived.BigQuiet
namespace Go.Proofs.YthkndoglmajehaaDoor.Lex
open Go.RowKit Go.Proofs.YthkndoglmajehaaDoorW.PrintWords Go.Proofs.YthkndoglmajehaaDoorW.PrintLast Go.Proofs.YthkndoglmajehaaDoorW.PrintMore Go.Proofs.YthkndoglmajehaaDoor.PLexTokens
set_option linter.unusedVariables false
set_option linter.unusedSimpArgs false

/-! ### The reference: sign -/
def signN (l : List UInt8) : Nat := if isTwo l then 2 else match l with
  | [] => 0
  | c :: _ => if isSign c then 1 else 0
theorem isTwo_take (l : List UInt8) : isTwo l = ((l.take 2 == [60, 61]) || ((l.take 2 == [61, 61]) || (l.take 2 == [33, 61]))) := by
  have h : ∀ a b : UInt8, Lib.hasPrefix l [a, b] = (l.take 2 == [a, b]) := by
    intro a b
    unfold Lib.hasPrefix
    rw [Bool.eq_iff_iff, List.isPrefixOf_iff_prefix, beq_iff_eq, List.prefix_iff_eq_take]
    exact eq_comm
  unfold isTwo twos
  simp only [List.any_cons, List.any_nil, Bool.or_false]
  rw [h, h, h]
theorem sg_get (k : Nat) (h : k < 20) : ({ data := #[123, 125, 40, 41, 91, 93, 44, 59, 46, 58, 61, 43, 45, 42, 47, 37, 60, 33, 38, 124] } : ByteArray)[k]'h = signs.getD k 0 := by
  have : ∀ k : Fin 20, ({ data := #[123, 125, 40, 41, 91, 93, 44, 59, 46, 58, 61, 43, 45, 42, 47, 37, 60, 33, 38, 124] } : ByteArray)[k.val]'k.isLt = signs.getD k.val 0 := by decide +kernel
  exact this ⟨k, h⟩
theorem sign_here (s : ByteArray) (q : Nat) (hq : q < s.size) (l : List UInt8) (hl : s.data.toList.drop q = l) : l = s[q] :: l.tail := by
  have h : q < s.data.toList.length := by rw [size_list]; exact hq
  rw [← hl, List.drop_eq_getElem_cons h]
  rfl
set_option maxHeartbeats 2000000 in
set_option maxRecDepth 100000 in
theorem sign_any (s : ByteArray) (q : Nat) (w : World) (hq : q < s.size) (hs : s.size ≤ 1000000) :
    Calls Tryd.prog 26 #[.string s, .int .i64 q] w fun e w' => e = .returned (.int .i64 (signN (s.data.toList.drop q))) ∧ Drawn0 w w' := by
  obtain ⟨l, hl⟩ : ∃ l, s.data.toList.drop q = l := ⟨_, rfl⟩
  rw [hl]
  by_cases h1 : q + 1 < s.size
  · have hx : (s.extract q (q + 2)).toList = l.take 2 := by rw [Lib.toList_data, Lib.extract_data, ← hl]; congr 1; omega
    have ht := isTwo_take l
    obtain ⟨y, hy⟩ : ∃ y, l.take 2 = y := ⟨_, rfl⟩
    rw [hy] at hx ht
    clear hy
    by_cases e1 : y = [60, 61]
    · have HE : Aside0 (signN l = 2) := ⟨by unfold signN; rw [ht, e1]; rfl⟩
      subst e1
      clear ht hl
      go_enter Tryd.func26, Tryd.ntmps26
      go_wp2
      go_ret
      exact ⟨by rw [HE.out]; rfl, Drawn0.refl _⟩
    have d1 : (y == [60, 61]) = false := beq_eq_false_iff_ne.2 e1
    rw [d1, Bool.false_or] at ht
    by_cases e2 : y = [61, 61]
    · have HE : Aside0 (signN l = 2) := ⟨by unfold signN; rw [ht, e2]; rfl⟩
      subst e2
      clear ht hl e1 d1
      go_enter Tryd.func26, Tryd.ntmps26
      go_wp2
      go_ret
      exact ⟨by rw [HE.out]; rfl, Drawn0.refl _⟩
    have d2 : (y == [61, 61]) = false := beq_eq_false_iff_ne.2 e2
    rw [d2, Bool.false_or] at ht
    by_cases e3 : y = [33, 61]
    · have HE : Aside0 (signN l = 2) := ⟨by unfold signN; rw [ht, e3]; rfl⟩
      subst e3
      clear ht hl e1 d1 e2 d2
      go_enter Tryd.func26, Tryd.ntmps26
      go_wp2
      go_ret
      exact ⟨by rw [HE.out]; rfl, Drawn0.refl _⟩
    have d3 : (y == [33, 61]) = false := beq_eq_false_iff_ne.2 e3
    rw [d3] at ht
    have HT := Aside0.mk ht
    have HL := Aside0.mk hl
    clear ht hl
    go_enter Tryd.func26, Tryd.ntmps26
    go_wp2
    clear e1 e2 e3 d1 d2 d3 hx
    go_loopw [7] (fun i wr => ∃ k : Nat, i = .int .i64 k ∧ k ≤ 20 ∧ Aside0 (∀ j < k, signs.getD j 0 ≠ s[q]) ∧ Aside0 (Drawn0 w wr)) (fun i _ => 20 - (intOf i).toNat)
    case atStart => exact ⟨0, rfl, Nat.zero_le _, ⟨fun j hj => absurd hj (Nat.not_lt_zero j)⟩, ⟨Drawn0.refl _⟩⟩
    case round =>
      obtain ⟨k, rfl, hk, H0, HB⟩ := hrel
      obtain ⟨wi, rfl⟩ : ∃ wi : World, wi = wr := ⟨_, rfl⟩
      by_cases hlt : k < 20
      · have hi1 : (0 : Int) ≤ (k : Int) := by omega
        have hi2 : (k : Int) < 20 := by omega
        have hi3 : (0 : Int) ≤ (q : Int) := by omega
        have hi4 : (q : Int) < s.size := by omega
        by_cases e : signs.getD k 0 = s[q]
        · have hb : ((((({ data := #[123, 125, 40, 41, 91, 93, 44, 59, 46, 58, 61, 43, 45, 42, 47, 37, 60, 33, 38, 124] } : ByteArray)[k]'hlt).toNat : Nat) : Int) == (s[q].toNat : Int)) = true := by rw [sg_get k hlt, e]; simp
          have HE : Aside0 (signN l = 1) := ⟨by
            unfold signN; rw [HT.out, sign_here s q hq l HL.out]
            dsimp only
            rw [if_neg (by decide), if_pos]
            unfold isSign
            rw [List.contains_iff_mem, ← e, List.getD_eq_getElem?_getD, List.getElem?_eq_getElem (show k < signs.length from hlt)]
            exact List.getElem_mem _⟩
          clear e
          go_wp2
          go_quiet (fail)
          go_wp2
          go_ret
          exact ⟨by rw [HE.out]; rfl, HB.out.step _⟩
        · have hb : ((((({ data := #[123, 125, 40, 41, 91, 93, 44, 59, 46, 58, 61, 43, 45, 42, 47, 37, 60, 33, 38, 124] } : ByteArray)[k]'hlt).toNat : Nat) : Int) == (s[q].toNat : Int)) = false := by
            rw [sg_get k hlt, beq_eq_false_iff_ne]
            intro h
            exact e (UInt8.toNat_inj.1 (by omega))
          have HE := Aside0.mk e
          clear e
          go_wp2
          go_quiet (fail)
          go_wp2
          go_roundw
          case rel => exact ⟨k + 1, by go_num, by omega, ⟨fun j hj => by
            by_cases e : j = k
            · rw [e]; exact HE.out
            · exact H0.out j (by omega)⟩, ⟨HB.out.step _⟩⟩
          case measure => simp [intOf]; omega
      · have HE : Aside0 (signN l = 0) := ⟨by
          unfold signN; rw [HT.out, sign_here s q hq l HL.out]
          dsimp only
          rw [if_neg (by decide), if_neg]
          unfold isSign
          intro h
          rw [List.contains_iff_mem] at h
          obtain ⟨j, hj, e⟩ := List.getElem_of_mem h
          have hj2 : j < 20 := hj
          refine H0.out j (by omega) ?_
          rw [List.getD_eq_getElem?_getD, List.getElem?_eq_getElem hj]
          exact e⟩
        go_wp2
        go_ret
        exact ⟨by rw [HE.out]; rfl, HB.out⟩
  · have ht : isTwo l = false := by
      rw [isTwo_take]
      have h2 : (l.take 2).length ≤ 1 := by rw [List.length_take, ← hl, List.length_drop, size_list]; omega
      have h3 : ∀ a b : UInt8, (l.take 2 == [a, b]) = false := by
        intro a b
        rw [beq_eq_false_iff_ne]
        intro h
        rw [h] at h2
        simp at h2
      rw [h3, h3, h3]; rfl
    have HT := Aside0.mk ht
    have HL := Aside0.mk hl
    clear ht hl
    go_enter Tryd.func26, Tryd.ntmps26
    go_wp2
    go_loopw [7] (fun i wr => ∃ k : Nat, i = .int .i64 k ∧ k ≤ 20 ∧ Aside0 (∀ j < k, signs.getD j 0 ≠ s[q]) ∧ Aside0 (Drawn0 w wr)) (fun i _ => 20 - (intOf i).toNat)
    case atStart => exact ⟨0, rfl, Nat.zero_le _, ⟨fun j hj => absurd hj (Nat.not_lt_zero j)⟩, ⟨Drawn0.refl _⟩⟩
    case round =>
      obtain ⟨k, rfl, hk, H0, HB⟩ := hrel
      obtain ⟨wi, rfl⟩ : ∃ wi : World, wi = wr := ⟨_, rfl⟩
      by_cases hlt : k < 20
      · have hi1 : (0 : Int) ≤ (k : Int) := by omega
        have hi2 : (k : Int) < 20 := by omega
        have hi3 : (0 : Int) ≤ (q : Int) := by omega
        have hi4 : (q : Int) < s.size := by omega
        by_cases e : signs.getD k 0 = s[q]
        · have hb : ((((({ data := #[123, 125, 40, 41, 91, 93, 44, 59, 46, 58, 61, 43, 45, 42, 47, 37, 60, 33, 38, 124] } : ByteArray)[k]'hlt).toNat : Nat) : Int) == (s[q].toNat : Int)) = true := by rw [sg_get k hlt, e]; simp
          have HE : Aside0 (signN l = 1) := ⟨by
            unfold signN; rw [HT.out, sign_here s q hq l HL.out]
            dsimp only
            rw [if_neg (by decide), if_pos]
            unfold isSign
            rw [List.contains_iff_mem, ← e, List.getD_eq_getElem?_getD, List.getElem?_eq_getElem (show k < signs.length from hlt)]
            exact List.getElem_mem _⟩
          clear e
          go_wp2
          go_quiet (fail)
          go_wp2
          go_ret
          exact ⟨by rw [HE.out]; rfl, HB.out.step _⟩
        · have hb : ((((({ data := #[123, 125, 40, 41, 91, 93, 44, 59, 46, 58, 61, 43, 45, 42, 47, 37, 60, 33, 38, 124] } : ByteArray)[k]'hlt).toNat : Nat) : Int) == (s[q].toNat : Int)) = false := by
            rw [sg_get k hlt, beq_eq_false_iff_ne]
            intro h
            exact e (UInt8.toNat_inj.1 (by omega))
          have HE := Aside0.mk e
          clear e
          go_wp2
          go_quiet (fail)
          go_wp2
          go_roundw
          case rel => exact ⟨k + 1, by go_num, by omega, ⟨fun j hj => by
            by_cases e : j = k
            · rw [e]; exact HE.out
            · exact H0.out j (by omega)⟩, ⟨HB.out.step _⟩⟩
          case measure => simp [intOf]; omega
      · have HE : Aside0 (signN l = 0) := ⟨by
          unfold signN; rw [HT.out, sign_here s q hq l HL.out]
          dsimp only
          rw [if_neg (by decide), if_neg]
          unfold isSign
          intro h
          rw [List.contains_iff_mem] at h
          obtain ⟨j, hj, e⟩ := List.getElem_of_mem h
          have hj2 : j < 20 := hj
          refine H0.out j (by omega) ?_
          rw [List.getD_eq_getElem?_getD, List.getElem?_eq_getElem hj]
          exact e⟩
        go_wp2
        go_ret
        exact ⟨by rw [HE.out]; rfl, HB.out⟩
end Go.Proofs.YthkndoglmajehaaDoor.Lex
