import Derived.Test.YtnjfiinnidklaaaL
import Derived.Laws.BitsAllLaws
namespace Go.Proofs.Ytnjfiinnidklaaa.Lat
open Go.RowKit Go.Proofs.YtnjfiinnidklaaaW.PrintWords
set_option linter.unusedVariables false
set_option linter.unusedSimpArgs false

/-! ### The chain -/
theorem mask_andNot {n : Nat} (hn : n ≤ 8) (p q : Nat → Bool) : Go.bits .andNot .u64 (mask n p : Nat) (mask n q : Nat) = ((mask n (fun i => p i && !q i) : Nat) : Int) := by
  have e : Go.bits .andNot .u64 (mask n p : Nat) (mask n q : Nat) = ((BitVec.ofNat 64 (mask n p) &&& ~~~ BitVec.ofNat 64 (mask n q)).toNat : Nat) := by
    unfold Go.bits
    rw [IntKind.wrap_u64]
    have h1 : BitVec.ofInt 64 (mask n p : Nat) = BitVec.ofNat 64 (mask n p) := by simp
    have h2 : BitVec.ofInt 64 (mask n q : Nat) = BitVec.ofNat 64 (mask n q) := by simp
    show ((BitVec.ofInt 64 (mask n p : Nat) &&& ~~~ BitVec.ofInt 64 (mask n q : Nat)).toNat : Int) % 18446744073709551616 = _
    rw [h1, h2]
    have := (BitVec.ofNat 64 (mask n p) &&& ~~~ BitVec.ofNat 64 (mask n q)).isLt
    omega
  rw [e]
  congr 1
  apply Nat.eq_of_testBit_eq
  intro i
  rw [mask_bit, BitVec.testBit_toNat, BitVec.getLsbD_and, BitVec.getLsbD_not, BitVec.getLsbD_ofNat, BitVec.getLsbD_ofNat, mask_bit, mask_bit]
  by_cases hi : i < n
  · have : i < 64 := by omega
    simp [hi, this]
  · simp [hi]
theorem chP_is {n : Nat} (hn : n ≤ 8) {ds : List Int} {V : Nat → Nat → Bool} (k : Mk n ds V) (S : Nat → Bool) {l : Nat} (hl : l < n) : chP ds (mask n S : Nat) l = true ↔ S l = false ∧ ∀ b < n, V l b = true → b ≠ l → S b = true := by
  rw [chP, hasb_mask hn S hl, k.at_ l hl, mask_one hl, mask_andNot hn, mask_andNot hn, Bool.and_eq_true, Bool.not_eq_true', beq_iff_eq]
  have : (((mask n (fun i => (V l i && !decide (i = l)) && !S i) : Nat) : Int) = 0) ↔ ∀ b < n, V l b = true → b ≠ l → S b = true := by
    constructor
    · intro h b hb h1 h2
      have h0 : mask n (fun i => (V l i && !decide (i = l)) && !S i) = 0 := by omega
      have := mask_zero.1 h0 b hb
      simpa [h1, h2] using this
    · intro h
      have : mask n (fun i => (V l i && !decide (i = l)) && !S i) = 0 := by
        rw [mask_zero]
        intro b hb
        cases h1 : V l b with
        | false => simp
        | true =>
          by_cases h2 : b = l
          · simp [h2]
          · simp [h b hb h1 h2]
      omega
  rw [this]
theorem down_least {n : Nat} {le : Nat → Nat → Bool} (hL : Lat n le) (S : Nat → Bool) : ∀ (m x : Nat), x < n → S x = false → (List.range n).countP (fun b => le b x) ≤ m → ∃ l < n, S l = false ∧ ∀ b < n, le b l = true → b ≠ l → S b = true := by
  intro m
  induction m with
  | zero =>
    intro x hx hS hc
    have : 0 < (List.range n).countP (fun b => le b x) := List.countP_pos_iff.2 ⟨x, List.mem_range.2 hx, hL.refl x hx⟩
    omega
  | succ m ih =>
    intro x hx hS hc
    by_cases h : ∀ b < n, le b x = true → b ≠ x → S b = true
    · exact ⟨x, hx, hS, h⟩
    · have : ∃ b, b < n ∧ le b x = true ∧ b ≠ x ∧ S b = false := by
        apply Classical.byContradiction
        intro hno
        apply h
        intro b hb h1 h2
        cases h3 : S b with
        | true => rfl
        | false => exact absurd ⟨b, hb, h1, h2, h3⟩ hno
      obtain ⟨b, hb, h1, h2, h3⟩ := this
      have hlt : (List.range n).countP (fun c => le c b) < (List.range n).countP (fun c => le c x) := countP_lt (fun c hc h => hL.trans c b x (List.mem_range.1 hc) hb hx h h1) ⟨x, List.mem_range.2 hx, hL.refl x hx, by
        cases h4 : le x b with
        | false => rfl
        | true => exact absurd (hL.anti b x hb hx h1 h4) h2⟩
      exact ih b hb h3 (by omega)
theorem next_some {n : Nat} (hn : n ≤ 8) {ds : List Int} {le : Nat → Nat → Bool} (k : Mk n ds (fun a b => le b a)) (hL : Lat n le) (S : Nat → Bool) (hS : ∃ x < n, S x = false) : ∃ l, nextl n ds (mask n S : Nat) = some l := by
  obtain ⟨x, hx, h0⟩ := hS
  obtain ⟨l, hl, h1, h2⟩ := down_least hL S _ x hx h0 (Nat.le_refl _)
  cases h : nextl n ds (mask n S : Nat) with
  | some l => exact ⟨l, rfl⟩
  | none =>
    rw [nextl, List.find?_eq_none] at h
    exact absurd ((chP_is hn k S hl).2 ⟨h1, h2⟩) (h l (List.mem_range.2 hl))
theorem or_one {n : Nat} (hn : n ≤ 8) (S : Nat → Bool) {l : Nat} (hl : l < n) : Go.bits .or .u64 (mask n S : Nat) (2 ^ l) = ((mask n (fun i => S i || decide (i = l)) : Nat) : Int) := by
  rw [mask_one hl, mask_or hn]
theorem count_or {n : Nat} (S : Nat → Bool) (l : Nat) : (List.range n).countP (fun i => S i || decide (i = l)) ≤ (List.range n).countP S + 1 := by
  have h : ∀ L : List Nat, L.Nodup → L.countP (fun i => S i || decide (i = l)) ≤ L.countP S + (if l ∈ L then 1 else 0) := by
    intro L
    induction L with
    | nil => intro _; simp
    | cons a L ih =>
      intro hd
      rw [List.nodup_cons] at hd
      have := ih hd.2
      rw [List.countP_cons, List.countP_cons]
      by_cases e : a = l
      · subst e
        rw [if_neg hd.1] at this
        simp
        split <;> omega
      · have h2 : ¬ l = a := fun h => e h.symm
        simp [e, h2]
        omega
  have := h (List.range n) List.nodup_range
  split at this <;> omega
theorem chain_some {n : Nat} (hn : n ≤ 8) {ds : List Int} {le : Nat → Nat → Bool} (k : Mk n ds (fun a b => le b a)) (hL : Lat n le) : ∀ (m : Nat) (S : Nat → Bool), (List.range n).countP S + m ≤ n → ∃ ys, chainF n ds m (mask n S : Nat) = some ys ∧ (∀ y ∈ ys, S y.toNat = false) ∧ ys.Pairwise (fun x y => x ≠ y ∧ le y.toNat x.toNat = false) := by
  intro m
  induction m with
  | zero => intro S _; exact ⟨[], rfl, by simp, List.Pairwise.nil⟩
  | succ m ih =>
    intro S hc
    have hex : ∃ x < n, S x = false := by
      apply Classical.byContradiction
      intro hno
      have : (List.range n).countP S = (List.range n).length := by
        rw [List.countP_eq_length]
        intro x hx
        cases h : S x with
        | true => rfl
        | false => exact absurd ⟨x, List.mem_range.1 hx, h⟩ hno
      rw [List.length_range] at this
      omega
    obtain ⟨l, hl⟩ := next_some hn k hL S hex
    have hl' := hl
    rw [nextl, List.find?_range_eq_some] at hl'
    obtain ⟨h1, h2, _⟩ := hl'
    rw [List.mem_range] at h2
    obtain ⟨h3, h4⟩ := (chP_is hn k S h2).1 h1
    have hcn := count_or (n := n) S l
    obtain ⟨zs, e, z1, z2⟩ := ih (fun i => S i || decide (i = l)) (by omega)
    refine ⟨(l : Int) :: zs, ?_, ?_, ?_⟩
    · rw [chainF, hl]
      dsimp only
      rw [or_one hn S h2, e]
      rfl
    · intro y hy
      rcases List.mem_cons.1 hy with rfl | hy
      · exact h3
      · have := z1 y hy
        simp at this
        exact this.1
    · rw [List.pairwise_cons]
      refine ⟨fun y hy => ?_, z2⟩
      have hz := z1 y hy
      simp at hz
      obtain ⟨y0, y1⟩ := chainF_lt e y hy
      refine ⟨fun he => hz.2 (by omega), ?_⟩
      rw [Int.toNat_natCast]
      cases h5 : le y.toNat l with
      | false => rfl
      | true =>
        have := h4 y.toNat (by omega) h5 hz.2
        rw [this] at hz
        exact absurd hz.1 (by simp)
theorem chain_all {n : Nat} (hn : n ≤ 8) {ds : List Int} {le : Nat → Nat → Bool} (k : Mk n ds (fun a b => le b a)) (hL : Lat n le) : ∃ ys, chainF n ds n 0 = some ys ∧ ys.Pairwise (fun x y => x ≠ y ∧ le y.toNat x.toNat = false) := by
  have h0 : ((mask n (fun _ => false) : Nat) : Int) = 0 := by
    have : mask n (fun _ => false) = 0 := mask_zero.2 (fun _ _ => rfl)
    omega
  obtain ⟨ys, e, _, h⟩ := chain_some hn k hL n (fun _ => false) (by simp)
  rw [h0] at e
  exact ⟨ys, e, h⟩
end Go.Proofs.Ytnjfiinnidklaaa.Lat
