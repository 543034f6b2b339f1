import Derived.Test.YtpbaebjohioijaaI
import Derived.Laws.Bits64
import Derived.Laws.Bits64b
namespace Go.Proofs.Ytpbaebjohioijaa.Lat
open Go.RowKit Go.Proofs.YtpbaebjohioijaaW.PrintWords
set_option linter.unusedVariables false
set_option linter.unusedSimpArgs false

/-! ### Sets as masks -/
def mask : Nat → (Nat → Bool) → Nat
  | 0, _ => 0
  | n + 1, p => mask n p ||| (if p n then 2 ^ n else 0)
theorem mask_bit (n : Nat) (p : Nat → Bool) (j : Nat) : (mask n p).testBit j = (decide (j < n) && p j) := by
  induction n with
  | zero => simp [mask]
  | succ n ih =>
    rw [mask, Nat.testBit_or, ih]
    by_cases hp : p n
    · rw [if_pos hp, Nat.testBit_two_pow]
      by_cases e : n = j
      · subst e; simp [hp]
      · have : (decide (j < n + 1)) = decide (j < n) := by simp; omega
        rw [this]
        simp [e]
    · rw [if_neg hp, Nat.zero_testBit]
      by_cases e : n = j
      · subst e; simp [hp]
      · have : (decide (j < n + 1)) = decide (j < n) := by simp; omega
        rw [this]
        simp
theorem mask_lt (n : Nat) (p : Nat → Bool) : mask n p < 2 ^ n := by
  apply Nat.lt_pow_two_of_testBit
  intro i hi
  rw [mask_bit]
  simp
  omega
theorem mask_ext {n : Nat} {p q : Nat → Bool} (h : ∀ i < n, p i = q i) : mask n p = mask n q := by
  apply Nat.eq_of_testBit_eq
  intro i
  rw [mask_bit, mask_bit]
  by_cases hi : i < n
  · rw [h i hi]
  · simp [hi]
theorem mask_inj {n : Nat} {p q : Nat → Bool} (h : mask n p = mask n q) : ∀ i < n, p i = q i := by
  intro i hi
  have := congrArg (fun x => x.testBit i) h
  simpa [mask_bit, hi] using this
theorem mask64 {n : Nat} (hn : n ≤ 8) (p : Nat → Bool) : mask n p < 18446744073709551616 :=
  Nat.lt_of_lt_of_le (mask_lt n p) (Nat.le_trans (Nat.pow_le_pow_right (by decide) hn) (by decide))
theorem mask_and {n : Nat} (hn : n ≤ 8) (p q : Nat → Bool) : Go.bits .and .u64 (mask n p : Nat) (mask n q : Nat) = ((mask n (fun i => p i && q i) : Nat) : Int) := by
  rw [bits_and_u64_nat _ _ (mask64 hn p) (mask64 hn q)]
  congr 1
  apply Nat.eq_of_testBit_eq
  intro i
  rw [Nat.testBit_and, mask_bit, mask_bit, mask_bit]
  cases decide (i < n) <;> simp
theorem mask_or {n : Nat} (hn : n ≤ 8) (p q : Nat → Bool) : Go.bits .or .u64 (mask n p : Nat) (mask n q : Nat) = ((mask n (fun i => p i || q i) : Nat) : Int) := by
  rw [bits_or_u64_nat _ _ (mask64 hn p) (mask64 hn q)]
  congr 1
  apply Nat.eq_of_testBit_eq
  intro i
  rw [Nat.testBit_or, mask_bit, mask_bit, mask_bit]
  cases decide (i < n) <;> simp
theorem mask_one {n j : Nat} (hj : j < n) : (2 : Int) ^ j = ((mask n (fun i => decide (i = j)) : Nat) : Int) := by
  have : (mask n (fun i => decide (i = j)) : Nat) = 2 ^ j := by
    apply Nat.eq_of_testBit_eq
    intro i
    rw [mask_bit, Nat.testBit_two_pow]
    by_cases e : i = j
    · subst e; simp [hj]
    · have : ¬ j = i := fun h => e h.symm
      simp [e, this]
  rw [this]
  simp
theorem mask_top (n : Nat) : (2 : Int) ^ n - 1 = ((mask n (fun _ => true) : Nat) : Int) := by
  have : (mask n (fun _ => true) : Nat) = 2 ^ n - 1 := by
    apply Nat.eq_of_testBit_eq
    intro i
    rw [mask_bit, Nat.testBit_two_pow_sub_one]
    simp
  rw [this]
  have := Nat.one_le_two_pow (n := n)
  rw [Int.natCast_sub this]
  simp
theorem mask_zero {n : Nat} {p : Nat → Bool} : mask n p = 0 ↔ ∀ i < n, p i = false := by
  have : mask n (fun _ => false) = 0 := by
    apply Nat.eq_of_testBit_eq
    intro i
    rw [mask_bit]
    simp
  constructor
  · intro h
    rw [← this] at h
    exact mask_inj h
  · intro h
    rw [← this]
    exact mask_ext h
theorem hasb_mask {n : Nat} (hn : n ≤ 8) (p : Nat → Bool) {l : Nat} (hl : l < n) : hasb (mask n p : Nat) l = p l := by
  rw [hasb, Int.toNat_natCast, mask_one hl, mask_and hn]
  cases hp : p l with
  | true =>
    rw [bne_iff_ne]
    intro h
    have h2 : mask n (fun i => p i && decide (i = l)) = 0 := by omega
    have := mask_zero.1 h2 l hl
    simp [hp] at this
  | false =>
    have : mask n (fun i => p i && decide (i = l)) = 0 := by
      rw [mask_zero]
      intro i hi
      by_cases e : i = l
      · subst e; simp [hp]
      · simp [e]
    rw [this]
    rfl
theorem mask_eqb {n : Nat} (p q : Nat → Bool) : (((mask n p : Nat) : Int) == ((mask n q : Nat) : Int)) = decide (∀ i < n, p i = q i) := by
  rw [Bool.eq_iff_iff, beq_iff_eq, decide_eq_true_iff]
  constructor
  · intro h
    exact mask_inj (by omega)
  · intro h
    rw [mask_ext h]

/-- The row us is the sets U. -/
structure Mk (n : Nat) (us : List Int) (U : Nat → Nat → Bool) : Prop where
  len : us.length = n
  at_ : ∀ i < n, rd us i = ((mask n (U i) : Nat) : Int)
theorem exP_mask {n : Nat} (hn : n ≤ 8) {us : List Int} {U : Nat → Nat → Bool} (h : Mk n us U) (o : Nat → Bool) {l : Nat} (hl : l < n) : exP (mask n o : Nat) us l = (o l && decide (∀ i < n, o i = true → U l i = true)) := by
  rw [exP, hasb_mask hn o hl, h.at_ l hl, mask_and hn, mask_eqb]
  congr 1
  rw [Bool.eq_iff_iff, decide_eq_true_iff, decide_eq_true_iff]
  constructor
  · intro h i hi ho
    have := h i hi
    rw [ho] at this
    simpa using this
  · intro h i hi
    cases ho : o i with
    | false => simp
    | true => simpa using h i hi ho

/-! ### Lattices -/
structure Lat (n : Nat) (le : Nat → Nat → Bool) : Prop where
  refl : ∀ a < n, le a a = true
  trans : ∀ a b c, a < n → b < n → c < n → le a b = true → le b c = true → le a c = true
  anti : ∀ a b, a < n → b < n → le a b = true → le b a = true → a = b
  join : ∀ a b, a < n → b < n → ∃ l, l < n ∧ le a l = true ∧ le b l = true ∧ ∀ i < n, le a i = true → le b i = true → le l i = true
  meet : ∀ a b, a < n → b < n → ∃ l, l < n ∧ le l a = true ∧ le l b = true ∧ ∀ i < n, le i a = true → le i b = true → le i l = true
theorem Lat.flip {n : Nat} {le : Nat → Nat → Bool} (h : Lat n le) : Lat n (fun a b => le b a) :=
  ⟨h.refl, fun a b c ha hb hc h1 h2 => h.trans c b a hc hb ha h2 h1, fun a b ha hb h1 h2 => h.anti a b ha hb h2 h1, h.meet, h.join⟩
structure IsLub (n : Nat) (le : Nat → Nat → Bool) (L : List Nat) (j : Nat) : Prop where
  lt : j < n
  up : ∀ l ∈ L, le l j = true
  least : ∀ i < n, (∀ l ∈ L, le l i = true) → le j i = true
theorem IsLub.unique {n : Nat} {le : Nat → Nat → Bool} (h : Lat n le) {L : List Nat} {j k : Nat} (h1 : IsLub n le L j) (h2 : IsLub n le L k) : j = k :=
  h.anti j k h1.lt h2.lt (h1.least k h2.lt h2.up) (h2.least j h1.lt h1.up)
theorem lub_cons {n : Nat} {le : Nat → Nat → Bool} (h : Lat n le) : ∀ (L : List Nat) (a : Nat), a < n → (∀ l ∈ L, l < n) → ∃ j, IsLub n le (a :: L) j := by
  intro L
  induction L with
  | nil =>
    intro a ha _
    exact ⟨a, ha, fun l hl => by rw [List.mem_singleton.1 hl]; exact h.refl a ha, fun i hi hu => hu a (by simp)⟩
  | cons b L ih =>
    intro a ha hL
    obtain ⟨j, hj⟩ := ih b (hL b (by simp)) (fun l hl => hL l (by simp [hl]))
    obtain ⟨k, k1, k2, k3, k4⟩ := h.join a j ha hj.lt
    refine ⟨k, k1, fun l hl => ?_, fun i hi hu => ?_⟩
    · rcases List.mem_cons.1 hl with rfl | hl
      · exact k2
      · exact h.trans l j k (hL l hl) hj.lt k1 (hj.up l hl) k3
    · exact k4 i hi (hu a (by simp)) (hj.least i hi (fun l hl => hu l (by simp [List.mem_cons.1 hl])))
theorem lub_nil {n : Nat} {le : Nat → Nat → Bool} (h : Lat n le) (hn : 0 < n) : ∃ j, IsLub n le [] j := by
  obtain ⟨j, hj⟩ := lub_cons h.flip (List.range n) 0 hn (fun l hl => List.mem_range.1 hl)
  exact ⟨j, hj.lt, fun l hl => absurd hl (by simp), fun i hi _ => hj.up i (by simp [hi])⟩
theorem lub_any {n : Nat} {le : Nat → Nat → Bool} (h : Lat n le) (hn : 0 < n) (L : List Nat) (hL : ∀ l ∈ L, l < n) : ∃ j, IsLub n le L j := by
  cases L with
  | nil => exact lub_nil h hn
  | cons a L => exact lub_cons h L a (hL a (by simp)) (fun l hl => hL l (by simp [hl]))

/-! ### Reachability -/
def stepS (es : List (Nat × Nat)) (S : Nat → Bool) (x : Nat) : Bool := S x || es.any (fun e => e.1 == x && S e.2)
def iterS (es : List (Nat × Nat)) (j : Nat) : Nat → Nat → Bool
  | 0 => fun x => x == j
  | k + 1 => stepS es (iterS es j k)
/-- x leads to j. -/
def rch (n : Nat) (es : List (Nat × Nat)) (x j : Nat) : Bool := iterS es j n x
theorem stepS_iff {es : List (Nat × Nat)} {S : Nat → Bool} {x : Nat} : stepS es S x = true ↔ S x = true ∨ ∃ b, (x, b) ∈ es ∧ S b = true := by
  rw [stepS, Bool.or_eq_true, List.any_eq_true]
  constructor
  · rintro (h | ⟨⟨a, b⟩, he, h⟩)
    · exact .inl h
    · rw [Bool.and_eq_true, beq_iff_eq] at h
      obtain ⟨rfl, h2⟩ := h
      exact .inr ⟨b, he, h2⟩
  · rintro (h | ⟨b, he, h⟩)
    · exact .inl h
    · exact .inr ⟨(x, b), he, by simp [h]⟩
theorem iterS_mono {es : List (Nat × Nat)} {j k x : Nat} (h : iterS es j k x = true) : iterS es j (k + 1) x = true := by
  rw [iterS, stepS_iff]
  exact .inl h
theorem iterS_le {es : List (Nat × Nat)} {j k m x : Nat} (hkm : k ≤ m) (h : iterS es j k x = true) : iterS es j m x = true := by
  induction m with
  | zero =>
    obtain rfl : k = 0 := by omega
    exact h
  | succ m ih =>
    rcases Nat.lt_or_ge m k with h1 | h1
    · obtain rfl : k = m + 1 := by omega
      exact h
    · exact iterS_mono (ih h1)
theorem countP_lt {p q : Nat → Bool} {l : List Nat} (h : ∀ x ∈ l, p x = true → q x = true) (hx : ∃ x ∈ l, q x = true ∧ p x = false) : l.countP p < l.countP q := by
  induction l with
  | nil => obtain ⟨x, hx, _⟩ := hx; cases hx
  | cons a l ih =>
    rw [List.countP_cons, List.countP_cons]
    have hm : l.countP p ≤ l.countP q := List.countP_mono_left (fun x hx => h x (by simp [hx]))
    obtain ⟨x, hx, h1, h2⟩ := hx
    rcases List.mem_cons.1 hx with rfl | hx
    · rw [h1, h2]
      simp
      omega
    · have := ih (fun x hx => h x (by simp [hx])) ⟨x, hx, h1, h2⟩
      by_cases hp : p a = true
      · rw [hp, h a (by simp) hp]
        omega
      · rw [if_neg hp]
        split <;> omega
/-- Either a round has added nothing, or there are as many as rounds. -/
theorem iterS_grows {n : Nat} {es : List (Nat × Nat)} (hes : ∀ e ∈ es, e.1 < n) {j : Nat} (hj : j < n) (k : Nat) : (∃ r ≤ k, ∀ x < n, iterS es j (r + 1) x = true → iterS es j r x = true) ∨ k + 1 ≤ (List.range n).countP (iterS es j k) := by
  induction k with
  | zero =>
    right
    have : 0 < (List.range n).countP (iterS es j 0) := List.countP_pos_iff.2 ⟨j, List.mem_range.2 hj, by simp [iterS]⟩
    omega
  | succ k ih =>
    rcases ih with ⟨r, hr, h⟩ | ih
    · exact .inl ⟨r, by omega, h⟩
    · by_cases hst : ∀ x < n, iterS es j (k + 1) x = true → iterS es j k x = true
      · exact .inl ⟨k, by omega, hst⟩
      · right
        have : (List.range n).countP (iterS es j k) < (List.range n).countP (iterS es j (k + 1)) := countP_lt (fun x _ h => iterS_mono h) (by
          apply Classical.byContradiction
          intro hno
          apply hst
          intro x hx h1
          cases h2 : iterS es j k x with
          | true => rfl
          | false => exact absurd ⟨x, List.mem_range.2 hx, h1, h2⟩ hno)
        omega
theorem iterS_stays {n : Nat} {es : List (Nat × Nat)} (hes : ∀ e ∈ es, e.1 < n ∧ e.2 < n) {j r : Nat} (h : ∀ x < n, iterS es j (r + 1) x = true → iterS es j r x = true) (d : Nat) : ∀ x < n, iterS es j (r + d) x = true → iterS es j r x = true := by
  induction d with
  | zero => intro x hx h; exact h
  | succ d ih =>
    intro x hx h2
    rw [← Nat.add_assoc, iterS, stepS_iff] at h2
    rcases h2 with h2 | ⟨b, hb, h2⟩
    · exact ih x hx h2
    · refine h x hx ?_
      rw [iterS, stepS_iff]
      exact .inr ⟨b, hb, ih b (hes _ hb).2 h2⟩
theorem rch_refl {n : Nat} (es : List (Nat × Nat)) (x : Nat) : rch n es x x = true := iterS_le (Nat.zero_le n) (by simp [iterS])
theorem rch_edge {n : Nat} {es : List (Nat × Nat)} (hes : ∀ e ∈ es, e.1 < n ∧ e.2 < n) {a b j : Nat} (hj : j < n) (he : (a, b) ∈ es) (h : rch n es b j = true) : rch n es a j = true := by
  have ha := (hes _ he).1
  rcases iterS_grows (fun e he => (hes e he).1) hj n with ⟨r, hr, hst⟩ | hc
  · have h1 : iterS es j (n + 1) a = true := by
      rw [iterS, stepS_iff]
      exact .inr ⟨b, he, h⟩
    have h2 := iterS_stays hes hst (n + 1 - r) a ha (by rw [show r + (n + 1 - r) = n + 1 from by omega]; exact h1)
    exact iterS_le hr h2
  · have := List.countP_le_length (p := iterS es j n) (l := List.range n)
    rw [List.length_range] at this
    omega
theorem rch_min {n : Nat} {es : List (Nat × Nat)} {j : Nat} (T : Nat → Prop) (h0 : T j) (h1 : ∀ a b, (a, b) ∈ es → T b → T a) {x : Nat} (h : rch n es x j = true) : T x := by
  have : ∀ k x, iterS es j k x = true → T x := by
    intro k
    induction k with
    | zero => intro x h; simp [iterS] at h; rw [h]; exact h0
    | succ k ih =>
      intro x h
      rw [iterS, stepS_iff] at h
      rcases h with h | ⟨b, hb, h⟩
      · exact ih x h
      · exact h1 x b hb (ih b h)
  exact this n x h
theorem rch_trans {n : Nat} {es : List (Nat × Nat)} (hes : ∀ e ∈ es, e.1 < n ∧ e.2 < n) {a b c : Nat} (hc : c < n) (h1 : rch n es a b = true) (h2 : rch n es b c = true) : rch n es a c = true :=
  rch_min (j := b) (fun x => rch n es x c = true) h2 (fun x y he h => rch_edge hes hc he h) h1
theorem rch_one {n : Nat} {es : List (Nat × Nat)} (hes : ∀ e ∈ es, e.1 < n ∧ e.2 < n) {a b : Nat} (he : (a, b) ∈ es) : rch n es a b = true := rch_edge hes (hes _ he).2 he (rch_refl es b)
/-- The edges turned. -/
def swapE (es : List (Nat × Nat)) : List (Nat × Nat) := es.map (fun e => (e.2, e.1))
theorem mem_swapE {es : List (Nat × Nat)} {a b : Nat} : (a, b) ∈ swapE es ↔ (b, a) ∈ es := by
  rw [swapE, List.mem_map]
  constructor
  · rintro ⟨⟨x, y⟩, h, e⟩
    simp at e
    obtain ⟨rfl, rfl⟩ := e
    exact h
  · intro h
    exact ⟨(b, a), h, rfl⟩
theorem swapE_ok {n : Nat} {es : List (Nat × Nat)} (hes : ∀ e ∈ es, e.1 < n ∧ e.2 < n) : ∀ e ∈ swapE es, e.1 < n ∧ e.2 < n := by
  rintro ⟨a, b⟩ h
  have := hes _ (mem_swapE.1 h)
  exact ⟨this.2, this.1⟩
theorem rch_swap1 {n : Nat} {es : List (Nat × Nat)} (hes : ∀ e ∈ es, e.1 < n ∧ e.2 < n) {a b : Nat} (hb : b < n) (h : rch n (swapE es) b a = true) : rch n es a b = true := by
  refine (rch_min (j := a) (fun x => x < n → rch n es a x = true) (fun _ => rch_refl es a) (fun x y he ih hx => ?_) h) hb
  have he' := mem_swapE.1 he
  exact rch_trans hes hx (ih (hes _ he').1) (rch_one hes he')
theorem swapE_swapE (es : List (Nat × Nat)) : swapE (swapE es) = es := by
  simp [swapE, Function.comp_def]
theorem rch_swap {n : Nat} {es : List (Nat × Nat)} (hes : ∀ e ∈ es, e.1 < n ∧ e.2 < n) {a b : Nat} (ha : a < n) (hb : b < n) : rch n (swapE es) b a = rch n es a b := by
  rw [Bool.eq_iff_iff]
  refine ⟨rch_swap1 hes hb, fun h => rch_swap1 (swapE_ok hes) ha ?_⟩
  rw [swapE_swapE]
  exact h

/-! ### The closure as it is reckoned -/
def updU (U : Nat → Nat → Bool) (e : Nat × Nat) : Nat → Nat → Bool := fun x j => U x j || (x == e.1 && U e.2 j)
def iterU (es : List (Nat × Nat)) : Nat → Nat → Nat → Bool
  | 0 => fun x j => x == j
  | k + 1 => es.foldl updU (iterU es k)
theorem updU_mono {U : Nat → Nat → Bool} {e : Nat × Nat} {x j : Nat} (h : U x j = true) : updU U e x j = true := by simp [updU, h]
theorem foldU_mono {es : List (Nat × Nat)} : ∀ {U : Nat → Nat → Bool} {x j : Nat}, U x j = true → es.foldl updU U x j = true := by
  induction es with
  | nil => intro U x j h; exact h
  | cons e es ih => intro U x j h; exact ih (updU_mono h)
theorem foldU_edge {es : List (Nat × Nat)} {a b j : Nat} : ∀ {U : Nat → Nat → Bool}, (a, b) ∈ es → U b j = true → es.foldl updU U a j = true := by
  induction es with
  | nil => intro U he; cases he
  | cons e es ih =>
    intro U he h
    rcases List.mem_cons.1 he with rfl | he
    · have h2 : updU U (a, b) a j = true := by simp [updU, h]
      show es.foldl updU (updU U (a, b)) a j = true
      exact foldU_mono h2
    · exact ih he (updU_mono h)
theorem foldU_sound {n : Nat} {es : List (Nat × Nat)} {fs : List (Nat × Nat)} (hes : ∀ e ∈ es, e.1 < n ∧ e.2 < n) (hfs : ∀ e ∈ fs, e ∈ es) : ∀ {U : Nat → Nat → Bool}, (∀ x j, j < n → U x j = true → rch n es x j = true) → ∀ x j, j < n → fs.foldl updU U x j = true → rch n es x j = true := by
  induction fs with
  | nil => intro U h; exact h
  | cons e fs ih =>
    intro U h
    refine ih (fun e he => hfs e (by simp [he])) (fun x j hj hu => ?_)
    rw [updU, Bool.or_eq_true, Bool.and_eq_true, beq_iff_eq] at hu
    rcases hu with hu | ⟨rfl, hu⟩
    · exact h x j hj hu
    · exact rch_edge hes hj (hfs e (by simp)) (h _ _ hj hu)
theorem iterU_sound {n : Nat} {es : List (Nat × Nat)} (hes : ∀ e ∈ es, e.1 < n ∧ e.2 < n) (k : Nat) : ∀ x j, j < n → iterU es k x j = true → rch n es x j = true := by
  induction k with
  | zero => intro x j _ h; simp [iterU] at h; rw [h]; exact rch_refl es j
  | succ k ih => exact foldU_sound hes (fun e he => he) ih
theorem iterU_all {es : List (Nat × Nat)} {j : Nat} (k : Nat) : ∀ x, iterS es j k x = true → iterU es k x j = true := by
  induction k with
  | zero => intro x h; exact h
  | succ k ih =>
    intro x h
    rw [iterS, stepS_iff] at h
    rcases h with h | ⟨b, hb, h⟩
    · exact foldU_mono (ih x h)
    · exact foldU_edge hb (ih b h)
theorem iterU_eq {n : Nat} {es : List (Nat × Nat)} (hes : ∀ e ∈ es, e.1 < n ∧ e.2 < n) {x j : Nat} (hj : j < n) : iterU es n x j = rch n es x j := by
  rw [Bool.eq_iff_iff]
  exact ⟨iterU_sound hes n x j hj, iterU_all n x⟩

theorem rd_set {us : List Int} {a i : Nat} {v : Int} (ha : a < us.length) : rd (us.set a v) i = if i = a then v else rd us i := by
  simp only [rd, Int.toNat_natCast, List.getD_eq_getElem?_getD]
  by_cases e : i = a
  · subst e
    rw [if_pos rfl, List.getElem?_set_self ha]
    rfl
  · rw [if_neg e, List.getElem?_set_ne (fun h => e h.symm)]
theorem Mk.step {n : Nat} (hn : n ≤ 8) {us : List Int} {U : Nat → Nat → Bool} (h : Mk n us U) {a b : Nat} (ha : a < n) (hb : b < n) : Mk n (us.set a (orr (rd us a) (rd us b))) (updU U (a, b)) := by
  refine ⟨by rw [List.length_set, h.len], fun i hi => ?_⟩
  rw [rd_set (by rw [h.len]; exact ha)]
  by_cases e : i = a
  · subst e
    rw [if_pos rfl, orr, h.at_ i hi, h.at_ b hb, mask_or hn]
    congr 1
    apply mask_ext
    intro j hj
    simp [updU]
  · rw [if_neg e, h.at_ i hi]
    congr 1
    apply mask_ext
    intro j hj
    simp [updU, e]
theorem Mk.ext {n : Nat} {us : List Int} {U V : Nat → Nat → Bool} (h : Mk n us U) (he : ∀ i < n, ∀ j < n, U i j = V i j) : Mk n us V :=
  ⟨h.len, fun i hi => by rw [h.at_ i hi, mask_ext (he i hi)]⟩
theorem Mk.unique {n : Nat} {us vs : List Int} {U : Nat → Nat → Bool} (h : Mk n us U) (k : Mk n vs U) : us = vs := by
  apply List.ext_getElem (by rw [h.len, k.len])
  intro i h1 h2
  have a := h.at_ i (by rw [← h.len]; exact h1)
  have b := k.at_ i (by rw [← h.len]; exact h1)
  simp only [rd, Int.toNat_natCast, List.getD_eq_getElem?_getD, List.getElem?_eq_getElem h1, List.getElem?_eq_getElem h2, Option.getD_some] at a b
  rw [a, b]
theorem Mk.init (n : Nat) : Mk n (initP n n) (fun x j => x == j) := by
  refine ⟨initP_len n n (Nat.le_refl _), fun i hi => ?_⟩
  have : rd (initP n n) i = 2 ^ i := by
    simp [rd, initP, List.getD_eq_getElem?_getD, hi]
  rw [this, mask_one hi]
  congr 1
  apply mask_ext
  intro j hj
  rw [Bool.eq_iff_iff]
  simp
  exact eq_comm
/-- The edges as natural numbers. -/
def natE (es : List (Int × Int)) : List (Nat × Nat) := es.map (fun e => (e.1.toNat, e.2.toNat))
theorem natE_ok {n : Nat} {es : List (Int × Int)} (h : badE n es = false) : ∀ e ∈ natE es, e.1 < n ∧ e.2 < n := by
  intro e he
  rw [natE, List.mem_map] at he
  obtain ⟨x, hx, rfl⟩ := he
  rw [badE, List.any_eq_false] at h
  have := h x hx
  simp [badB, lev] at this
  dsimp only
  omega
theorem fold_Mk {n : Nat} (hn : n ≤ 8) {es : List (Int × Int)} : (∀ e ∈ es, badB n e = false) → ∀ {s : List Int × List Int} {U V : Nat → Nat → Bool}, Mk n s.1 U → Mk n s.2 V → Mk n (es.foldl stepE s).1 ((natE es).foldl updU U) ∧ Mk n (es.foldl stepE s).2 ((swapE (natE es)).foldl updU V) := by
  induction es with
  | nil => intro _ s U V h k; exact ⟨h, k⟩
  | cons e es ih =>
    intro hb s U V h k
    have he := hb e (by simp)
    obtain ⟨a, b⟩ := e
    simp [badB, lev] at he
    obtain ⟨a, rfl⟩ := Int.eq_ofNat_of_zero_le he.1.1
    obtain ⟨b, rfl⟩ := Int.eq_ofNat_of_zero_le he.2.1
    have ha : a < n := by omega
    have hb2 : b < n := by omega
    exact ih (fun e he => hb e (by simp [he])) (h.step hn ha hb2) (k.step hn hb2 ha)
theorem iter_Mk {n : Nat} (hn : n ≤ 8) {es : List (Int × Int)} (hb : badE n es = false) (k : Nat) : Mk n (iterE es k (initP n n, initP n n)).1 (iterU (natE es) k) ∧ Mk n (iterE es k (initP n n, initP n n)).2 (iterU (swapE (natE es)) k) := by
  induction k with
  | zero => exact ⟨Mk.init n, Mk.init n⟩
  | succ k ih =>
    rw [badE, List.any_eq_false] at hb
    exact fold_Mk hn (fun e he => by have := hb e he; simpa using this) ih.1 ih.2
/-- What New reckons: who leads where. -/
theorem clos_Mk {n : Nat} (hn : n ≤ 8) {es : List (Int × Int)} (hb : badE n es = false) : Mk n (closE n es).1 (rch n (natE es)) ∧ Mk n (closE n es).2 (fun x j => rch n (natE es) j x) := by
  obtain ⟨h1, h2⟩ := iter_Mk hn hb n
  have hok := natE_ok hb
  refine ⟨h1.ext (fun i hi j hj => iterU_eq hok hj), h2.ext (fun i hi j hj => ?_)⟩
  rw [iterU_eq (swapE_ok hok) hj, rch_swap hok hj hi]
end Go.Proofs.Ytpbaebjohioijaa.Lat
