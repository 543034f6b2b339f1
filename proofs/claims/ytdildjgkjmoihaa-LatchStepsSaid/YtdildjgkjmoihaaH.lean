import Derived.Test.YtdildjgkjmoihaaG
namespace Go.Proofs.Ytdildjgkjmoihaa.Latch
open Go.RowKit Go.Proofs.YtdildjgkjmoihaaW.PrintWords Go.Proofs.YtdildjgkjmoihaaW.PrintLast Go.Proofs.YtdildjgkjmoihaaW.PrintMore Go.Proofs.Ytdildjgkjmoihaa.PLatchSteps
set_option linter.unusedVariables false
set_option linter.unusedSimpArgs false

/-! ### What a ring is -/
def nx (xs ws : List Int) (x : Int) : Int := holder xs (rd ws x)
theorem rd_app_lt (a : List Int) (y : Int) (i : Nat) (h : i < a.length) : rd (a ++ [y]) (i : Nat) = rd a (i : Nat) := by
  unfold rd; rw [Int.toNat_natCast, List.getD_eq_getElem?_getD, List.getD_eq_getElem?_getD, List.getElem?_append_left h]
theorem rd_app_eq (a : List Int) (y : Int) : rd (a ++ [y]) (a.length : Nat) = y := by
  unfold rd; rw [Int.toNat_natCast, List.getD_eq_getElem?_getD, List.getElem?_append_right (Nat.le_refl _), Nat.sub_self]; rfl

structure Chain (xs ws : List Int) (first : Int) (acc : List Int) : Prop where
  pos : 0 < acc.length
  head : rd acc (0 : Nat) = first
  ge : ∀ i : Nat, i < acc.length → first ≤ rd acc (i : Nat) ∧ rd acc (i : Nat) < ws.length
  step : ∀ i : Nat, i + 1 < acc.length → nx xs ws (rd acc (i : Nat)) = rd acc ((i + 1 : Nat) : Int)
theorem Chain.snoc {xs ws : List Int} {first y : Int} {acc : List Int} (h : Chain xs ws first acc) (hy : nx xs ws (rd acc ((acc.length : Int) - 1)) = y) (h1 : first ≤ y) (h2 : y < ws.length) : Chain xs ws first (acc ++ [y]) := by
  have hp := h.pos
  have e1 : ((acc.length : Int) - 1) = ((acc.length - 1 : Nat) : Int) := by omega
  rw [e1] at hy
  refine ⟨by simp, by rw [rd_app_lt _ _ 0 hp]; exact h.head, ?_, ?_⟩
  · intro i hi
    rw [List.length_append, List.length_singleton] at hi
    rcases Nat.lt_or_ge i acc.length with h3 | h3
    · rw [rd_app_lt _ _ i h3]; exact h.ge i h3
    · obtain rfl : i = acc.length := by omega
      rw [rd_app_eq]; exact ⟨h1, h2⟩
  · intro i hi
    rw [List.length_append, List.length_singleton] at hi
    rw [rd_app_lt _ _ i (by omega)]
    rcases Nat.lt_or_ge (i + 1) acc.length with h3 | h3
    · rw [rd_app_lt _ _ _ h3]; exact h.step i h3
    · obtain rfl : i = acc.length - 1 := by omega
      rw [show acc.length - 1 + 1 = acc.length from by omega, rd_app_eq]
      exact hy
theorem ringGo_some {xs ws : List Int} {first : Int} : ∀ (f : Nat) (acc r : List Int), Chain xs ws first acc → ringGo xs ws first f acc = some r → Chain xs ws first r ∧ nx xs ws (rd r ((r.length : Int) - 1)) = first ∧ r.length < acc.length + f := by
  intro f
  induction f with
  | zero => intro acc r _ h; exact absurd h (by simp [ringGo])
  | succ f ih =>
    intro acc r hc h
    unfold ringGo at h
    split at h
    · rename_i he
      obtain rfl := Option.some.inj h
      exact ⟨hc, he, by omega⟩
    · split at h
      · exact absurd h (by simp)
      · rename_i hn
        obtain ⟨a, b, c⟩ := ih _ _ (hc.snoc rfl (by unfold nx; omega) (by unfold nx; omega)) h
        rw [List.length_append, List.length_singleton] at c
        exact ⟨a, b, by omega⟩
theorem chain_one {xs ws : List Int} {k : Nat} (hk : k < ws.length) : Chain xs ws (k : Int) [(k : Int)] := by
  refine ⟨by simp, rfl, ?_, ?_⟩
  · intro i hi
    obtain rfl : i = 0 := by simpa using hi
    have e : rd [(k : Int)] ((0 : Nat) : Int) = k := rfl
    rw [e]
    omega
  · intro i hi
    simp at hi
theorem ring_cases (xs ws : List Int) : (ring xs ws = [] ∧ ∀ i, i < ws.length → ringAt xs ws i = none) ∨ ∃ i, i < ws.length ∧ ringAt xs ws i = some (ring xs ws) := by
  unfold ring
  cases h : (List.range ws.length).findSome? (ringAt xs ws) with
  | none =>
    rw [List.findSome?_eq_none_iff] at h
    exact .inl ⟨rfl, fun i hi => h i (List.mem_range.2 hi)⟩
  | some r =>
    obtain ⟨i, hi, hr⟩ := List.exists_of_findSome?_eq_some h
    exact .inr ⟨i, List.mem_range.1 hi, hr⟩
/-- A ring that is found: each of it is one of the threads, its next one is the one that holds what it waits for, and none is less than the first one. -/
theorem ring_law (xs ws : List Int) (i : Nat) (hi : i < (ring xs ws).length) :
    0 ≤ rd (ring xs ws) (i : Nat) ∧ rd (ring xs ws) (i : Nat) < ws.length ∧ holder xs (rd ws (rd (ring xs ws) (i : Nat))) = rd (ring xs ws) (((i + 1) % (ring xs ws).length : Nat) : Int) ∧ rd (ring xs ws) (0 : Nat) ≤ rd (ring xs ws) (i : Nat) := by
  rcases ring_cases xs ws with ⟨h, _⟩ | ⟨k, hk, h⟩
  · rw [h] at hi; simp at hi
  · obtain ⟨r, hr⟩ : ∃ r, ring xs ws = r := ⟨_, rfl⟩
    rw [hr] at h hi ⊢
    obtain ⟨hc, hl, _⟩ := ringGo_some ws.length [(k : Int)] r (chain_one hk) h
    obtain ⟨g1, g2⟩ := hc.ge i hi
    refine ⟨by omega, g2, ?_, by rw [hc.head]; exact g1⟩
    rcases Nat.lt_or_ge (i + 1) r.length with h3 | h3
    · rw [Nat.mod_eq_of_lt h3]; exact hc.step i h3
    · have : i + 1 = r.length := by omega
      rw [this, Nat.mod_self, hc.head, ← hl, show ((r.length : Int) - 1) = (i : Int) from by omega]
      exact rfl
theorem ring_len (xs ws : List Int) : (ring xs ws).length ≤ ws.length := by
  rcases ring_cases xs ws with ⟨h, _⟩ | ⟨k, hk, h⟩
  · rw [h]; simp
  · have := (ringGo_some ws.length [(k : Int)] _ (chain_one hk) h).2.2
    simp at this; omega

/-! ### Where there is none -/
def it (xs ws : List Int) (x : Int) : Nat → Int
  | 0 => x
  | n + 1 => nx xs ws (it xs ws x n)
theorem it_add (xs ws : List Int) (x : Int) (a b : Nat) : it xs ws x (a + b) = it xs ws (it xs ws x a) b := by
  induction b with
  | zero => rfl
  | succ b ih => show nx xs ws (it xs ws x (a + b)) = _; rw [ih]; rfl
theorem pigeon : ∀ (n p : Nat) (s : Nat → Int), (∀ a, a < p → 0 ≤ s a ∧ s a < n) → (∀ a b, a < b → b < p → s a ≠ s b) → p ≤ n := by
  intro n
  induction n with
  | zero =>
    intro p s h _
    rcases Nat.eq_zero_or_pos p with h0 | h0
    · omega
    · have := h 0 h0; omega
  | succ n ih =>
    intro p s h hi
    by_cases hex : ∃ a, a < p ∧ s a = n
    · obtain ⟨a, ha, hs⟩ := hex
      have := ih (p - 1) (fun j => if j = a then s (p - 1) else s j) (by
        intro j hj
        show 0 ≤ (if j = a then s (p - 1) else s j) ∧ (if j = a then s (p - 1) else s j) < n
        split
        · rename_i he
          have h1 := h (p - 1) (by omega)
          have h2 := hi a (p - 1) (by omega) (by omega)
          omega
        · rename_i he
          have h1 := h j (by omega)
          have h2 : s j ≠ s a := by
            rcases Nat.lt_or_ge j a with h3 | h3
            · exact hi j a h3 ha
            · exact fun e => hi a j (by omega) (by omega) e.symm
          omega) (by
        intro j k hjk hk
        show (if j = a then s (p - 1) else s j) ≠ (if k = a then s (p - 1) else s k)
        split
        · rw [if_neg (by omega)]
          exact fun e => hi k (p - 1) (by omega) (by omega) e.symm
        · split
          · exact hi j (p - 1) (by omega) (by omega)
          · exact hi j k hjk (by omega))
      omega
    · have := ih p s (by
        intro a ha
        have h1 := h a ha
        have h2 : s a ≠ n := fun e => hex ⟨a, ha, e⟩
        omega) hi
      omega
theorem ringGo_finds {xs ws : List Int} {first : Int} : ∀ (f : Nat) (acc : List Int) (d : Nat), 0 < acc.length → d < f →
    it xs ws (rd acc ((acc.length : Int) - 1)) (d + 1) = first →
    (∀ j, j ≤ d → first ≤ it xs ws (rd acc ((acc.length : Int) - 1)) j ∧ it xs ws (rd acc ((acc.length : Int) - 1)) j < ws.length) →
    ringGo xs ws first f acc ≠ none := by
  intro f
  induction f with
  | zero => intro acc d _ h; omega
  | succ f ih =>
    intro acc d hp hd he hj
    unfold ringGo
    split
    · exact fun h => by simp at h
    · rename_i hne
      cases d with
      | zero => exact absurd he hne
      | succ d =>
        have h1 := hj 1 (by omega)
        change first ≤ nx xs ws (rd acc ((acc.length : Int) - 1)) ∧ nx xs ws (rd acc ((acc.length : Int) - 1)) < ws.length at h1
        unfold nx at h1
        rw [if_neg (by omega)]
        refine ih _ d (by simp) (by omega) ?_ ?_
        · rw [rd_last]
          rw [show d + 1 + 1 = 1 + (d + 1) from by omega, it_add] at he
          exact he
        · intro j hjd
          rw [rd_last]
          have := hj (1 + j) (by omega)
          rw [it_add] at this
          exact this
theorem least (P : Nat → Prop) : ∀ n, P n → ∃ m, P m ∧ ∀ j, j < m → ¬ P j := by
  intro n
  induction n using Nat.strongRecOn with
  | ind n ih =>
    intro hn
    by_cases h : ∃ j, j < n ∧ P j
    · obtain ⟨j, hj, hp⟩ := h
      exact ih j hj hp
    · exact ⟨n, hn, fun j hj hp => h ⟨j, hj, hp⟩⟩
theorem least_at (s : Nat → Int) : ∀ p, 0 < p → ∃ m, m < p ∧ ∀ j, j < p → s m ≤ s j := by
  intro p
  induction p with
  | zero => intro h; omega
  | succ p ih =>
    intro _
    rcases Nat.eq_zero_or_pos p with h0 | h0
    · refine ⟨0, by omega, fun j hj => ?_⟩
      obtain rfl : j = 0 := by omega
      exact Int.le_refl _
    · obtain ⟨m, hm, h⟩ := ih h0
      by_cases hc : s m ≤ s p
      · exact ⟨m, by omega, fun j hj => by
          rcases Nat.lt_or_ge j p with h1 | h1
          · exact h j h1
          · obtain rfl : j = p := by omega
            exact hc⟩
      · exact ⟨p, by omega, fun j hj => by
          rcases Nat.lt_or_ge j p with h1 | h1
          · have := h j h1; omega
          · obtain rfl : j = p := by omega
            exact Int.le_refl _⟩
/-- Where no ring is found none comes back to itself. -/
theorem no_back (xs ws : List Int) (hn : ring xs ws = []) (x : Int) (k : Nat) (hk : ∀ j, j ≤ k → 0 ≤ it xs ws x j ∧ it xs ws x j < ws.length) : it xs ws x (k + 1) ≠ x := by
  intro hx
  have hnone : ∀ i, i < ws.length → ringAt xs ws i = none := by
    rcases ring_cases xs ws with ⟨_, h⟩ | ⟨i, hi, h⟩
    · exact h
    · rw [hn] at h
      have := ringGo_some ws.length [(i : Int)] _ (chain_one hi) h
      exact absurd this.1.pos (by simp)
  obtain ⟨p, ⟨hp0, hpk, hp⟩, hmin⟩ := least (fun p => 1 ≤ p ∧ p ≤ k + 1 ∧ it xs ws x p = x) (k + 1) ⟨by omega, Nat.le_refl _, hx⟩
  have hin : ∀ j, j < p → 0 ≤ it xs ws x j ∧ it xs ws x j < ws.length := fun j hj => hk j (by omega)
  have hpn : p ≤ ws.length := by
    refine pigeon ws.length p (it xs ws x) hin ?_
    intro a b hab hb he
    refine hmin (a + (p - b)) (by omega) ⟨by omega, by omega, ?_⟩
    rw [it_add, he, ← it_add, show b + (p - b) = p from by omega, hp]
  obtain ⟨m, hm, hle⟩ := least_at (it xs ws x) p (by omega)
  have hper : ∀ j, it xs ws x (p + j) = it xs ws x j := fun j => by rw [it_add, hp]
  have hall : ∀ j, j < p → it xs ws x m ≤ it xs ws (it xs ws x m) j ∧ it xs ws (it xs ws x m) j < ws.length := by
    intro j hj
    rw [← it_add]
    rcases Nat.lt_or_ge (m + j) p with h | h
    · exact ⟨hle _ h, (hin _ h).2⟩
    · rw [show m + j = p + (m + j - p) from by omega, hper]
      exact ⟨hle _ (by omega), (hin _ (by omega)).2⟩
  have hm0 := hin m hm
  obtain ⟨i, hi⟩ : ∃ i : Nat, it xs ws x m = i := ⟨(it xs ws x m).toNat, by omega⟩
  rw [hi] at hall hm0
  refine ringGo_finds (xs := xs) (ws := ws) (first := (i : Int)) ws.length [(i : Int)] (p - 1) (by simp) (by omega) ?_ ?_ (hnone i (by omega))
  · show it xs ws (i : Int) (p - 1 + 1) = i
    rw [show p - 1 + 1 = p from by omega, ← hi, ← it_add, Nat.add_comm, hper]
  · intro j hj
    exact hall j (by omega)
end Go.Proofs.Ytdildjgkjmoihaa.Latch
