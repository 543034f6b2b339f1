import Derived.Test.YtdildjgkjmoihaaJ
namespace Go.Proofs.Ytdildjgkjmoihaa.Latch
open Go.RowKit Go.Proofs.YtdildjgkjmoihaaW.PrintWords Go.Proofs.YtdildjgkjmoihaaW.PrintLast Go.Proofs.YtdildjgkjmoihaaW.PrintMore Go.Proofs.Ytdildjgkjmoihaa.PLatchSteps
set_option linter.unusedVariables false
set_option linter.unusedSimpArgs false

/-! ### The reference's functions are the models -/
theorem w64 (i : Nat) (h : i < 9223372036854775807) : wrap64 ((i : Int) + 1) = ((i + 1 : Nat) : Int) := by unfold wrap64; omega
theorem new_l0 (n : Int) (m : Nat) (hm : (m : Int) = max 0 (min n 8)) : ∀ (d k i : Nat), i + d = m → d < k → portcullisref14_New.l0 k n (i : Int) (List.replicate i (-1)) = some (List.replicate m (-1)) := by
  intro d
  induction d with
  | zero =>
    intro k i hi hk
    obtain ⟨k, rfl⟩ : ∃ j, k = j + 1 := ⟨k - 1, by omega⟩
    obtain rfl : i = m := by omega
    unfold portcullisref14_New.l0
    by_cases h1 : (i : Int) < n
    · rw [if_pos h1, if_neg (by omega)]
    · rw [if_neg h1]
  | succ d ih =>
    intro k i hi hk
    obtain ⟨k, rfl⟩ : ∃ j, k = j + 1 := ⟨k - 1, by omega⟩
    unfold portcullisref14_New.l0
    rw [if_pos (by omega), if_pos (by omega), if_pos (by rw [List.length_replicate]; omega), w64 i (by omega)]
    have := ih k (i + 1) (by omega) (by omega)
    rw [List.replicate_succ'] at this
    exact this
theorem new_eq (n : Int) (m : Nat) (hm : (m : Int) = max 0 (min n 8)) : portcullisref14_New.f 10 n = some (List.replicate m (-1)) := new_l0 n m hm m 10 0 (by omega) (by omega)
theorem holder_eq (xs : List Int) (l : Int) : portcullisref14_Table_Holder.f xs l = some (holder xs l) := by
  unfold portcullisref14_Table_Holder.f holder
  by_cases h1 : l < 0
  · rw [if_pos h1, if_pos h1]
  · rw [if_neg h1, if_neg h1]
    by_cases h2 : (xs.length : Int) ≤ l
    · rw [if_pos h2, if_pos h2]
    · rw [if_neg h2, if_neg h2, if_pos (by omega), if_pos (by omega)]
theorem ge_at {xs : List Int} (hge : ∀ y ∈ xs, -1 ≤ y) (l : Int) (h0 : 0 ≤ l) (h1 : l < xs.length) : -1 ≤ rd xs l := by
  have := hge _ (rd_mem xs l.toNat (by omega))
  rwa [Int.toNat_of_nonneg h0] at this
theorem take_eq {xs : List Int} (hge : ∀ y ∈ xs, -1 ≤ y) (hl : xs.length ≤ 1000000) (l t : Int) : portcullisref14_Table_Take.f xs l t = some (take_ xs l t, takes xs l t) := by
  unfold portcullisref14_Table_Take.f take_ takes turns
  by_cases h1 : l < 0
  · rw [if_pos h1]; simp; omega
  rw [if_neg h1]
  by_cases h2 : l ≥ xs.length
  · rw [if_pos h2]; simp; omega
  rw [if_neg h2]
  by_cases h3 : t < 0
  · rw [if_pos h3]; simp; omega
  rw [if_neg h3, if_pos (by omega), if_pos (by omega)]
  have := ge_at hge l (by omega) (by omega)
  by_cases h4 : rd xs l ≥ 0
  · rw [if_pos h4]; simp; omega
  · rw [if_neg h4, copy_ints xs hl]
    show (if l < (xs.length : Int) then _ else _) = _
    rw [if_pos (by omega)]
    have e : (decide (0 ≤ t) && (decide (0 ≤ l) && (decide (l < (xs.length : Int)) && rd xs l == -1))) = true := by simp; omega
    rw [e, if_pos rfl]
theorem drop_eq {xs : List Int} (hge : ∀ y ∈ xs, -1 ≤ y) (hl : xs.length ≤ 1000000) (l t : Int) : portcullisref14_Table_Drop.f xs l t = some (drop_ xs l t, drops xs l t) := by
  unfold portcullisref14_Table_Drop.f drop_ drops turns
  by_cases h1 : t < 0
  · rw [if_pos h1]; simp; omega
  rw [if_neg h1, holder_eq]
  show (if holder xs l = t then _ else _) = _
  by_cases h2 : holder xs l = t
  · rw [if_pos h2, copy_ints xs hl]
    have h3 : 0 ≤ l ∧ l < xs.length ∧ rd xs l = t := by
      unfold holder at h2
      by_cases a : l < 0
      · rw [if_pos a] at h2; omega
      · rw [if_neg a] at h2
        by_cases b : (xs.length : Int) ≤ l
        · rw [if_pos b] at h2; omega
        · rw [if_neg b] at h2; omega
    show (if 0 ≤ l then (if l < (xs.length : Int) then _ else _) else _) = _
    rw [if_pos h3.1, if_pos h3.2.1]
    have e : (decide (0 ≤ t) && (decide (0 ≤ l) && (decide (l < (xs.length : Int)) && rd xs l == t))) = true := by simp; omega
    rw [e, if_pos rfl]
  · rw [if_neg h2]
    have e : (decide (0 ≤ t) && (decide (0 ≤ l) && (decide (l < (xs.length : Int)) && rd xs l == t))) = false := by
      rw [Bool.eq_false_iff]
      intro h
      simp at h
      apply h2
      unfold holder
      rw [if_neg (by omega), if_neg (by omega)]
      exact h.2.2.2
    rw [e]; rfl
theorem held_l0 {xs : List Int} (hge : ∀ y ∈ xs, -1 ≤ y) (hl : xs.length ≤ 1000000) (t : Int) : ∀ (d k i : Nat), i + d = xs.length → d < k → portcullisref14_Table_Held.l0 k t (held xs t i) (i : Int) xs = some (held xs t xs.length) := by
  intro d
  induction d with
  | zero =>
    intro k i hi hk
    obtain ⟨k, rfl⟩ : ∃ j, k = j + 1 := ⟨k - 1, by omega⟩
    obtain rfl : i = xs.length := by omega
    unfold portcullisref14_Table_Held.l0
    rw [if_neg (by omega)]
  | succ d ih =>
    intro k i hi hk
    obtain ⟨k, rfl⟩ : ∃ j, k = j + 1 := ⟨k - 1, by omega⟩
    have h1 := ih k (i + 1) (by omega) (by omega)
    rw [held_succ] at h1
    have hy := ge_at hge (i : Nat) (by omega) (by omega)
    have hll := held_len xs t i
    unfold portcullisref14_Table_Held.l0
    rw [if_pos (by omega), w64 i (by omega)]
    by_cases h2 : 0 ≤ t
    · rw [if_pos h2, if_pos (by omega)]
      by_cases h3 : rd xs (i : Nat) = t
      · rw [if_pos h3, if_pos (by omega)]
        rw [if_pos ⟨h3, by omega⟩] at h1
        exact h1
      · rw [if_neg h3]
        rw [if_neg (fun h => h3 h.1), List.append_nil] at h1
        exact h1
    · rw [if_neg h2]
      rw [if_neg (by omega), List.append_nil] at h1
      exact h1
theorem held_eq {xs : List Int} (hge : ∀ y ∈ xs, -1 ≤ y) (hl : xs.length ≤ 1000000) (t : Int) : portcullisref14_Table_Held.f (xs.length + 1) xs t = some (held xs t xs.length) := held_l0 hge hl t xs.length (xs.length + 1) 0 (by omega) (by omega)

theorem ring_l1 (xs ws : List Int) (hw : ws.length ≤ 1000000) (first : Nat) : ∀ (f : Nat) (acc : List Int), Chain xs ws first acc → acc.length + f = ws.length + 1 → ∀ k, f < k →
    (∀ r, ringGo xs ws first f acc = some r → portcullisref14_Table_Ring.l1 k ws first acc (rd acc ((acc.length : Int) - 1)) xs = some r) ∧
    (ringGo xs ws first f acc = none → ∃ k', k ≤ k' + f + 1 ∧ portcullisref14_Table_Ring.l1 k ws first acc (rd acc ((acc.length : Int) - 1)) xs = portcullisref14_Table_Ring.l0 k' ws (wrap64 ((first : Int) + 1)) xs) := by
  intro f
  induction f with
  | zero =>
    intro acc hc hl k hk
    obtain ⟨k, rfl⟩ : ∃ j, k = j + 1 := ⟨k - 1, by omega⟩
    refine ⟨fun r h => absurd h (by simp [ringGo]), fun _ => ⟨k, by omega, ?_⟩⟩
    rw [portcullisref14_Table_Ring.l1, if_neg (by omega)]
  | succ f ih =>
    intro acc hc hl k hk
    obtain ⟨k, rfl⟩ : ∃ j, k = j + 1 := ⟨k - 1, by omega⟩
    have hp := hc.pos
    obtain ⟨x, hx⟩ : ∃ x, rd acc ((acc.length : Int) - 1) = x := ⟨_, rfl⟩
    have hin := hc.ge (acc.length - 1) (by omega)
    rw [show ((acc.length - 1 : Nat) : Int) = (acc.length : Int) - 1 from by omega, hx] at hin
    obtain ⟨z, hz⟩ : ∃ z, holder xs (rd ws x) = z := ⟨_, rfl⟩
    have hgo : ringGo xs ws first (f + 1) acc = if z = first then some acc else if z < first ∨ (ws.length : Int) ≤ z then none else ringGo xs ws first f (acc ++ [z]) := by
      rw [ringGo, hx, hz]
    rw [hgo, hx]
    have hl1 : portcullisref14_Table_Ring.l1 (k + 1) ws first acc x xs = (if z = first then (some acc) else (if z < first then (portcullisref14_Table_Ring.l0 k ws (wrap64 ((first : Int) + 1)) xs) else (if z ≥ (ws.length : Int) then (portcullisref14_Table_Ring.l0 k ws (wrap64 ((first : Int) + 1)) xs) else (if acc.length < 17592186044416 then (portcullisref14_Table_Ring.l1 k ws first (acc ++ [z]) z xs) else (none))))) := by
      rw [portcullisref14_Table_Ring.l1, if_pos (by omega), if_pos (by omega), if_pos (by omega), holder_eq, hz]
      rfl
    rw [hl1]
    by_cases h1 : z = first
    · rw [if_pos h1, if_pos h1]
      exact ⟨fun r h => h, fun h => absurd h (by simp)⟩
    · rw [if_neg h1, if_neg h1]
      by_cases h2 : z < first
      · rw [if_pos (Or.inl h2), if_pos h2]
        exact ⟨fun r h => absurd h (by simp), fun _ => ⟨k, by omega, rfl⟩⟩
      · rw [if_neg h2]
        by_cases h3 : (ws.length : Int) ≤ z
        · rw [if_pos (Or.inr h3), if_pos h3]
          exact ⟨fun r h => absurd h (by simp), fun _ => ⟨k, by omega, rfl⟩⟩
        · rw [if_neg (by omega), if_neg h3, if_pos (by omega)]
          have := ih (acc ++ [z]) (hc.snoc (by rw [hx]; exact hz) (by omega) (by omega)) (by simp; omega) k (by omega)
          rw [rd_last] at this
          exact ⟨this.1, fun h => by
            obtain ⟨k', a, b⟩ := this.2 h
            exact ⟨k', by omega, b⟩⟩
theorem ring_l0 (xs ws : List Int) (hw : ws.length ≤ 1000000) : ∀ (d first k : Nat), first + d = ws.length → d * (ws.length + 3) < k → (∀ j, j < first → ringAt xs ws j = none) →
    portcullisref14_Table_Ring.l0 k ws (first : Int) xs = some (ring xs ws) := by
  intro d
  induction d with
  | zero =>
    intro first k hf hk hn
    obtain ⟨k, rfl⟩ : ∃ j, k = j + 1 := ⟨k - 1, by omega⟩
    rw [portcullisref14_Table_Ring.l0, if_neg (by omega), ring_none (fun j hj => hn j (by omega))]
  | succ d ih =>
    intro first k hf hk hn
    rw [Nat.succ_mul] at hk
    obtain ⟨k, rfl⟩ : ∃ j, k = j + 1 := ⟨k - 1, by omega⟩
    rw [portcullisref14_Table_Ring.l0, if_pos (by omega)]
    have h := ring_l1 xs ws hw first ws.length [(first : Int)] (chain_one (by omega)) (by simp; omega) k (by omega)
    have e : rd [(first : Int)] (([(first : Int)].length : Int) - 1) = first := rfl
    rw [e] at h
    cases hr : ringAt xs ws first with
    | some r =>
      rw [h.1 r hr, ring_found (by omega) hn hr]
    | none =>
      obtain ⟨k', h1, h2⟩ := h.2 hr
      rw [h2, w64 first (by omega)]
      refine ih (first + 1) k' (by omega) (by omega) ?_
      intro j hj
      rcases Nat.lt_or_ge j first with h3 | h3
      · exact hn j h3
      · obtain rfl : j = first := by omega
        exact hr
theorem ring_eq (xs ws : List Int) (hw : ws.length ≤ 1000000) : portcullisref14_Table_Ring.f (ws.length * (ws.length + 3) + 1) xs ws = some (ring xs ws) := ring_l0 xs ws hw ws.length 0 _ (by omega) (by omega) (fun j hj => absurd hj (by omega))
end Go.Proofs.Ytdildjgkjmoihaa.Latch
