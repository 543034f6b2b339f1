import Derived.Test.YtnjfiinnidklaaaN
namespace Go.Proofs.Ytnjfiinnidklaaa.Lat
open Go.RowKit Go.Proofs.YtnjfiinnidklaaaW.PrintWords
set_option linter.unusedVariables false
set_option linter.unusedSimpArgs false

/-! ### What LatticeBelow sees -/
def seenE (S : Nat → Bool) (e : Nat × Nat) : Nat → Bool := if S e.1 then fun x => S x || x == e.2 else S
def seenN (es : List (Nat × Nat)) (S : Nat → Bool) : Nat → Nat → Bool
  | 0 => S
  | k + 1 => es.foldl seenE (seenN es S k)
theorem seenE_mono {S : Nat → Bool} {e : Nat × Nat} {x : Nat} (h : S x = true) : seenE S e x = true := by
  unfold seenE
  split
  · simp [h]
  · exact h
theorem seenF_mono {es : List (Nat × Nat)} : ∀ {S : Nat → Bool} {x : Nat}, S x = true → es.foldl seenE S x = true := by
  induction es with
  | nil => intro S x h; exact h
  | cons e es ih => intro S x h; exact ih (seenE_mono h)
theorem seenF_edge {es : List (Nat × Nat)} {a b : Nat} : ∀ {S : Nat → Bool}, (a, b) ∈ es → S a = true → es.foldl seenE S b = true := by
  induction es with
  | nil => intro S he; cases he
  | cons e es ih =>
    intro S he h
    rcases List.mem_cons.1 he with rfl | he
    · have h2 : seenE S (a, b) b = true := by simp [seenE, h]
      show es.foldl seenE (seenE S (a, b)) b = true
      exact seenF_mono h2
    · exact ih he (seenE_mono h)
theorem seenF_sound {n : Nat} {es fs : List (Nat × Nat)} {a : Nat} (hes : ∀ e ∈ es, e.1 < n ∧ e.2 < n) (hfs : ∀ e ∈ fs, e ∈ es) : ∀ {S : Nat → Bool}, (∀ x, S x = true → rch n es a x = true) → ∀ x, fs.foldl seenE S x = true → rch n es a x = true := by
  induction fs with
  | nil => intro S h; exact h
  | cons e fs ih =>
    intro S h
    refine ih (fun e he => hfs e (by simp [he])) (fun x hx => ?_)
    unfold seenE at hx
    split at hx
    · rename_i h1
      rw [Bool.or_eq_true, beq_iff_eq] at hx
      rcases hx with hx | rfl
      · exact h x hx
      · have he := hfs e (by simp)
        exact rch_trans hes (hes e he).2 (h _ h1) (rch_one hes he)
    · exact h x hx
theorem seenN_sound {n : Nat} {es : List (Nat × Nat)} {a : Nat} (hes : ∀ e ∈ es, e.1 < n ∧ e.2 < n) (k : Nat) : ∀ x, seenN es (fun x => x == a) k x = true → rch n es a x = true := by
  induction k with
  | zero => intro x h; simp [seenN] at h; rw [h]; exact rch_refl es a
  | succ k ih => exact seenF_sound hes (fun e he => he) ih
theorem seenN_all {es : List (Nat × Nat)} {a : Nat} (k : Nat) : ∀ x, iterS (swapE es) a k x = true → seenN es (fun x => x == a) k x = true := by
  induction k with
  | zero => intro x h; exact h
  | succ k ih =>
    intro x h
    rw [iterS, stepS_iff] at h
    rcases h with h | ⟨b, hb, h⟩
    · exact seenF_mono (ih x h)
    · exact seenF_edge (mem_swapE.1 hb) (ih b h)
theorem seen_is {n : Nat} {es : List (Nat × Nat)} (hes : ∀ e ∈ es, e.1 < n ∧ e.2 < n) {a x : Nat} (ha : a < n) (hx : x < n) : seenN es (fun x => x == a) n x = rch n es a x := by
  rw [Bool.eq_iff_iff]
  refine ⟨seenN_sound hes n x, fun h => seenN_all n x ?_⟩
  have := rch_swap hes ha hx
  rw [h] at this
  exact this
/-- The same over the edges as they come. -/
def seenI (S : Nat → Bool) (e : Int × Int) : Nat → Bool := seenE S (e.1.toNat, e.2.toNat)
theorem seenI_fold (es : List (Int × Int)) (S : Nat → Bool) : es.foldl seenI S = (natE es).foldl seenE S := by
  rw [natE, List.foldl_map]
  rfl

/-! ### The height's bounds -/
structure BD (n k : Nat) (rk : List Int) : Prop where
  len : rk.length = n
  bd : ∀ y ∈ rk, 0 ≤ y ∧ y ≤ k
theorem BD.at_ {n k : Nat} {rk : List Int} (h : BD n k rk) {i : Nat} (hi : i < n) : 0 ≤ rd rk i ∧ rd rk i ≤ k := h.bd _ (rd_mem (by rw [h.len]; exact hi))
theorem BD.set {n k k' : Nat} {rk : List Int} (h : BD n k rk) (i : Nat) {v : Int} (hk : k ≤ k') (hv : 0 ≤ v ∧ v ≤ k') : BD n k' (rk.set i v) :=
  ⟨by rw [List.length_set, h.len], fun y hy => by
    rcases List.mem_or_eq_of_mem_set hy with hy | rfl
    · have := h.bd y hy
      omega
    · exact hv⟩
theorem BD.hIn {n k : Nat} {ds rk : List Int} {l b : Nat} (h : BD n k rk) (hl : l < n) (hb : b < n) : BD n k (hIn ds l rk b) := by
  unfold Lat.hIn
  split
  · have h1 := h.at_ hl
    have h2 := h.at_ hb
    refine h.set _ (Nat.le_refl _) ?_
    unfold mx
    split <;> omega
  · exact h
theorem BD.hMid {n k : Nat} {ds rk : List Int} {l : Nat} (h : BD n k rk) (hl : l < n) : BD n k (hMid n ds l rk) := by
  have : ∀ (L : List Nat), (∀ b ∈ L, b < n) → ∀ rk, BD n k rk → BD n k (L.foldl (Lat.hIn ds l) rk) := by
    intro L
    induction L with
    | nil => intro _ rk h; exact h
    | cons b L ih => intro hL rk h; exact ih (fun b hb => hL b (by simp [hb])) _ (h.hIn hl (hL b (by simp)))
  exact this (List.range n) (fun b hb => List.mem_range.1 hb) rk h
theorem BD.hOut {n k : Nat} {ds rk : List Int} {l : Nat} (h : BD n k rk) (hl : l < n) : BD n (k + 1) (hOut n ds rk l) := by
  have h1 := h.hMid (ds := ds) hl
  have h2 := h1.at_ hl
  exact h1.set _ (by omega) ⟨by omega, by omega⟩
theorem BD.fold {n : Nat} {ds : List Int} : ∀ {xs : List Int}, (∀ y ∈ xs, 0 ≤ y ∧ y < n) → ∀ {k : Nat} {rk : List Int}, BD n k rk → BD n (k + xs.length) (xs.foldl (Lat.hOut n ds) rk) := by
  intro xs
  induction xs with
  | nil => intro _ k rk h; exact h
  | cons x xs ih =>
    intro hx k rk h
    obtain ⟨h0, h1⟩ := hx x (by simp)
    obtain ⟨x, rfl⟩ := Int.eq_ofNat_of_zero_le h0
    have := ih (fun y hy => hx y (by simp [hy])) (h.hOut (ds := ds) (l := x) (by omega))
    rw [List.length_cons, show k + (xs.length + 1) = k + 1 + xs.length from by omega]
    exact this
theorem maxN_le {xs : List Int} {B : Int} (h : ∀ y ∈ xs, y ≤ B) : ∀ j, j < xs.length → maxN xs j ≤ B := by
  intro j
  induction j with
  | zero => intro hj; exact h _ (rd_mem hj)
  | succ j ih =>
    intro hj
    have h1 := ih (by omega)
    have h2 := h _ (rd_mem hj)
    rw [maxN, mx]
    split <;> assumption
theorem le_maxN {xs : List Int} : ∀ j i, i ≤ j → rd xs (i : Nat) ≤ maxN xs j := by
  intro j
  induction j with
  | zero =>
    intro i hi
    obtain rfl : i = 0 := by omega
    exact Int.le_refl _
  | succ j ih =>
    intro i hi
    rw [maxN, mx]
    rcases Nat.lt_or_ge j i with h | h
    · obtain rfl : i = j + 1 := by omega
      split <;> omega
    · have := ih i h
      split <;> omega
theorem height_bd {n : Nat} (hn : 0 < n) {ds xs : List Int} (hx : ∀ y ∈ xs, 0 ≤ y ∧ y < n) (hl : xs.length = n) : 1 ≤ heightM n ds xs ∧ heightM n ds xs ≤ n := by
  have h0 : BD n 0 (List.replicate n (0 : Int)) := ⟨by simp, fun y hy => by rw [(List.mem_replicate.1 hy).2]; decide⟩
  have hB := BD.fold (ds := ds) hx h0
  rw [hl, Nat.zero_add] at hB
  have hlen : (ranks n ds xs).length = n := hB.len
  constructor
  · obtain ⟨ys, l, rfl⟩ : ∃ ys l, xs = ys ++ [l] := ⟨xs.dropLast, xs.getLast (by intro h; simp [h] at hl; omega), (List.dropLast_concat_getLast _).symm⟩
    obtain ⟨l0, l1⟩ := hx l (by simp)
    obtain ⟨l, rfl⟩ := Int.eq_ofNat_of_zero_le l0
    have hY := BD.fold (ds := ds) (xs := ys) (fun y hy => hx y (by simp [hy])) h0
    have hM := hY.hMid (ds := ds) (l := l) (by omega)
    have e : ranks n ds (ys ++ [(l : Int)]) = (hMid n ds l (ys.foldl (hOut n ds) (List.replicate n 0))).set l (rd (hMid n ds l (ys.foldl (hOut n ds) (List.replicate n 0))) l + 1) := by
      rw [ranks, List.foldl_append]
      rfl
    have h1 := hM.at_ (i := l) (by omega)
    have h2 : rd (ranks n ds (ys ++ [(l : Int)])) l = rd (hMid n ds l (ys.foldl (hOut n ds) (List.replicate n 0))) l + 1 := by
      rw [e, rd_set (by rw [hM.len]; omega), if_pos rfl]
    have h3 := le_maxN (xs := ranks n ds (ys ++ [(l : Int)])) ((ranks n ds (ys ++ [(l : Int)])).length - 1) l (by rw [hlen]; omega)
    rw [heightM, maxM]
    omega
  · rw [heightM, maxM]
    exact maxN_le (xs := ranks n ds xs) (fun y hy => (hB.bd y hy).2) _ (by rw [hlen]; omega)
end Go.Proofs.Ytnjfiinnidklaaa.Lat
