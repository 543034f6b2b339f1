import Derived.Test.YtnjfiinnidklaaaS
namespace Go.Proofs.Ytnjfiinnidklaaa.Lat
open Go.RowKit Go.Proofs.YtnjfiinnidklaaaW.PrintWords
set_option linter.unusedVariables false
set_option linter.unusedSimpArgs false

/-! ### LatticeHeight's own ranks -/
def nth (ys : List Int) (p : Nat) : Nat := (rd ys (p : Nat)).toNat
def upd (R : Nat → Int) (l : Nat) (v : Int) : Nat → Int := fun x => if x = l then v else R x
structure Outer (n : Nat) (le : Nat → Nat → Bool) (ys : List Int) (i : Nat) (R : Nat → Int) (top : Int) : Prop where
  rk : ∀ p < i, IsR n le (nth ys p) (R (nth ys p))
  up : ∀ p < i, R (nth ys p) ≤ top
  at_ : (i = 0 ∧ top = 0) ∨ ∃ p < i, R (nth ys p) = top
structure Inner (n : Nat) (le : Nat → Nat → Bool) (ys : List Int) (l j : Nat) (R0 R : Nat → Int) : Prop where
  same : ∀ x, x ≠ l → R x = R0 x
  ge : 1 ≤ R l
  up : ∀ q < j, le (nth ys q) l = true → R0 (nth ys q) + 1 ≤ R l
  at_ : R l = 1 ∨ ∃ q < j, le (nth ys q) l = true ∧ R l = R0 (nth ys q) + 1
section
variable {n : Nat} {le : Nat → Nat → Bool} {ys : List Int}
theorem Inner.start (l : Nat) (R0 : Nat → Int) : Inner n le ys l 0 R0 (upd R0 l 1) :=
  ⟨fun x hx => by simp [upd, hx], by simp [upd], fun q hq => absurd hq (Nat.not_lt_zero q), .inl (by simp [upd])⟩
theorem Inner.yes {l j : Nat} {R0 R : Nat → Int} (h : Inner n le ys l j R0 R) (hne : nth ys j ≠ l) (hle : le (nth ys j) l = true) (hge : R l ≤ R (nth ys j)) : Inner n le ys l (j + 1) R0 (upd R l (R (nth ys j) + 1)) := by
  have e := h.same _ hne
  refine ⟨fun x hx => by simp only [upd, if_neg hx]; exact h.same x hx, ?_, fun q hq hq2 => ?_, .inr ⟨j, by omega, hle, by simp only [upd, if_pos]; omega⟩⟩
  · have := h.ge
    simp only [upd, if_pos]
    omega
  · simp only [upd, if_pos]
    rcases Nat.lt_or_ge q j with h1 | h1
    · have := h.up q h1 hq2
      omega
    · obtain rfl : q = j := by omega
      omega
theorem Inner.no {l j : Nat} {R0 R : Nat → Int} (h : Inner n le ys l j R0 R) (hne : nth ys j ≠ l) (hn : le (nth ys j) l = true → ¬ R l ≤ R (nth ys j)) : Inner n le ys l (j + 1) R0 R := by
  have e := h.same _ hne
  refine ⟨h.same, h.ge, fun q hq hq2 => ?_, ?_⟩
  · rcases Nat.lt_or_ge q j with h1 | h1
    · exact h.up q h1 hq2
    · obtain rfl : q = j := by omega
      have := hn hq2
      omega
  · rcases h.at_ with h1 | ⟨q, hq, h1⟩
    · exact .inl h1
    · exact .inr ⟨q, by omega, h1⟩
/-- The chain: all levels, each ahead of those above it. -/
structure Chn (n : Nat) (le : Nat → Nat → Bool) (ys : List Int) : Prop where
  lt : ∀ p < n, nth ys p < n
  val : ∀ p < n, rd ys (p : Nat) = (nth ys p : Nat)
  ne : ∀ q p, q < p → p < n → nth ys q ≠ nth ys p ∧ le (nth ys p) (nth ys q) = false
  cov : ∀ x < n, ∃ p < n, nth ys p = x
theorem Inner.done {i : Nat} {R0 R : Nat → Int} {top : Int} (hc : Chn n le ys) (hi : i < n) (ho : Outer n le ys i R0 top) (h : Inner n le ys (nth ys i) i R0 R) : IsR n le (nth ys i) (R (nth ys i)) := by
  have hl := hc.lt i hi
  constructor
  · rcases h.at_ with h1 | ⟨q, hq, hle, h1⟩
    · exact ⟨0, by rw [h1]; rfl, hl⟩
    · obtain ⟨k, e, hk⟩ := (ho.rk q hq).ex
      exact ⟨k + 1, by rw [h1, e]; simp, hl, nth ys q, (hc.ne q i hq hi).1, hle, hk⟩
  · intro k hk
    cases k with
    | zero => have := h.ge; omega
    | succ k =>
      obtain ⟨_, b, hne, hle, hb⟩ := hk
      obtain ⟨q, hq, rfl⟩ := hc.cov b (Ch_lt hb)
      have hqi : q < i := by
        rcases Nat.lt_or_ge q i with h1 | h1
        · exact h1
        · rcases Nat.eq_or_lt_of_le h1 with rfl | h2
          · exact absurd rfl hne
          · have := (hc.ne i q h2 hq).2
            rw [hle] at this
            cases this
      have h1 := h.up q hqi hle
      have h2 := (ho.rk q hqi).all k hb
      omega
theorem Outer.next {i : Nat} {R0 R : Nat → Int} {top : Int} (hc : Chn n le ys) (hi : i < n) (ho : Outer n le ys i R0 top) (h : Inner n le ys (nth ys i) i R0 R) : Outer n le ys (i + 1) R (if top < R (nth ys i) then R (nth ys i) else top) := by
  have hd := h.done hc hi ho
  have hs : ∀ p < i, R (nth ys p) = R0 (nth ys p) := fun p hp => h.same _ (hc.ne p i hp hi).1
  refine ⟨fun p hp => ?_, fun p hp => ?_, ?_⟩
  · rcases Nat.lt_or_ge p i with h1 | h1
    · rw [hs p h1]; exact ho.rk p h1
    · obtain rfl : p = i := by omega
      exact hd
  · rcases Nat.lt_or_ge p i with h1 | h1
    · rw [hs p h1]
      have := ho.up p h1
      split <;> omega
    · obtain rfl : p = i := by omega
      split <;> omega
  · right
    split
    · exact ⟨i, by omega, rfl⟩
    · rename_i h1
      rcases ho.at_ with ⟨h2, h3⟩ | ⟨p, hp, h2⟩
      · have := h.ge
        omega
      · exact ⟨p, by omega, by rw [hs p hp]; exact h2⟩
theorem Outer.top_is {R : Nat → Int} {top : Int} {K : Nat} (hc : Chn n le ys) (h0 : 0 < n) (ho : Outer n le ys n R top) (hK : Hgt n le K) : top = K := by
  obtain ⟨k, l, e, hk⟩ := hK.ex
  obtain ⟨p, hp, rfl⟩ := hc.cov l (Ch_lt hk)
  have h1 := (ho.rk p hp).all k hk
  have h2 := ho.up p hp
  rcases ho.at_ with ⟨h3, _⟩ | ⟨q, hq, h3⟩
  · omega
  · obtain ⟨k', e', hk'⟩ := (ho.rk q hq).ex
    have := hK.all k' _ hk'
    omega
theorem Outer.greatest {R : Nat → Int} {top : Int} {K g : Nat} (hc : Chn n le ys) (h0 : 0 < n) (ho : Outer n le ys n R top) (hK : Hgt n le K) (hg : g < n) (hall : ∀ i < n, le i g = true) : R g = top := by
  have ht := ho.top_is hc h0 hK
  obtain ⟨p, hp, rfl⟩ := hc.cov g hg
  have h2 := ho.up p hp
  obtain ⟨k, l, e, hk⟩ := hK.ex
  by_cases hl : l = nth ys p
  · subst hl
    have h1 := (ho.rk p hp).all k hk
    omega
  · have := hK.all (k + 1) (nth ys p) ⟨hg, l, hl, hall l (Ch_lt hk), hk⟩
    omega
end
theorem chn_of {n : Nat} (hn : n ≤ 8) {ds : List Int} {le : Nat → Nat → Bool} (k : Mk n ds (fun a b => le b a)) {ys : List Int} (hy : chainF n ds n 0 = some ys) (hpw : ys.Pairwise (fun x y => x ≠ y ∧ le y.toNat x.toNat = false)) : Chn n le ys := by
  have h0 : ((mask n (fun _ => false) : Nat) : Int) = 0 := by
    have : mask n (fun _ => false) = 0 := mask_zero.2 (fun _ _ => rfl)
    omega
  have hcov := chain_cover hn k n (fun _ => false) ys (by rw [h0]; exact hy) (by omega)
  have hlen := chainF_len hy
  have hlt := chainF_lt hy
  have hv : ∀ p < n, rd ys (p : Nat) = (nth ys p : Nat) := fun p hp => by
    have := hlt _ (rd_mem (by rw [hlen]; exact hp))
    rw [nth, Int.toNat_of_nonneg this.1]
  refine ⟨fun p hp => ?_, hv, fun q p hqp hp => ?_, fun x hx => ?_⟩
  · have := hlt _ (rd_mem (xs := ys) (i := p) (by rw [hlen]; exact hp))
    unfold nth
    omega
  · have h1 : q < ys.length := by omega
    have h2 : p < ys.length := by omega
    have := List.pairwise_iff_getElem.1 hpw q p h1 h2 hqp
    have e1 : rd ys (q : Nat) = ys[q] := by simp [rd, List.getD_eq_getElem?_getD, h1]
    have e2 : rd ys (p : Nat) = ys[p] := by simp [rd, List.getD_eq_getElem?_getD, h2]
    have b1 := hlt _ (rd_mem h1)
    have b2 := hlt _ (rd_mem h2)
    rw [← e1, ← e2] at this
    unfold nth
    exact ⟨by omega, this.2⟩
  · rcases hcov x hx with h | h
    · cases h
    · obtain ⟨p, hp, e⟩ := List.getElem_of_mem h
      refine ⟨p, by omega, ?_⟩
      have e1 : rd ys (p : Nat) = ys[p] := by simp [rd, List.getD_eq_getElem?_getD, hp]
      rw [nth, e1, e, Int.toNat_natCast]
theorem isR_bd {n : Nat} {le : Nat → Nat → Bool} {K : Nat} (hK : Hgt n le K) {l : Nat} {r : Int} (h : IsR n le l r) : 1 ≤ r ∧ r ≤ K := by
  obtain ⟨k, e, hk⟩ := h.ex
  have := hK.all k l hk
  omega
/-- What LatticeHeight's first loop knows: as far as the row has risen. -/
def Rises (m : Nat) (le : Nat → Nat → Bool) (row : List Int) (k : Nat) : Prop := 0 < row.length ∧ (k = 0 ∨ ∃ l : Nat, rd row ((k - 1 : Nat) : Int) = l ∧ Ch m le (k - 1) l)
theorem Rises.next {m : Nat} {le : Nat → Nat → Bool} {row : List Int} {k x : Nat} (h : Rises m le row k) (hx : rd row (k : Nat) = x) (hxm : x < m) (hk : 0 < k → rd row ((k - 1 : Nat) : Int) ≠ x ∧ ∀ l : Nat, rd row ((k - 1 : Nat) : Int) = l → le l x = true) : Rises m le row (k + 1) := by
  refine ⟨h.1, .inr ⟨x, by simpa using hx, ?_⟩⟩
  rw [Nat.add_sub_cancel]
  rcases Nat.eq_zero_or_pos k with rfl | h0
  · exact hxm
  · rcases h.2 with e | ⟨l, e, hl⟩
    · omega
    · obtain ⟨h1, h2⟩ := hk h0
      obtain ⟨j, rfl⟩ : ∃ j, k = j + 1 := ⟨k - 1, by omega⟩
      exact ⟨hxm, l, by omega, h2 l e, hl⟩
theorem Rises.le {m : Nat} {le : Nat → Nat → Bool} {row : List Int} {K : Nat} (h : Rises m le row row.length) (hK : Hgt m le K) : row.length ≤ K := by
  rcases h.2 with e | ⟨l, _, hl⟩
  · have := h.1; omega
  · have := hK.all _ _ hl
    have := h.1
    omega
end Go.Proofs.Ytnjfiinnidklaaa.Lat
