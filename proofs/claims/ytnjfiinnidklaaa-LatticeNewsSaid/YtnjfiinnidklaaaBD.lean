import Derived.Test.YtnjfiinnidklaaaBC
namespace Go.Proofs.Ytnjfiinnidklaaa.Lat
open Go.RowKit Go.Proofs.YtnjfiinnidklaaaW.PrintWords Go.Proofs.YtnjfiinnidklaaaW.PrintLast Go.Proofs.YtnjfiinnidklaaaW.PrintMore Go.Proofs.Ytnjfiinnidklaaa.PLatticeNews
set_option linter.unusedVariables false
set_option linter.unusedSimpArgs false

/-! ### Closed is who leads where -/
def LeM (M N : Nat → Nat → Bool) : Prop := ∀ x y, M x y = true → N x y = true
theorem LeM.refl (M : Nat → Nat → Bool) : LeM M M := fun _ _ h => h
theorem LeM.trans {M N O : Nat → Nat → Bool} (h : LeM M N) (k : LeM N O) : LeM M O := fun x y e => k x y (h x y e)
theorem setM_le (M : Nat → Nat → Bool) (a b : Nat) : LeM M (setM M a b) := fun x y h => by simp [setM, h]
theorem setM_at (M : Nat → Nat → Bool) (a b : Nat) : setM M a b a b = true := by simp [setM]
theorem foldM_le {α : Type} {f : (Nat → Nat → Bool) → α → (Nat → Nat → Bool)} (hf : ∀ M a, LeM M (f M a)) : ∀ (L : List α) (M : Nat → Nat → Bool), LeM M (L.foldl f M) := by
  intro L
  induction L with
  | nil => intro M; exact LeM.refl M
  | cons a L ih => intro M; exact (hf M a).trans (ih (f M a))
theorem fwIn_le (k i : Nat) (M : Nat → Nat → Bool) (j : Nat) : LeM M (fwIn k i M j) := by
  unfold fwIn
  split
  · exact setM_le M i j
  · exact LeM.refl M
theorem fwRow_le (n k : Nat) (M : Nat → Nat → Bool) (i : Nat) : LeM M (fwRow n k M i) := foldM_le (fwIn_le k i) _ _
theorem fwK_le (n : Nat) (M : Nat → Nat → Bool) (k : Nat) : LeM M (fwK n M k) := foldM_le (fwRow_le n k) _ _
/-- What is on the way of a fold stays. -/
theorem foldM_mem {α : Type} {f : (Nat → Nat → Bool) → α → (Nat → Nat → Bool)} (hf : ∀ M a, LeM M (f M a)) {a : α} {x y : Nat} : ∀ (L : List α) (M : Nat → Nat → Bool), a ∈ L → (∀ N, LeM M N → f N a x y = true) → L.foldl f M x y = true := by
  intro L
  induction L with
  | nil => intro M h; cases h
  | cons b L ih =>
    intro M h hN
    rcases List.mem_cons.1 h with rfl | h
    · exact foldM_le hf L _ x y (hN M (LeM.refl M))
    · exact ih (f M b) h (fun N hN2 => hN N ((hf M b).trans hN2))
theorem fwK_get {n k i j : Nat} {M : Nat → Nat → Bool} (hi : i < n) (hj : j < n) (h1 : M i k = true) (h2 : M k j = true) : fwK n M k i j = true := by
  refine foldM_mem (fwRow_le n k) (a := i) _ _ (List.mem_range.2 hi) (fun N hN => ?_)
  refine foldM_mem (fwIn_le k i) (a := j) _ _ (List.mem_range.2 hj) (fun O hO => ?_)
  rw [fwIn, hO i k (hN i k h1), hO k j (hN k j h2)]
  exact setM_at O i j
/-- Ways whose inner levels are below k. -/
def PK (B : Nat → Nat → Prop) : Nat → Nat → Nat → Prop
  | 0, i, j => B i j
  | k + 1, i, j => PK B k i j ∨ (PK B k i k ∧ PK B k k j)
theorem PK_trans {B : Nat → Nat → Prop} : ∀ (k a b c : Nat), b < k → PK B k a b → PK B k b c → PK B k a c := by
  intro k
  induction k with
  | zero => intro a b c h; omega
  | succ k ih =>
    intro a b c hb h1 h2
    rcases Nat.lt_or_ge b k with hb2 | hb2
    · rcases h1 with h1 | ⟨h1, h1'⟩ <;> rcases h2 with h2 | ⟨h2, h2'⟩
      · exact .inl (ih a b c hb2 h1 h2)
      · exact .inr ⟨ih a b k hb2 h1 h2, h2'⟩
      · exact .inr ⟨h1, ih k b c hb2 h1' h2⟩
      · exact .inr ⟨h1, h2'⟩
    · obtain rfl : b = k := by omega
      have e1 : PK B b a b := by rcases h1 with h1 | ⟨h1, _⟩ <;> exact h1
      have e2 : PK B b b c := by rcases h2 with h2 | ⟨_, h2⟩ <;> exact h2
      exact .inr ⟨e1, e2⟩
theorem PK_base {B : Nat → Nat → Prop} {i j : Nat} (h : B i j) : ∀ k, PK B k i j := by
  intro k
  induction k with
  | zero => exact h
  | succ k ih => exact .inl ih
theorem fw_all {n : Nat} {M : Nat → Nat → Bool} : ∀ k, k ≤ n → ∀ i j, i < n → j < n → PK (fun a b => M a b = true) k i j → (List.range k).foldl (fwK n) M i j = true := by
  intro k
  induction k with
  | zero => intro _ i j _ _ h; exact h
  | succ k ih =>
    intro hk i j hi hj h
    rw [range_fold]
    rcases h with h | ⟨h1, h2⟩
    · exact fwK_le n _ k i j (ih (by omega) i j hi hj h)
    · exact fwK_get hi hj (ih (by omega) i k hi (by omega) h1) (ih (by omega) k j (by omega) hj h2)
theorem fold_sound {α : Type} {f : (Nat → Nat → Bool) → α → (Nat → Nat → Bool)} {Q : (Nat → Nat → Bool) → Prop} (hf : ∀ M a, Q M → Q (f M a)) : ∀ (L : List α) (M : Nat → Nat → Bool), Q M → Q (L.foldl f M) := by
  intro L
  induction L with
  | nil => intro M h; exact h
  | cons a L ih => intro M h; exact ih _ (hf M a h)
theorem edge_get {es : List (Int × Int)} {M : Nat → Nat → Bool} {e : Int × Int} (he : e ∈ es) : es.foldl edgeM M e.1.toNat e.2.toNat = true :=
  foldM_mem (f := edgeM) (fun M a => setM_le M _ _) es M he (fun N _ => setM_at N _ _)
theorem edge_sound {M : Nat → Nat → Bool} {x y : Nat} : ∀ (fs : List (Int × Int)), fs.foldl edgeM M x y = true → M x y = true ∨ ∃ e ∈ fs, x = e.1.toNat ∧ y = e.2.toNat := by
  intro fs
  induction fs generalizing M with
  | nil => intro h; exact .inl h
  | cons e fs ih =>
    intro h
    rcases ih h with h | ⟨f, hf, h⟩
    · simp only [edgeM, setM, Bool.or_eq_true, Bool.and_eq_true, beq_iff_eq] at h
      rcases h with h | ⟨rfl, rfl⟩
      · exact .inl h
      · exact .inr ⟨e, by simp, rfl, rfl⟩
    · exact .inr ⟨f, by simp [hf], h⟩
theorem closG_is {n : Nat} {es : List (Int × Int)} (hb : badE n es = false) {i j : Nat} (hi : i < n) (hj : j < n) : closG n es i j = rch n (natE es) i j := by
  have hok := natE_ok hb
  rw [Bool.eq_iff_iff]
  constructor
  · have hQ : ∀ x y, y < n → closG n es x y = true → rch n (natE es) x y = true := by
      have hset : ∀ (k i : Nat), k < n → ∀ (M : Nat → Nat → Bool) (j : Nat), (∀ x y, y < n → M x y = true → rch n (natE es) x y = true) → ∀ x y, y < n → fwIn k i M j x y = true → rch n (natE es) x y = true := by
        intro k i hk M j hM x y hy h
        unfold fwIn at h
        split at h
        · rename_i h1
          rw [Bool.and_eq_true] at h1
          simp only [setM, Bool.or_eq_true, Bool.and_eq_true, beq_iff_eq] at h
          rcases h with h | ⟨rfl, rfl⟩
          · exact hM x y hy h
          · exact rch_trans hok hy (hM _ _ hk h1.1) (hM _ _ hy h1.2)
        · exact hM x y hy h
      have hK : ∀ k, k < n → ∀ M : Nat → Nat → Bool, (∀ x y, y < n → M x y = true → rch n (natE es) x y = true) → (∀ x y, y < n → fwK n M k x y = true → rch n (natE es) x y = true) := fun k hk M hM =>
        fold_sound (Q := fun M => ∀ x y, y < n → M x y = true → rch n (natE es) x y = true) (fun M i hM => fold_sound (Q := fun M => ∀ x y, y < n → M x y = true → rch n (natE es) x y = true) (fun M j hM => hset k i hk M j hM) _ M hM) _ M hM
      have hL : ∀ (L : List Nat), (∀ k ∈ L, k < n) → ∀ M : Nat → Nat → Bool, (∀ x y, y < n → M x y = true → rch n (natE es) x y = true) → (∀ x y, y < n → L.foldl (fwK n) M x y = true → rch n (natE es) x y = true) := by
        intro L
        induction L with
        | nil => intro _ M hM; exact hM
        | cons k L ih => intro hL M hM; exact ih (fun k hk => hL k (by simp [hk])) _ (hK k (hL k (by simp)) M hM)
      refine hL (List.range n) (fun k hk => List.mem_range.1 hk) _ (fun x y hy h => ?_)
      rcases edge_sound es h with h | ⟨e, he, rfl, rfl⟩
      · simp [idM] at h
        rw [h.1]
        exact rch_refl _ y
      · exact rch_one hok (List.mem_map.2 ⟨e, he, rfl⟩)
    exact hQ i j hj
  · intro h
    refine fw_all n (Nat.le_refl n) i j hi hj ?_
    refine (rch_min (j := j) (fun x => x < n → PK (fun a b => es.foldl edgeM (idM n) a b = true) n x j) (fun hx => PK_base ?_ n) (fun a b he ih ha => ?_) h) hi
    · exact foldM_le (fun M a => setM_le M _ _) es (idM n) j j (by simp [idM, hx])
    · obtain ⟨e, hee, e2⟩ := List.mem_map.1 he
      simp only [Prod.mk.injEq] at e2
      obtain ⟨rfl, rfl⟩ := e2
      have hb2 := (hok _ (List.mem_map.2 ⟨e, hee, rfl⟩ : (e.1.toNat, e.2.toNat) ∈ natE es)).2
      exact PK_trans n _ _ _ hb2 (PK_base (edge_get hee) n) (ih hb2)
/-- The rows as the printed contracts read them. -/
theorem LQ.C {w : World} {base n : Nat} {A : Option Addr} {c : Nat} {bs : List Nat} {M : Nat → Nat → Bool} (h : LQ w base (.slice A n c) bs n M) (hl : bs.length = n) (hn : n ≤ 8) : Kd.C (Kd.slice 4 Kd.bool) w A (LL n M).length (LL n M) := by
  refine ⟨rfl, by rw [LL_len]; omega, fun h0 => ?_⟩
  rw [LL_len] at h0
  obtain ⟨ad, eA, _⟩ := h.out_at rfl (i := 0) (by omega)
  refine ⟨ad, eA, fun j p hj => ?_⟩
  have hjn : j < n := by
    have := (List.getElem?_eq_some_iff.1 hj).1
    rwa [LL_len] at this
  have hp : p = (List.range n).map (M j) := by
    have : (LL n M)[j]? = some ((List.range n).map (M j)) := by simp [LL, hjn]
    rw [this] at hj
    injection hj with hj
    exact hj.symm
  obtain ⟨ad2, e2, o1⟩ := h.out_at rfl (i := j) (by omega)
  obtain rfl : ad = ad2 := by rw [eA] at e2; injection e2
  refine ⟨[.slice (some ⟨bsAt bs j, 0, none⟩) n n], rfl, ⟨some ⟨bsAt bs j, 0, none⟩, n, ?_, ?_, ?_⟩, fun i u hi => ?_⟩
  · rw [hp, row_len]
  · rw [hp, row_len]; exact Nat.le_refl _
  · rw [hp, row_len]
    refine Kd.C_of_reads (d := false) (h1 := fun _ => rfl) ⟨by simp, by omega, fun _ => ⟨_, rfl, fun y hy => ?_⟩⟩
    rw [add_plain, (h.inn_at (i := j) (j := y) (by omega) hy).1]
    simp [List.getD_eq_getElem?_getD, hy]
  · cases i with
    | zero =>
      obtain rfl : Value.slice (some ⟨bsAt bs j, 0, none⟩) n n = u := by simpa using hi
      show w.cell? (ad.add (j * 1 + 0)) = _
      rw [Nat.mul_one, Nat.add_zero]
      exact o1
    | succ i => simp at hi
end Go.Proofs.Ytnjfiinnidklaaa.Lat
