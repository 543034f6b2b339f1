import Derived.Test.YtogjcogejfidbaaE
namespace Go.Proofs.Ytogjcogejfidbaa.Heap
open Go.RowKit Go.Proofs.YtogjcogejfidbaaW.PrintWords Go.Proofs.YtogjcogejfidbaaW.PrintLast Go.Proofs.YtogjcogejfidbaaW.PrintMore Go.Proofs.Ytogjcogejfidbaa.PHeapSteps
set_option linter.unusedVariables false
set_option linter.unusedSimpArgs false

theorem arCells_nil : arCells [] = [] := rfl
theorem arCells_cons (p : Value × Value) (vs : List (Value × Value)) : arCells (p :: vs) = p.1 :: p.2 :: arCells vs := rfl
theorem arCells_length (vs : List (Value × Value)) : (arCells vs).length = vs.length * 2 := by
  induction vs with
  | nil => rfl
  | cons p vs ih => rw [arCells_cons]; simp [ih]; omega
theorem arCells_fst : ∀ (vs : List (Value × Value)) (t : Nat), (arCells vs)[t * 2]? = vs[t]?.map (·.1)
  | [], t => by simp [arCells]
  | p :: vs, 0 => by simp [arCells]
  | p :: vs, t + 1 => by
    rw [arCells_cons, show (t + 1) * 2 = t * 2 + 1 + 1 by omega, List.getElem?_cons_succ, List.getElem?_cons_succ, arCells_fst vs t]; simp
theorem arCells_snd : ∀ (vs : List (Value × Value)) (t : Nat), (arCells vs)[t * 2 + 1]? = vs[t]?.map (·.2)
  | [], t => by simp [arCells]
  | p :: vs, 0 => by simp [arCells]
  | p :: vs, t + 1 => by
    rw [arCells_cons, show (t + 1) * 2 + 1 = t * 2 + 1 + 1 + 1 by omega, List.getElem?_cons_succ, List.getElem?_cons_succ, arCells_snd vs t]; simp
theorem arCells_set : ∀ (vs : List (Value × Value)) (t : Nat) (v0 v1 : Value), ((arCells vs).set (t * 2 + 1) v1).set (t * 2) v0 = arCells (vs.set t (v0, v1))
  | [], t, v0, v1 => by simp [arCells]
  | p :: vs, 0, v0, v1 => by simp [arCells]
  | p :: vs, t + 1, v0, v1 => by
    rw [arCells_cons, show (t + 1) * 2 = t * 2 + 1 + 1 by omega, List.set_cons_succ, List.set_cons_succ, List.set_cons_succ, List.set_cons_succ, arCells_set vs t v0 v1]; simp [arCells_cons]

structure HRx (w : World) (base : Nat) (F : Nat → Prop) (hb ab : Nat) (vs : List (Value × Value)) (A : List S65) : Prop where
  len : vs.length = A.length
  le4 : A.length ≤ 4
  good : ∀ x ∈ A, GoodAr x
  hbk : w.heap[hb]? = some (.cells #[.slice (some ⟨ab, 0, none⟩) A.length A.length] 61 (0, 0))
  abk : w.heap[ab]? = some (.cells (arCells vs).toArray 65 (0, 0))
  Fh : F hb
  Fa : F ab
  rows : ∀ (t : Nat) (p : Value × Value) (x : S65), vs[t]? = some p → A[t]? = some x → k46.R 46 w base F p.1 x.f0 ∧ k51.R 51 w base F p.2 x.f1
  ne : ∀ (t t' : Nat) (p p' : Value × Value), t ≠ t' → vs[t]? = some p → vs[t']? = some p' → NeRow p.1 p'.1 ∧ NeRow p.2 p'.2
/-- The heap at block hb is the arenas A; all its blocks are of F. -/
def HR (w : World) (base : Nat) (F : Nat → Prop) (hb : Nat) (A : List S65) : Prop := ∃ ab vs, HRx w base F hb ab vs A

theorem HRx.foot {w w1 : World} {base : Nat} {F S : Nat → Prop} {hb ab : Nat} {vs : List (Value × Value)} {A : List S65} (h : HRx w base F hb ab vs A) (hf : Foot S w w1) (hs : ∀ k, F k → ¬ S k) : HRx w1 base F hb ab vs A :=
  { h with
    hbk := hf.blk h.hbk (hs _ h.Fh)
    abk := hf.blk h.abk (hs _ h.Fa)
    rows := fun t p x hp hx => ⟨R_foot (h.rows t p x hp hx).1 hf hs, R_foot (h.rows t p x hp hx).2 hf hs⟩ }
theorem HR.foot {w w1 : World} {base : Nat} {F S : Nat → Prop} {hb : Nat} {A : List S65} (h : HR w base F hb A) (hf : Foot S w w1) (hs : ∀ k, F k → ¬ S k) : HR w1 base F hb A := by
  obtain ⟨ab, vs, h⟩ := h
  exact ⟨ab, vs, h.foot hf hs⟩
theorem HR.below {w w1 : World} {base : Nat} {F : Nat → Prop} {hb : Nat} {A : List S65} (h : HR w base F hb A) (hf : Below w.heap.size w w1) : HR w1 base F hb A :=
  h.foot (S := fun _ => False) (Foot.of_below hf) (fun _ _ h => h)
theorem HRx.bound {w : World} {base : Nat} {F : Nat → Prop} {hb ab : Nat} {vs : List (Value × Value)} {A : List S65} (h : HRx w base F hb ab vs A) : HRx w base (fun k => F k ∧ k < w.heap.size) hb ab vs A :=
  { h with
    Fh := ⟨h.Fh, blk_lt h.hbk⟩
    Fa := ⟨h.Fa, blk_lt h.abk⟩
    rows := fun t p x hp hx => ⟨Kd.R_mono (Kd.R_bound (h.rows t p x hp hx).1) (fun k hk => ⟨hk.1, hk.2.2.1⟩), Kd.R_mono (Kd.R_bound (h.rows t p x hp hx).2) (fun k hk => ⟨hk.1, hk.2.2.1⟩)⟩ }
theorem HR.bound {w : World} {base : Nat} {F : Nat → Prop} {hb : Nat} {A : List S65} (h : HR w base F hb A) : HR w base (fun k => F k ∧ k < w.heap.size) hb A := by
  obtain ⟨ab, vs, h⟩ := h
  exact ⟨ab, vs, h.bound⟩
theorem HRx.mono {w : World} {base : Nat} {F G : Nat → Prop} {hb ab : Nat} {vs : List (Value × Value)} {A : List S65} (h : HRx w base F hb ab vs A) (hG : ∀ k, F k → G k) : HRx w base G hb ab vs A :=
  { h with
    Fh := hG _ h.Fh
    Fa := hG _ h.Fa
    rows := fun t p x hp hx => ⟨Kd.R_mono (h.rows t p x hp hx).1 hG, Kd.R_mono (h.rows t p x hp hx).2 hG⟩ }
theorem HR.mono {w : World} {base : Nat} {F G : Nat → Prop} {hb : Nat} {A : List S65} (h : HR w base F hb A) (hG : ∀ k, F k → G k) : HR w base G hb A := by
  obtain ⟨ab, vs, h⟩ := h
  exact ⟨ab, vs, h.mono hG⟩

section
variable {w : World} {base : Nat} {F : Nat → Prop} {hb ab : Nat} {vs : List (Value × Value)} {A : List S65}
theorem HRx.c0 (h : HRx w base F hb ab vs A) : w.cell? ⟨hb, 0, none⟩ = some (.slice (some ⟨ab, 0, none⟩) A.length A.length) := blk_cell h.hbk 0
/-- An arena: its two values, its cells, its rows. -/
theorem HRx.at_ (h : HRx w base F hb ab vs A) (t : Nat) (ht : t < A.length) : ∃ p x, vs[t]? = some p ∧ A[t]? = some x ∧ A.getD t z65 = x ∧ GoodAr x ∧ (arCells vs).toArray[t * 2]? = some p.1 ∧ (arCells vs).toArray[t * 2 + 1]? = some p.2 ∧
    w.cell? ⟨ab, t * 2, none⟩ = some p.1 ∧ w.cell? ⟨ab, t * 2 + 1, none⟩ = some p.2 ∧ k46.R 46 w base F p.1 x.f0 ∧ k51.R 51 w base F p.2 x.f1 := by
  have hv : t < vs.length := by rw [h.len]; exact ht
  have hp := List.getElem?_eq_getElem hv
  have hx := List.getElem?_eq_getElem ht
  have e0 : (arCells vs).toArray[t * 2]? = some vs[t].1 := by simp [arCells_fst, hp]
  have e1 : (arCells vs).toArray[t * 2 + 1]? = some vs[t].2 := by simp [arCells_snd, hp]
  exact ⟨vs[t], A[t], hp, hx, by simp [List.getD_eq_getElem?_getD, hx], h.good _ (List.getElem_mem ht), e0, e1, (blk_cell h.abk _).trans e0, (blk_cell h.abk _).trans e1, h.rows t _ _ hp hx⟩

theorem ar_nat (A : List S65) (t : Int) (h : 0 ≤ t) : ar A t = A.getD t.toNat z65 := by unfold ar; rw [if_neg (by omega)]
theorem place_some {A : List S65} {a : Int} {t k : Nat} (h : Heap.place A a = some (t, k)) : 1 ≤ a ∧ (t : Int) = (a - 1) / 64 ∧ (k : Int) = (a - 1) % 64 ∧ t < A.length ∧ k < (A.getD t z65).f0.length := by
  unfold Heap.place at h
  split at h
  · rename_i hc
    obtain ⟨h1, h2⟩ := hc
    injection h with h
    injection h with e1 e2
    rw [ar_nat _ _ (by omega)] at h2
    have hk : k < (A.getD t z65).f0.length := by rw [← e1]; omega
    refine ⟨h1, by omega, by omega, ?_, hk⟩
    rcases Nat.lt_or_ge t A.length with h | h
    · exact h
    · rw [List.getD_eq_getElem?_getD, List.getElem?_eq_none h] at hk
      simp [z65] at hk
  · cases h
theorem place_none {A : List S65} {a : Int} (h : Heap.place A a = none) : a < 1 ∨ (1 ≤ a ∧ (A.length : Int) ≤ (a - 1) / 64) ∨ (1 ≤ a ∧ (a - 1) / 64 < A.length ∧ ((A.getD ((a - 1) / 64).toNat z65).f0.length : Int) ≤ (a - 1) % 64) := by
  unfold Heap.place at h
  split at h
  · cases h
  · rename_i hc
    by_cases h1 : 1 ≤ a
    · rw [ar_nat _ _ (by omega)] at hc
      by_cases h2 : (A.length : Int) ≤ (a - 1) / 64
      · exact .inr (.inl ⟨h1, h2⟩)
      · exact .inr (.inr ⟨h1, by omega, by omega⟩)
    · exact .inl (by omega)

theorem word_none (h : HRx w base F hb ab vs A) (a : Int) (hm : a ≤ 9223372036854775807) (hp : Heap.place A a = none) :
    Calls Try.prog 27 #[.pointer (some ⟨hb, 0, none⟩), .int .i64 a] w fun e w' => e = .returned (.tuple #[.int .i64 0, .int .i64 0, .pointer none]) ∧ w = w' := by
  rcases place_none hp with h1 | ⟨h1, h2⟩ | ⟨h1, h2, h3⟩
  · exact word_neg _ _ _ h1
  · exact word_far _ _ _ _ _ _ h.c0 h1 hm h2
  · obtain ⟨p, x, _, _, hx, _, _, _, hc, _, R0, _⟩ := h.at_ ((a - 1) / 64).toNat (by omega)
    obtain ⟨B, c, he, _, _⟩ := Kd.R_reads R0
    rw [he] at hc
    rw [hx] at h3
    exact word_short _ _ _ _ _ _ _ _ _ h.c0 h1 hm h2 hc h3
theorem word_some (h : HRx w base F hb ab vs A) (a : Int) (hm : a ≤ 9223372036854775807) {t k : Nat} (hp : Heap.place A a = some (t, k)) :
    ∃ g c p, vs[t]? = some p ∧ p.1 = .slice (some ⟨g, 0, none⟩) (A.getD t z65).f0.length c ∧
    Calls Try.prog 27 #[.pointer (some ⟨hb, 0, none⟩), .int .i64 a] w fun e w' => e = .returned (.tuple #[.int .i64 t, .int .i64 k, .pointer (some ⟨g, k * 2, none⟩)]) ∧ Drawn0 w w' := by
  obtain ⟨h1, h2, h3, h4, h5⟩ := place_some hp
  obtain ⟨p, x, hv, _, hx, _, _, _, hc, _, R0, _⟩ := h.at_ t h4
  rw [hx] at h5 ⊢
  obtain ⟨g, c, he, _⟩ := Kd.R_form R0 (by omega)
  rw [he] at hc
  refine ⟨g, c, p, hv, he, ?_⟩
  have := word_yes ⟨hb, 0, none⟩ ab A.length A.length g x.f0.length c a w h.c0 h1 hm (by omega) (by rw [show ((a - 1) / 64).toNat = t by omega]; exact hc) (by omega)
  rwa [show ((a - 1) % 64).toNat = k by omega, ← h2, ← h3] at this
end
end Go.Proofs.Ytogjcogejfidbaa.Heap
