import Derived.Test.YtogjcogejfidbaaF
namespace Go.Proofs.Ytogjcogejfidbaa.Heap
open Go.RowKit Go.Proofs.YtogjcogejfidbaaW.PrintWords Go.Proofs.YtogjcogejfidbaaW.PrintLast Go.Proofs.YtogjcogejfidbaaW.PrintMore Go.Proofs.Ytogjcogejfidbaa.PHeapSteps
set_option linter.unusedVariables false
set_option linter.unusedSimpArgs false
section
variable {w : World} {base : Nat} {F : Nat → Prop} {hb : Nat} {A : List S65}

theorem w46 (x : S46) : [Value.int .i64 x.f0, Value.int .i64 x.f1][0]? = some (.int .i64 x.f0) := rfl
/-- The word's two cells. -/
theorem HRx.word_cells {ab : Nat} {vs : List (Value × Value)} (h : HRx w base F hb ab vs A) {t k g c : Nat} {p : Value × Value} (hv : vs[t]? = some p) (hp : p.1 = .slice (some ⟨g, 0, none⟩) (A.getD t z65).f0.length c) (ht : t < A.length) (hk : k < (A.getD t z65).f0.length) :
    k46.R 46 w base F (.slice (some ⟨g, 0, none⟩) (A.getD t z65).f0.length c) (A.getD t z65).f0 ∧
    w.cell? ⟨g, k * 2, none⟩ = some (.int .i64 (rdw A t k).f0) ∧ w.cell? ⟨g, k * 2 + 1, none⟩ = some (.int .i64 (rdw A t k).f1) ∧ w.frozen? ⟨g, k * 2, none⟩ = false ∧ w.frozen? ⟨g, k * 2 + 1, none⟩ = false := by
  obtain ⟨p', x, hv', hx', hx, _, _, _, _, _, R0, _⟩ := h.at_ t ht
  rw [hv] at hv'
  injection hv' with hv'
  subst hv'
  rw [hp] at R0
  rw [hx] at hk R0 ⊢
  obtain ⟨cs, hcl, hM, hcc, hff⟩ := Kd.R_elem R0 z46 k (by omega) (by omega)
  obtain rfl := k46_openM hM
  have e : rdw A t k = x.f0.getD (k : Int).toNat z46 := by unfold rdw; rw [hx]; simp
  rw [e]
  have a0 := hcc 0 _ rfl
  have a1 := hcc 1 _ rfl
  have b0 := hff 0
  have b1 := hff 1
  simp only [Int.toNat_natCast] at a0 a1 b0 b1 ⊢
  exact ⟨R0, a0, a1, b0, b1⟩

theorem load_any (h : HR w base F hb A) (a : Int) (hm : a ≤ 9223372036854775807) :
    Calls Try.prog 16 #[.pointer (some ⟨hb, 0, none⟩), .int .i64 a] w fun e w' => e = .returned (.tuple #[.agg #[.int .i64 (load A a).1.f0, .int .i64 (load A a).1.f1], .bool (load A a).2]) ∧ Below w.heap.size w w' := by
  obtain ⟨ab, vs, h⟩ := h
  have hB : ∀ W, Below w.heap.size w W → HRx W base F hb ab vs A := fun W hW => h.foot (S := fun _ => False) (Foot.of_below hW) (fun _ _ h => h)
  unfold load
  cases hp : Heap.place A a with
  | none => exact load_of_no _ _ _ fun W hW => word_none (hB W hW) a hm hp
  | some tk =>
    obtain ⟨t, k⟩ := tk
    obtain ⟨h1, h2, h3, h4, h5⟩ := place_some hp
    obtain ⟨g, c, p, hv, hpe, _⟩ := word_some h a hm hp
    obtain ⟨_, a0, a1, _, _⟩ := h.word_cells hv hpe h4 h5
    refine load_of_yes _ _ _ t k g (k * 2) _ _ (fun W hW => ?_) a0 a1
    obtain ⟨g', c', p', hv', hpe', hc⟩ := word_some (hB W hW) a hm hp
    rw [hv] at hv'
    injection hv' with hv'
    subst hv'
    rw [hpe] at hpe'
    injection hpe' with e1 _ _
    injection e1 with e1
    injection e1 with e1
    subst e1
    exact hc

theorem store_any (h : HR w base F hb A) (a : Int) (hm : a ≤ 9223372036854775807) (x : S46) :
    Calls Try.prog 15 #[.pointer (some ⟨hb, 0, none⟩), .int .i64 a, .agg #[.int .i64 x.f0, .int .i64 x.f1]] w fun e w' => e = .returned (.bool (store A a x).2) ∧ HR w' base F hb (store A a x).1 ∧ Foot F w w' := by
  obtain ⟨ab, vs, h⟩ := h
  have hB : ∀ W, Below w.heap.size w W → HRx W base F hb ab vs A := fun W hW => h.foot (S := fun _ => False) (Foot.of_below hW) (fun _ _ h => h)
  unfold store
  cases hp : Heap.place A a with
  | none =>
    refine (store_of_no _ a x.f0 x.f1 _ fun W hW => word_none (hB W hW) a hm hp).mono ?_
    rintro e w' ⟨rfl, hb'⟩
    exact ⟨rfl, ⟨ab, vs, hB _ hb'⟩, Foot.of_below hb'⟩
  | some tk =>
    obtain ⟨t, k⟩ := tk
    obtain ⟨h1, h2, h3, h4, h5⟩ := place_some hp
    obtain ⟨g, c, p, hv, hpe, _⟩ := word_some h a hm hp
    obtain ⟨_, a0, a1, f0, f1⟩ := h.word_cells hv hpe h4 h5
    refine (store_of_yes _ a x.f0 x.f1 _ t k g (k * 2) _ _ (fun W hW => ?_) a0 a1 f0 f1).mono ?_
    · obtain ⟨g', c', p', hv', hpe', hc⟩ := word_some (hB W hW) a hm hp
      rw [hv] at hv'
      injection hv' with hv'
      subst hv'
      rw [hpe] at hpe'
      injection hpe' with e1 _ _
      injection e1 with e1
      injection e1 with e1
      subst e1
      exact hc
    · rintro e w' ⟨rfl, w1, hb1, rfl⟩
      have hx1 := hB w1 hb1
      obtain ⟨R1, _⟩ := hx1.word_cells hv hpe h4 h5
      obtain ⟨cs, hcl, hM, hcc, hff⟩ := Kd.R_elem R1 z46 k (by omega) (by omega)
      obtain rfl := k46_openM hM
      obtain ⟨RS, hg⟩ := Kd.R_seg (seg := [.int .i64 x.f0, .int .i64 x.f1]) (j := 0) R1 k (by omega) (by omega) hcl hcc (Nat.le_refl _) (okp := fun _ => False) (x' := x) (k46_mkM _ _ _ _) (fun _ h => h.elim)
      have ew : w1.setCells g ((k : Int).toNat * k46.sz + 0) [.int .i64 x.f0, .int .i64 x.f1] = (w1.setCell ⟨g, k * 2, none⟩ (.int .i64 x.f0)).setCell ⟨g, k * 2 + 1, none⟩ (.int .i64 x.f1) := by
        rw [Int.toNat_natCast]; rfl
      rw [ew] at RS hg
      rw [Int.toNat_natCast] at RS
      have hFg : F g := R1.1 g rfl
      have hft : Foot (fun b => b = g) w1 ((w1.setCell ⟨g, k * 2, none⟩ (.int .i64 x.f0)).setCell ⟨g, k * 2 + 1, none⟩ (.int .i64 x.f1)) := ((Foot.refl (fun b => b = g) w1).setCell (p := ⟨g, k * 2, none⟩) (fun _ => rfl) _).setCell (p := ⟨g, k * 2 + 1, none⟩) (fun _ => rfl) _
      obtain ⟨cells, hgc⟩ := own_typed (Kd.R_own R1).choose_spec g rfl
      refine ⟨rfl, ⟨ab, vs, ?_⟩, (Foot.of_below hb1).trans hft (fun b hb _ => by subst hb; exact hFg)⟩
      refine { len := by rw [List.length_set]; exact h.len, le4 := by rw [List.length_set]; exact h.le4, good := ?_, hbk := ?_, abk := ?_, Fh := h.Fh, Fa := h.Fa, rows := ?_, ne := h.ne }
      · intro y hy
        rcases List.mem_or_eq_of_mem_set hy with hy | rfl
        · exact h.good y hy
        · obtain ⟨_, y, _, hy', hyx, hgood, _⟩ := h.at_ t h4
          rw [hyx]
          obtain ⟨g1, g2⟩ := hgood
          exact ⟨by simpa using g1, by simpa using g2⟩
      · rw [List.length_set]
        exact hft.blk hx1.hbk (fun e => blk_ne hx1.hbk hgc (by decide) e)
      · exact hft.blk hx1.abk (fun e => blk_ne hx1.abk hgc (by decide) e)
      · intro t' p' y hp' hy
        by_cases htt : t' = t
        · subst htt
          rw [hv] at hp'
          injection hp' with hp'
          subst hp'
          rw [List.getElem?_set_self h4] at hy
          injection hy with hy
          subst hy
          obtain ⟨_, y, _, hy', hyx, _⟩ := h.at_ t' h4
          obtain ⟨_, r1⟩ := hx1.rows t' p y hv hy'
          rw [hpe]
          refine ⟨RS, ?_⟩
          rw [hyx]
          exact Kd.R_over r1 R1 (by decide) hg
        · rw [List.getElem?_set_ne (fun e => htt e.symm)] at hy
          obtain ⟨r0, r1⟩ := hx1.rows t' p' y hp' hy
          refine ⟨?_, Kd.R_over r1 R1 (by decide) hg⟩
          have hne := (h.ne t' t p' p htt hp' hv).1
          refine Kd.R_mono (Kd.R_step (ok := fun k => F k ∧ some k = p'.1.ownBlock) ⟨fun k hk => ⟨r0.1 k hk, hk.symm⟩, r0.2.imp_ (fun _ _ hq => hq)⟩ (fun b hbk hlt => hg.block b hlt (fun e => ?_))) (fun _ h => h.1)
          rw [hpe] at hne
          exact hne b hbk.2.symm e.symm
end
end Go.Proofs.Ytogjcogejfidbaa.Heap
