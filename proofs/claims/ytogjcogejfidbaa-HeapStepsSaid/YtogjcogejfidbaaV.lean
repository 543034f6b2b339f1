import Derived.Test.YtogjcogejfidbaaU
namespace Go.Proofs.Ytogjcogejfidbaa.Heap
open Go.RowKit Go.Proofs.YtogjcogejfidbaaW.PrintWords Go.Proofs.YtogjcogejfidbaaW.PrintLast Go.Proofs.YtogjcogejfidbaaW.PrintMore Go.Proofs.Ytogjcogejfidbaa.PHeapSteps
set_option linter.unusedVariables false
set_option linter.unusedSimpArgs false

/-! ### Both memories at once -/
structure SQx (w1 : World) (F G : Nat → Prop) (hb mb : Nat) (X : Nat → Prop) (v0 v1 : Value) (wr : World) (A B : List S65) : Prop where
  hr : HR wr w1.heap.size F hb A
  fb : ∀ k, F k → w1.heap.size ≤ k ∧ k < wr.heap.size
  mbk : wr.heap[mb]? = some (.cells #[v0, v1] 37 (0, 0))
  mlo : w1.heap.size ≤ mb
  mF : ¬ F mb
  s0 : Kd.S (Kd.slice 46 k46) 28 wr w1.heap.size G v0 (wsM B)
  s1 : Kd.S (Kd.slice 51 k51) 30 wr w1.heap.size G v1 (osM B)
  gf : ∀ k, G k → ¬ F k ∧ k ≠ mb ∧ k < wr.heap.size
  xs : ∀ k, X k → k < wr.heap.size ∧ ¬ F k ∧ k ≠ mb
  bel : Below w1.heap.size w1 wr
def SQ (w1 : World) (hb mb : Nat) (X : Nat → Prop) (wr : World) (A B : List S65) : Prop := ∃ F G v0 v1, SQx w1 F G hb mb X v0 v1 wr A B
section
variable {w1 wr w' : World} {hb mb : Nat} {X : Nat → Prop} {A B : List S65}
theorem SQ.below (h : SQ w1 hb mb X wr A B) (b : Below wr.heap.size wr w') : SQ w1 hb mb (fun k => X k ∨ (wr.heap.size ≤ k ∧ k < w'.heap.size)) w' A B := by
  obtain ⟨F, G, v0, v1, h⟩ := h
  have hs := b.size
  have hm := blk_lt h.mbk
  refine ⟨F, G, v0, v1, h.hr.below b, fun k hk => ⟨(h.fb k hk).1, Nat.lt_of_lt_of_le (h.fb k hk).2 hs⟩, blk_below h.mbk b, h.mlo, h.mF, Kd.S_below h.s0 b, Kd.S_below h.s1 b, fun k hk => ⟨(h.gf k hk).1, (h.gf k hk).2.1, Nat.lt_of_lt_of_le (h.gf k hk).2.2 hs⟩, fun k hk => ?_, below_then h.bel h.bel.size b⟩
  rcases hk with hk | ⟨h1, h2⟩
  · exact ⟨Nat.lt_of_lt_of_le (h.xs k hk).1 hs, (h.xs k hk).2⟩
  · exact ⟨h2, fun hF => by have := (h.fb k hF).2; omega, by omega⟩
theorem SQ.less {Y : Nat → Prop} (h : SQ w1 hb mb X wr A B) (hY : ∀ k, Y k → X k) : SQ w1 hb mb Y wr A B := by
  obtain ⟨F, G, v0, v1, h⟩ := h
  exact ⟨F, G, v0, v1, h.hr, h.fb, h.mbk, h.mlo, h.mF, h.s0, h.s1, h.gf, fun k hk => h.xs k (hY k hk), h.bel⟩
theorem SQ.bel (h : SQ w1 hb mb X wr A B) : Below w1.heap.size w1 wr := by
  obtain ⟨F, G, v0, v1, h⟩ := h
  exact h.bel
theorem SQ.good (h : SQ w1 hb mb X wr A B) : A.length ≤ 4 ∧ ∀ x ∈ A, GoodAr x := by
  obtain ⟨F, G, v0, v1, h⟩ := h
  obtain ⟨_, _, h2⟩ := h.hr
  exact ⟨h2.le4, h2.good⟩
theorem SQx.turned {F G : Nat → Prop} {v0 v1 : Value} {A' : List S65} (h : SQx w1 F G hb mb X v0 v1 wr A B) (hr : HR w' w1.heap.size (fun k => F k ∨ wr.heap.size ≤ k) hb A') (hf : Foot F wr w') :
    SQ w1 hb mb X w' A' B ∧ (∀ k o, X k → wr.heap[k]? = some o → w'.heap[k]? = some o) := by
  have hs := hf.size
  have hm := blk_lt h.mbk
  refine ⟨⟨fun k => (F k ∨ wr.heap.size ≤ k) ∧ k < w'.heap.size, G, v0, v1, hr.bound, fun k hk => ⟨?_, hk.2⟩, hf.blk h.mbk h.mF, h.mlo, fun hk => ?_, ?_, ?_, fun k hk => ⟨fun hF => ?_, (h.gf k hk).2.1, Nat.lt_of_lt_of_le (h.gf k hk).2.2 hs⟩, fun k hk => ⟨Nat.lt_of_lt_of_le (h.xs k hk).1 hs, fun hF => ?_, (h.xs k hk).2.2⟩, ?_⟩, fun k o hk ho => hf.blk ho (h.xs k hk).2.1⟩
  · rcases hk.1 with h1 | h1
    · exact (h.fb k h1).1
    · exact Nat.le_trans h.bel.size h1
  · rcases hk.1 with h1 | h1
    · exact h.mF h1
    · omega
  · exact Kd.S_step h.s0 (fun k hk hlt => hf.block k hlt (h.gf k hk).1)
  · exact Kd.S_step h.s1 (fun k hk hlt => hf.block k hlt (h.gf k hk).1)
  · rcases hF.1 with h1 | h1
    · exact (h.gf k hk).1 h1
    · have := (h.gf k hk).2.2
      omega
  · rcases hF.1 with h1 | h1
    · exact (h.xs k hk).2.1 h1
    · have := (h.xs k hk).1
      omega
  · exact h.bel.trans (hf.below h.bel.size (fun k hk => (h.fb k hk).1))
theorem sq_make (h : SQ w1 hb mb X wr A B) (t s f o : Int) :
    Calls Try.prog 9 #[.pointer (some ⟨hb, 0, none⟩), .int .i64 t, .int .i64 s, .int .i64 f, .int .i64 o] wr fun e w' =>
      e = .returned (.tuple #[.int .i64 (make A t s f o).2.1, .bool (make A t s f o).2.2]) ∧ (SQ w1 hb mb X w' (make A t s f o).1 B ∧ (∀ k o, X k → wr.heap[k]? = some o → w'.heap[k]? = some o)) ∧ wr.heap.size ≤ w'.heap.size := by
  obtain ⟨F, G, v0, v1, h⟩ := h
  exact (make_any h.hr h.bel.size t s f o).mono fun e w' ⟨h1, h2, h3⟩ => ⟨h1, h.turned h2 h3, h3.size⟩
theorem sq_store (h : SQ w1 hb mb X wr A B) (a : Int) (ha : a ≤ 9223372036854775807) (x : S46) :
    Calls Try.prog 15 #[.pointer (some ⟨hb, 0, none⟩), .int .i64 a, .agg #[.int .i64 x.f0, .int .i64 x.f1]] wr fun e w' =>
      e = .returned (.bool (store A a x).2) ∧ (SQ w1 hb mb X w' (store A a x).1 B ∧ (∀ k o, X k → wr.heap[k]? = some o → w'.heap[k]? = some o)) ∧ wr.heap.size ≤ w'.heap.size := by
  obtain ⟨F, G, v0, v1, h⟩ := h
  exact (store_any h.hr a ha x).mono fun e w' ⟨h1, h2, h3⟩ => ⟨h1, h.turned (h2.mono (fun _ hk => .inl hk)) h3, h3.size⟩
theorem sq_hr (h : SQ w1 hb mb X wr A B) : ∃ F, HR wr w1.heap.size F hb A := by
  obtain ⟨F, G, v0, v1, h⟩ := h
  exact ⟨F, h.hr⟩
/-- The document's memory, read. -/
theorem SQ.cells (h : SQ w1 hb mb X wr A B) : ∃ a0 c0 a1 c1, wr.heap[mb]? = some (.cells #[.slice a0 B.length c0, .slice a1 B.length c1] 37 (0, 0)) ∧ w1.heap.size ≤ mb ∧ RMx wr a0 c0 a1 c1 B := by
  obtain ⟨F, G, v0, v1, h⟩ := h
  obtain ⟨a0, c0, e0, l0, C0⟩ := Kd.S_reads h.s0
  obtain ⟨a1, c1, e1, l1, C1⟩ := Kd.S_reads h.s1
  rw [wsM_len] at e0 l0 C0
  rw [osM_len] at e1 l1 C1
  have := h.mbk
  rw [e0, e1] at this
  exact ⟨a0, c0, a1, c1, this, h.mlo, ⟨C0, l0, C1, l1⟩⟩
/-- m = n, behind a call of the document's. -/
theorem SQ.put {W : World} {a0 a1 : Option Addr} {c0 c1 : Nat} {u0 u1 : Value} {B' : List S65} (h : SQ w1 hb mb X W A B) (hc : W.heap[mb]? = some (.cells #[.slice a0 B.length c0, .slice a1 B.length c1] 37 (0, 0)))
    (hk : Came W w' (.slice a0 B.length c0) (.slice a1 B.length c1) u0 u1 B B') (b : Below W.heap.size W w') (o : Obj) :
    SQ w1 hb mb X (((w'.alloc o).setCell ⟨mb, 0, none⟩ u0).setCell ⟨mb, 1, none⟩ u1) A B' := by
  obtain ⟨F, G, v0, v1, h⟩ := h
  have hm := blk_lt hc
  have hs := b.size
  have e1 := h.mbk
  rw [hc] at e1
  injection e1 with e1
  injection e1 with e1
  injection e1 with e1
  injection e1 with e0 e1
  injection e1 with e1 _
  subst e0
  subst e1
  have hsz : (((w'.alloc o).setCell ⟨mb, 0, none⟩ u0).setCell ⟨mb, 1, none⟩ u1).heap.size = w'.heap.size + 1 := by simp [World.setCell]
  have hfoot : Foot (fun k => k = mb) W (((w'.alloc o).setCell ⟨mb, 0, none⟩ u0).setCell ⟨mb, 1, none⟩ u1) :=
    (((Foot.of_below (S := fun k => k = mb) b).alloc o).setCell (p := ⟨mb, 0, none⟩) (fun _ => rfl) _).setCell (p := ⟨mb, 1, none⟩) (fun _ => rfl) _
  refine ⟨F, fun k => (G k ∨ W.heap.size ≤ k) ∧ k < w'.heap.size + 1, u0, u1, h.hr.foot hfoot (fun k hk e => h.mF (e ▸ hk)), fun k hk => ⟨(h.fb k hk).1, by rw [hsz]; have := (h.fb k hk).2; omega⟩, ?_, h.mlo, h.mF, ?_, ?_, fun k hk => ⟨fun hF => ?_, fun e => ?_, by rw [hsz]; exact hk.2⟩, fun k hk => ⟨by rw [hsz]; have := (h.xs k hk).1; omega, (h.xs k hk).2⟩, ?_⟩
  · refine blk_put (cs := #[u0, .slice a1 B.length c1]) ?_ 1 _ rfl
    exact blk_put (cs := #[.slice a0 B.length c0, .slice a1 B.length c1]) (blk_alloc (blk_below hc b) o) 0 _ rfl
  · rcases hk with ⟨rfl, rfl, rfl⟩ | hk
    · refine Kd.S_mono (Kd.S_step h.s0 (fun k hk hlt => hfoot.block k hlt (h.gf k hk).2.1)) (fun k hk => ⟨.inl hk, ?_⟩)
      have := (h.gf k hk).2.2
      omega
    · refine Kd.S_mono (Kd.S_step (w1 := ((w'.alloc o).setCell ⟨mb, 0, none⟩ u0).setCell ⟨mb, 1, none⟩ u1) (Kd.S_lower (Kd.S_bound hk.1) h.bel.size) (fun k hk hlt => ?_)) (fun k hk => ⟨.inr hk.1, by have := hk.2.2.1; omega⟩)
      have n0 : k ≠ mb := by have := hk.1; omega
      rw [Below.heap_setCell _ _ _ k n0, Below.heap_setCell _ _ _ k n0]
      exact (below_alloc (Below.refl _ _) o).block k hlt
  · rcases hk with ⟨rfl, rfl, rfl⟩ | hk
    · refine Kd.S_mono (Kd.S_step h.s1 (fun k hk hlt => hfoot.block k hlt (h.gf k hk).2.1)) (fun k hk => ⟨.inl hk, ?_⟩)
      have := (h.gf k hk).2.2
      omega
    · refine Kd.S_mono (Kd.S_step (w1 := ((w'.alloc o).setCell ⟨mb, 0, none⟩ u0).setCell ⟨mb, 1, none⟩ u1) (Kd.S_lower (Kd.S_bound hk.2) h.bel.size) (fun k hk hlt => ?_)) (fun k hk => ⟨.inr hk.1, by have := hk.2.2.1; omega⟩)
      have n0 : k ≠ mb := by have := hk.1; omega
      rw [Below.heap_setCell _ _ _ k n0, Below.heap_setCell _ _ _ k n0]
      exact (below_alloc (Below.refl _ _) o).block k hlt
  · rcases hk.1 with h1 | h1
    · exact (h.gf k h1).1 hF
    · have := (h.fb k hF).2
      omega
  · rcases hk.1 with h1 | h1
    · exact (h.gf k h1).2.1 e
    · omega
  · exact h.bel.trans (hfoot.below h.bel.size (fun k hk => by rw [hk]; exact h.mlo))
end
end Go.Proofs.Ytogjcogejfidbaa.Heap
