import Derived.Test.YtogjcogejfidbaaI
namespace Go.Proofs.Ytogjcogejfidbaa.Heap
open Go.RowKit Go.Proofs.YtogjcogejfidbaaW.PrintWords Go.Proofs.YtogjcogejfidbaaW.PrintLast Go.Proofs.YtogjcogejfidbaaW.PrintMore Go.Proofs.Ytogjcogejfidbaa.PHeapSteps
set_option linter.unusedVariables false
set_option linter.unusedSimpArgs false

theorem new_good (n : Int) : ∀ x ∈ new n, GoodAr x := by
  intro x hx
  obtain rfl := List.eq_of_mem_replicate hx
  exact ⟨by simp [z65], by simp [z65, Contig]⟩

theorem newWorld_below (w : World) (m : Nat) : Below w.heap.size w (newWorld w m) := below_alloc (below_alloc (Below.refl _ _) _) _

theorem new_HR (n : Int) (w : World) :
    Calls Try.prog 8 #[.int .i64 n] w fun e w' => e = .returned (.pointer (some ⟨w.heap.size + 1, 0, none⟩)) ∧ HR w' w.heap.size (fun k => w.heap.size ≤ k) (w.heap.size + 1) (new n) ∧ Below w.heap.size w w' := by
  obtain ⟨m, hm⟩ : ∃ m : Nat, (m : Int) = max 0 (min n 4) := ⟨(max 0 (min n 4)).toNat, by omega⟩
  refine (new_any n m hm w).mono ?_
  rintro e w' ⟨rfl, rfl⟩
  have e0 : new n = List.replicate m z65 := by unfold new; rw [← hm]; simp
  refine ⟨rfl, ⟨w.heap.size, List.replicate m (nl, nl), ?_⟩, newWorld_below w m⟩
  rw [e0]
  have h1 : (newWorld w m).heap[w.heap.size + 1]? = some (.cells #[.slice (some ⟨w.heap.size, 0, none⟩) m m] 61) := by
    have := blk_new (w.alloc (.cells (arCells (List.replicate m (nl, nl))).toArray 65)) (.cells #[.slice (some ⟨w.heap.size, 0, none⟩) m m] 61)
    simpa [newWorld] using this
  have h2 : (newWorld w m).heap[w.heap.size]? = some (.cells (arCells (List.replicate m (nl, nl))).toArray 65) := blk_alloc (blk_new w _) _
  refine { len := by simp, le4 := by simp; omega, good := by rw [← e0]; exact new_good n, hbk := ?_, abk := h2, Fh := by omega, Fa := Nat.le_refl _, rows := ?_, ne := ?_ }
  · rw [h1]; simp
  · intro t p x hp hx
    obtain rfl : p = (nl, nl) := List.eq_of_mem_replicate (List.mem_of_getElem? hp)
    obtain rfl : x = z65 := List.eq_of_mem_replicate (List.mem_of_getElem? hx)
    exact ⟨Kd.R_nil _ _ _ _ _, Kd.R_nil _ _ _ _ _⟩
  · intro t t' p p' _ hp hp'
    obtain rfl : p = (nl, nl) := List.eq_of_mem_replicate (List.mem_of_getElem? hp)
    exact ⟨ne_nil _, ne_nil _⟩

theorem make_any {w : World} {base : Nat} {F : Nat → Prop} {hb : Nat} {A : List S65} (h : HR w base F hb A) (hbase : base ≤ w.heap.size) (t s f o : Int) :
    Calls Try.prog 9 #[.pointer (some ⟨hb, 0, none⟩), .int .i64 t, .int .i64 s, .int .i64 f, .int .i64 o] w fun e w' =>
      e = .returned (.tuple #[.int .i64 (make A t s f o).2.1, .bool (make A t s f o).2.2]) ∧ HR w' base (fun k => F k ∨ w.heap.size ≤ k) hb (make A t s f o).1 ∧ Foot F w w' := by
  have h' := h
  obtain ⟨ab, vs, h⟩ := h
  have keep : ∀ (r : Int) (b : Bool), (Calls Try.prog 9 #[.pointer (some ⟨hb, 0, none⟩), .int .i64 t, .int .i64 s, .int .i64 f, .int .i64 o] w fun e w' => e = .returned (.tuple #[.int .i64 r, .bool b]) ∧ w = w') →
      Calls Try.prog 9 #[.pointer (some ⟨hb, 0, none⟩), .int .i64 t, .int .i64 s, .int .i64 f, .int .i64 o] w fun e w' => e = .returned (.tuple #[.int .i64 r, .bool b]) ∧ HR w' base (fun k => F k ∨ w.heap.size ≤ k) hb A ∧ Foot F w w' := by
    intro r b hc
    refine hc.mono ?_
    rintro e w' ⟨rfl, rfl⟩
    exact ⟨rfl, h'.mono (fun _ h => .inl h), Foot.refl _ _⟩
  by_cases h0 : t < 0
  · rw [show make A t s f o = (A, 0, false) from by unfold make; rw [if_pos (.inl h0)]]
    exact keep _ _ (make_neg _ _ _ _ _ _ h0)
  · by_cases h1 : (A.length : Int) ≤ t
    · rw [show make A t s f o = (A, 0, false) from by unfold make; rw [if_pos (.inr (.inl h1))]]
      exact keep _ _ (make_far _ _ _ _ _ _ _ _ _ h.c0 h0 h1)
    · obtain ⟨p, x, hv, hx', hx, hgood, e0, e1, c0, c1, R0, R1⟩ := h.at_ t.toNat (by omega)
      have hx2 : ar A t = x := by rw [ar_nat _ _ (by omega), hx]
      have hcl := contig_len hgood.2
      have hl64 := hgood.1
      by_cases h2 : s < 0 ∨ 64 - (x.f0.length : Int) < s
      · rw [show make A t s f o = (A, 0, false) from by unfold make; rw [if_pos (by rw [hx2]; exact .inr (.inr h2))]]
        obtain ⟨A0, cc, he, _, _⟩ := Kd.R_reads R0
        rw [he] at c0
        exact keep _ _ (make_big _ _ _ _ _ _ _ _ _ _ _ _ h.c0 h0 (by omega) c0 hl64 h2)
      · have hno : ¬ (t < 0 ∨ (A.length : Int) ≤ t ∨ s < 0 ∨ 64 - ((ar A t).f0.length : Int) < s) := by rw [hx2]; omega
        by_cases h3 : s = 0
        · rw [show make A t s f o = (A, 0, true) from by unfold make; rw [if_neg hno, if_pos h3]]
          obtain ⟨A0, cc, he, _, _⟩ := Kd.R_reads R0
          rw [he] at c0
          subst h3
          exact keep _ _ (make_zero _ _ _ _ _ _ _ _ _ _ _ h.c0 h0 (by omega) c0 hl64)
        · rw [show make A t s f o = (A.set t.toNat ⟨x.f0 ++ List.replicate s.toNat z46, x.f1 ++ [ob x.f0.length s f o]⟩, 1 + t * 64 + x.f0.length, true) from by unfold make; rw [if_neg hno, if_neg h3, hx2]]
          refine (make_yes ⟨hb, 0, none⟩ ab A.length A.length p.1 p.2 (arCells vs).toArray base F x.f0 x.f1 t s f o w h.c0 h0 (by omega) h.le4 (by simp [arCells_length, h.len]) h.abk e0 e1 R0 R1 hl64 (by omega) (by omega) (by omega) hbase).mono ?_
          rintro e w' ⟨rfl, ⟨v0', v1', hab, S0, S1, at0, at1, hft⟩⟩
          have ht : t.toNat < A.length := by omega
          have htv : t.toNat < vs.length := by rw [h.len]; exact ht
          have hftF : Foot F w w' := hft.mono (fun b hb _ => by
            rcases hb with rfl | hb | hb
            · exact h.Fa
            · exact R0.1 b hb
            · exact R1.1 b hb)
          refine ⟨rfl, ⟨ab, vs.set t.toNat (v0', v1'), ?_⟩, hftF⟩
          have hne : hb ≠ ab := blk_ne h.hbk h.abk (by decide)
          have hn0 : p.1.ownBlock ≠ some hb := (Kd.R_ne R0 h.hbk (by decide)).symm
          have hn1 : p.2.ownBlock ≠ some hb := (Kd.R_ne R1 h.hbk (by decide)).symm
          refine { len := by simp [h.len], le4 := by simpa using h.le4, good := ?_, hbk := ?_, abk := ?_, Fh := .inl h.Fh, Fa := .inl h.Fa, rows := ?_, ne := ?_ }
          · intro y hy
            rcases List.mem_or_eq_of_mem_set hy with hy | rfl
            · exact h.good y hy
            · refine ⟨by simp; omega, ?_⟩
              have := contig_snoc (ob x.f0.length s f o) hgood.2 rfl (by simp [ob]; omega)
              simp only [List.length_append, List.length_replicate]
              rw [show ((x.f0.length + s.toNat : Nat) : Int) = x.f0.length + s by omega]
              exact this
          · rw [List.length_set]
            exact hft.blk h.hbk (by rintro (e | e | e) <;> first | exact hne e | exact hn0 e | exact hn1 e)
          · rw [hab]
            congr 2
            apply Array.ext'
            simp [arCells_set]
          · intro t' p' y hp' hy
            by_cases htt : t.toNat = t'
            · subst htt
              rw [List.getElem?_set_self htv] at hp'
              rw [List.getElem?_set_self ht] at hy
              injection hp' with hp'
              injection hy with hy
              subst hp'; subst hy
              exact ⟨S0, S1⟩
            · rw [List.getElem?_set_ne htt] at hp' hy
              obtain ⟨r0, r1⟩ := h.rows t' p' y hp' hy
              obtain ⟨n0, n1⟩ := h.ne t' t.toNat p' p (fun e => htt e.symm) hp' hv
              have far0 : ∀ b, some b = p'.1.ownBlock → b < w.heap.size → w'.heap[b]? = w.heap[b]? := by
                intro b hb hlt
                refine hft.block b hlt ?_
                rintro (e | e | e)
                · exact Kd.R_ne r0 h.abk (by decide) (by rw [← e]; exact hb)
                · exact n0 b hb.symm e
                · exact (ne_types (Kd.R_own r0).choose_spec (Kd.R_own R1).choose_spec (by decide)) b hb.symm e
              have far1 : ∀ b, some b = p'.2.ownBlock → b < w.heap.size → w'.heap[b]? = w.heap[b]? := by
                intro b hb hlt
                refine hft.block b hlt ?_
                rintro (e | e | e)
                · exact Kd.R_ne r1 h.abk (by decide) (by rw [← e]; exact hb)
                · exact (ne_types (Kd.R_own r1).choose_spec (Kd.R_own R0).choose_spec (by decide)) b hb.symm e
                · exact n1 b hb.symm e
              exact ⟨Kd.R_mono (Kd.R_step (ok := fun k => F k ∧ some k = p'.1.ownBlock) ⟨fun k hk => ⟨r0.1 k hk, hk.symm⟩, r0.2.imp_ (fun _ _ hq => hq)⟩ (fun b hbk hlt => far0 b hbk.2 hlt)) (fun _ h => .inl h.1),
                Kd.R_mono (Kd.R_step (ok := fun k => F k ∧ some k = p'.2.ownBlock) ⟨fun k hk => ⟨r1.1 k hk, hk.symm⟩, r1.2.imp_ (fun _ _ hq => hq)⟩ (fun b hbk hlt => far1 b hbk.2 hlt)) (fun _ h => .inl h.1)⟩
          · have key : ∀ (t' : Nat) (p' : Value × Value) (y : S65), t' ≠ t.toNat → vs[t']? = some p' → A[t']? = some y → NeRow p'.1 v0' ∧ NeRow p'.2 v1' := by
              intro t' p' y htt hp' hy
              obtain ⟨r0, r1⟩ := h.rows t' p' y hp' hy
              obtain ⟨n0, n1⟩ := h.ne t' t.toNat p' p htt hp' hv
              exact ⟨ne_append' n0 at0 (Kd.R_own r0).choose_spec, ne_append' n1 at1 (Kd.R_own r1).choose_spec⟩
            have hA : ∀ (t' : Nat) (p' : Value × Value), vs[t']? = some p' → ∃ y, A[t']? = some y := by
              intro t' p' hp'
              have := (List.getElem?_eq_some_iff.1 hp').1
              exact ⟨_, List.getElem?_eq_getElem (by rw [← h.len]; exact this)⟩
            intro t1 t2 p1 p2 h12 hp1 hp2
            by_cases e1 : t.toNat = t1
            · subst e1
              rw [List.getElem?_set_self htv] at hp1
              rw [List.getElem?_set_ne h12] at hp2
              injection hp1 with hp1
              subst hp1
              obtain ⟨y, hy⟩ := hA _ _ hp2
              obtain ⟨k0, k1⟩ := key t2 p2 y h12.symm hp2 hy
              exact ⟨ne_symm k0, ne_symm k1⟩
            · by_cases e2 : t.toNat = t2
              · subst e2
                rw [List.getElem?_set_self htv] at hp2
                rw [List.getElem?_set_ne e1] at hp1
                injection hp2 with hp2
                subst hp2
                obtain ⟨y, hy⟩ := hA _ _ hp1
                exact key t1 p1 y h12 hp1 hy
              · rw [List.getElem?_set_ne e1] at hp1
                rw [List.getElem?_set_ne e2] at hp2
                exact h.ne t1 t2 p1 p2 h12 hp1 hp2
end Go.Proofs.Ytogjcogejfidbaa.Heap
