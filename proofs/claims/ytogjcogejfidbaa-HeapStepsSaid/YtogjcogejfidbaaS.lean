import Derived.Test.YtogjcogejfidbaaR
import Derived.Deep.RegionLaw
import Derived.StillTailTactics
namespace Go.Proofs.Ytogjcogejfidbaa.Heap
open Go.RowKit Go.Proofs.YtogjcogejfidbaaW.PrintWords Go.Proofs.YtogjcogejfidbaaW.PrintLast Go.Proofs.YtogjcogejfidbaaW.PrintMore Go.Proofs.Ytogjcogejfidbaa.PHeapSteps
set_option linter.unusedVariables false
set_option linter.unusedSimpArgs false

/-! ### A row lent out of rows that lie apart -/
theorem lendS {α : Type} {d : Kd α} {eo ei : Nat} {W : World} {base : Nat} {ok : Nat → Prop} {g n cap : Nat} {xss : List (List α)}
    (h : Kd.S (Kd.slice ei d) eo W base ok (.slice (some ⟨g, 0, none⟩) n cap) xss) (i : Nat) (hi : i < n) :
    ∃ (oki : Nat → Prop) (v : Value), W.cell? ⟨g, i, none⟩ = some v ∧ W.frozen? ⟨g, i, none⟩ = false ∧ d.R ei W base oki v (xss.getD i []) ∧ (∀ k, oki k → ok k ∧ k ≠ g) ∧ (∀ k, W.heap.size ≤ k → ok k → oki k) ∧
      ∀ (W' : World) (v' : Value) (x' : List α), (∀ k, k < W.heap.size → ¬ oki k → W'.heap[k]? = W.heap[k]?) → d.R ei W' base oki v' x' →
        Kd.S (Kd.slice ei d) eo (W'.setCell ⟨g, i, none⟩ v') base ok (.slice (some ⟨g, 0, none⟩) n cap) (xss.set i x') := by
  obtain ⟨oki, c, hcl, hM, hcc, hfr, hoki, hH⟩ := Kd.S_elem h [] (i : Int) (by omega) (by omega)
  rw [Int.toNat_natCast] at hM hcc hfr
  obtain ⟨v, rfl, hR⟩ := hM
  have hg : g < W.heap.size := by
    have := Kd.S_lt h g (by simp [Value.ownBlock])
    exact this
  have e1 : i * (Kd.slice ei d).sz + 0 = i := by show i * 1 + 0 = i; omega
  have hne : ∀ k, (oki k ∨ ok k ∧ W.heap.size ≤ k) → k ≠ g := by
    rintro k (hk | ⟨_, hk⟩)
    · exact (hoki k hk).2
    · omega
  refine ⟨fun k => oki k ∨ ok k ∧ W.heap.size ≤ k, v, ?_, ?_, Kd.R_mono hR (fun _ hk => .inl hk), fun k hk => ⟨hk.elim (fun h => (hoki k h).1) (fun h => h.1), hne k hk⟩, fun k h1 h2 => .inr ⟨h2, h1⟩, fun W' v' x' hm hR' => ?_⟩
  · have := hcc 0 v rfl
    rwa [e1] at this
  · have := hfr 0
    rwa [e1] at this
  · have h1 := Kd.H_step (Kd.H_widen hH) (w1 := W') (fun k _ hk hlt => hm k hlt hk)
    have h2 := (Kd.H_seg h1 (by omega) (by omega) (seg := [v']) (j := 0) (by show 0 + 1 ≤ 1; omega) (fun q hq => by rw [List.mem_singleton.1 hq]; exact (Kd.R_val hR').2)).1
    rw [Int.toNat_natCast, e1] at h2
    have h3 := Kd.H_back h2 (x' := x') (okp := fun k => oki k ∨ ok k ∧ W.heap.size ≤ k) ⟨v', rfl, Kd.R_far hR' (p := ⟨g, i, none⟩) hne v'⟩ (fun _ h => h)
    rw [Int.toNat_natCast] at h3
    exact h3

/-! ### The document's Make -/
/-- Memories that are read. -/
structure RMx (w : World) (a0 : Option Addr) (c0 : Nat) (a1 : Option Addr) (c1 : Nat) (A : List S65) : Prop where
  h0 : Kd.C (Kd.slice 46 k46) w a0 A.length (wsM A)
  l0 : A.length ≤ c0
  h1 : Kd.C (Kd.slice 51 k51) w a1 A.length (osM A)
  l1 : A.length ≤ c1
theorem RMx.below {w w' : World} {a0 a1 : Option Addr} {c0 c1 : Nat} {A : List S65} (h : RMx w a0 c0 a1 c1 A) (b : Below w.heap.size w w') : RMx w' a0 c0 a1 c1 A :=
  ⟨Kd.C_below h.h0 b, h.l0, Kd.C_below h.h1 b, h.l1⟩
/-- The cell of a thread's words. -/
theorem RMx.row {w : World} {a0 a1 : Option Addr} {c0 c1 : Nat} {A : List S65} (h : RMx w a0 c0 a1 c1 A) (t : Nat) (ht : t < A.length) :
    ∃ ad B c, a0 = some ad ∧ w.cell? (ad.add t) = some (.slice B (A.getD t z65).f0.length c) := by
  obtain ⟨ad, c, eA, _, hK, hc⟩ := Kd.C_get h.h0 [] (t : Int) (by omega) (by omega)
  obtain ⟨B, c', rfl, _, _⟩ := hK
  refine ⟨ad, B, c', eA, ?_⟩
  have := hc 0 _ rfl
  rw [Int.toNat_natCast] at this
  have e : (wsM A).getD t [] = (A.getD t z65).f0 := by
    have := wsM_at A t
    unfold rd_L2 at this
    rwa [Int.toNat_natCast] at this
  rw [e] at this
  have e1 : t * (Kd.slice 46 k46).sz + 0 = t := by show t * 1 + 0 = t; omega
  rwa [e1] at this
/-- Memories of one's own, rows apart. -/
def RS (w : World) (B : Nat) (v0 v1 : Value) (A : List S65) : Prop := Kd.S (Kd.slice 46 k46) 28 w B (fun k => B ≤ k) v0 (wsM A) ∧ Kd.S (Kd.slice 51 k51) 30 w B (fun k => B ≤ k) v1 (osM A)
set_option maxHeartbeats 1000000 in
theorem makeR_no (A : List S65) (a0 a1 : Option Addr) (c0 c1 : Nat) (t s f o : Int) (w : World) (h : RMx w a0 c0 a1 c1 A) (hA : A.length ≤ 4)
    (hno : t < 0 ∨ (A.length : Int) ≤ t ∨ s < 0 ∨ 64 - ((ar A t).f0.length : Int) < s) (h64 : ∀ x ∈ A, x.f0.length ≤ 64) :
    Calls Try.prog 13 #[.agg #[.slice a0 A.length c0, .slice a1 A.length c1], .int .i64 t, .int .i64 s, .int .i64 f, .int .i64 o] w fun e w' =>
      e = .returned (.tuple #[.agg #[.slice a0 A.length c0, .slice a1 A.length c1], .int .i64 0, .bool false]) ∧ Below w.heap.size w w' := by
  obtain ⟨w0, hw0⟩ : ∃ w0, (w.alloc (.cells #[.slice a0 A.length c0, .slice a1 A.length c1] 37)).alloc (.cells #[.slice none 0 0, .slice none 0 0] 37) = w0 := ⟨_, rfl⟩
  have hb : Below w.heap.size w w0 := by rw [← hw0]; exact below_alloc (below_alloc (Below.refl _ _) _) _
  have BH : Aside0 (w0.heap[w.heap.size]? = some (.cells #[.slice a0 A.length c0, .slice a1 A.length c1] 37 (0, 0))) := ⟨by rw [← hw0]; exact blk_alloc (blk_new w _) _⟩
  have BR : Aside0 (w0.heap[w.heap.size + 1]? = some (.cells #[.slice none 0 0, .slice none 0 0] 37 (0, 0))) := ⟨by
    rw [← hw0]
    have := blk_new (w.alloc (.cells #[.slice a0 A.length c0, .slice a1 A.length c1] 37)) (.cells #[.slice none 0 0, .slice none 0 0] 37)
    simpa using this⟩
  have HB := Aside0.mk hb
  have g0 : w0.cell? ⟨w.heap.size, 0, none⟩ = some (.slice a0 A.length c0) := (blk_cell BH.out 0).trans rfl
  have g1 : w0.cell? ⟨w.heap.size, 1, none⟩ = some (.slice a1 A.length c1) := (blk_cell BH.out 1).trans rfl
  have r0 : w0.cell? ⟨w.heap.size + 1, 0, none⟩ = some (.slice none 0 0) := (blk_cell BR.out 0).trans rfl
  have r1 : w0.cell? ⟨w.heap.size + 1, 1, none⟩ = some (.slice none 0 0) := (blk_cell BR.out 1).trans rfl
  have f0 := blk_frozen BR.out 0
  have f1 := blk_frozen BR.out 1
  have H := Aside0.mk (h.below hb)
  clear h hb
  have fin : Aside0 (Below w.heap.size w ((w0.setCell ⟨w.heap.size + 1, 0, none⟩ (.slice a0 A.length c0)).setCell ⟨w.heap.size + 1, 1, none⟩ (.slice a1 A.length c1)) ∧
      ((w0.setCell ⟨w.heap.size + 1, 0, none⟩ (.slice a0 A.length c0)).setCell ⟨w.heap.size + 1, 1, none⟩ (.slice a1 A.length c1)).heap[w.heap.size + 1]? = some (.cells #[.slice a0 A.length c0, .slice a1 A.length c1] 37 (0, 0))) := ⟨⟨below_set (below_set HB.out (by simp)) (by simp), by
    refine blk_put (cs := #[.slice a0 A.length c0, .slice none 0 0]) ?_ 1 _ rfl
    exact blk_put (cs := #[.slice none 0 0, .slice none 0 0]) BR.out 0 _ rfl⟩⟩
  by_cases ht : t < 0
  · clear hno H
    go_enter Try.func13, Try.ntmps13
    go_wp2_with fail
    refine bodyPost_ret (results_ctt rfl _ _ (w.heap.size + 1) 37 #[.slice a0 A.length c0, .slice a1 A.length c1] (0, 0) _ rfl fin.out.2 Try.underlying37 rfl (by kernel_rfl)) rfl ?_
    exact ⟨rfl, fin.out.1⟩
  by_cases ht1 : (A.length : Int) ≤ t
  · clear hno H
    go_enter Try.func13, Try.ntmps13
    go_wp2_with fail
    refine bodyPost_ret (results_ctt rfl _ _ (w.heap.size + 1) 37 #[.slice a0 A.length c0, .slice a1 A.length c1] (0, 0) _ rfl fin.out.2 Try.underlying37 rfl (by kernel_rfl)) rfl ?_
    exact ⟨rfl, fin.out.1⟩
  by_cases hs : s < 0
  · clear hno H
    go_enter Try.func13, Try.ntmps13
    go_wp2_with fail
    refine bodyPost_ret (results_ctt rfl _ _ (w.heap.size + 1) 37 #[.slice a0 A.length c0, .slice a1 A.length c1] (0, 0) _ rfl fin.out.2 Try.underlying37 rfl (by kernel_rfl)) rfl ?_
    exact ⟨rfl, fin.out.1⟩
  obtain ⟨n, rfl⟩ := Int.eq_ofNat_of_zero_le (show 0 ≤ t by omega)
  have hbig : 64 - ((ar A (n : Int)).f0.length : Int) < s := by omega
  rw [ar_nat A _ (by omega), Int.toNat_natCast] at hbig
  obtain ⟨ad, B, c, rfl, e0⟩ := H.out.row n (by omega)
  have hx := h64 (A.getD n z65) (by rw [List.getD_eq_getElem?_getD, List.getElem?_eq_getElem (by omega)]; exact List.getElem_mem _)
  obtain ⟨m, hm⟩ : ∃ m, (A.getD n z65).f0.length = m := ⟨_, rfl⟩
  rw [hm] at e0 hx hbig
  have htn : (n : Int) < A.length := by omega
  clear hno H hm ht ht1
  go_enter Try.func13, Try.ntmps13
  go_wp2_with fail
  refine bodyPost_ret (results_ctt rfl _ _ (w.heap.size + 1) 37 #[.slice (some ad) A.length c0, .slice a1 A.length c1] (0, 0) _ rfl fin.out.2 Try.underlying37 rfl (by kernel_rfl)) rfl ?_
  exact ⟨rfl, fin.out.1⟩
set_option maxHeartbeats 1000000 in
theorem makeR_zero (A : List S65) (a0 a1 : Option Addr) (c0 c1 : Nat) (n : Nat) (f o : Int) (w : World) (h : RMx w a0 c0 a1 c1 A) (hA : A.length ≤ 4) (hn : n < A.length) (h64 : ∀ x ∈ A, x.f0.length ≤ 64) :
    Calls Try.prog 13 #[.agg #[.slice a0 A.length c0, .slice a1 A.length c1], .int .i64 n, .int .i64 0, .int .i64 f, .int .i64 o] w fun e w' =>
      e = .returned (.tuple #[.agg #[.slice a0 A.length c0, .slice a1 A.length c1], .int .i64 0, .bool true]) ∧ Below w.heap.size w w' := by
  obtain ⟨w0, hw0⟩ : ∃ w0, (w.alloc (.cells #[.slice a0 A.length c0, .slice a1 A.length c1] 37)).alloc (.cells #[.slice none 0 0, .slice none 0 0] 37) = w0 := ⟨_, rfl⟩
  have hb : Below w.heap.size w w0 := by rw [← hw0]; exact below_alloc (below_alloc (Below.refl _ _) _) _
  have BH : Aside0 (w0.heap[w.heap.size]? = some (.cells #[.slice a0 A.length c0, .slice a1 A.length c1] 37 (0, 0))) := ⟨by rw [← hw0]; exact blk_alloc (blk_new w _) _⟩
  have BR : Aside0 (w0.heap[w.heap.size + 1]? = some (.cells #[.slice none 0 0, .slice none 0 0] 37 (0, 0))) := ⟨by
    rw [← hw0]
    have := blk_new (w.alloc (.cells #[.slice a0 A.length c0, .slice a1 A.length c1] 37)) (.cells #[.slice none 0 0, .slice none 0 0] 37)
    simpa using this⟩
  have HB := Aside0.mk hb
  have g0 : w0.cell? ⟨w.heap.size, 0, none⟩ = some (.slice a0 A.length c0) := (blk_cell BH.out 0).trans rfl
  have g1 : w0.cell? ⟨w.heap.size, 1, none⟩ = some (.slice a1 A.length c1) := (blk_cell BH.out 1).trans rfl
  have r0 : w0.cell? ⟨w.heap.size + 1, 0, none⟩ = some (.slice none 0 0) := (blk_cell BR.out 0).trans rfl
  have r1 : w0.cell? ⟨w.heap.size + 1, 1, none⟩ = some (.slice none 0 0) := (blk_cell BR.out 1).trans rfl
  have f0 := blk_frozen BR.out 0
  have f1 := blk_frozen BR.out 1
  have H := Aside0.mk (h.below hb)
  clear h hb
  have fin : Aside0 (Below w.heap.size w ((w0.setCell ⟨w.heap.size + 1, 0, none⟩ (.slice a0 A.length c0)).setCell ⟨w.heap.size + 1, 1, none⟩ (.slice a1 A.length c1)) ∧
      ((w0.setCell ⟨w.heap.size + 1, 0, none⟩ (.slice a0 A.length c0)).setCell ⟨w.heap.size + 1, 1, none⟩ (.slice a1 A.length c1)).heap[w.heap.size + 1]? = some (.cells #[.slice a0 A.length c0, .slice a1 A.length c1] 37 (0, 0))) := ⟨⟨below_set (below_set HB.out (by simp)) (by simp), by
    refine blk_put (cs := #[.slice a0 A.length c0, .slice none 0 0]) ?_ 1 _ rfl
    exact blk_put (cs := #[.slice none 0 0, .slice none 0 0]) BR.out 0 _ rfl⟩⟩
  obtain ⟨ad, B, c, rfl, e0⟩ := H.out.row n (by omega)
  have hx := h64 (A.getD n z65) (by rw [List.getD_eq_getElem?_getD, List.getElem?_eq_getElem (by omega)]; exact List.getElem_mem _)
  obtain ⟨m, hm⟩ : ∃ m, (A.getD n z65).f0.length = m := ⟨_, rfl⟩
  rw [hm] at e0 hx
  have htn : (n : Int) < A.length := by omega
  clear H hm hn
  go_enter Try.func13, Try.ntmps13
  go_wp2_with fail
  refine bodyPost_ret (results_ctt rfl _ _ (w.heap.size + 1) 37 #[.slice (some ad) A.length c0, .slice a1 A.length c1] (0, 0) _ rfl fin.out.2 Try.underlying37 rfl (by kernel_rfl)) rfl ?_
  exact ⟨rfl, fin.out.1⟩
/-- A memory that is being made: the box, the result's cell, both rows. -/
structure MKx (w wr : World) (B0 : Nat) (A : List S65) (g0 q0 g1 q1 : Nat) (W : List (List S46)) (O : List (List S51)) : Prop where
  bel : Below w.heap.size w wr
  bh : wr.heap[w.heap.size]? = some (.cells #[.slice (some ⟨g0, 0, none⟩) A.length q0, .slice (some ⟨g1, 0, none⟩) A.length q1] 37 (0, 0))
  br : wr.heap[w.heap.size + 1]? = some (.cells #[.slice none 0 0, .slice none 0 0] 37 (0, 0))
  s0 : Kd.S (Kd.slice 46 k46) 28 wr B0 (fun k => B0 ≤ k) (.slice (some ⟨g0, 0, none⟩) A.length q0) W
  s1 : Kd.S (Kd.slice 51 k51) 30 wr B0 (fun k => B0 ≤ k) (.slice (some ⟨g1, 0, none⟩) A.length q1) O
  hB : w.heap.size + 2 ≤ B0
  hsz : B0 ≤ wr.heap.size
theorem MKx.foot {w wr wr' : World} {B0 : Nat} {A : List S65} {g0 q0 g1 q1 : Nat} {W : List (List S46)} {O : List (List S51)} (h : MKx w wr B0 A g0 q0 g1 q1 W O) (b : Below wr.heap.size wr wr') : MKx w wr' B0 A g0 q0 g1 q1 W O :=
  ⟨below_then h.bel h.bel.size b, blk_below h.bh b, blk_below h.br b, Kd.S_below h.s0 b, Kd.S_below h.s1 b, h.hB, Nat.le_trans h.hsz b.size⟩
theorem grown_below {B : Nat} {w W w1 : World} {row : Option Nat} (h : Below B w W) (hg : W.grownBy w1 row) (hr : ∀ k, row = some k → B ≤ k) (hB : B ≤ W.heap.size) : Below B w w1 :=
  ⟨hg.os.trans h.os, hg.tape.trans h.tape, hg.output.trans h.output, Nat.le_trans h.size hg.size, fun k hk => (hg.block k (by omega) (fun e => by have := hr k e.symm; omega)).trans (h.block k hk)⟩
theorem cell_same {w w1 : World} {b : Nat} (h : w1.heap[b]? = w.heap[b]?) (j : Nat) : w1.cell? ⟨b, j, none⟩ = w.cell? ⟨b, j, none⟩ := by
  simp [World.cell?, h]
theorem frozen_same {w w1 : World} {b : Nat} (h : w1.heap[b]? = w.heap[b]?) (j : Nat) : w1.frozen? ⟨b, j, none⟩ = w.frozen? ⟨b, j, none⟩ := by
  simp [World.frozen?, h]
theorem set_self {α : Type} (xs : List α) (n : Nat) (x : α) (h : xs[n]? = some x) : xs.set n x = xs := by
  apply List.ext_getElem?
  intro i
  rw [List.getElem?_set]
  by_cases e : n = i
  · subst e
    obtain ⟨h1, h2⟩ := List.getElem?_eq_some_iff.1 h
    simp [h1, h2]
  · simp [e]
theorem MKx.cells {w wr : World} {B0 : Nat} {A : List S65} {g0 q0 g1 q1 : Nat} {W : List (List S46)} {O : List (List S51)} (h : MKx w wr B0 A g0 q0 g1 q1 W O) :
    wr.cell? ⟨w.heap.size, 0, none⟩ = some (.slice (some ⟨g0, 0, none⟩) A.length q0) ∧ wr.cell? ⟨w.heap.size, 1, none⟩ = some (.slice (some ⟨g1, 0, none⟩) A.length q1) :=
  ⟨(blk_cell h.bh 0).trans rfl, (blk_cell h.bh 1).trans rfl⟩
theorem MKx.objs {w W1 w9 : World} {B0 : Nat} {A : List S65} {g0 q0 g1 q1 : Nat} {W : List (List S46)} {O : List (List S51)} (h : MKx w W1 B0 A g0 q0 g1 q1 W O) {v v9 : Value} {xs : List S51} {p : S51} {oki : Nat → Prop} (n : Nat)
    (hnew : ∀ k, W1.drew.heap.size ≤ k → B0 ≤ k → oki k) (hoki : ∀ k, oki k → B0 ≤ k ∧ k ≠ g1) (hRv : k51.R 51 W1.drew B0 oki v xs)
    (back : ∀ (W' : World) (v' : Value) (x' : List S51), (∀ k, k < W1.drew.heap.size → ¬ oki k → W'.heap[k]? = W1.drew.heap[k]?) → k51.R 51 W' B0 oki v' x' →
        Kd.S (Kd.slice 51 k51) 30 (W'.setCell ⟨g1, n, none⟩ v') B0 (fun k => B0 ≤ k) (.slice (some ⟨g1, 0, none⟩) A.length q1) (O.set n x'))
    (hv9 : k51.R 51 w9 B0 oki v9 (xs ++ [p])) (hg9 : W1.drew.grownBy w9 v.ownBlock) (hb9 : Below B0 W1 w9) : MKx w (w9.setCell ⟨g1, n, none⟩ v9) B0 A g0 q0 g1 q1 W (O.set n (xs ++ [p])) := by
  have hg1 : B0 ≤ g1 := Kd.S_base h.s1 g1 (by simp [Value.ownBlock])
  have hg1l : g1 < W1.heap.size := Kd.S_lt h.s1 g1 (by simp [Value.ownBlock])
  have hB := h.hB
  obtain ⟨cells, hcl⟩ := Kd.S_typed h.s1 g1 (by simp [Value.ownBlock])
  have hne : ∀ k, v.ownBlock = some k → oki k := fun k e => hRv.1 k e
  have hgb : w9.heap[g1]? = some (.cells cells 30 (0, 0)) := (hg9.block g1 hg1l (fun e => (hoki g1 (hne g1 e.symm)).2 rfl)).trans hcl
  refine ⟨?_, ?_, ?_, ?_, ?_, hB, ?_⟩
  · exact below_set (h.bel.trans (hb9.mono (by omega))) (by show _ ≤ g1; omega)
  · exact blk_far ((hb9.block _ (by omega)).trans h.bh) (p := ⟨g1, n, none⟩) (by show _ ≠ g1; omega) _
  · exact blk_far ((hb9.block _ (by omega)).trans h.br) (p := ⟨g1, n, none⟩) (by show _ ≠ g1; omega) _
  · have s0 := Kd.S_over' (Kd.S_drew h.s0) (v := v) (Kd.R_typed hRv) (by decide) hg9
    exact Kd.S_mono (Kd.S_far (Kd.S_types s0 hgb (by decide)) (p := ⟨g1, n, none⟩) (fun _ hk => hk.2) _) (fun _ hk => hk.1)
  · exact back w9 v9 _ (fun k hlt hk => hg9.block k hlt (fun e => hk (hne k e.symm))) hv9
  · have := hb9.size
    have := h.hsz
    simp [World.setCell]
    omega
theorem MKx.words {w W1 w9 : World} {B0 : Nat} {A : List S65} {g0 q0 g1 q1 : Nat} {W : List (List S46)} {O : List (List S51)} (h : MKx w W1 B0 A g0 q0 g1 q1 W O) {v v9 : Value} {xs : List S46} {p : S46} {oki : Nat → Prop} (n : Nat)
    (hnew : ∀ k, W1.drew.heap.size ≤ k → B0 ≤ k → oki k) (hoki : ∀ k, oki k → B0 ≤ k ∧ k ≠ g0) (hRv : k46.R 46 W1.drew B0 oki v xs)
    (back : ∀ (W' : World) (v' : Value) (x' : List S46), (∀ k, k < W1.drew.heap.size → ¬ oki k → W'.heap[k]? = W1.drew.heap[k]?) → k46.R 46 W' B0 oki v' x' →
        Kd.S (Kd.slice 46 k46) 28 (W'.setCell ⟨g0, n, none⟩ v') B0 (fun k => B0 ≤ k) (.slice (some ⟨g0, 0, none⟩) A.length q0) (W.set n x'))
    (hv9 : k46.R 46 w9 B0 oki v9 (xs ++ [p])) (hg9 : W1.drew.grownBy w9 v.ownBlock) (hb9 : Below B0 W1 w9) : MKx w (w9.setCell ⟨g0, n, none⟩ v9) B0 A g0 q0 g1 q1 (W.set n (xs ++ [p])) O := by
  have hg0 : B0 ≤ g0 := Kd.S_base h.s0 g0 (by simp [Value.ownBlock])
  have hg0l : g0 < W1.heap.size := Kd.S_lt h.s0 g0 (by simp [Value.ownBlock])
  have hB := h.hB
  obtain ⟨cells, hcl⟩ := Kd.S_typed h.s0 g0 (by simp [Value.ownBlock])
  have hne : ∀ k, v.ownBlock = some k → oki k := fun k e => hRv.1 k e
  have hgb : w9.heap[g0]? = some (.cells cells 28 (0, 0)) := (hg9.block g0 hg0l (fun e => (hoki g0 (hne g0 e.symm)).2 rfl)).trans hcl
  refine ⟨?_, ?_, ?_, ?_, ?_, hB, ?_⟩
  · exact below_set (h.bel.trans (hb9.mono (by omega))) (by show _ ≤ g0; omega)
  · exact blk_far ((hb9.block _ (by omega)).trans h.bh) (p := ⟨g0, n, none⟩) (by show _ ≠ g0; omega) _
  · exact blk_far ((hb9.block _ (by omega)).trans h.br) (p := ⟨g0, n, none⟩) (by show _ ≠ g0; omega) _
  · exact back w9 v9 _ (fun k hlt hk => hg9.block k hlt (fun e => hk (hne k e.symm))) hv9
  · have s0 := Kd.S_over' (Kd.S_drew h.s1) (v := v) (Kd.R_typed hRv) (by decide) hg9
    exact Kd.S_mono (Kd.S_far (Kd.S_types s0 hgb (by decide)) (p := ⟨g0, n, none⟩) (fun _ hk => hk.2) _) (fun _ hk => hk.1)
  · have := hb9.size
    have := h.hsz
    simp [World.setCell]
    omega
theorem MKx.done {w W1 : World} {B0 : Nat} {A : List S65} {g0 q0 g1 q1 : Nat} {W : List (List S46)} {O : List (List S51)} (h : MKx w W1 B0 A g0 q0 g1 q1 W O) (x : S65) (n : Nat) (hW : W = (wsM A).set n x.f0) (hO : O = (osM A).set n x.f1) :
    RS ((W1.setCell ⟨w.heap.size + 1, 0, none⟩ (.slice (some ⟨g0, 0, none⟩) A.length q0)).setCell ⟨w.heap.size + 1, 1, none⟩ (.slice (some ⟨g1, 0, none⟩) A.length q1)) w.heap.size (.slice (some ⟨g0, 0, none⟩) A.length q0) (.slice (some ⟨g1, 0, none⟩) A.length q1) (A.set n x) := by
  have hB := h.hB
  have hne : ∀ k, B0 ≤ k → k ≠ w.heap.size + 1 := fun k hk => by omega
  have s0 := Kd.S_far h.s0 (p := ⟨w.heap.size + 1, 0, none⟩) hne (.slice (some ⟨g0, 0, none⟩) A.length q0)
  have s0' := Kd.S_far s0 (p := ⟨w.heap.size + 1, 1, none⟩) hne (.slice (some ⟨g1, 0, none⟩) A.length q1)
  have s1 := Kd.S_far h.s1 (p := ⟨w.heap.size + 1, 0, none⟩) hne (.slice (some ⟨g0, 0, none⟩) A.length q0)
  have s1' := Kd.S_far s1 (p := ⟨w.heap.size + 1, 1, none⟩) hne (.slice (some ⟨g1, 0, none⟩) A.length q1)
  have E1 : W = wsM (A.set n x) := by rw [hW, wsM, wsM, List.map_set]
  have E2 : O = osM (A.set n x) := by rw [hO, osM, osM, List.map_set]
  rw [E1] at s0'
  rw [E2] at s1'
  exact ⟨Kd.S_mono (Kd.S_lower s0' (by omega)) (fun k hk => by omega), Kd.S_mono (Kd.S_lower s1' (by omega)) (fun k hk => by omega)⟩
set_option maxHeartbeats 4000000 in
set_option maxRecDepth 100000 in
theorem makeR_yes (A : List S65) (a0 a1 : Option Addr) (c0 c1 : Nat) (n s : Nat) (f o : Int) (w : World) (h : RMx w a0 c0 a1 c1 A) (hA : A.length ≤ 4) (hg : ∀ x ∈ A, x.f0.length ≤ 64 ∧ x.f1.length ≤ 64) (hn : n < A.length)
    (hs0 : 0 < s) (hs1 : (A.getD n z65).f0.length + s ≤ 64) :
    Calls Try.prog 13 #[.agg #[.slice a0 A.length c0, .slice a1 A.length c1], .int .i64 n, .int .i64 s, .int .i64 f, .int .i64 o] w fun e w' =>
      ∃ v0 v1, e = .returned (.tuple #[.agg #[v0, v1], .int .i64 (1 + (n : Int) * 64 + (A.getD n z65).f0.length), .bool true]) ∧
        RS w' w.heap.size v0 v1 (A.set n ⟨(A.getD n z65).f0 ++ List.replicate s z46, (A.getD n z65).f1 ++ [ob (A.getD n z65).f0.length s f o]⟩) ∧ Below w.heap.size w w' := by
  obtain ⟨w0, hw0⟩ : ∃ w0, (w.alloc (.cells #[.slice a0 A.length c0, .slice a1 A.length c1] 37)).alloc (.cells #[.slice none 0 0, .slice none 0 0] 37) = w0 := ⟨_, rfl⟩
  have hb : Below w.heap.size w w0 := by rw [← hw0]; exact below_alloc (below_alloc (Below.refl _ _) _) _
  have BH : Aside0 (w0.heap[w.heap.size]? = some (.cells #[.slice a0 A.length c0, .slice a1 A.length c1] 37 (0, 0))) := ⟨by rw [← hw0]; exact blk_alloc (blk_new w _) _⟩
  have BR : Aside0 (w0.heap[w.heap.size + 1]? = some (.cells #[.slice none 0 0, .slice none 0 0] 37 (0, 0))) := ⟨by
    rw [← hw0]
    have := blk_new (w.alloc (.cells #[.slice a0 A.length c0, .slice a1 A.length c1] 37)) (.cells #[.slice none 0 0, .slice none 0 0] 37)
    simpa using this⟩
  have hsz0 : Aside0 (w.heap.size + 2 = w0.heap.size) := ⟨by rw [← hw0]; simp⟩
  have HB := Aside0.mk hb
  have gc0 : w0.cell? ⟨w.heap.size, 0, none⟩ = some (.slice a0 A.length c0) := (blk_cell BH.out 0).trans rfl
  have gc1 : w0.cell? ⟨w.heap.size, 1, none⟩ = some (.slice a1 A.length c1) := (blk_cell BH.out 1).trans rfl
  have H := Aside0.mk (h.below hb)
  have HG := Aside0.mk hg
  clear h hb hg
  have HCP : Aside0 (Calls Try.prog 25 #[.agg #[.slice a0 A.length c0, .slice a1 A.length c1]] w0 fun e w' => ∃ v0_ v1_ : Value, e = .returned (.agg #[v0_, v1_]) ∧ Kd.S (Kd.slice 46 k46) 28 w' w0.heap.size (fun _ => True) v0_ (wsM A) ∧ Kd.S (Kd.slice 51 k51) 30 w' w0.heap.size (fun _ => True) v1_ (osM A) ∧ Below w0.heap.size w0 w') := ⟨by
    obtain ⟨k, hk⟩ := copiedR A hA HG.out
    have h0 := H.out.h0
    have h1 := H.out.h1
    rw [← wsM_len A] at h0
    rw [← osM_len A] at h1
    have := portcullisref12_Heap_copied.calls k a0 c0 (wsM A) a1 c1 (osM A) _ _ w0 h0 (by rw [wsM_len]; exact H.out.l0) h1 (by rw [osM_len]; exact H.out.l1) hk
    rw [wsM_len, osM_len] at this
    exact this⟩
  obtain ⟨ad, B, c, rfl, e0⟩ := H.out.row n hn
  have hx := HG.out (A.getD n z65) (by rw [List.getD_eq_getElem?_getD, List.getElem?_eq_getElem hn]; exact List.getElem_mem _)
  obtain ⟨xn, hxn⟩ : ∃ x, A.getD n z65 = x := ⟨_, rfl⟩
  have HXN := Aside0.mk hxn
  rw [hxn] at e0 hx hs1 ⊢
  clear hxn
  obtain ⟨m, hm⟩ : ∃ m, xn.f0.length = m := ⟨_, rfl⟩
  have HM := Aside0.mk hm
  rw [hm] at e0 hx hs1 ⊢
  clear hm
  obtain ⟨hx0, hx1⟩ := hx
  have htn : (n : Int) < A.length := by omega
  have hs2 : ¬ (64 - (m : Int) < s) := by omega
  have hs3 : ((s : Int) == 0) = false := beq_eq_false_iff_ne.2 (by omega)
  go_enter Try.func13, Try.ntmps13
  go_wp2_with fail
  refine HCP.out.mono ?_
  rintro e w1 ⟨v0, v1, rfl, s0, s1, b⟩
  obtain ⟨g0, q0, rfl, hg0, hg0l, hg0t⟩ := Kd.S_form s0 (by rw [wsM_len]; omega)
  obtain ⟨g1, q1, rfl, hg1, hg1l, hg1t⟩ := Kd.S_form s1 (by rw [osM_len]; omega)
  rw [wsM_len] at s0 ⊢
  rw [osM_len] at s1 ⊢
  have b1 := below_then HB.out HB.out.size b
  have BH1 := blk_below BH.out b
  have BR1 := blk_below BR.out b
  have hz := hsz0.out
  obtain ⟨W1, hW1⟩ : ∃ W1, (w1.setCell ⟨w.heap.size, 0, none⟩ (.slice (some ⟨g0, 0, none⟩) A.length q0)).setCell ⟨w.heap.size, 1, none⟩ (.slice (some ⟨g1, 0, none⟩) A.length q1) = W1 := ⟨_, rfl⟩
  have K1 : Aside0 (MKx w W1 w0.heap.size A g0 q0 g1 q1 (wsM A) (osM A)) := ⟨by
    rw [← hW1]
    refine ⟨below_set (below_set b1 (Nat.le_refl _)) (Nat.le_refl _), ?_, blk_far (blk_far BR1 (by simp) _) (by simp) _, ?_, ?_, by omega, ?_⟩
    · refine blk_put (cs := #[.slice (some ⟨g0, 0, none⟩) A.length q0, .slice a1 A.length c1]) ?_ 1 _ rfl
      exact blk_put (cs := #[.slice (some ad) A.length c0, .slice a1 A.length c1]) BH1 0 _ rfl
    · refine Kd.S_far (Kd.S_far (Kd.S_mono (Kd.S_bound s0) (fun k hk => hk.2.1)) (fun k hk => ?_) _) (fun k hk => ?_) _
      · show k ≠ w.heap.size; omega
      · show k ≠ w.heap.size; omega
    · refine Kd.S_far (Kd.S_far (Kd.S_mono (Kd.S_bound s1) (fun k hk => hk.2.1)) (fun k hk => ?_) _) (fun k hk => ?_) _
      · show k ≠ w.heap.size; omega
      · show k ≠ w.heap.size; omega
    · have := b.size
      simp [World.setCell]
      exact this⟩
  have y0 : w1.cell? ⟨w.heap.size, 0, none⟩ = some (.slice (some ad) A.length c0) := (blk_cell BH1 0).trans rfl
  have y1 : w1.cell? ⟨w.heap.size, 1, none⟩ = some (.slice a1 A.length c1) := (blk_cell BH1 1).trans rfl
  have y2 := blk_frozen BH1 0
  have y3 := blk_frozen BH1 1
  obtain ⟨B6, c6, y4⟩ : ∃ B6 c6, W1.cell? ⟨g0, n, none⟩ = some (.slice B6 m c6) := by
    obtain ⟨oki, v, hcv, _, hRv, _⟩ := lendS K1.out.s0 n hn
    obtain ⟨Av, cv, rfl⟩ := Kd.R_slice hRv
    have e : (wsM A).getD n [] = (A.getD n z65).f0 := by
      have := wsM_at A n
      unfold rd_L2 at this
      rwa [Int.toNat_natCast] at this
    rw [e, HXN.out, HM.out] at hcv
    exact ⟨_, _, hcv⟩
  obtain ⟨y5, y6⟩ := K1.out.cells
  clear s0 s1 b b1 BH1 BR1 hg0t hg1t hz hg0 hg0l hg1 hg1l HCP hw0 e0 gc0 gc1
  go_wp2_with fail
  clear hW1 y0 y1 y2 y3 y4 y5 y6
  go_cut [13] (fun a wx => a = .int .i64 m ∧ Aside0 (MKx w wx w0.heap.size A g0 q0 g1 q1 (wsM A) ((osM A).set n (xn.f1 ++ [⟨m, s, f, o⟩]))))
  case first =>
    obtain ⟨oki, v, hcv, hfv, hRv, hoki, hnew, back⟩ := lendS (Kd.S_drew K1.out.s1) n hn
    have eO : (osM A).getD n [] = xn.f1 := by
      have := osM_at A n
      unfold rd_L4 at this
      rw [Int.toNat_natCast, HXN.out] at this
      exact this
    rw [eO] at hRv
    obtain ⟨Av, cv, rfl⟩ := Kd.R_slice hRv
    have BACK := Aside0.mk back
    have HRV := Aside0.mk hRv
    have HOKI := Aside0.mk hoki
    have HNEW := Aside0.mk hnew
    have x0 : W1.cell? ⟨w.heap.size, 1, none⟩ = some (.slice (some ⟨g1, 0, none⟩) A.length q1) := K1.out.cells.2
    have x1 : W1.cell? ⟨g1, n, none⟩ = some (.slice Av xn.f1.length cv) := hcv
    have x2 : W1.frozen? ⟨g1, n, none⟩ = false := hfv
    have HG1 : Aside0 (g1 < W1.heap.size ∧ w0.heap.size ≤ g1) := ⟨⟨Kd.S_lt K1.out.s1 g1 (by simp [Value.ownBlock]), Kd.S_base K1.out.s1 g1 (by simp [Value.ownBlock])⟩⟩
    have x1a : ∀ o, (W1.alloc o).cell? ⟨g1, n, none⟩ = some (.slice Av xn.f1.length cv) := fun o => (World.cell?_alloc_lt _ _ _ (World.block_lt_of_cell? _ _ x1)).trans x1
    have x0a : ∀ o, (W1.alloc o).cell? ⟨w.heap.size, 1, none⟩ = some (.slice (some ⟨g1, 0, none⟩) A.length q1) := fun o => (World.cell?_alloc_lt _ _ _ (World.block_lt_of_cell? _ _ x0)).trans x0
    have BD : Aside0 (Below w0.heap.size W1 W1.drew) := ⟨below_drew (Below.refl _ _)⟩
    have BS : Aside0 (w0.heap.size ≤ W1.drew.heap.size) := ⟨K1.out.hsz⟩
    clear back hRv hoki hnew hcv hfv eO
    go_region_law ((refine Kd.R_append_step k51 (w0 := W1) w0.heap.size rfl (.tmp 58) (.tmp 64) 30 51 _ 32 rfl Try.underlying30 info51 rfl (by decide) (by decide) (.slice Av xn.f1.length cv) xn.f1 ⟨m, s, f, o⟩ [.int .i64 m, .int .i64 s, .int .i64 f, .int .i64 o] oki (fun _ => False) rfl rfl (k51_mkM _ _ _ ⟨m, s, f, o⟩) (fun _ h => h.elim) (fun k hk => HNEW.out k hk (Nat.le_trans BS.out hk)) HRV.out BD.out BS.out (by omega) ?_); intro v9 w9 hv9 hb9 hg9 hat9; obtain ⟨A9, d9, rfl⟩ := Kd.R_slice hv9; (have x3 : w9.cell? ⟨w.heap.size, 1, none⟩ = some (.slice (some ⟨g1, 0, none⟩) A.length q1) := (hb9.cell (by show w.heap.size < _; have := K1.out.hB; omega)).trans x0); (have hgb := hg9.block g1 HG1.out.1 (fun e => (HOKI.out g1 (HRV.out.1 g1 e.symm)).2 rfl)); (have x4 : w9.cell? ⟨g1, n, none⟩ = some (.slice Av xn.f1.length cv) := (cell_same hgb n).trans x1); (have x5 : w9.frozen? ⟨g1, n, none⟩ = false := (frozen_same hgb n).trans x2))
    all_goals (
      rw [List.length_append, List.length_singleton] at hv9
      have HV9 := Aside0.mk hv9
      have HG9 := Aside0.mk hg9
      have HB9 := Aside0.mk hb9
      clear x3 x4 x5 hgb hv9 hg9 hb9 hat9 x0 x1 x2 x0a x1a
      go_wp2_with fail
      go_meet
      case rel => exact ⟨rfl, ⟨K1.out.objs n HNEW.out HOKI.out HRV.out BACK.out HV9.out HG9.out HB9.out⟩⟩)
  case rest =>
    obtain ⟨rfl, K2⟩ := hcut
    clear K1
    obtain ⟨O2, hO2⟩ : ∃ O2, (osM A).set n (xn.f1 ++ [⟨m, s, f, o⟩]) = O2 := ⟨_, rfl⟩
    have HO2 := Aside0.mk hO2
    rw [hO2] at K2
    clear hO2
    have K3 : Aside0 (MKx w wc w0.heap.size A g0 q0 g1 q1 ((wsM A).set n (xn.f0 ++ List.replicate 0 z46)) O2) := ⟨by
      have e : (wsM A).set n (xn.f0 ++ List.replicate 0 z46) = wsM A := by
        rw [List.replicate_zero, List.append_nil]
        apply set_self
        rw [← HXN.out, List.getD_eq_getElem?_getD, List.getElem?_map, List.getElem?_eq_getElem hn]
        rfl
      rw [e]
      exact K2.out⟩
    clear K2
    go_wp2_with fail
    go_loopw [14] (fun i wr => ∃ k : Nat, i = .int .i64 k ∧ k ≤ s ∧ Aside0 (MKx w wr w0.heap.size A g0 q0 g1 q1 ((wsM A).set n (xn.f0 ++ List.replicate k z46)) O2)) (fun i _ => s - (intOf i).toNat)
    case atStart => exact ⟨0, rfl, Nat.zero_le _, K3⟩
    case round =>
      clear K3
      obtain ⟨k, rfl, hk, KK⟩ := hrel
      obtain ⟨W1, rfl⟩ : ∃ wi : World, wi = wr := ⟨_, rfl⟩
      by_cases hlt : k < s
      · obtain ⟨oki, v, hcv, hfv, hRv, hoki, hnew, back⟩ := lendS (Kd.S_drew KK.out.s0) n hn
        have eO : ((wsM A).set n (xn.f0 ++ List.replicate k z46)).getD n [] = xn.f0 ++ List.replicate k z46 := by
          rw [List.getD_eq_getElem?_getD, List.getElem?_set_self (by rw [wsM_len]; exact hn)]
          rfl
        rw [eO] at hRv
        obtain ⟨ys, hys⟩ : ∃ ys, xn.f0 ++ List.replicate k z46 = ys := ⟨_, rfl⟩
        have HYS := Aside0.mk hys
        rw [hys] at hRv
        have hyl : ys.length ≤ 64 := by rw [← hys, List.length_append, List.length_replicate, HM.out]; omega
        clear hys eO
        obtain ⟨Av, cv, rfl⟩ := Kd.R_slice hRv
        have BACK := Aside0.mk back
        have HRV := Aside0.mk hRv
        have HOKI := Aside0.mk hoki
        have HNEW := Aside0.mk hnew
        have x0 : W1.cell? ⟨w.heap.size, 0, none⟩ = some (.slice (some ⟨g0, 0, none⟩) A.length q0) := KK.out.cells.1
        have x1 : W1.cell? ⟨g0, n, none⟩ = some (.slice Av ys.length cv) := hcv
        have x2 : W1.frozen? ⟨g0, n, none⟩ = false := hfv
        have HG1 : Aside0 (g0 < W1.heap.size ∧ w0.heap.size ≤ g0) := ⟨⟨Kd.S_lt KK.out.s0 g0 (by simp [Value.ownBlock]), Kd.S_base KK.out.s0 g0 (by simp [Value.ownBlock])⟩⟩
        have x1a : ∀ o, (W1.alloc o).cell? ⟨g0, n, none⟩ = some (.slice Av ys.length cv) := fun o => (World.cell?_alloc_lt _ _ _ (World.block_lt_of_cell? _ _ x1)).trans x1
        have x0a : ∀ o, (W1.alloc o).cell? ⟨w.heap.size, 0, none⟩ = some (.slice (some ⟨g0, 0, none⟩) A.length q0) := fun o => (World.cell?_alloc_lt _ _ _ (World.block_lt_of_cell? _ _ x0)).trans x0
        have BD : Aside0 (Below w0.heap.size W1 W1.drew) := ⟨below_drew (Below.refl _ _)⟩
        have BS : Aside0 (w0.heap.size ≤ W1.drew.heap.size) := ⟨KK.out.hsz⟩
        clear back hRv hoki hnew hcv hfv
        go_wp2_with fail
        go_region_law ((refine Kd.R_append_step k46 (w0 := W1) w0.heap.size rfl (.tmp 79) (.tmp 81) 28 46 _ 16 rfl Try.underlying28 info46 rfl (by decide) (by decide) (.slice Av ys.length cv) ys z46 [.int .i64 0, .int .i64 0] oki (fun _ => False) rfl rfl (k46_mkM _ _ _ z46) (fun _ h => h.elim) (fun k hk => HNEW.out k hk (Nat.le_trans BS.out hk)) HRV.out BD.out BS.out (by omega) ?_); intro v9 w9 hv9 hb9 hg9 hat9; obtain ⟨A9, d9, rfl⟩ := Kd.R_slice hv9; (have x3 : w9.cell? ⟨w.heap.size, 0, none⟩ = some (.slice (some ⟨g0, 0, none⟩) A.length q0) := (hb9.cell (by show w.heap.size < _; have := KK.out.hB; omega)).trans x0); (have hgb := hg9.block g0 HG1.out.1 (fun e => (HOKI.out g0 (HRV.out.1 g0 e.symm)).2 rfl)); (have x4 : w9.cell? ⟨g0, n, none⟩ = some (.slice Av ys.length cv) := (cell_same hgb n).trans x1); (have x5 : w9.frozen? ⟨g0, n, none⟩ = false := (frozen_same hgb n).trans x2))
        all_goals (
          rw [List.length_append, List.length_singleton] at hv9
          have K4 : Aside0 (MKx w (w9.setCell ⟨g0, n, none⟩ (.slice A9 (ys.length + 1) d9)) w0.heap.size A g0 q0 g1 q1 ((wsM A).set n (xn.f0 ++ List.replicate (k + 1) z46)) O2) := ⟨by
            have := KK.out.words n HNEW.out HOKI.out HRV.out BACK.out hv9 hg9 hb9
            rw [List.set_set, ← HYS.out, List.append_assoc, ← List.replicate_succ'] at this
            rw [← HYS.out]
            exact this⟩
          clear x3 x4 x5 hgb hv9 hg9 hb9 hat9 x0 x1 x2 x0a x1a KK BACK HRV HOKI HNEW HG1 BD BS
          go_wp2_with fail
          go_roundw
          case rel => exact ⟨k + 1, by go_num, by omega, K4⟩
          case measure => simp [intOf]; omega)
      · obtain rfl : k = s := by omega
        have x0 := KK.out.cells.1
        have x1 := KK.out.cells.2
        have r0 : W1.cell? ⟨w.heap.size + 1, 0, none⟩ = some (.slice none 0 0) := (blk_cell KK.out.br 0).trans rfl
        have r1 : W1.cell? ⟨w.heap.size + 1, 1, none⟩ = some (.slice none 0 0) := (blk_cell KK.out.br 1).trans rfl
        have f0 := blk_frozen KK.out.br 0
        have f1 := blk_frozen KK.out.br 1
        have fin : Aside0 (Below w.heap.size w ((W1.setCell ⟨w.heap.size + 1, 0, none⟩ (.slice (some ⟨g0, 0, none⟩) A.length q0)).setCell ⟨w.heap.size + 1, 1, none⟩ (.slice (some ⟨g1, 0, none⟩) A.length q1)) ∧
            ((W1.setCell ⟨w.heap.size + 1, 0, none⟩ (.slice (some ⟨g0, 0, none⟩) A.length q0)).setCell ⟨w.heap.size + 1, 1, none⟩ (.slice (some ⟨g1, 0, none⟩) A.length q1)).heap[w.heap.size + 1]? = some (.cells #[.slice (some ⟨g0, 0, none⟩) A.length q0, .slice (some ⟨g1, 0, none⟩) A.length q1] 37 (0, 0))) := ⟨⟨below_set (below_set KK.out.bel (by simp)) (by simp), by
          refine blk_put (cs := #[.slice (some ⟨g0, 0, none⟩) A.length q0, .slice none 0 0]) ?_ 1 _ rfl
          exact blk_put (cs := #[.slice none 0 0, .slice none 0 0]) KK.out.br 0 _ rfl⟩⟩
        have RMF : Aside0 (RS ((W1.setCell ⟨w.heap.size + 1, 0, none⟩ (.slice (some ⟨g0, 0, none⟩) A.length q0)).setCell ⟨w.heap.size + 1, 1, none⟩ (.slice (some ⟨g1, 0, none⟩) A.length q1)) w.heap.size (.slice (some ⟨g0, 0, none⟩) A.length q0) (.slice (some ⟨g1, 0, none⟩) A.length q1) (A.set n ⟨xn.f0 ++ List.replicate k z46, xn.f1 ++ [ob m k f o]⟩)) := ⟨by
          exact KK.out.done ⟨xn.f0 ++ List.replicate k z46, xn.f1 ++ [ob m k f o]⟩ n rfl (by rw [← HO2.out]; rfl)⟩
        clear KK
        go_wp2_with fail
        refine bodyPost_ret (results_ctt rfl _ _ (w.heap.size + 1) 37 #[.slice (some ⟨g0, 0, none⟩) A.length q0, .slice (some ⟨g1, 0, none⟩) A.length q1] (0, 0) _ rfl fin.out.2 Try.underlying37 rfl (by kernel_rfl)) rfl ?_
        exact ⟨_, _, rfl, RMF.out, fin.out.1⟩
end Go.Proofs.Ytogjcogejfidbaa.Heap
