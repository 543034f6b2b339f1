import Derived.Test.YtogjcogejfidbaaS
namespace Go.Proofs.Ytogjcogejfidbaa.Heap
open Go.RowKit Go.Proofs.YtogjcogejfidbaaW.PrintWords Go.Proofs.YtogjcogejfidbaaW.PrintLast Go.Proofs.YtogjcogejfidbaaW.PrintMore Go.Proofs.Ytogjcogejfidbaa.PHeapSteps
set_option linter.unusedVariables false
set_option linter.unusedSimpArgs false

/-! ### The document's Store -/
theorem placeR_calls {A : List S65} {a0 a1 : Option Addr} {c0 c1 : Nat} {w : World} (h : RMx w a0 c0 a1 c1 A) (hA : A.length ≤ 4) (hg : ∀ x ∈ A, GoodAr x) (a : Int) (ha : a ≤ 9223372036854775807) :
    Calls Try.prog 26 #[.agg #[.slice a0 A.length c0, .slice a1 A.length c1], .int .i64 a] w fun e w' => e = .returned (.tuple #[.int .i64 (tup (Heap.place A a)).1, .int .i64 (tup (Heap.place A a)).2.1, .bool (tup (Heap.place A a)).2.2]) ∧ Below w.heap.size w w' := by
  obtain ⟨k, hk⟩ := placeR A hA (fun x hx => (hg x hx).1) a ha
  have h0 := h.h0
  have h1 := h.h1
  rw [← wsM_len A] at h0
  rw [← osM_len A] at h1
  have := portcullisref12_Heap_place.calls k a0 c0 (wsM A) a1 c1 (osM A) a _ _ _ w h0 (by rw [wsM_len]; exact h.l0) h1 (by rw [osM_len]; exact h.l1) hk
  rw [wsM_len, osM_len] at this
  exact this
theorem loadR_calls {A : List S65} {a0 a1 : Option Addr} {c0 c1 : Nat} {w : World} (h : RMx w a0 c0 a1 c1 A) (hA : A.length ≤ 4) (hg : ∀ x ∈ A, GoodAr x) (a : Int) (ha : a ≤ 9223372036854775807) :
    Calls Try.prog 17 #[.agg #[.slice a0 A.length c0, .slice a1 A.length c1], .int .i64 a] w fun e w' => e = .returned (.tuple #[.agg #[.int .i64 (load A a).1.f0, .int .i64 (load A a).1.f1], .bool (load A a).2]) ∧ Below w.heap.size w w' := by
  obtain ⟨k, hk⟩ := loadR A hA (fun x hx => (hg x hx).1) a ha
  have h0 := h.h0
  have h1 := h.h1
  rw [← wsM_len A] at h0
  rw [← osM_len A] at h1
  have := portcullisref12_Heap_Load.calls k a0 c0 (wsM A) a1 c1 (osM A) a _ _ _ w h0 (by rw [wsM_len]; exact h.l0) h1 (by rw [osM_len]; exact h.l1) hk
  rw [wsM_len, osM_len] at this
  exact this
theorem ofR_calls {A : List S65} {a0 a1 : Option Addr} {c0 c1 : Nat} {w : World} (h : RMx w a0 c0 a1 c1 A) (hA : A.length ≤ 4) (hg : ∀ x ∈ A, GoodAr x) (a : Int) (ha : a ≤ 9223372036854775807) :
    Calls Try.prog 19 #[.agg #[.slice a0 A.length c0, .slice a1 A.length c1], .int .i64 a] w fun e w' => e = .returned (.tuple #[.int .i64 (objOf A a).1, .agg #[.int .i64 (objOf A a).2.1.f0, .int .i64 (objOf A a).2.1.f1, .int .i64 (objOf A a).2.1.f2, .int .i64 (objOf A a).2.1.f3], .bool (objOf A a).2.2]) ∧ Below w.heap.size w w' := by
  obtain ⟨k, hk⟩ := ofR A hA hg a ha
  have h0 := h.h0
  have h1 := h.h1
  rw [← wsM_len A] at h0
  rw [← osM_len A] at h1
  have := portcullisref12_Heap_Of.calls k a0 c0 (wsM A) a1 c1 (osM A) a _ _ _ _ _ _ w h0 (by rw [wsM_len]; exact h.l0) h1 (by rw [osM_len]; exact h.l1) hk
  rw [wsM_len, osM_len] at this
  exact this
theorem copiedR_calls {A : List S65} {a0 a1 : Option Addr} {c0 c1 : Nat} {w : World} (h : RMx w a0 c0 a1 c1 A) (hA : A.length ≤ 4) (hg : ∀ x ∈ A, GoodAr x) :
    Calls Try.prog 25 #[.agg #[.slice a0 A.length c0, .slice a1 A.length c1]] w fun e w' => ∃ v0_ v1_ : Value, e = .returned (.agg #[v0_, v1_]) ∧ Kd.S (Kd.slice 46 k46) 28 w' w.heap.size (fun _ => True) v0_ (wsM A) ∧ Kd.S (Kd.slice 51 k51) 30 w' w.heap.size (fun _ => True) v1_ (osM A) ∧ Below w.heap.size w w' := by
  obtain ⟨k, hk⟩ := copiedR A hA (fun x hx => ⟨(hg x hx).1, by
    have := contig_len (hg x hx).2
    have := (hg x hx).1
    omega⟩)
  have h0 := h.h0
  have h1 := h.h1
  rw [← wsM_len A] at h0
  rw [← osM_len A] at h1
  have := portcullisref12_Heap_copied.calls k a0 c0 (wsM A) a1 c1 (osM A) _ _ w h0 (by rw [wsM_len]; exact h.l0) h1 (by rw [osM_len]; exact h.l1) hk
  rw [wsM_len, osM_len] at this
  exact this
/-- An inner row is stored into. -/
theorem S_inner {W : World} {base : Nat} {ok : Nat → Prop} {g n cap : Nat} {xss : List (List S46)} (h : Kd.S (Kd.slice 46 k46) 28 W base ok (.slice (some ⟨g, 0, none⟩) n cap) xss) (t : Nat) (ht : t < n) (k : Nat) (hk : k < (xss.getD t []).length) (x : S46) :
    ∃ gi c, W.cell? ⟨g, t, none⟩ = some (.slice (some ⟨gi, 0, none⟩) (xss.getD t []).length c) ∧ (∃ u, W.cell? ⟨gi, k * 2, none⟩ = some u) ∧ (∃ u, W.cell? ⟨gi, k * 2 + 1, none⟩ = some u) ∧ W.frozen? ⟨gi, k * 2, none⟩ = false ∧ W.frozen? ⟨gi, k * 2 + 1, none⟩ = false ∧ base ≤ gi ∧
      (∃ cells, W.heap[gi]? = some (.cells cells 46 (0, 0))) ∧
      Kd.S (Kd.slice 46 k46) 28 ((W.setCell ⟨gi, k * 2, none⟩ (.int .i64 x.f0)).setCell ⟨gi, k * 2 + 1, none⟩ (.int .i64 x.f1)) base ok (.slice (some ⟨g, 0, none⟩) n cap) (xss.set t ((xss.getD t []).set k x)) := by
  obtain ⟨oki, c, hcl, hM, hcc, hoki, back⟩ := Kd.S_borrow h [] (t : Int) (by omega) (by omega)
  rw [Int.toNat_natCast] at hM hcc back
  obtain ⟨v, rfl, hR⟩ := hM
  obtain ⟨gi, ci, rfl, hb, hlt, cells, hcells⟩ := Kd.R_form hR (by omega)
  have hne : ∀ q, oki q → q ≠ g := fun q hq e => (hoki q hq).2 (by rw [e]; simp [Value.ownBlock])
  have h2 := Kd.R_seg hR (k : Int) (by omega) (by omega) (c := [.int .i64 ((xss.getD t []).getD k z46).f0, .int .i64 ((xss.getD t []).getD k z46).f1]) (seg := [.int .i64 x.f0, .int .i64 x.f1]) (j := 0) rfl (by
    obtain ⟨ad, c2, eA, hl2, hK, hc2⟩ := Kd.C_get (Kd.R_reads' hR).2.2 z46 (k : Int) (by omega) (by omega)
    obtain rfl : (⟨gi, 0, none⟩ : Addr) = ad := by injection eA
    rw [Int.toNat_natCast] at hK hc2 ⊢
    rw [k46_open hK] at hc2
    intro j u hu
    have := hc2 j u hu
    rwa [add_at, Nat.zero_add] at this) (by show 0 + 2 ≤ 2; omega) (x' := x) (okp := fun _ => False) (k46_mkM _ _ _ x) (fun _ h => h.elim)
  obtain ⟨h3, h4⟩ := h2
  rw [Int.toNat_natCast] at h3 h4
  have e2 : k * k46.sz + 0 = k * 2 := by show k * 2 + 0 = k * 2; omega
  rw [e2] at h3 h4
  have hown : ∀ q, some gi = some q → oki q := fun q e => by
    injection e with e
    subst e
    exact hR.1 gi (by simp [Value.ownBlock])
  have hl' : ((xss.getD t []).set k x).length = (xss.getD t []).length := List.length_set
  have h5 := back h4 hown ⟨_, rfl, h3⟩
  obtain ⟨ad, c2, eA, hl2, hK, hc2⟩ := Kd.C_get (Kd.R_reads' hR).2.2 z46 (k : Int) (by omega) (by omega)
  obtain rfl : (⟨gi, 0, none⟩ : Addr) = ad := by injection eA
  rw [Int.toNat_natCast] at hK hc2
  rw [k46_open hK] at hc2
  have e3 : t * (Kd.slice 46 k46).sz + 0 = t := by show t * 1 + 0 = t; omega
  refine ⟨gi, ci, ?_, ⟨.int .i64 ((xss.getD t []).getD k z46).f0, ?_⟩, ⟨.int .i64 ((xss.getD t []).getD k z46).f1, ?_⟩, blk_frozen hcells _, blk_frozen hcells _, hb, ⟨cells, hcells⟩, h5⟩
  · have := hcc 0 _ rfl
    rw [e3, add_at, Nat.zero_add] at this
    exact this
  · have := hc2 0 _ rfl
    rw [add_at, Nat.zero_add] at this
    exact this
  · have := hc2 1 _ rfl
    rw [add_at, Nat.zero_add] at this
    exact this
/-- The cells that Store lays first. -/
structure ST (w w0 : World) (v0 v1 : Value) (x : S46) : Prop where
  bel : Below w.heap.size w w0
  bh : w0.heap[w.heap.size]? = some (.cells #[v0, v1] 37 (0, 0))
  bx : w0.heap[w.heap.size + 1]? = some (.cells #[.int .i64 x.f0, .int .i64 x.f1] 46 (0, 0))
  br : w0.heap[w.heap.size + 2]? = some (.cells #[.slice none 0 0, .slice none 0 0] 37 (0, 0))
  sz : w.heap.size + 3 ≤ w0.heap.size
theorem ST.below {w w0 w1 : World} {v0 v1 : Value} {x : S46} (h : ST w w0 v0 v1 x) (b : Below w0.heap.size w0 w1) : ST w w1 v0 v1 x :=
  ⟨below_then h.bel h.bel.size b, blk_below h.bh b, blk_below h.bx b, blk_below h.br b, Nat.le_trans h.sz b.size⟩
theorem ST.fin {w w0 : World} {v0 v1 : Value} {x : S46} (h : ST w w0 v0 v1 x) (u0 u1 : Value) :
    Below w.heap.size w ((w0.setCell ⟨w.heap.size + 2, 0, none⟩ u0).setCell ⟨w.heap.size + 2, 1, none⟩ u1) ∧
      ((w0.setCell ⟨w.heap.size + 2, 0, none⟩ u0).setCell ⟨w.heap.size + 2, 1, none⟩ u1).heap[w.heap.size + 2]? = some (.cells #[u0, u1] 37 (0, 0)) := by
  refine ⟨below_set (below_set h.bel (by simp)) (by simp), ?_⟩
  refine blk_put (cs := #[u0, .slice none 0 0]) ?_ 1 _ rfl
  exact blk_put (cs := #[.slice none 0 0, .slice none 0 0]) h.br 0 _ rfl
theorem ST.start (w : World) (v0 v1 : Value) (x : S46) : ST w (((w.alloc (.cells #[v0, v1] 37)).alloc (.cells #[.int .i64 x.f0, .int .i64 x.f1] 46)).alloc (.cells #[.slice none 0 0, .slice none 0 0] 37)) v0 v1 x := by
  refine ⟨below_alloc (below_alloc (below_alloc (Below.refl _ _) _) _) _, blk_alloc (blk_alloc (blk_new w _) _) _, blk_alloc ?_ _, ?_, by simp⟩
  · have := blk_new (w.alloc (.cells #[v0, v1] 37)) (.cells #[.int .i64 x.f0, .int .i64 x.f1] 46)
    simpa using this
  · have := blk_new ((w.alloc (.cells #[v0, v1] 37)).alloc (.cells #[.int .i64 x.f0, .int .i64 x.f1] 46)) (.cells #[.slice none 0 0, .slice none 0 0] 37)
    simpa using this
set_option maxHeartbeats 1000000 in
theorem storeR_no {A : List S65} {a0 a1 : Option Addr} {c0 c1 : Nat} {w : World} (h : RMx w a0 c0 a1 c1 A) (hA : A.length ≤ 4) (hg : ∀ x ∈ A, GoodAr x) (a : Int) (ha : a ≤ 9223372036854775807) (x : S46) (hp : Heap.place A a = none) :
    Calls Try.prog 14 #[.agg #[.slice a0 A.length c0, .slice a1 A.length c1], .int .i64 a, .agg #[.int .i64 x.f0, .int .i64 x.f1]] w fun e w' =>
      e = .returned (.tuple #[.agg #[.slice a0 A.length c0, .slice a1 A.length c1], .bool false]) ∧ Below w.heap.size w w' := by
  have s0 := ST.start w (.slice a0 A.length c0) (.slice a1 A.length c1) x
  obtain ⟨w0, hw0⟩ : ∃ w0, (((w.alloc (.cells #[.slice a0 A.length c0, .slice a1 A.length c1] 37)).alloc (.cells #[.int .i64 x.f0, .int .i64 x.f1] 46)).alloc (.cells #[.slice none 0 0, .slice none 0 0] 37)) = w0 := ⟨_, rfl⟩
  rw [hw0] at s0
  have S0 := Aside0.mk s0
  have g0 : w0.cell? ⟨w.heap.size, 0, none⟩ = some (.slice a0 A.length c0) := (blk_cell S0.out.bh 0).trans rfl
  have g1 : w0.cell? ⟨w.heap.size, 1, none⟩ = some (.slice a1 A.length c1) := (blk_cell S0.out.bh 1).trans rfl
  have HP := Aside0.mk (placeR_calls (h.below s0.bel) hA hg a ha)
  rw [hp] at HP
  clear s0 h hg hp
  go_enter Try.func14, Try.ntmps14
  go_wp2_with fail
  refine HP.out.mono ?_
  rintro e w1 ⟨rfl, b⟩
  have S1 := Aside0.mk (S0.out.below b)
  have y0 : w1.cell? ⟨w.heap.size, 0, none⟩ = some (.slice a0 A.length c0) := (blk_cell S1.out.bh 0).trans rfl
  have y1 : w1.cell? ⟨w.heap.size, 1, none⟩ = some (.slice a1 A.length c1) := (blk_cell S1.out.bh 1).trans rfl
  have r0 : w1.cell? ⟨w.heap.size + 2, 0, none⟩ = some (.slice none 0 0) := (blk_cell S1.out.br 0).trans rfl
  have r1 : w1.cell? ⟨w.heap.size + 2, 1, none⟩ = some (.slice none 0 0) := (blk_cell S1.out.br 1).trans rfl
  have f0 := blk_frozen S1.out.br 0
  have f1 := blk_frozen S1.out.br 1
  have F := Aside0.mk (S1.out.fin (.slice a0 A.length c0) (.slice a1 A.length c1))
  clear b hw0 g0 g1
  simp only [tup]
  go_wp2_with fail
  refine bodyPost_ret (results_ct rfl _ _ (w.heap.size + 2) 37 #[.slice a0 A.length c0, .slice a1 A.length c1] (0, 0) _ rfl F.out.2 Try.underlying37 rfl (by kernel_rfl)) rfl ?_
  exact ⟨rfl, F.out.1⟩
theorem done2 {W1 : World} {b B0 : Nat} {A : List S65} {g0 q0 g1 q1 r : Nat} {W : List (List S46)} {O : List (List S51)} (h0 : Kd.S (Kd.slice 46 k46) 28 W1 B0 (fun k => B0 ≤ k) (.slice (some ⟨g0, 0, none⟩) A.length q0) W) (h1 : Kd.S (Kd.slice 51 k51) 30 W1 B0 (fun k => B0 ≤ k) (.slice (some ⟨g1, 0, none⟩) A.length q1) O) (hr : r < B0) (hb : b ≤ B0) (x : S65) (n : Nat) (hW : W = (wsM A).set n x.f0) (hO : O = (osM A).set n x.f1) :
    RS ((W1.setCell ⟨r, 0, none⟩ (.slice (some ⟨g0, 0, none⟩) A.length q0)).setCell ⟨r, 1, none⟩ (.slice (some ⟨g1, 0, none⟩) A.length q1)) b (.slice (some ⟨g0, 0, none⟩) A.length q0) (.slice (some ⟨g1, 0, none⟩) A.length q1) (A.set n x) := by
  have hne : ∀ k, B0 ≤ k → k ≠ r := fun k hk => by omega
  have s0 := Kd.S_far h0 (p := ⟨r, 0, none⟩) hne (.slice (some ⟨g0, 0, none⟩) A.length q0)
  have s0' := Kd.S_far s0 (p := ⟨r, 1, none⟩) hne (.slice (some ⟨g1, 0, none⟩) A.length q1)
  have s1 := Kd.S_far h1 (p := ⟨r, 0, none⟩) hne (.slice (some ⟨g0, 0, none⟩) A.length q0)
  have s1' := Kd.S_far s1 (p := ⟨r, 1, none⟩) hne (.slice (some ⟨g1, 0, none⟩) A.length q1)
  have E1 : W = wsM (A.set n x) := by rw [hW, wsM, wsM, List.map_set]
  have E2 : O = osM (A.set n x) := by rw [hO, osM, osM, List.map_set]
  rw [E1] at s0'
  rw [E2] at s1'
  exact ⟨Kd.S_mono (Kd.S_lower s0' hb) (fun k hk => Nat.le_trans hb hk), Kd.S_mono (Kd.S_lower s1' hb) (fun k hk => Nat.le_trans hb hk)⟩
set_option maxHeartbeats 2000000 in
theorem storeR_yes {A : List S65} {a0 a1 : Option Addr} {c0 c1 : Nat} {w : World} (h : RMx w a0 c0 a1 c1 A) (hA : A.length ≤ 4) (hg : ∀ x ∈ A, GoodAr x) (a : Int) (ha : a ≤ 9223372036854775807) (x : S46) {t k : Nat} (hp : Heap.place A a = some (t, k)) :
    Calls Try.prog 14 #[.agg #[.slice a0 A.length c0, .slice a1 A.length c1], .int .i64 a, .agg #[.int .i64 x.f0, .int .i64 x.f1]] w fun e w' =>
      ∃ v0 v1, e = .returned (.tuple #[.agg #[v0, v1], .bool true]) ∧ RS w' w.heap.size v0 v1 (A.set t ⟨(A.getD t z65).f0.set k x, (A.getD t z65).f1⟩) ∧ Below w.heap.size w w' := by
  have s0 := ST.start w (.slice a0 A.length c0) (.slice a1 A.length c1) x
  obtain ⟨w0, hw0⟩ : ∃ w0, (((w.alloc (.cells #[.slice a0 A.length c0, .slice a1 A.length c1] 37)).alloc (.cells #[.int .i64 x.f0, .int .i64 x.f1] 46)).alloc (.cells #[.slice none 0 0, .slice none 0 0] 37)) = w0 := ⟨_, rfl⟩
  rw [hw0] at s0
  have S0 := Aside0.mk s0
  have g0 : w0.cell? ⟨w.heap.size, 0, none⟩ = some (.slice a0 A.length c0) := (blk_cell S0.out.bh 0).trans rfl
  have g1 : w0.cell? ⟨w.heap.size, 1, none⟩ = some (.slice a1 A.length c1) := (blk_cell S0.out.bh 1).trans rfl
  have HP := Aside0.mk (placeR_calls (h.below s0.bel) hA hg a ha)
  have HR := Aside0.mk (h.below s0.bel)
  have HG := Aside0.mk hg
  obtain ⟨q1, q2, q3, ht, hk⟩ := place_some hp
  rw [hp] at HP
  obtain ⟨ws, hws⟩ : ∃ x, (A.getD t z65).f0 = x := ⟨_, rfl⟩
  obtain ⟨os, hos⟩ : ∃ x, (A.getD t z65).f1 = x := ⟨_, rfl⟩
  have HWS := Aside0.mk hws
  have HOS := Aside0.mk hos
  rw [hws] at hk ⊢
  rw [hos]
  clear s0 h hg hp q1 q2 q3 hws hos
  go_enter Try.func14, Try.ntmps14
  go_wp2_with fail
  refine HP.out.mono ?_
  rintro e w1 ⟨rfl, b⟩
  have S1 := Aside0.mk (S0.out.below b)
  have y0 : w1.cell? ⟨w.heap.size, 0, none⟩ = some (.slice a0 A.length c0) := (blk_cell S1.out.bh 0).trans rfl
  have y1 : w1.cell? ⟨w.heap.size, 1, none⟩ = some (.slice a1 A.length c1) := (blk_cell S1.out.bh 1).trans rfl
  have HC := Aside0.mk (copiedR_calls (HR.out.below b) hA HG.out)
  clear b hw0 g0 g1
  simp only [tup]
  go_wp2_with fail
  refine HC.out.mono ?_
  rintro e w2 ⟨v0, v1, rfl, s0, s1, b⟩
  obtain ⟨g0, q0, rfl, hg0, hg0l, hg0t⟩ := Kd.S_form s0 (by rw [wsM_len]; omega)
  obtain ⟨g1, q1, rfl, hg1, hg1l, hg1t⟩ := Kd.S_form s1 (by rw [osM_len]; omega)
  rw [wsM_len] at s0 ⊢
  rw [osM_len] at s1 ⊢
  have S2 := Aside0.mk (S1.out.below b)
  have hB := S1.out.sz
  obtain ⟨W1, hW1⟩ : ∃ W1, (w2.setCell ⟨w.heap.size, 0, none⟩ (.slice (some ⟨g0, 0, none⟩) A.length q0)).setCell ⟨w.heap.size, 1, none⟩ (.slice (some ⟨g1, 0, none⟩) A.length q1) = W1 := ⟨_, rfl⟩
  have S3 : Aside0 (ST w W1 (.slice (some ⟨g0, 0, none⟩) A.length q0) (.slice (some ⟨g1, 0, none⟩) A.length q1) x) := ⟨by
    rw [← hW1]
    refine ⟨below_set (below_set S2.out.bel (Nat.le_refl _)) (Nat.le_refl _), ?_, blk_far (blk_far S2.out.bx (by simp) _) (by simp) _, blk_far (blk_far S2.out.br (by simp) _) (by simp) _, ?_⟩
    · refine blk_put (cs := #[.slice (some ⟨g0, 0, none⟩) A.length q0, .slice a1 A.length c1]) ?_ 1 _ rfl
      exact blk_put (cs := #[.slice a0 A.length c0, .slice a1 A.length c1]) S2.out.bh 0 _ rfl
    · have := S2.out.sz
      simp [World.setCell]
      exact this⟩
  have hb' : ∀ k, w1.heap.size ≤ k → k ≠ w.heap.size := fun k hk => by omega
  have T0 : Aside0 (Kd.S (Kd.slice 46 k46) 28 W1 w1.heap.size (fun k => w1.heap.size ≤ k) (.slice (some ⟨g0, 0, none⟩) A.length q0) (wsM A)) := ⟨by
    rw [← hW1]
    exact Kd.S_far (Kd.S_far (Kd.S_mono (Kd.S_bound s0) (fun k hk => hk.2.1)) (p := ⟨w.heap.size, 0, none⟩) hb' _) (p := ⟨w.heap.size, 1, none⟩) hb' _⟩
  have T1 : Aside0 (Kd.S (Kd.slice 51 k51) 30 W1 w1.heap.size (fun k => w1.heap.size ≤ k) (.slice (some ⟨g1, 0, none⟩) A.length q1) (osM A)) := ⟨by
    rw [← hW1]
    exact Kd.S_far (Kd.S_far (Kd.S_mono (Kd.S_bound s1) (fun k hk => hk.2.1)) (p := ⟨w.heap.size, 0, none⟩) hb' _) (p := ⟨w.heap.size, 1, none⟩) hb' _⟩
  have y2 : w2.cell? ⟨w.heap.size, 0, none⟩ = some (.slice a0 A.length c0) := (blk_cell S2.out.bh 0).trans rfl
  have y3 : w2.cell? ⟨w.heap.size, 1, none⟩ = some (.slice a1 A.length c1) := (blk_cell S2.out.bh 1).trans rfl
  have y4 := blk_frozen S2.out.bh 0
  have y5 := blk_frozen S2.out.bh 1
  clear s0 s1 b hg0 hg0l hg0t hg1 hg1l hg1t HC y0 y1
  go_wp2_with fail
  clear hW1 y2 y3 y4 y5
  have eW : (wsM A).getD t [] = ws := by
    have := wsM_at A t
    unfold rd_L2 at this
    rw [Int.toNat_natCast, HWS.out] at this
    exact this
  obtain ⟨gi, ci, i1, ⟨u1, i2⟩, ⟨u2, i3⟩, i4, i5, i6, ⟨cells, i7⟩, i8⟩ := S_inner (Kd.S_drew T0.out) t ht k (by rw [eW]; exact hk) x
  rw [eW] at i1 i8
  have z0 : W1.cell? ⟨w.heap.size, 0, none⟩ = some (.slice (some ⟨g0, 0, none⟩) A.length q0) := (blk_cell S3.out.bh 0).trans rfl
  have z1 : W1.cell? ⟨g0, t, none⟩ = some (.slice (some ⟨gi, 0, none⟩) ws.length ci) := i1
  have z2 : W1.cell? ⟨gi, k * 2, none⟩ = some u1 := i2
  have z3 : W1.cell? ⟨gi, k * 2 + 1, none⟩ = some u2 := i3
  have z4 : W1.frozen? ⟨gi, k * 2, none⟩ = false := i4
  have z5 : W1.frozen? ⟨gi, k * 2 + 1, none⟩ = false := i5
  have z6 : W1.cell? ⟨w.heap.size + 1, 0, none⟩ = some (.int .i64 x.f0) := (blk_cell S3.out.bx 0).trans rfl
  have z7 : W1.cell? ⟨w.heap.size + 1, 1, none⟩ = some (.int .i64 x.f1) := (blk_cell S3.out.bx 1).trans rfl
  have I8 := Aside0.mk i8
  have I7 : Aside0 (W1.heap[gi]? = some (.cells cells 46 (0, 0)) ∧ w1.heap.size ≤ gi) := ⟨i7, i6⟩
  clear i1 i2 i3 i4 i5 i6 i7 i8 eW T0 hb'
  have htn : (t : Int) < A.length := by omega
  have hkn : (k : Int) < ws.length := by omega
  go_region
  obtain ⟨W5, hW5⟩ : ∃ W5, ((W1.setCell ⟨gi, k * 2, none⟩ (.int .i64 x.f0)).setCell ⟨gi, k * 2 + 1, none⟩ (.int .i64 x.f1)).drew = W5 := ⟨_, rfl⟩
  have S5 : Aside0 (ST w W5 (.slice (some ⟨g0, 0, none⟩) A.length q0) (.slice (some ⟨g1, 0, none⟩) A.length q1) x) := ⟨by
    rw [← hW5]
    have hgi := I7.out.2
    have n0 : w.heap.size ≠ gi := by omega
    have n1 : w.heap.size + 1 ≠ gi := by omega
    have n2 : w.heap.size + 2 ≠ gi := by omega
    refine ⟨below_drew (below_set (below_set S3.out.bel (by show _ ≤ gi; omega)) (by show _ ≤ gi; omega)), blk_drew (blk_far (blk_far S3.out.bh n0 _) n0 _), blk_drew (blk_far (blk_far S3.out.bx n1 _) n1 _), blk_drew (blk_far (blk_far S3.out.br n2 _) n2 _), ?_⟩
    have := S3.out.sz
    simp [World.setCell]
    exact this⟩
  have U1 : Aside0 (Kd.S (Kd.slice 51 k51) 30 W5 w1.heap.size (fun k => w1.heap.size ≤ k) (.slice (some ⟨g1, 0, none⟩) A.length q1) (osM A)) := ⟨by
    rw [← hW5]
    exact Kd.S_drew (Kd.S_mono (Kd.S_far (Kd.S_far (Kd.S_types T1.out I7.out.1 (by decide)) (p := ⟨gi, k * 2, none⟩) (fun _ hk => hk.2) _) (p := ⟨gi, k * 2 + 1, none⟩) (fun _ hk => hk.2) _) (fun _ hk => hk.1))⟩
  have U0 : Aside0 (Kd.S (Kd.slice 46 k46) 28 W5 w1.heap.size (fun k => w1.heap.size ≤ k) (.slice (some ⟨g0, 0, none⟩) A.length q0) ((wsM A).set t (ws.set k x))) := ⟨by
    rw [← hW5]
    exact I8.out⟩
  rw [hW5]
  have y0 : W5.cell? ⟨w.heap.size, 0, none⟩ = some (.slice (some ⟨g0, 0, none⟩) A.length q0) := (blk_cell S5.out.bh 0).trans rfl
  have y1 : W5.cell? ⟨w.heap.size, 1, none⟩ = some (.slice (some ⟨g1, 0, none⟩) A.length q1) := (blk_cell S5.out.bh 1).trans rfl
  have r0 : W5.cell? ⟨w.heap.size + 2, 0, none⟩ = some (.slice none 0 0) := (blk_cell S5.out.br 0).trans rfl
  have r1 : W5.cell? ⟨w.heap.size + 2, 1, none⟩ = some (.slice none 0 0) := (blk_cell S5.out.br 1).trans rfl
  have f0 := blk_frozen S5.out.br 0
  have f1 := blk_frozen S5.out.br 1
  have F := Aside0.mk (S5.out.fin (.slice (some ⟨g0, 0, none⟩) A.length q0) (.slice (some ⟨g1, 0, none⟩) A.length q1))
  have D := Aside0.mk (done2 U0.out U1.out (b := w.heap.size) (r := w.heap.size + 2) (by omega) (by omega) ⟨ws.set k x, os⟩ t rfl (by
    symm
    apply set_self
    rw [← HOS.out, List.getD_eq_getElem?_getD, List.getElem?_map, List.getElem?_eq_getElem ht]
    rfl))
  clear hW5 z0 z1 z2 z3 z4 z5 z6 z7
  go_wp2_with fail
  refine bodyPost_ret (results_ct rfl _ _ (w.heap.size + 2) 37 #[.slice (some ⟨g0, 0, none⟩) A.length q0, .slice (some ⟨g1, 0, none⟩) A.length q1] (0, 0) _ rfl F.out.2 Try.underlying37 rfl (by kernel_rfl)) rfl ?_
  exact ⟨_, _, rfl, D.out, F.out.1⟩
/-- What came of a memory: the same values, or new rows. -/
def Came (w w' : World) (v0 v1 u0 u1 : Value) (A A' : List S65) : Prop := (A' = A ∧ u0 = v0 ∧ u1 = v1) ∨ RS w' w.heap.size u0 u1 A'
theorem makeR_any {A : List S65} {a0 a1 : Option Addr} {c0 c1 : Nat} {w : World} (h : RMx w a0 c0 a1 c1 A) (hA : A.length ≤ 4) (hg : ∀ x ∈ A, GoodAr x) (t s f o : Int) :
    Calls Try.prog 13 #[.agg #[.slice a0 A.length c0, .slice a1 A.length c1], .int .i64 t, .int .i64 s, .int .i64 f, .int .i64 o] w fun e w' =>
      ∃ u0 u1, e = .returned (.tuple #[.agg #[u0, u1], .int .i64 (make A t s f o).2.1, .bool (make A t s f o).2.2]) ∧ Came w w' (.slice a0 A.length c0) (.slice a1 A.length c1) u0 u1 A (make A t s f o).1 ∧ Below w.heap.size w w' := by
  have h64 : ∀ x ∈ A, x.f0.length ≤ 64 := fun x hx => (hg x hx).1
  unfold make
  split
  · rename_i hno
    exact (makeR_no A a0 a1 c0 c1 t s f o w h hA hno h64).mono fun e w' hh => ⟨_, _, hh.1, .inl ⟨rfl, rfl, rfl⟩, hh.2⟩
  · rename_i hno
    obtain ⟨n, rfl⟩ := Int.eq_ofNat_of_zero_le (show 0 ≤ t by omega)
    obtain ⟨m, rfl⟩ := Int.eq_ofNat_of_zero_le (show 0 ≤ s by omega)
    rw [ar_nat A _ (by omega), Int.toNat_natCast] at hno ⊢
    split
    · rename_i h0
      rw [h0]
      exact (makeR_zero A a0 a1 c0 c1 n f o w h hA (by omega) h64).mono fun e w' hh => ⟨_, _, hh.1, .inl ⟨rfl, rfl, rfl⟩, hh.2⟩
    · exact (makeR_yes A a0 a1 c0 c1 n m f o w h hA (fun x hx => ⟨(hg x hx).1, by
        have := contig_len (hg x hx).2
        have := (hg x hx).1
        omega⟩) (by omega) (by omega) (by omega)).mono fun e w' ⟨v0, v1, h1, h2, h3⟩ => ⟨v0, v1, h1, .inr h2, h3⟩
theorem storeR_any {A : List S65} {a0 a1 : Option Addr} {c0 c1 : Nat} {w : World} (h : RMx w a0 c0 a1 c1 A) (hA : A.length ≤ 4) (hg : ∀ x ∈ A, GoodAr x) (a : Int) (ha : a ≤ 9223372036854775807) (x : S46) :
    Calls Try.prog 14 #[.agg #[.slice a0 A.length c0, .slice a1 A.length c1], .int .i64 a, .agg #[.int .i64 x.f0, .int .i64 x.f1]] w fun e w' =>
      ∃ u0 u1, e = .returned (.tuple #[.agg #[u0, u1], .bool (store A a x).2]) ∧ Came w w' (.slice a0 A.length c0) (.slice a1 A.length c1) u0 u1 A (store A a x).1 ∧ Below w.heap.size w w' := by
  unfold store
  cases hp : Heap.place A a with
  | none => exact (storeR_no h hA hg a ha x hp).mono fun e w' hh => ⟨_, _, hh.1, .inl ⟨rfl, rfl, rfl⟩, hh.2⟩
  | some p =>
    obtain ⟨t, k⟩ := p
    exact (storeR_yes h hA hg a ha x hp).mono fun e w' ⟨v0, v1, h1, h2, h3⟩ => ⟨v0, v1, h1, .inr h2, h3⟩
end Go.Proofs.Ytogjcogejfidbaa.Heap
