import Derived.Test.YtogjcogejfidbaaV
import Derived.Test.YtogjcogejfidbaaN
namespace Go.Proofs.Ytogjcogejfidbaa.Heap
open Go.RowKit Go.Proofs.YtogjcogejfidbaaW.PrintWords Go.Proofs.YtogjcogejfidbaaW.PrintLast Go.Proofs.YtogjcogejfidbaaW.PrintMore Go.Proofs.Ytogjcogejfidbaa.PHeapSteps
set_option linter.unusedVariables false
set_option linter.unusedSimpArgs false

theorem Came.forms {w w' : World} {v0 v1 u0 u1 : Value} {A A' : List S65} (h : Came w w' v0 v1 u0 u1 A A') (h0 : ∃ p m q, v0 = .slice p m q) (h1 : ∃ p m q, v1 = .slice p m q) : (∃ p m q, u0 = .slice p m q) ∧ (∃ p m q, u1 = .slice p m q) := by
  rcases h with ⟨_, rfl, rfl⟩ | ⟨a, b⟩
  · exact ⟨h0, h1⟩
  · obtain ⟨A1, c1, e1⟩ := Kd.S_slice a
    obtain ⟨A2, c2, e2⟩ := Kd.S_slice b
    exact ⟨⟨_, _, _, e1⟩, ⟨_, _, _, e2⟩⟩
theorem newR_calls (n : Int) (w : World) : Calls Try.prog 12 #[.int .i64 n] w fun e w' => ∃ v0_ v1_ : Value, e = .returned (.agg #[v0_, v1_]) ∧ RS w' w.heap.size v0_ v1_ (Heap.new n) ∧ Below w.heap.size w w' := by
  obtain ⟨k, hk⟩ := newR n
  exact (portcullisref12_New.calls k n _ _ w hk).mono fun e w' ⟨v0, v1, h1, h2, h3, h4⟩ => ⟨v0, v1, h1, ⟨Kd.S_mono (Kd.S_bound h2) (fun _ hk => hk.2.1), Kd.S_mono (Kd.S_bound h3) (fun _ hk => hk.2.1)⟩, h4⟩
theorem SQ.start {w1 w2 w3 : World} {n : Int} {v0 v1 : Value} (h : HR w2 w1.heap.size (fun k => w1.heap.size ≤ k) (w1.heap.size + 1) (Heap.new n)) (b2 : Below w1.heap.size w1 w2) (hs : RS w3 w2.heap.size v0 v1 (Heap.new n)) (b3 : Below w2.heap.size w2 w3) :
    SQ w1 (w1.heap.size + 1) w3.heap.size (fun _ => False) (w3.alloc (.cells #[v0, v1] 37)) (Heap.new n) (Heap.new n) := by
  have s2 := b2.size
  have s3 := b3.size
  have ba := below_alloc (Below.refl w3.heap.size w3) (.cells #[v0, v1] 37)
  refine ⟨fun k => w1.heap.size ≤ k ∧ k < w2.heap.size, fun k => w2.heap.size ≤ k ∧ k < w3.heap.size, v0, v1, (h.bound.below (below_then b3 b3.size ba)), fun k hk => ⟨hk.1, ?_⟩, blk_new _ _, by omega, fun hk => by omega, ?_, ?_, fun k hk => ⟨fun hF => by omega, by omega, ?_⟩, fun k hk => hk.elim, ?_⟩
  · have := hk.2
    simp
    omega
  · exact Kd.S_mono (Kd.S_lower (Kd.S_below (Kd.S_bound hs.1) ba) s2) (fun k hk => ⟨hk.1, hk.2.2.1⟩)
  · exact Kd.S_mono (Kd.S_lower (Kd.S_below (Kd.S_bound hs.2) ba) s2) (fun k hk => ⟨hk.1, hk.2.2.1⟩)
  · have := hk.2
    simp
    omega
  · exact below_then b2 b2.size (below_then b3 b3.size ba)
theorem RMx.rows {w : World} {a0 a1 : Option Addr} {c0 c1 : Nat} {A : List S65} (h : RMx w a0 c0 a1 c1 A) (t : Nat) (ht : t < A.length) :
    (∃ ad B c, a0 = some ad ∧ w.cell? (ad.add t) = some (.slice B (A.getD t z65).f0.length c) ∧ (A.getD t z65).f0.length ≤ c ∧ Kd.C k46 w B (A.getD t z65).f0.length (A.getD t z65).f0) ∧
      (∃ ad B c, a1 = some ad ∧ w.cell? (ad.add t) = some (.slice B (A.getD t z65).f1.length c) ∧ (A.getD t z65).f1.length ≤ c ∧ Kd.C k51 w B (A.getD t z65).f1.length (A.getD t z65).f1) := by
  constructor
  · obtain ⟨ad, c, eA, _, hK, hc⟩ := Kd.C_get h.h0 [] (t : Int) (by omega) (by omega)
    have e : (wsM A).getD t [] = (A.getD t z65).f0 := by
      have := wsM_at A t
      unfold rd_L2 at this
      rwa [Int.toNat_natCast] at this
    rw [Int.toNat_natCast, e] at hK
    obtain ⟨B, c', rfl, h1, h2⟩ := hK
    refine ⟨ad, B, c', eA, ?_, h1, h2⟩
    have := hc 0 _ rfl
    have e1 : t * (Kd.slice 46 k46).sz + 0 = t := by show t * 1 + 0 = t; omega
    rwa [Int.toNat_natCast, e1] at this
  · obtain ⟨ad, c, eA, _, hK, hc⟩ := Kd.C_get h.h1 [] (t : Int) (by omega) (by omega)
    have e : (osM A).getD t [] = (A.getD t z65).f1 := by
      have := osM_at A t
      unfold rd_L4 at this
      rwa [Int.toNat_natCast] at this
    rw [Int.toNat_natCast, e] at hK
    obtain ⟨B, c', rfl, h1, h2⟩ := hK
    refine ⟨ad, B, c', eA, ?_, h1, h2⟩
    have := hc 0 _ rfl
    have e1 : t * (Kd.slice 51 k51).sz + 0 = t := by show t * 1 + 0 = t; omega
    rwa [Int.toNat_natCast, e1] at this
theorem sameW_calls (A1 A2 : Option Addr) (c1 c2 n : Nat) (xs : List S46) (w : World) (hn : xs.length = n) (h1 : Kd.C k46 w A1 n xs) (l1 : n ≤ c1) (h2 : Kd.C k46 w A2 n xs) (l2 : n ≤ c2) (hl : n ≤ 64) :
    Calls Try.prog 20 #[.slice A1 n c1, .slice A2 n c2] w fun e w' => e = .returned (.bool true) ∧ Drawn0 w w' := by
  subst hn
  obtain ⟨k, hk⟩ := sameWR xs (by omega)
  exact portcullisref12_SameWords.calls k A1 c1 xs A2 c2 xs true w h1 l1 h2 l2 hk
theorem sameO_calls (A1 A2 : Option Addr) (c1 c2 n : Nat) (xs : List S51) (w : World) (hn : xs.length = n) (h1 : Kd.C k51 w A1 n xs) (l1 : n ≤ c1) (h2 : Kd.C k51 w A2 n xs) (l2 : n ≤ c2) (hl : n ≤ 64) :
    Calls Try.prog 21 #[.slice A1 n c1, .slice A2 n c2] w fun e w' => e = .returned (.bool true) ∧ Drawn0 w w' := by
  subst hn
  obtain ⟨k, hk⟩ := sameOR xs (by omega)
  exact portcullisref12_SameObjects.calls k A1 c1 xs A2 c2 xs true w h1 l1 h2 l2 hk
theorem ar_no {A : List S65} {t : Int} (h : t < 0 ∨ (A.length : Int) ≤ t) : ar A t = z65 := by
  unfold ar
  split
  · rfl
  · rw [List.getD_eq_getElem?_getD, List.getElem?_eq_none (by omega)]
    rfl
set_option maxHeartbeats 8000000 in
set_option maxRecDepth 100000 in
theorem heapSteps_walk (n : Int) (A : Option Addr) (c : Nat) (xs : List S40) (w : World) (_hn : (Lit.int .i64 n).wf = true) (hr : Kd.C k40 w A xs.length xs) (hw : ∀ x ∈ xs, G40 x) :
    Calls Try.prog 4 #[.int .i64 n, .slice A xs.length c] w fun e w' => e = .returned (.bool true) ∧ Below w.heap.size w w' := by
  have hmax := Kd.C_max hr
  have HC := Aside0.mk hr
  have HW := Aside0.mk hw
  clear hr hw _hn
  by_cases hl : 200 < xs.length
  · go_enter Try.func4, Try.ntmps4
    go_wp2_with fail
    refine (alive w).mono ?_
    rintro e w1 ⟨rfl, b1⟩
    go_wp2
    go_ret
    exact ⟨rfl, b1⟩
  · go_enter Try.func4, Try.ntmps4
    go_wp2_with fail
    refine (alive w).mono ?_
    rintro e w1 ⟨rfl, b1⟩
    have B1 := Aside0.mk b1
    have s1 := b1.size
    clear b1
    go_wp2_with fail
    refine (new_HR n w1).mono ?_
    rintro e w2 ⟨rfl, h2, b2⟩
    have H2 := Aside0.mk h2
    have B2 := Aside0.mk b2
    clear h2 b2
    go_wp2_with fail
    refine (newR_calls n w2).mono ?_
    rintro e w3 ⟨v0, v1, rfl, h3, b3⟩
    obtain ⟨a0, q0, rfl⟩ := Kd.S_slice h3.1
    obtain ⟨a1, q1, rfl⟩ := Kd.S_slice h3.2
    rw [wsM_len, osM_len] at h3 ⊢
    have SQ0 := Aside0.mk (SQ.start H2.out B2.out h3 b3)
    clear h3 b3 H2 B2
    go_wp2_with fail
    go_loopw [7] (fun i wr => ∃ (k : Nat) (A' : List S65), i = .int .i64 k ∧ k ≤ xs.length ∧ Aside0 (SQ w1 (w1.heap.size + 1) w3.heap.size (fun _ => False) wr A' A')) (fun i _ => xs.length - (intOf i).toNat)
    case atStart => exact ⟨0, _, rfl, Nat.zero_le _, SQ0⟩
    case round =>
      clear SQ0
      obtain ⟨k, A', rfl, hk, SK⟩ := hrel
      obtain ⟨wi, rfl⟩ : ∃ wi : World, wi = wr := ⟨_, rfl⟩
      obtain ⟨mb, hmb⟩ : ∃ mb, w3.heap.size = mb := ⟨_, rfl⟩
      obtain ⟨hb, hhb⟩ : ∃ hb, w1.heap.size + 1 = hb := ⟨_, rfl⟩
      rw [hmb, hhb] at SK ⊢
      clear hmb hhb
      by_cases hlt : k < xs.length
      · obtain ⟨ad, hA, c0, c1, c2, c3, c4⟩ := at_T40 (Kd.C_below HC.out (below_then B1.out s1 SK.out.bel)) k (by omega) (by omega)
        subst hA
        rw [Int.toNat_natCast] at c0 c1 c2 c3 c4
        have hx := HW.out (rd_T40 xs k) (by
          unfold rd_T40
          rw [Int.toNat_natCast, List.getD_eq_getElem?_getD, List.getElem?_eq_getElem hlt]
          exact List.getElem_mem hlt)
        obtain ⟨x, hx0⟩ : ∃ x, rd_T40 xs k = x := ⟨_, rfl⟩
        rw [hx0] at c0 c1 c2 c3 c4 hx
        clear hx0
        have hf1 := (wf64 hx.2.1).2
        clear hx
        obtain ⟨wa, hwa⟩ : ∃ wa, wi.alloc (.cells #[.int .i64 x.f0, .int .i64 x.f1, .int .i64 x.f2, .int .i64 x.f3, .int .i64 x.f4] 40) = wa := ⟨_, rfl⟩
        have SA : Aside0 (SQ w1 hb mb (fun k => k = wi.heap.size) wa A' A') := ⟨by
          rw [← hwa]
          exact (SK.out.below (below_alloc (Below.refl _ _) _)).less (fun k hk => .inr (by rw [hk]; simp))⟩
        have OA : Aside0 (wa.heap[wi.heap.size]? = some (.cells #[.int .i64 x.f0, .int .i64 x.f1, .int .i64 x.f2, .int .i64 x.f3, .int .i64 x.f4] 40 (0, 0))) := ⟨by rw [← hwa]; exact blk_new _ _⟩
        have o0 : wa.cell? ⟨wi.heap.size, 0, none⟩ = some (.int .i64 x.f0) := (blk_cell OA.out 0).trans rfl
        have o1 : wa.cell? ⟨wi.heap.size, 1, none⟩ = some (.int .i64 x.f1) := (blk_cell OA.out 1).trans rfl
        have o2 : wa.cell? ⟨wi.heap.size, 2, none⟩ = some (.int .i64 x.f2) := (blk_cell OA.out 2).trans rfl
        have o3 : wa.cell? ⟨wi.heap.size, 3, none⟩ = some (.int .i64 x.f3) := (blk_cell OA.out 3).trans rfl
        have o4 : wa.cell? ⟨wi.heap.size, 4, none⟩ = some (.int .i64 x.f4) := (blk_cell OA.out 4).trans rfl
        by_cases hw1 : x.f0 = 1
        case' pos =>
          have hd1 : (x.f0 == 1) = true := beq_iff_eq.2 hw1
          clear hw1
          go_wp2_with fail
          refine (sq_make SA.out x.f1 x.f2 x.f3 x.f4).mono ?_
          rintro e w4 ⟨rfl, ⟨S4, k4⟩, z4⟩
          obtain ⟨r, hr⟩ : ∃ r, make A' x.f1 x.f2 x.f3 x.f4 = r := ⟨_, rfl⟩
          have HMR := Aside0.mk hr
          rw [hr] at S4 ⊢
          clear hr
          have O4 := Aside0.mk (k4 _ _ rfl OA.out)
          have S4' := Aside0.mk S4
          obtain ⟨a0, q0, a1, q1, m4, mlo, R4⟩ := S4.cells
          have M4 := Aside0.mk m4
          have p0 : w4.cell? ⟨mb, 0, none⟩ = some (.slice a0 A'.length q0) := (blk_cell m4 0).trans rfl
          have p1 : w4.cell? ⟨mb, 1, none⟩ = some (.slice a1 A'.length q1) := (blk_cell m4 1).trans rfl
          have o0 : w4.cell? ⟨wi.heap.size, 0, none⟩ = some (.int .i64 x.f0) := (blk_cell O4.out 0).trans rfl
          have o1 : w4.cell? ⟨wi.heap.size, 1, none⟩ = some (.int .i64 x.f1) := (blk_cell O4.out 1).trans rfl
          have o2 : w4.cell? ⟨wi.heap.size, 2, none⟩ = some (.int .i64 x.f2) := (blk_cell O4.out 2).trans rfl
          have o3 : w4.cell? ⟨wi.heap.size, 3, none⟩ = some (.int .i64 x.f3) := (blk_cell O4.out 3).trans rfl
          have o4 : w4.cell? ⟨wi.heap.size, 4, none⟩ = some (.int .i64 x.f4) := (blk_cell O4.out 4).trans rfl
          have CM := Aside0.mk (makeR_any R4 SA.out.good.1 SA.out.good.2 x.f1 x.f2 x.f3 x.f4)
          rw [HMR.out] at CM
          clear S4 k4 R4 m4 hwa
          go_wp2_with fail
          refine CM.out.mono ?_
          rintro e w5 ⟨u0, u1, rfl, hc, b5⟩
          obtain ⟨⟨f0, m0, g0, rfl⟩, ⟨f1, m1, g1, rfl⟩⟩ := hc.forms ⟨_, _, _, rfl⟩ ⟨_, _, _, rfl⟩
          have S6 := Aside0.mk (S4'.out.put M4.out hc b5 (.cells #[.slice f0 m0 g0, .slice f1 m1 g1] 37))
          have M5 := blk_below M4.out b5
          have t0 : w5.cell? ⟨mb, 0, none⟩ = some (.slice a0 A'.length q0) := (blk_cell M5 0).trans rfl
          have t1 : w5.cell? ⟨mb, 1, none⟩ = some (.slice a1 A'.length q1) := (blk_cell M5 1).trans rfl
          have t2 := blk_frozen M5 0
          have t3 := blk_frozen M5 1
          have hmne : wi.heap.size ≠ mb := by
            obtain ⟨F, G, v0, v1, hh⟩ := S4'.out
            exact (hh.xs _ rfl).2.2
          have O6 : Aside0 ((((w5.alloc (.cells #[.slice f0 m0 g0, .slice f1 m1 g1] 37)).setCell ⟨mb, 0, none⟩ (.slice f0 m0 g0)).setCell ⟨mb, 1, none⟩ (.slice f1 m1 g1)).heap[wi.heap.size]? = some (.cells #[.int .i64 x.f0, .int .i64 x.f1, .int .i64 x.f2, .int .i64 x.f3, .int .i64 x.f4] 40 (0, 0))) :=
            ⟨blk_far (blk_far (blk_alloc (blk_below O4.out b5) _) hmne _) hmne _⟩
          have mb5 := blk_lt M5
          have mb6 : ¬ mb = w5.heap.size := by omega
          have mb7 : ¬ w5.heap.size = mb := by omega
          obtain ⟨A2, ra, rb⟩ := r
          have mb8 : mb < (w5.setCell ⟨mb, 0, none⟩ (.slice f0 m0 g0)).heap.size := by rw [World.size_setCell]; exact mb5
          rw [World.setCell_alloc_past _ _ _ _ mb5, World.setCell_alloc_past _ _ _ _ mb8] at S6 O6
          obtain ⟨wz, hwz⟩ : ∃ wz, ((w5.setCell ⟨mb, 0, none⟩ (.slice f0 m0 g0)).setCell ⟨mb, 1, none⟩ (.slice f1 m1 g1)).alloc (.cells #[.slice f0 m0 g0, .slice f1 m1 g1] 37) = wz := ⟨_, rfl⟩
          rw [hwz] at S6 O6
          have y1 : wz.cell? ⟨wi.heap.size, 1, none⟩ = some (.int .i64 x.f1) := (blk_cell O6.out 1).trans rfl
          clear hc b5 M5 S4' O4 M4 HMR CM p0 p1 o0 o1 o2 o3 o4 z4 SA OA
          go_wp2_with fail
          clear hwz t0 t1 t2 t3 hd1 mb5 mb6 mb7 mb8 hmne mlo
        case' neg =>
          by_cases hw2 : x.f0 = 2
          case' pos =>
            have hd1 : (x.f0 == 1) = false := beq_eq_false_iff_ne.2 hw1
            have hd2 : (x.f0 == 2) = true := beq_iff_eq.2 hw2
            clear hw1 hw2
            obtain ⟨a0, q0, a1, q1, m4, mlo, R4⟩ := SA.out.cells
            have M4 := Aside0.mk m4
            have p0 : wa.cell? ⟨mb, 0, none⟩ = some (.slice a0 A'.length q0) := (blk_cell m4 0).trans rfl
            have p1 : wa.cell? ⟨mb, 1, none⟩ = some (.slice a1 A'.length q1) := (blk_cell m4 1).trans rfl
            have CM := Aside0.mk (storeR_any R4 SA.out.good.1 SA.out.good.2 x.f1 hf1 ⟨x.f2, x.f3⟩)
            obtain ⟨r, hr⟩ : ∃ r, store A' x.f1 ⟨x.f2, x.f3⟩ = r := ⟨_, rfl⟩
            have HMR := Aside0.mk hr
            rw [hr] at CM
            clear R4 m4 hr
            go_wp2_with fail
            refine CM.out.mono ?_
            rintro e w5 ⟨u0, u1, rfl, hc, b5⟩
            obtain ⟨⟨f0, m0, g0, rfl⟩, ⟨f1, m1, g1, rfl⟩⟩ := hc.forms ⟨_, _, _, rfl⟩ ⟨_, _, _, rfl⟩
            have S5 := Aside0.mk (SA.out.put M4.out hc b5 (.cells #[.slice f0 m0 g0, .slice f1 m1 g1] 37))
            have M5 := blk_below M4.out b5
            have t0 : w5.cell? ⟨mb, 0, none⟩ = some (.slice a0 A'.length q0) := (blk_cell M5 0).trans rfl
            have t1 : w5.cell? ⟨mb, 1, none⟩ = some (.slice a1 A'.length q1) := (blk_cell M5 1).trans rfl
            have t2 := blk_frozen M5 0
            have t3 := blk_frozen M5 1
            have hmne : wi.heap.size ≠ mb := by
              obtain ⟨F, G, v0, v1, hh⟩ := SA.out
              exact (hh.xs _ rfl).2.2
            have O5 : Aside0 ((((w5.alloc (.cells #[.slice f0 m0 g0, .slice f1 m1 g1] 37)).setCell ⟨mb, 0, none⟩ (.slice f0 m0 g0)).setCell ⟨mb, 1, none⟩ (.slice f1 m1 g1)).heap[wi.heap.size]? = some (.cells #[.int .i64 x.f0, .int .i64 x.f1, .int .i64 x.f2, .int .i64 x.f3, .int .i64 x.f4] 40 (0, 0))) :=
              ⟨blk_far (blk_far (blk_alloc (blk_below OA.out b5) _) hmne _) hmne _⟩
            have mb5 := blk_lt M5
            have mb6 : ¬ mb = w5.heap.size := by omega
            have mb7 : ¬ w5.heap.size = mb := by omega
            obtain ⟨A2, rb⟩ := r
            have mb8 : mb < (w5.setCell ⟨mb, 0, none⟩ (.slice f0 m0 g0)).heap.size := by rw [World.size_setCell]; exact mb5
            rw [World.setCell_alloc_past _ _ _ _ mb5, World.setCell_alloc_past _ _ _ _ mb8] at S5 O5
            obtain ⟨wy, hwy⟩ : ∃ wy, ((w5.setCell ⟨mb, 0, none⟩ (.slice f0 m0 g0)).setCell ⟨mb, 1, none⟩ (.slice f1 m1 g1)).alloc (.cells #[.slice f0 m0 g0, .slice f1 m1 g1] 37) = wy := ⟨_, rfl⟩
            rw [hwy] at S5 O5
            have o1 : wy.cell? ⟨wi.heap.size, 1, none⟩ = some (.int .i64 x.f1) := (blk_cell O5.out 1).trans rfl
            have o2 : wy.cell? ⟨wi.heap.size, 2, none⟩ = some (.int .i64 x.f2) := (blk_cell O5.out 2).trans rfl
            have o3 : wy.cell? ⟨wi.heap.size, 3, none⟩ = some (.int .i64 x.f3) := (blk_cell O5.out 3).trans rfl
            clear hc b5 M5 M4 CM p0 p1 SA OA
            go_wp2_with fail
            clear hwy t0 t1 t2 t3 mb5 mb6 mb7 mb8 hmne mlo
            refine (sq_store S5.out x.f1 hf1 ⟨x.f2, x.f3⟩).mono ?_
            rintro e wz ⟨rfl, ⟨S6, k6⟩, z6⟩
            have O6 := Aside0.mk (k6 _ _ rfl O5.out)
            rw [HMR.out] at S6 ⊢
            have S6 := Aside0.mk S6
            have y1 : wz.cell? ⟨wi.heap.size, 1, none⟩ = some (.int .i64 x.f1) := (blk_cell O6.out 1).trans rfl
            clear k6 z6 O5 S5 HMR
            go_wp2_with fail
            clear hd1 hd2
          case' neg =>
            have hd1 : (x.f0 == 1) = false := beq_eq_false_iff_ne.2 hw1
            have hd2 : (x.f0 == 2) = false := beq_eq_false_iff_ne.2 hw2
            clear hw1 hw2
            go_wp2_with fail
            clear hd1 hd2
            clear hwa
            obtain ⟨wz, rfl⟩ : ∃ wz : World, wz = wa := ⟨_, rfl⟩
            obtain ⟨A2, rfl⟩ : ∃ A2 : List S65, A2 = A' := ⟨_, rfl⟩
            have S6 := SA
            have O6 := OA
            have y1 := o1
        all_goals
          obtain ⟨F, hF⟩ := sq_hr S6.out
          have HF := Aside0.mk hF
          have HGD := Aside0.mk S6.out.good
          obtain ⟨ob, hob⟩ : ∃ ob, wi.heap.size = ob := ⟨_, rfl⟩
          rw [hob] at O6 y1 S6 ⊢
          clear hF hob
          obtain ⟨y, hy⟩ : ∃ y, load A2 x.f1 = y := ⟨_, rfl⟩
          have HY := Aside0.mk hy
          obtain ⟨z, hz⟩ : ∃ z, objOf A2 x.f1 = z := ⟨_, rfl⟩
          have HZ := Aside0.mk hz
          clear hy hz
          obtain ⟨⟨y0, y1'⟩, yb⟩ := y
          obtain ⟨zt, ⟨z0, z1, z2, z3⟩, zb⟩ := z
          refine (load_any HF.out x.f1 hf1).mono ?_
          rintro e w7 ⟨rfl, b7⟩
          rw [HY.out]
          have B7 := Aside0.mk (below_alloc b7 (.cells #[.int .i64 y0, .int .i64 y1'] 46))
          have s7 := b7.size
          have O7 := blk_below O6.out B7.out
          have S7 := Aside0.mk (S6.out.below B7.out)
          obtain ⟨a0, q0, a1, q1, m7, mlo, R7⟩ := S7.out.cells
          have o1 : (w7.alloc (.cells #[.int .i64 y0, .int .i64 y1'] 46)).cell? ⟨ob, 1, none⟩ = some (.int .i64 x.f1) := (blk_cell O7 1).trans rfl
          have p0 : (w7.alloc (.cells #[.int .i64 y0, .int .i64 y1'] 46)).cell? ⟨mb, 0, none⟩ = some (.slice a0 A2.length q0) := (blk_cell m7 0).trans rfl
          have p1 : (w7.alloc (.cells #[.int .i64 y0, .int .i64 y1'] 46)).cell? ⟨mb, 1, none⟩ = some (.slice a1 A2.length q1) := (blk_cell m7 1).trans rfl
          have R7 := Aside0.mk R7
          have M7 := Aside0.mk m7
          have O7 := Aside0.mk O7
          have N7 := Aside0.mk (blk_new w7 (.cells #[.int .i64 y0, .int .i64 y1'] 46))
          clear b7 m7 mlo y1
          go_wp2_with fail
          refine (loadR_calls R7.out HGD.out.1 HGD.out.2 x.f1 hf1).mono ?_
          rintro e w8 ⟨rfl, b8⟩
          rw [HY.out]
          have B8 := Aside0.mk (below_alloc b8 (.cells #[.int .i64 y0, .int .i64 y1'] 46))
          have s8 := b8.size
          have O8 := Aside0.mk (blk_below O7.out B8.out)
          have M8 := Aside0.mk (blk_below M7.out B8.out)
          have R8 := Aside0.mk (R7.out.below B8.out)
          have N8 := Aside0.mk (blk_below N7.out B8.out)
          have N8' := Aside0.mk (blk_new w8 (.cells #[.int .i64 y0, .int .i64 y1'] 46))
          have BB8 := Aside0.mk (below_then B7.out B7.out.size B8.out)
          have o1 : (w8.alloc (.cells #[.int .i64 y0, .int .i64 y1'] 46)).cell? ⟨ob, 1, none⟩ = some (.int .i64 x.f1) := (blk_cell O8.out 1).trans rfl
          have H8 := Aside0.mk (HF.out.below BB8.out)
          clear b8 p0 p1 O7 M7 R7 N7
          go_wp2_with fail
          refine (of_any H8.out x.f1 hf1).mono ?_
          rintro e w9 ⟨rfl, b9⟩
          rw [HZ.out]
          have B9 := Aside0.mk (below_alloc b9 (.cells #[.int .i64 z0, .int .i64 z1, .int .i64 z2, .int .i64 z3] 51))
          have s9 := b9.size
          have O9 := Aside0.mk (blk_below O8.out B9.out)
          have M9 := Aside0.mk (blk_below M8.out B9.out)
          have R9 := Aside0.mk (R8.out.below B9.out)
          have N9 := Aside0.mk (blk_below N8.out B9.out)
          have N9' := Aside0.mk (blk_below N8'.out B9.out)
          have N9'' := Aside0.mk (blk_new w9 (.cells #[.int .i64 z0, .int .i64 z1, .int .i64 z2, .int .i64 z3] 51))
          have BB9 := Aside0.mk (below_then BB8.out BB8.out.size B9.out)
          have o1 : (w9.alloc (.cells #[.int .i64 z0, .int .i64 z1, .int .i64 z2, .int .i64 z3] 51)).cell? ⟨ob, 1, none⟩ = some (.int .i64 x.f1) := (blk_cell O9.out 1).trans rfl
          have p0 : (w9.alloc (.cells #[.int .i64 z0, .int .i64 z1, .int .i64 z2, .int .i64 z3] 51)).cell? ⟨mb, 0, none⟩ = some (.slice a0 A2.length q0) := (blk_cell M9.out 0).trans rfl
          have p1 : (w9.alloc (.cells #[.int .i64 z0, .int .i64 z1, .int .i64 z2, .int .i64 z3] 51)).cell? ⟨mb, 1, none⟩ = some (.slice a1 A2.length q1) := (blk_cell M9.out 1).trans rfl
          clear b9 O8 M8 R8 N8 N8'
          go_wp2_with fail
          refine (ofR_calls R9.out HGD.out.1 HGD.out.2 x.f1 hf1).mono ?_
          rintro e w10 ⟨rfl, b10⟩
          rw [HZ.out]
          have B10 := Aside0.mk (below_alloc b10 (.cells #[.int .i64 z0, .int .i64 z1, .int .i64 z2, .int .i64 z3] 51))
          have s10 := b10.size
          simp at s8 s9 s10
          have N0 := blk_below N9.out b10
          have N1 := blk_below N9'.out b10
          have N2 := blk_below N9''.out b10
          have BB10 := Aside0.mk (below_then BB9.out BB9.out.size B10.out)
          have l0 := blk_lt N0
          have l1 := blk_lt N1
          have l2 := blk_lt N2
          have e0 : w10.cell? ⟨w7.heap.size, 0, none⟩ = some (.int .i64 y0) := blk_cell N0 0
          have e1 : w10.cell? ⟨w7.heap.size, 1, none⟩ = some (.int .i64 y1') := blk_cell N0 1
          have e2 : w10.cell? ⟨w8.heap.size, 0, none⟩ = some (.int .i64 y0) := blk_cell N1 0
          have e3 : w10.cell? ⟨w8.heap.size, 1, none⟩ = some (.int .i64 y1') := blk_cell N1 1
          have e4 : w10.cell? ⟨w9.heap.size, 0, none⟩ = some (.int .i64 z0) := blk_cell N2 0
          have e5 : w10.cell? ⟨w9.heap.size, 1, none⟩ = some (.int .i64 z1) := blk_cell N2 1
          have e6 : w10.cell? ⟨w9.heap.size, 2, none⟩ = some (.int .i64 z2) := blk_cell N2 2
          have e7 : w10.cell? ⟨w9.heap.size, 3, none⟩ = some (.int .i64 z3) := blk_cell N2 3
          have SE := Aside0.mk ((S6.out.below BB10.out).less (Y := fun _ => False) (fun _ h => h.elim))
          clear b10 O9 M9 R9 N9 N9' N9'' N0 N1 N2 p0 p1 o1
          go_wp2_with fail
          go_roundw
          case rel => exact ⟨k + 1, A2, by go_num, by omega, SE⟩
          case measure => simp [intOf]; omega
      · have HGD := Aside0.mk SK.out.good
        clear HC HW
        go_wp2_with fail
        go_loopw [26] (fun i wr => ∃ t : Int, i = .int .i64 t ∧ -1 ≤ t ∧ t ≤ 5 ∧ Aside0 (SQ w1 hb mb (fun _ => False) wr A' A')) (fun i _ => (5 - intOf i).toNat)
        case atStart => exact ⟨-1, rfl, by omega, by omega, SK⟩
        case round =>
          clear SK
          obtain ⟨t, rfl, ht0, ht1, SKW⟩ := hrel
          obtain ⟨wo, rfl⟩ : ∃ wi : World, wi = wr := ⟨_, rfl⟩
          by_cases ht5 : t < 5
          · obtain ⟨wq, hwq⟩ : ∃ wq, (wo.alloc (.cells #[] 46)).alloc (.cells #[] 51) = wq := ⟨_, rfl⟩
            have BQ : Aside0 (Below wo.heap.size wo wq) := ⟨by rw [← hwq]; exact below_alloc (below_alloc (Below.refl _ _) _) _⟩
            obtain ⟨F, hF⟩ := sq_hr SKW.out
            have HF := Aside0.mk hF
            have HFQ := Aside0.mk (hF.below BQ.out)
            obtain ⟨a0, q0, a1, q1, m0, mlo, R0⟩ := SKW.out.cells
            have MQ := Aside0.mk (blk_below m0 BQ.out)
            have RQ := Aside0.mk (R0.below BQ.out)
            have p0 : wq.cell? ⟨mb, 0, none⟩ = some (.slice a0 A'.length q0) := (blk_cell MQ.out 0).trans rfl
            have p1 : wq.cell? ⟨mb, 1, none⟩ = some (.slice a1 A'.length q1) := (blk_cell MQ.out 1).trans rfl
            clear hF m0 mlo R0
            by_cases hin : 0 ≤ t ∧ t < A'.length
            · obtain ⟨m, rfl⟩ := Int.eq_ofNat_of_zero_le hin.1
              obtain ⟨⟨ad, Bw, cw, rfl, e0, lw, hcw⟩, ⟨ad2, Bo, co, rfl, e1, lo, hco⟩⟩ := RQ.out.rows m (by omega)
              obtain ⟨xa, hxa⟩ : ∃ x, A'.getD m z65 = x := ⟨_, rfl⟩
              have hgx := HGD.out.2 (A'.getD m z65) (by
                rw [List.getD_eq_getElem?_getD, List.getElem?_eq_getElem (show m < A'.length by omega)]
                exact List.getElem_mem _)
              have HAR : Aside0 (ar A' (m : Int) = xa) := ⟨by rw [ar_nat _ _ (by omega), Int.toNat_natCast, hxa]⟩
              rw [hxa] at e0 e1 lw lo hcw hco hgx
              clear hxa
              obtain ⟨ws, os⟩ := xa
              obtain ⟨nw, hnw⟩ : ∃ n, ws.length = n := ⟨_, rfl⟩
              obtain ⟨no, hno⟩ : ∃ n, os.length = n := ⟨_, rfl⟩
              have hl1 : ws.length ≤ 64 := hgx.1
              have hl2 : os.length ≤ 64 := by
                have := contig_len hgx.2
                have : (os.length : Int) ≤ ws.length := by simpa using this
                omega
              have HWN := Aside0.mk hnw
              have HON := Aside0.mk hno
              have e0 : wq.cell? (ad.add m) = some (.slice Bw nw cw) := by rw [← hnw]; exact e0
              have e1 : wq.cell? (ad2.add m) = some (.slice Bo no co) := by rw [← hno]; exact e1
              have HWL : Aside0 (nw ≤ 64 ∧ nw ≤ cw) := ⟨by rw [← hnw]; exact ⟨hl1, lw⟩⟩
              have HOL : Aside0 (no ≤ 64 ∧ no ≤ co) := ⟨by rw [← hno]; exact ⟨hl2, lo⟩⟩
              have CW : Aside0 (Kd.C k46 wq Bw nw ws) := ⟨by rw [← hnw]; exact hcw⟩
              have CO : Aside0 (Kd.C k51 wq Bo no os) := ⟨by rw [← hno]; exact hco⟩
              obtain ⟨hin0, hin1⟩ := hin
              obtain ⟨t, ht⟩ : ∃ t : Int, t = m := ⟨_, rfl⟩
              clear lw lo hcw hco hgx hnw hno hl1 hl2 RQ
              go_wp2_with fail
              clear hwq
              rw [← ht] at HAR ⊢
              have ht1 : t ≤ 5 := by omega
              have ht0 : -1 ≤ t := by omega
              have ht5 : t < 5 := by omega
              have HT := Aside0.mk ht
              clear p0 p1 e0 e1 ht hin0 hin1
              refine (words_any HFQ.out t).mono ?_
              rintro e w4 ⟨v, rfl, r4, b4⟩
              rw [HAR.out] at r4
              obtain ⟨Av, cv, rfl, l4, C4⟩ := Kd.R_reads r4
              rw [HWN.out] at l4 C4 ⊢
              have B4 := Aside0.mk (below_then BQ.out BQ.out.size b4)
              have CW4 := Kd.C_below CW.out b4
              have CO4 := Aside0.mk (Kd.C_below CO.out b4)
              have KW := Aside0.mk (sameW_calls Av Bw cv cw nw ws w4 HWN.out C4 l4 CW4 HWL.out.2 HWL.out.1)
              clear r4 b4 C4 CW4 l4
              go_wp2_with fail
              refine KW.out.mono ?_
              rintro e w5 ⟨rfl, d5⟩
              have B5 := Aside0.mk (below_then B4.out B4.out.size d5.below)
              have HF5 := HF.out.below B5.out
              have CO5 := Aside0.mk (Kd.C_below CO4.out d5.below)
              clear d5 KW CO4
              go_wp2_with fail
              refine (objects_any HF5 t).mono ?_
              rintro e w6 ⟨v, rfl, r6, b6⟩
              rw [HAR.out] at r6
              obtain ⟨Av, cv, rfl, l6, C6⟩ := Kd.R_reads r6
              rw [HON.out] at l6 C6 ⊢
              have B6 := Aside0.mk (below_then B5.out B5.out.size b6)
              have CO6 := Kd.C_below CO5.out b6
              have KO := Aside0.mk (sameO_calls Av Bo cv co no os w6 HON.out C6 l6 CO6 HOL.out.2 HOL.out.1)
              clear r6 b6 C6 CO6 l6 HF5 CO5
              go_wp2_with fail
              refine KO.out.mono ?_
              rintro e w7 ⟨rfl, d7⟩
              have SE := Aside0.mk ((SKW.out.below (below_then B6.out B6.out.size d7.below)).less (Y := fun _ => False) (fun _ h => h.elim))
              clear d7
              go_wp2_with fail
              go_roundw
              case rel => exact ⟨t + 1, rfl, by omega, by omega, SE⟩
              case measure => have := HT.out; simp [intOf]; omega

            · have HAR : Aside0 (ar A' t = ⟨[], []⟩) := ⟨ar_no (by omega)⟩
              obtain ⟨ws, hws⟩ : ∃ ws : List S46, ws = [] := ⟨_, rfl⟩
              obtain ⟨os, hos⟩ : ∃ os : List S51, os = [] := ⟨_, rfl⟩
              rw [← hws, ← hos] at HAR
              have HWN : Aside0 (ws.length = 0) := ⟨by rw [hws]; rfl⟩
              have HON : Aside0 (os.length = 0) := ⟨by rw [hos]; rfl⟩
              have CW : Aside0 (Kd.C k46 wq (some ⟨wo.heap.size, 0, none⟩) 0 ws) := ⟨by
                rw [hws, ← hwq]
                exact Kd.C_below (Kd.R_reads' (lit_nil k46 46 wo wo.heap.size (Nat.le_refl _))).2.2 (below_alloc (Below.refl _ _) _)⟩
              have CO : Aside0 (Kd.C k51 wq (some ⟨wo.heap.size + 1, 0, none⟩) 0 os) := ⟨by
                rw [hos, ← hwq]
                have := (Kd.R_reads' (lit_nil k51 51 (wo.alloc (.cells #[] 46)) wo.heap.size (by simp))).2.2
                simpa using this⟩
              have HWL : Aside0 (0 ≤ 64 ∧ 0 ≤ 0) := ⟨by omega, by omega⟩
              have HOL : Aside0 (0 ≤ 64 ∧ 0 ≤ 0) := ⟨by omega, by omega⟩
              clear hws hos RQ
              by_cases hneg : t < 0
              case' pos =>
                clear hin
                go_wp2_with fail
                clear hwq
              case' neg =>
                have hge : (A'.length : Int) ≤ t := by omega
                clear hin
                go_wp2_with fail
                clear hwq
              all_goals
                clear p0 p1
                refine (words_any HFQ.out t).mono ?_
                rintro e w4 ⟨v, rfl, r4, b4⟩
                rw [HAR.out] at r4
                obtain ⟨Av, cv, rfl, l4, C4⟩ := Kd.R_reads r4
                rw [HWN.out] at l4 C4 ⊢
                have B4 := Aside0.mk (below_then BQ.out BQ.out.size b4)
                have CW4 := Kd.C_below CW.out b4
                have CO4 := Aside0.mk (Kd.C_below CO.out b4)
                have KW := Aside0.mk (sameW_calls Av (some ⟨wo.heap.size, 0, none⟩) cv 0 0 ws w4 HWN.out C4 l4 CW4 HWL.out.2 HWL.out.1)
                clear r4 b4 C4 CW4 l4
                go_wp2_with fail
                refine KW.out.mono ?_
                rintro e w5 ⟨rfl, d5⟩
                have B5 := Aside0.mk (below_then B4.out B4.out.size d5.below)
                have HF5 := HF.out.below B5.out
                have CO5 := Aside0.mk (Kd.C_below CO4.out d5.below)
                clear d5 KW CO4
                go_wp2_with fail
                refine (objects_any HF5 t).mono ?_
                rintro e w6 ⟨v, rfl, r6, b6⟩
                rw [HAR.out] at r6
                obtain ⟨Av, cv, rfl, l6, C6⟩ := Kd.R_reads r6
                rw [HON.out] at l6 C6 ⊢
                have B6 := Aside0.mk (below_then B5.out B5.out.size b6)
                have CO6 := Kd.C_below CO5.out b6
                have KO := Aside0.mk (sameO_calls Av (some ⟨wo.heap.size + 1, 0, none⟩) cv 0 0 os w6 HON.out C6 l6 CO6 HOL.out.2 HOL.out.1)
                clear r6 b6 C6 CO6 l6 HF5 CO5
                go_wp2_with fail
                refine KO.out.mono ?_
                rintro e w7 ⟨rfl, d7⟩
                have SE := Aside0.mk ((SKW.out.below (below_then B6.out B6.out.size d7.below)).less (Y := fun _ => False) (fun _ h => h.elim))
                clear d7
                go_wp2_with fail
                go_roundw
                case rel => exact ⟨t + 1, rfl, by omega, by omega, SE⟩
                case measure => simp [intOf]; omega

          · have B9 := Aside0.mk (below_then B1.out s1 SKW.out.bel)
            go_wp2_with fail
            go_ret
            exact ⟨rfl, B9.out⟩
end Go.Proofs.Ytogjcogejfidbaa.Heap
