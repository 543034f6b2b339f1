import Derived.Test.YtdildjgkjmoihaaD
namespace Go.Proofs.Ytdildjgkjmoihaa.Latch
open Go.RowKit Go.Proofs.YtdildjgkjmoihaaW.PrintWords Go.Proofs.YtdildjgkjmoihaaW.PrintLast Go.Proofs.YtdildjgkjmoihaaW.PrintMore Go.Proofs.Ytdildjgkjmoihaa.PLatchSteps
set_option linter.unusedVariables false
set_option linter.unusedSimpArgs false

/-! ### SameInts -/
theorem same_loop (a b : List Int) (hl : a.length = b.length) (hm : a.length ≤ 9223372036854775800) : ∀ (d k i : Nat), i + d = a.length → d < k → portcullisref00_SameInts.l0 k a b (i : Int) = some (decide (a.drop i = b.drop i)) := by
  intro d
  induction d with
  | zero =>
    intro k i hi hk
    obtain ⟨k, rfl⟩ : ∃ m, k = m + 1 := ⟨k - 1, by omega⟩
    simp only [portcullisref00_SameInts.l0]
    rw [if_neg (by omega), List.drop_eq_nil_of_le (by omega), List.drop_eq_nil_of_le (by omega)]
    rfl
  | succ d ih =>
    intro k i hi hk
    obtain ⟨k, rfl⟩ : ∃ m, k = m + 1 := ⟨k - 1, by omega⟩
    simp only [portcullisref00_SameInts.l0]
    rw [if_pos (by omega), if_pos (by omega), if_pos (by omega)]
    have ha : a.drop i = rd a i :: a.drop (i + 1) := by
      rw [List.drop_eq_getElem_cons (by omega)]
      simp [rd, List.getD_eq_getElem?_getD, List.getElem?_eq_getElem (show i < a.length by omega)]
    have hb : b.drop i = rd b i :: b.drop (i + 1) := by
      rw [List.drop_eq_getElem_cons (by omega)]
      simp [rd, List.getD_eq_getElem?_getD, List.getElem?_eq_getElem (show i < b.length by omega)]
    have hw : wrap64 ((i : Int) + 1) = ((i + 1 : Nat) : Int) := by unfold wrap64; omega
    by_cases c : rd a i = rd b i
    · rw [if_pos c, hw, ih k (i + 1) (by omega) (by omega), ha, hb, c]
      simp
    · rw [if_neg c, ha, hb]
      simp [c]
theorem same_ints (a b : List Int) (hm : a.length ≤ 9223372036854775800) : portcullisref00_SameInts.f (a.length + 1) a b = some (decide (a = b)) := by
  unfold portcullisref00_SameInts.f
  by_cases h : a.length = b.length
  · rw [if_pos (by omega)]
    have := same_loop a b h hm a.length (a.length + 1) 0 (by omega) (by omega)
    simpa using this
  · rw [if_neg (by omega)]
    have : ¬ a = b := fun e => h (by rw [e])
    simp [this]
theorem sameInts_any (a b : List Int) (A B : Option Addr) (ca cb : Nat) (w : World) (ha : Kd.C (Kd.int .i64) w A a.length a) (hca : a.length ≤ ca) (hb : Kd.C (Kd.int .i64) w B b.length b) (hcb : b.length ≤ cb) (hm : a.length ≤ 1000000) :
    Calls Try.prog 17 #[.slice A a.length ca, .slice B b.length cb] w fun e w' => e = .returned (.bool (decide (a = b))) ∧ Drawn0 w w' :=
  portcullisref00_SameInts.calls (a.length + 1) A ca a B cb b _ w ha hca hb hcb (same_ints a b (by omega))
/-- The same of two values whose form is not written out. -/
theorem sameInts_R (a b : List Int) (v u : Value) (w : World) {b1 b2 : Nat} {o1 o2 : Nat → Prop} (ha : (Kd.int .i64).R 3 w b1 o1 v a) (hb : (Kd.int .i64).R 3 w b2 o2 u b) (hm : a.length ≤ 1000000) :
    Calls Try.prog 17 #[v, u] w fun e w' => e = .returned (.bool (decide (a = b))) ∧ Drawn0 w w' := by
  obtain ⟨A, ca, rfl, h1, h2⟩ := Kd.R_reads ha
  obtain ⟨B, cb, rfl, h3, h4⟩ := Kd.R_reads hb
  exact sameInts_any a b A B ca cb w h2 h1 h4 h3 hm
theorem lit_R (w : World) (base : Nat) (xs : List Int) (hb : base ≤ w.heap.size) (hl : xs.length ≤ 1000000) : (Kd.int .i64).R 3 (w.alloc (.cells (nums .i64 xs).toArray 3)) base (fun _ => True) (.slice (some ⟨w.heap.size, 0, none⟩) xs.length xs.length) xs :=
  Kd.R_of_own (own_lit w base 3 .i64 xs hb (by omega)) (fun _ _ => trivial)

/-! ### alive -/
set_option maxHeartbeats 1000000 in
theorem alive (w : World) : Calls Try.prog 7 #[] w fun e w' => e = .returned (.bool true) ∧ Below w.heap.size w w' := by
  go_enter Try.func7, Try.ntmps7
  go_wp2_with fail
  refine (new_at 2 2 (by decide) w).mono ?_
  rintro e w1 ⟨hb, ab, rfl, t1, g1, g2, b1⟩
  have T1 := Aside0.mk t1
  have B1 := Aside0.mk b1
  have s1 := b1.size
  clear t1 b1
  go_wp2_with fail
  refine (take_any T1.out 1 0).mono ?_
  rintro e w2 ⟨rfl, t2, f2⟩
  have e2 : takes [-1, -1] 1 0 = true := rfl
  have e2' : take_ [-1, -1] 1 0 = [-1, 0] := rfl
  have T2 : Aside0 (TB w2 hb ab [-1, 0]) := ⟨t2⟩
  have B2 := Aside0.mk (B1.out.trans (f2.below (B := w.heap.size) s1 (fun b hb => by omega)))
  rw [show takes (List.replicate 2 (-1)) 1 0 = true from rfl]
  have s2 := f2.size
  clear t2 f2 e2 e2'
  go_wp2_with fail
  refine (take_any T2.out 0 1).mono ?_
  rintro e w3 ⟨rfl, t3, f3⟩
  have T3 : Aside0 (TB w3 hb ab [1, 0]) := ⟨t3⟩
  have B3 := Aside0.mk (B2.out.trans (f3.below (B := w.heap.size) (by omega) (fun b hb => by omega)))
  rw [show takes [-1, 0] 0 1 = true from rfl]
  have s3 := f3.size
  clear t3 f3
  go_wp2_with fail
  refine (take_any T3.out 0 0).mono ?_
  rintro e w4 ⟨rfl, t4, f4⟩
  have T4 : Aside0 (TB w4 hb ab [1, 0]) := ⟨t4⟩
  have B4 := Aside0.mk (B3.out.trans (f4.below (B := w.heap.size) (by omega) (fun b hb => by omega)))
  rw [show takes [1, 0] 0 0 = false from rfl]
  have s4 := f4.size
  clear t4 f4
  go_wp2_with fail
  have L5 := Aside0.mk (lit_R w4 w.heap.size [0, 1] (by omega) (by decide))
  have B5 := Aside0.mk (below_alloc B4.out (.cells #[.int .i64 0, .int .i64 1] 3))
  have T5 := Aside0.mk (T4.out.below (below_alloc (Below.refl _ _) (.cells #[.int .i64 0, .int .i64 1] 3)))
  refine (ring_any T5.out _ 2 [0, 1] (Kd.R_reads' L5.out).2.2 (by decide)).mono ?_
  rintro e w6 ⟨v6, rfl, r6, b6⟩
  have e6 : ring [1, 0] [0, 1] = [0, 1] := by decide
  rw [e6] at r6
  have R6 := Aside0.mk r6
  have s6 := b6.size
  simp at s6
  have B6 := Aside0.mk (below_then B5.out (by simp; omega) b6)
  have T6 := Aside0.mk (T5.out.below b6)
  obtain ⟨A6, c6, hv6⟩ := Kd.R_slice r6
  subst hv6
  clear r6 b6 e6
  go_wp2_with fail
  have L7 := Aside0.mk (lit_R w6 w.heap.size [0, 1] (by omega) (by decide))
  have R7 := Aside0.mk (Kd.R_below R6.out (below_alloc (Below.refl _ _) (.cells #[.int .i64 0, .int .i64 1] 3)))
  refine (sameInts_R [0, 1] [0, 1] _ _ _ R7.out L7.out (by decide)).mono ?_
  rintro e w8 ⟨rfl, d8⟩
  have b8 := (below_alloc (Below.refl w6.heap.size w6) (.cells #[.int .i64 0, .int .i64 1] 3)).trans (d8.below.mono (by simp))
  have s8 := b8.size
  have B8 := Aside0.mk (below_then B6.out (by omega) b8)
  have T8 := Aside0.mk (T6.out.below b8)
  rw [show decide (([0, 1] : List Int) = [0, 1]) = true from rfl]
  clear d8 b8
  go_wp2_with fail
  refine (holder_any T8.out 1).mono ?_
  rintro e w9 ⟨rfl, rfl⟩
  rw [show holder [1, 0] 1 = 0 from rfl]
  go_wp2_with fail
  refine (held_any T8.out 1).mono ?_
  rintro e w10 ⟨v10, rfl, r10, b10⟩
  have e10 : held [1, 0] 1 2 = [0] := by decide
  rw [show ([1, 0] : List Int).length = 2 from rfl, e10] at r10
  obtain ⟨A10, c10, hv10⟩ := Kd.R_slice r10
  subst hv10
  have R10 := Aside0.mk r10
  have s10 := b10.size
  have B10 := Aside0.mk (below_then B8.out (by omega) b10)
  have T10 := Aside0.mk (T8.out.below b10)
  clear r10 b10 e10
  go_wp2_with fail
  have L11 := Aside0.mk (lit_R w10 w.heap.size [0] (by omega) (by decide))
  have R11 := Aside0.mk (Kd.R_below R10.out (below_alloc (Below.refl _ _) (.cells #[.int .i64 0] 3)))
  refine (sameInts_R [0] [0] _ _ _ R11.out L11.out (by decide)).mono ?_
  rintro e w12 ⟨rfl, d12⟩
  have b12 := (below_alloc (Below.refl w10.heap.size w10) (.cells #[.int .i64 0] 3)).trans (d12.below.mono (by simp))
  have s12 := b12.size
  have B12 := Aside0.mk (below_then B10.out (by omega) b12)
  have T12 := Aside0.mk (T10.out.below b12)
  rw [show decide (([0] : List Int) = [0]) = true from rfl]
  clear d12 b12
  go_wp2_with fail
  refine (drop_any T12.out 1 1).mono ?_
  rintro e w13 ⟨rfl, t13, f13⟩
  have T13 : Aside0 (TB w13 hb ab [1, 0]) := ⟨t13⟩
  have B13 := Aside0.mk (B12.out.trans (f13.below (B := w.heap.size) (by omega) (fun b hb => by omega)))
  rw [show drops [1, 0] 1 1 = false from rfl]
  have s13 := f13.size
  clear t13 f13
  go_wp2_with fail
  refine (drop_any T13.out 1 0).mono ?_
  rintro e w14 ⟨rfl, t14, f14⟩
  have T14 : Aside0 (TB w14 hb ab [1, -1]) := ⟨t14⟩
  have B14 := Aside0.mk (B13.out.trans (f14.below (B := w.heap.size) (by omega) (fun b hb => by omega)))
  rw [show drops [1, 0] 1 0 = true from rfl]
  have s14 := f14.size
  clear t14 f14
  go_wp2_with fail
  refine (all_any T14.out).mono ?_
  rintro e w15 ⟨v15, rfl, r15, b15⟩
  obtain ⟨A15, c15, hv15⟩ := Kd.R_slice r15
  subst hv15
  have R15 := Aside0.mk r15
  have s15 := b15.size
  have B15 := Aside0.mk (below_then B14.out (by omega) b15)
  have T15 := Aside0.mk (T14.out.below b15)
  clear r15 b15
  go_wp2_with fail
  have L16 := Aside0.mk (lit_R w15 w.heap.size [1, -1] (by omega) (by decide))
  have R16 := Aside0.mk (Kd.R_below R15.out (below_alloc (Below.refl _ _) (.cells #[.int .i64 1, .int .i64 (-1)] 3)))
  refine (sameInts_R [1, -1] [1, -1] _ _ _ R16.out L16.out (by decide)).mono ?_
  rintro e w17 ⟨rfl, d17⟩
  have b17 := (below_alloc (Below.refl w15.heap.size w15) (.cells #[.int .i64 1, .int .i64 (-1)] 3)).trans (d17.below.mono (by simp))
  have s17 := b17.size
  have B17 := Aside0.mk (below_then B15.out (by omega) b17)
  have T17 := Aside0.mk (T15.out.below b17)
  rw [show decide (([1, -1] : List Int) = [1, -1]) = true from rfl]
  clear d17 b17
  go_wp2_with fail
  have L18 := Aside0.mk (lit_R w17 w.heap.size [0, 1] (by omega) (by decide))
  have B18 := Aside0.mk (below_alloc B17.out (.cells #[.int .i64 0, .int .i64 1] 3))
  have T18 := Aside0.mk (T17.out.below (below_alloc (Below.refl _ _) (.cells #[.int .i64 0, .int .i64 1] 3)))
  refine (ring_any T18.out _ 2 [0, 1] (Kd.R_reads' L18.out).2.2 (by decide)).mono ?_
  rintro e w19 ⟨v19, rfl, r19, b19⟩
  have e19 : ring [1, -1] [0, 1] = [] := by decide
  rw [e19] at r19
  obtain ⟨A19, c19, hv19⟩ := Kd.R_slice r19
  subst hv19
  have B19 := Aside0.mk (below_then B18.out (by simp; omega) b19)
  clear r19 b19 e19
  go_wp2_with fail
  go_ret
  exact ⟨rfl, B19.out⟩
end Go.Proofs.Ytdildjgkjmoihaa.Latch
