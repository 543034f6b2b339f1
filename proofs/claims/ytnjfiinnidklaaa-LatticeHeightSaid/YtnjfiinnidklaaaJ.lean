import Derived.Test.YtnjfiinnidklaaaI
namespace Go.Proofs.Ytnjfiinnidklaaa.Lat
open Go.RowKit Go.Proofs.YtnjfiinnidklaaaW.PrintWords Go.Proofs.YtnjfiinnidklaaaW.PrintLast Go.Proofs.YtnjfiinnidklaaaW.PrintMore Go.Proofs.Ytnjfiinnidklaaa.PLatticeNews
set_option linter.unusedVariables false
set_option linter.unusedSimpArgs false

/-! ### copies -/
theorem info41 : (Try.prog.info? 41).map (fun i => (i.zero, i.size, i.bytes)) = some (some (.agg #[.int .i64 0, .int .i64 0]), 2, 16) := by kernel_rfl
theorem copies_any (A : Option Addr) (c : Nat) (es : List (Int × Int)) (w : World) (hr : Kd.C KE w A es.length es) (hl : es.length ≤ 1000000) :
    Calls Try.prog 12 #[.slice A es.length c] w fun e w' => ∃ v, e = .returned v ∧ KE.R 41 w' w.heap.size (fun _ => True) v es ∧ Below w.heap.size w w' := by
  have HR := Aside0.mk hr
  clear hr
  go_enter Try.func12, Try.ntmps12
  go_wp2_with (at_builtin; refine Kd.R_append_rows KE w.heap.size rfl (.tmp 5) (.tmp 6) 22 41 _ 16 rfl Try.underlying22 info41 rfl (by decide) (by decide) (.slice (some ⟨w.heap.size, 0, none⟩) 0 0) [] es A es.length c (fun _ => True) (fun _ => False) rfl rfl (lit_nil KE 41 w w.heap.size (Nat.le_refl _)) (Kd.C_below HR.out (below_alloc (Below.refl _ _) _)) (fun x cs h => h) (fun _ h => h.elim) (fun _ _ => trivial) (below_alloc (Below.refl _ _) _) (by simp) (by simp; omega) ?_; intro v1 w1 hv1 hb1 hg1 hat1)
  have HV := Aside0.mk hv1
  clear hv1
  go_wp2
  go_ret
  exact ⟨_, rfl, HV.out, hb1⟩
/-- A literal of edges. -/
def flatE (es : List (Int × Int)) : List Value := es.flatMap (fun e => [.int .i64 e.1, .int .i64 e.2])
theorem flatE_reps (W : World) (es : List (Int × Int)) : Reps (KE.K W) 2 es (flatE es) := by
  induction es with
  | nil => exact Reps.none _ _
  | cons e es ih =>
    refine ⟨by simp only [flatE, List.flatMap_cons, List.length_append, List.length_cons, List.length_nil]; have := ih.1; simp only [flatE] at this; omega, fun j p hj => ?_⟩
    cases j with
    | zero =>
      obtain rfl : e = p := by simpa using hj
      exact ⟨[.int .i64 e.1], [.int .i64 e.2], rfl, rfl, rfl⟩
    | succ j =>
      have := ih.2 j p (by simpa using hj)
      have e2 : (flatE (e :: es)).drop ((j + 1) * 2) = (flatE es).drop (j * 2) := by
        rw [show (j + 1) * 2 = j * 2 + 1 + 1 from by omega]
        rfl
      rw [e2]
      exact this
theorem C_flat (W : World) (b : Nat) (es : List (Int × Int)) (hb : W.heap[b]? = some (.cells (flatE es).toArray 41 (0, 0))) (hl : es.length ≤ 1000000) : Kd.C KE W (some ⟨b, 0, none⟩) es.length es := by
  have hR := flatE_reps W es
  refine ⟨rfl, by omega, fun _ => ⟨_, rfl, fun j p hj => ⟨((flatE es).drop (j * 2)).take 2, ?_, hR.2 j p hj, fun i u hi => ?_⟩⟩⟩
  · have := (List.getElem?_eq_some_iff.1 hj).1
    have h2 := hR.1
    show _ = 2
    rw [List.length_take, List.length_drop, h2]
    omega
  · show W.cell? ((⟨b, 0, none⟩ : Addr).add (j * 2 + i)) = some u
    rw [add_plain, blk_cell hb]
    rw [List.getElem?_take] at hi
    split at hi
    · rw [List.getElem?_drop] at hi
      simpa using hi
    · cases hi
theorem C_ints (W : World) (b : Nat) (xs : List Int) (hb : W.heap[b]? = some (.cells (nums .i64 xs).toArray 3 (0, 0))) (hl : xs.length ≤ 1000000) : Kd.C (Kd.int .i64) W (some ⟨b, 0, none⟩) xs.length xs := by
  refine Kd.C_of_reads (d := (0 : Int)) (h1 := fun _ => rfl) ⟨rfl, by omega, fun hn => ⟨_, rfl, fun j hj => ?_⟩⟩
  rw [add_plain, blk_cell hb, numsI_get xs j hj]
  simp [rd]

/-! ### alive -/
def E4 : List (Int × Int) := [(0, 1), (0, 2), (1, 3), (2, 3)]
def E3 : List (Int × Int) := [(0, 1), (0, 2), (1, 3)]
set_option maxHeartbeats 1000000 in
set_option maxRecDepth 100000 in
theorem alive (w : World) : Calls Try.prog 10 #[] w fun e w' => e = .returned (.bool true) ∧ Below w.heap.size w w' := by
  have K1 : Aside0 (codeM 4 E4 = 0) := ⟨by decide +kernel⟩
  have K2 : Aside0 (codeM 4 E3 = 31) := ⟨by decide +kernel⟩
  have K3 : Aside0 (allM 4 (closE 4 E4).1 [1, 2] = 3) := ⟨by decide +kernel⟩
  have K4 : Aside0 (allM 4 (closE 4 E4).2 [1, 2] = 0) := ⟨by decide +kernel⟩
  have K5 : Aside0 (chainF 4 (closE 4 E4).2 4 0 = some [0, 1, 2, 3]) := ⟨by decide +kernel⟩
  have K6 : Aside0 (heightM 4 (closE 4 E4).2 [0, 1, 2, 3] = 3) := ⟨by decide +kernel⟩
  have K7 : Aside0 (mostM 4 (closE 4 E4).1 0 3 = true) := ⟨by decide +kernel⟩
  have K8 : Aside0 (mostM 4 (closE 4 E4).1 1 2 = false) := ⟨by decide +kernel⟩
  have TJ : Aside0 (∀ (w3 W : World) (hb ub db : Nat), TO w3 hb ub db 4 (closE 4 E4).1 (closE 4 E4).2 → Below w3.heap.size w3 W → ∀ b, W.heap[b]? = some (.cells #[.int .i64 1, .int .i64 2] 3 (0, 0)) → (Calls Try.prog 15 #[.pointer (some ⟨hb, 0, none⟩), .slice (some ⟨b, 0, none⟩) 2 2] W fun e w' => e = .returned (.int .i64 3) ∧ W = w') ∧ (Calls Try.prog 17 #[.pointer (some ⟨hb, 0, none⟩), .slice (some ⟨b, 0, none⟩) 2 2] W fun e w' => e = .returned (.int .i64 0) ∧ W = w')) := ⟨fun w3 W hb ub db T B b hblk => by
    have hC := C_ints W b [1, 2] hblk (by decide)
    have j1 := join_any (T.below B) (some ⟨b, 0, none⟩) [1, 2] 2 (by decide) hC (by decide)
    have j2 := meet_any (T.below B) (some ⟨b, 0, none⟩) [1, 2] 2 (by decide) hC (by decide)
    rw [K3.out] at j1
    rw [K4.out] at j2
    exact ⟨j1, j2⟩⟩
  have TH : Aside0 (∀ (w3 W : World) (hb ub db : Nat), TO w3 hb ub db 4 (closE 4 E4).1 (closE 4 E4).2 → Below w3.heap.size w3 W → Calls Try.prog 22 #[.pointer (some ⟨hb, 0, none⟩)] W fun e w' => e = .returned (.int .i64 3) ∧ Below W.heap.size W w') := ⟨fun w3 W hb ub db T B => by
    have j1 := height_any (T.below B) (by decide) K5.out
    rw [K6.out] at j1
    exact j1⟩
  have TS : Aside0 (∀ (w3 W : World) (hb ub db : Nat), TO w3 hb ub db 4 (closE 4 E4).1 (closE 4 E4).2 → Below w3.heap.size w3 W → (Calls Try.prog 26 #[.pointer (some ⟨hb, 0, none⟩)] W fun e w' => e = .returned (.int .i64 4) ∧ W = w') ∧ (Calls Try.prog 20 #[.pointer (some ⟨hb, 0, none⟩), .int .i64 0, .int .i64 3] W fun e w' => e = .returned (.bool true) ∧ W = w') ∧ (Calls Try.prog 20 #[.pointer (some ⟨hb, 0, none⟩), .int .i64 1, .int .i64 2] W fun e w' => e = .returned (.bool false) ∧ W = w')) := ⟨fun w3 W hb ub db T B => by
    have j1 := most_any (T.below B) 0 3
    have j2 := most_any (T.below B) 1 2
    rw [K7.out] at j1
    rw [K8.out] at j2
    exact ⟨size_any (T.below B), j1, j2⟩⟩
  clear K3 K4 K5 K6 K7 K8
  have B1 := Aside0.mk (below_alloc (Below.refl w.heap.size w) (.cells (flatE E4).toArray 41))
  go_enter Try.func10, Try.ntmps10
  go_wp2_with fail
  refine (new_any 4 (some ⟨w.heap.size, 0, none⟩) 4 E4 (w.alloc (.cells (flatE E4).toArray 41)) (C_flat _ _ E4 (blk_new w _) (by decide)) (by decide)).mono ?_
  rintro e w2 ⟨b2, ⟨h, _⟩ | ⟨_, hb, ub, db, rfl, T⟩⟩
  · exact absurd K1.out h
  have B2 := Aside0.mk (below_then B1.out B1.out.size b2)
  have T2 := Aside0.mk T
  clear b2 T B1
  go_wp2_with fail
  have b3 := below_alloc (Below.refl w2.heap.size w2) (.cells (flatE E3).toArray 41)
  refine (new_any 4 (some ⟨w2.heap.size, 0, none⟩) 3 E3 (w2.alloc (.cells (flatE E3).toArray 41)) (C_flat _ _ E3 (blk_new w2 _) (by decide)) (by decide)).mono ?_
  rintro e w3 ⟨b4, ⟨_, rfl⟩ | ⟨h, _⟩⟩
  rotate_left
  · rw [K2.out] at h
    exact absurd h (by decide)
  rw [K2.out]
  have B5 := below_then b3 b3.size b4
  have B3 := Aside0.mk (below_then B2.out B2.out.size B5)
  have T3 := Aside0.mk (T2.out.below B5)
  clear b3 b4 B5 T2 B2 K1 K2
  go_wp2_with fail
  refine (TS.out _ _ _ _ _ T3.out (Below.refl _ _)).1.mono ?_
  rintro e w' ⟨rfl, rfl⟩
  go_wp2_with fail
  have b4 := below_alloc (Below.refl w3.heap.size w3) (.cells #[.int .i64 1, .int .i64 2] 3)
  refine (TJ.out _ _ _ _ _ T3.out b4 w3.heap.size (blk_new w3 _)).1.mono ?_
  rintro e w' ⟨rfl, rfl⟩
  have T4 := Aside0.mk (T3.out.below b4)
  have B4 := Aside0.mk (below_then B3.out B3.out.size b4)
  obtain ⟨w4, hw4⟩ : ∃ w4, w3.alloc (.cells #[.int .i64 1, .int .i64 2] 3) = w4 := ⟨_, rfl⟩
  rw [hw4] at T4 B4 ⊢
  clear hw4 b4 T3 B3
  go_wp2_with fail
  have b5 := below_alloc (Below.refl w4.heap.size w4) (.cells #[.int .i64 1, .int .i64 2] 3)
  refine (TJ.out _ _ _ _ _ T4.out b5 w4.heap.size (blk_new w4 _)).2.mono ?_
  rintro e w' ⟨rfl, rfl⟩
  have T5 := Aside0.mk (T4.out.below b5)
  have B5 := Aside0.mk (below_then B4.out B4.out.size b5)
  obtain ⟨w5, hw5⟩ : ∃ w5, w4.alloc (.cells #[.int .i64 1, .int .i64 2] 3) = w5 := ⟨_, rfl⟩
  rw [hw5] at T5 B5 ⊢
  clear hw5 b5 T4 B4
  go_wp2_with fail
  refine (TH.out _ _ _ _ _ T5.out (Below.refl _ _)).mono ?_
  rintro e w6 ⟨rfl, b6⟩
  have T6 := Aside0.mk (T5.out.below b6)
  have B6 := Aside0.mk (below_then B5.out B5.out.size b6)
  clear b6 T5 B5
  go_wp2_with fail
  refine (TS.out _ _ _ _ _ T6.out (Below.refl _ _)).2.1.mono ?_
  rintro e w' ⟨rfl, rfl⟩
  go_wp2_with fail
  refine (TS.out _ _ _ _ _ T6.out (Below.refl _ _)).2.2.mono ?_
  rintro e w' ⟨rfl, rfl⟩
  go_wp2_with fail
  go_ret
  exact ⟨rfl, B6.out⟩
end Go.Proofs.Ytnjfiinnidklaaa.Lat
