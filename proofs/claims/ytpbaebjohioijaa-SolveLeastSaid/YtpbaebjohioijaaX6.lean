/- The document's Least (function 16): its contract out of the printed model; printed by print.sh, four facts of its walk put right by hand. -/
import Derived.Test.YtpbaebjohioijaaX0
import Derived.Test.YtpbaebjohioijaaY5
namespace Go.Proofs.Ytpbaebjohioijaa.PSolveLeast
open Go.RowKit Go.Proofs.YtpbaebjohioijaaW.PrintWords Go.Proofs.YtpbaebjohioijaaW.PrintLast Go.Proofs.YtpbaebjohioijaaW.PrintMore
attribute [local go_sem] max2_int min2_int max_two min_two max_three min_three max_four min_four   -- for this text's walks alone
set_option linter.unusedVariables false
set_option linter.unusedSimpArgs false

/-! ### portcullisref21_Least: function 16 -/
mutual
def portcullisref21_Least.l0 : Nat → Int → List (S43) → List Int → Int → Int → List (List Bool) → Option (List Int × Int)
  | 0, _, _, _, _, _, _ => none
  | k + 1, x1, x2, x8, x9, x10, x192000 => if x10 < x1 then (if 0 ≤ x10 then (if x10 < (x8.length : Int) then (portcullisref21_Least.l0 k x1 x2 (x8.set (x10 : Int).toNat x9) x9 (wrap64 (x10 + 1)) x192000) else (none)) else (none)) else (portcullisref21_Least.l1 k x2 x8 true x192000)
def portcullisref21_Least.l1 : Nat → List (S43) → List Int → Bool → List (List Bool) → Option (List Int × Int)
  | 0, _, _, _, _ => none
  | k + 1, x2, x8, x11, x192000 => if x11 = true then (portcullisref21_Least.l2 k x2 x8 false 0 x192000) else (some (x8, 0))
def portcullisref21_Least.l2 : Nat → List (S43) → List Int → Bool → Int → List (List Bool) → Option (List Int × Int)
  | 0, _, _, _, _, _ => none
  | k + 1, x2, x8, x11, x12, x192000 => if x12 < (x2.length : Int) then (if 0 ≤ x12 then (if ((rd_T43 x2 x12).f1) ≥ 0 then (if 0 ≤ ((rd_T43 x2 x12).f1) then (if ((rd_T43 x2 x12).f1) < (x8.length : Int) then (if 0 ≤ (rd x8 ((rd_T43 x2 x12).f1)) then (if (rd x8 ((rd_T43 x2 x12).f1)) < (x192000.length : Int) then (if 0 ≤ ((rd_T43 x2 x12).f0) then (if ((rd_T43 x2 x12).f0) < (x8.length : Int) then (if 0 ≤ (rd x8 ((rd_T43 x2 x12).f0)) then (if (rd x8 ((rd_T43 x2 x12).f0)) < ((rd_L5 x192000 (rd x8 ((rd_T43 x2 x12).f1))).length : Int) then (if (rdOf false (rd_L5 x192000 (rd x8 ((rd_T43 x2 x12).f1))) (rd x8 ((rd_T43 x2 x12).f0)) = true) then (portcullisref21_Least.l2 k x2 x8 x11 (wrap64 (x12 + 1)) x192000) else ((portcullisref01_Order_Join.f k x192000 (([rd x8 ((rd_T43 x2 x12).f1), rd x8 ((rd_T43 x2 x12).f0)] : List Int))).bind fun t208 => (portcullisref21_Least.l2 k x2 (x8.set (((rd_T43 x2 x12).f0) : Int).toNat t208) true (wrap64 (x12 + 1)) x192000))) else (none)) else (none)) else (none)) else (none)) else (none)) else (none)) else (none)) else (none)) else (if 0 ≤ ((rd_T43 x2 x12).f2) then (if ((rd_T43 x2 x12).f2) < (x192000.length : Int) then (if 0 ≤ ((rd_T43 x2 x12).f0) then (if ((rd_T43 x2 x12).f0) < (x8.length : Int) then (if 0 ≤ (rd x8 ((rd_T43 x2 x12).f0)) then (if (rd x8 ((rd_T43 x2 x12).f0)) < ((rd_L5 x192000 ((rd_T43 x2 x12).f2)).length : Int) then (if (rdOf false (rd_L5 x192000 ((rd_T43 x2 x12).f2)) (rd x8 ((rd_T43 x2 x12).f0)) = true) then (portcullisref21_Least.l2 k x2 x8 x11 (wrap64 (x12 + 1)) x192000) else ((portcullisref01_Order_Join.f k x192000 (([(rd_T43 x2 x12).f2, rd x8 ((rd_T43 x2 x12).f0)] : List Int))).bind fun t217 => (portcullisref21_Least.l2 k x2 (x8.set (((rd_T43 x2 x12).f0) : Int).toNat t217) true (wrap64 (x12 + 1)) x192000))) else (none)) else (none)) else (none)) else (none)) else (none)) else (none))) else (none)) else (portcullisref21_Least.l1 k x2 x8 x11 x192000)
end
def portcullisref21_Least.f (k : Nat) (l0_0 : List (List Bool)) (a1 : Int) (l2 : List (S43)) : Option (List Int × Int) := (portcullisref21_Right.f k l0_0 a1 l2).bind fun t192 => (if t192 = true then (if 0 ≤ a1 then (if (a1 : Int).toNat ≤ 35184372088832 then ((portcullisref01_Order_Join.f k l0_0 ([] : List Int)).bind fun t196 => (portcullisref21_Least.l0 k a1 l2 (List.replicate (a1 : Int).toNat 0) t196 0 l0_0)) else (none)) else (none)) else (some (([] : List Int), 72)))
theorem portcullisref21_Least.mono_l : ∀ k, (∀ y0 y1 y2 y3 y4 y5, LeO (portcullisref21_Least.l0 k y0 y1 y2 y3 y4 y5) (portcullisref21_Least.l0 (k + 1) y0 y1 y2 y3 y4 y5)) ∧ (∀ y0 y1 y2 y3, LeO (portcullisref21_Least.l1 k y0 y1 y2 y3) (portcullisref21_Least.l1 (k + 1) y0 y1 y2 y3)) ∧ (∀ y0 y1 y2 y3 y4, LeO (portcullisref21_Least.l2 k y0 y1 y2 y3 y4) (portcullisref21_Least.l2 (k + 1) y0 y1 y2 y3 y4))
  | 0 => ⟨fun _ _ _ _ _ _ r h => by simp [portcullisref21_Least.l0] at h, fun _ _ _ _ r h => by simp [portcullisref21_Least.l1] at h, fun _ _ _ _ _ r h => by simp [portcullisref21_Least.l2] at h⟩
  | k + 1 => by
    obtain ⟨ih0, ih1, ih2⟩ := portcullisref21_Least.mono_l k
    refine ⟨?_, ?_, ?_⟩
    · intro y0 y1 y2 y3 y4 y5
      unfold portcullisref21_Least.l0
      repeat' first
      | (with_reducible exact ih0 _ _ _ _ _ _)
      | (with_reducible exact ih1 _ _ _ _)
      | (with_reducible exact ih2 _ _ _ _ _)
      | (with_reducible exact portcullisref01_Order_Join.mono _ _ _)
      | (with_reducible exact portcullisref21_Right.mono _ _ _ _)
      | (with_reducible exact LeO.refl _)
      | (with_reducible exact LeO.none _)
      | (with_reducible refine LeO.ite ?_ ?_)
      | (with_reducible refine LeO.bind ?_ (fun _ => ?_))
      | exact ih0 _ _ _ _ _ _
      | exact ih1 _ _ _ _
      | exact ih2 _ _ _ _ _
      | exact portcullisref01_Order_Join.mono _ _ _
      | exact portcullisref21_Right.mono _ _ _ _
      | exact LeO.none _
      | refine LeO.ite ?_ ?_
      | refine LeO.bind ?_ (fun _ => ?_)
    · intro y0 y1 y2 y3
      unfold portcullisref21_Least.l1
      repeat' first
      | (with_reducible exact ih0 _ _ _ _ _ _)
      | (with_reducible exact ih1 _ _ _ _)
      | (with_reducible exact ih2 _ _ _ _ _)
      | (with_reducible exact portcullisref01_Order_Join.mono _ _ _)
      | (with_reducible exact portcullisref21_Right.mono _ _ _ _)
      | (with_reducible exact LeO.refl _)
      | (with_reducible exact LeO.none _)
      | (with_reducible refine LeO.ite ?_ ?_)
      | (with_reducible refine LeO.bind ?_ (fun _ => ?_))
      | exact ih0 _ _ _ _ _ _
      | exact ih1 _ _ _ _
      | exact ih2 _ _ _ _ _
      | exact portcullisref01_Order_Join.mono _ _ _
      | exact portcullisref21_Right.mono _ _ _ _
      | exact LeO.none _
      | refine LeO.ite ?_ ?_
      | refine LeO.bind ?_ (fun _ => ?_)
    · intro y0 y1 y2 y3 y4
      unfold portcullisref21_Least.l2
      repeat' first
      | (with_reducible exact ih0 _ _ _ _ _ _)
      | (with_reducible exact ih1 _ _ _ _)
      | (with_reducible exact ih2 _ _ _ _ _)
      | (with_reducible exact portcullisref01_Order_Join.mono _ _ _)
      | (with_reducible exact portcullisref21_Right.mono _ _ _ _)
      | (with_reducible exact LeO.refl _)
      | (with_reducible exact LeO.none _)
      | (with_reducible refine LeO.ite ?_ ?_)
      | (with_reducible refine LeO.bind ?_ (fun _ => ?_))
      | exact ih0 _ _ _ _ _ _
      | exact ih1 _ _ _ _
      | exact ih2 _ _ _ _ _
      | exact portcullisref01_Order_Join.mono _ _ _
      | exact portcullisref21_Right.mono _ _ _ _
      | exact LeO.none _
      | refine LeO.ite ?_ ?_
      | refine LeO.bind ?_ (fun _ => ?_)
theorem portcullisref21_Least.mono : ∀ a0 a1 a2 k, LeO (portcullisref21_Least.f k a0 a1 a2) (portcullisref21_Least.f (k + 1) a0 a1 a2) := by
  intro a0 a1 a2 k
  obtain ⟨ih0, ih1, ih2⟩ := portcullisref21_Least.mono_l k
  unfold portcullisref21_Least.f
  repeat' first
      | (with_reducible exact ih0 _ _ _ _ _ _)
      | (with_reducible exact ih1 _ _ _ _)
      | (with_reducible exact ih2 _ _ _ _ _)
      | (with_reducible exact portcullisref01_Order_Join.mono _ _ _)
      | (with_reducible exact portcullisref21_Right.mono _ _ _ _)
      | (with_reducible exact LeO.refl _)
      | (with_reducible exact LeO.none _)
      | (with_reducible refine LeO.ite ?_ ?_)
      | (with_reducible refine LeO.bind ?_ (fun _ => ?_))
      | exact ih0 _ _ _ _ _ _
      | exact ih1 _ _ _ _
      | exact ih2 _ _ _ _ _
      | exact portcullisref01_Order_Join.mono _ _ _
      | exact portcullisref21_Right.mono _ _ _ _
      | exact LeO.none _
      | refine LeO.ite ?_ ?_
      | refine LeO.bind ?_ (fun _ => ?_)
def portcullisref21_Least.T19 : Bool × List (List Nat × List Nat) := (true, [([], []), ([0], [0]), ([], []), ([1, 2], [1, 2]), ([3], [3]), ([], []), ([], []), ([6], [6]), ([5, 7], [5, 7]), ([8], [8]), ([4, 9], [4, 9]), ([10], [10]), ([11], [11])])
def portcullisref21_Least.B19 : List Nat := [0, 1, 0, 7, 15, 0, 0, 64, 224, 480, 1023, 2047, 4095]
theorem portcullisref21_Least.tab19 : rtab .any (opsOf Try.f16 19) = portcullisref21_Least.T19 := by kernel_rfl
theorem portcullisref21_Least.bits19 : waitsOk portcullisref21_Least.T19.2 portcullisref21_Least.B19 = true := by kernel_rfl
def portcullisref21_Least.T20 : Bool × List (List Nat × List Nat) := (true, [([], []), ([], []), ([1], [1]), ([], []), ([], []), ([], []), ([], []), ([6], [6]), ([5, 7], [5, 7]), ([8], [8]), ([4, 9], [4, 9]), ([3, 10], [3, 10]), ([0, 2, 0, 1, 2, 3, 4, 5, 6, 7, 8, 9, 10, 11], [0, 2]), ([12, 11, 11, 0, 1, 2, 3, 4, 5, 6, 7, 8, 9, 10, 11], [11, 12])])
def portcullisref21_Least.B20 : List Nat := [0, 0, 2, 0, 0, 0, 0, 64, 224, 480, 1008, 2040, 4095, 8191]
theorem portcullisref21_Least.tab20 : rtab .any (opsOf Try.f16 20) = portcullisref21_Least.T20 := by kernel_rfl
theorem portcullisref21_Least.bits20 : waitsOk portcullisref21_Least.T20.2 portcullisref21_Least.B20 = true := by kernel_rfl
set_option maxHeartbeats 8000000 in
set_option maxRecDepth 100000 in
theorem portcullisref21_Least.calls (k : Nat) (A0_0 : Option Addr) (c0_0 : Nat) (l0_0 : List (List Bool)) (a1 : Int) (A2 : Option Addr) (c2 : Nat) (l2 : List (S43)) (r1 : List Int) (r2 : Int) (w : World) (hr0_0 : Kd.C (Kd.slice 4 Kd.bool) w A0_0 l0_0.length l0_0) (hc0_0 : l0_0.length ≤ c0_0) (hr2 : Kd.C k43 w A2 l2.length l2) (hc2 : l2.length ≤ c2) (h : portcullisref21_Least.f k l0_0 a1 l2 = some (r1, r2)) :
    Calls Try.prog 16 #[.agg #[.slice A0_0 l0_0.length c0_0], .int .i64 a1, .slice A2 l2.length c2] w fun e w' => ∃ v0_ : Value, e = .returned (.tuple #[v0_, .int .i64 r2]) ∧ Kd.R (Kd.int .i64) 3 w' w.heap.size (fun _ => True) v0_ r1 ∧ Below w.heap.size w w' := by
  have hu31 := Try.underlying31
  have hu43 := Try.underlying43
  have HR0_0 := Aside0.mk hr0_0
  have HC0_0 := Aside0.mk hc0_0
  clear hr0_0 hc0_0
  have HR2 := Aside0.mk hr2
  have HC2 := Aside0.mk hc2
  clear hr2 hc2
  have HB := Aside0.mk (Below.refl w.heap.size w)
  have H : ((portcullisref21_Right.f k l0_0 a1 l2).bind fun t192 => (if t192 = true then (if 0 ≤ a1 then (if (a1 : Int).toNat ≤ 35184372088832 then ((portcullisref01_Order_Join.f k l0_0 ([] : List Int)).bind fun t196 => (portcullisref21_Least.l0 k a1 l2 (List.replicate (a1 : Int).toNat 0) t196 0 l0_0)) else (none)) else (none)) else (some (([] : List Int), 72)))) = some (r1, r2) := h
  clear h
  replace H := Option.bind_eq_some_iff.mp H
  obtain ⟨t192, A40, H⟩ := H
  replace H : (if t192 = true then (if 0 ≤ a1 then (if (a1 : Int).toNat ≤ 35184372088832 then ((portcullisref01_Order_Join.f k l0_0 ([] : List Int)).bind fun t196 => (portcullisref21_Least.l0 k a1 l2 (List.replicate (a1 : Int).toNat 0) t196 0 l0_0)) else (none)) else (none)) else (some (([] : List Int), 72))) = some (r1, r2) := H
  have A4 := Aside0.mk A40
  clear A40
  by_cases c5 : t192 = true
  · subst c5
    have H1 : (if 0 ≤ a1 then (if (a1 : Int).toNat ≤ 35184372088832 then ((portcullisref01_Order_Join.f k l0_0 ([] : List Int)).bind fun t196 => (portcullisref21_Least.l0 k a1 l2 (List.replicate (a1 : Int).toNat 0) t196 0 l0_0)) else (none)) else (none)) = some (r1, r2) := by rw [if_pos rfl] at H; exact H
    clear H
    have H := H1
    clear H1
    by_cases c6 : 0 ≤ a1
    · rw [if_pos c6] at H
      have c6b0 := eq_true c6
      have c6b1 : decide (0 ≤ a1) = true := decide_eq_true c6
      clear c6
      by_cases c7 : (a1 : Int).toNat ≤ 35184372088832
      · rw [if_pos c7] at H
        have c7b0 := eq_true c7
        have c7b1 : decide ((a1 : Int).toNat ≤ 35184372088832) = true := decide_eq_true c7
        clear c7
        obtain ⟨y193, hy193⟩ : ∃ y_ : List Int, y_ = (List.replicate (a1 : Int).toNat 0) := ⟨_, rfl⟩
        replace H : ((portcullisref01_Order_Join.f k l0_0 ([] : List Int)).bind fun t196 => (portcullisref21_Least.l0 k a1 l2 y193 t196 0 l0_0)) = some (r1, r2) := by first | (rw [hy193]; with_reducible exact H) | (have H2_ := (Option.bind_some _ _).symm.trans H; rw [hy193]; with_reducible exact H2_) | (have H2_ := (Option.bind_some _ _).symm.trans H; with_reducible exact H2_) | with_reducible exact H | (rw [hy193]; exact H) | exact H
        have Ny193 := Aside0.mk hy193
        clear hy193
        replace H := Option.bind_eq_some_iff.mp H
        obtain ⟨t196, A80, H⟩ := H
        replace H : (portcullisref21_Least.l0 k a1 l2 y193 t196 0 l0_0) = some (r1, r2) := H
        have A8 := Aside0.mk A80
        clear A80
        have H' := Aside0.mk H
        clear H
        go_enter Try.func16, Try.ntmps16
        go_wp2_with (first | ((with_reducible refine gate_dst (N := 3) rfl ?_); refine box_event ?hg (N := 3) ?hd (cs := #[.slice A0_0 l0_0.length c0_0]) (t := 31) ?hr ?_; (case hd => rfl); (case hg => rfl); (case hr => first | (go_simp; done) | (go_simp; rfl)); intro gb191 hg w9 hbox hb; have n0_ := Aside0.mk (below_step (by repeat (first | (with_reducible first | exact HB.out | apply below_alloc | apply pw_below_drewN | apply below_drew1) | exact HB.out)) hb); have n1_ := Aside0.mk (hbox); have n2_ := Aside0.mk ((by rw [hg]; exact (below_size (by repeat (first | (with_reducible first | exact HB.out | apply below_alloc | apply pw_below_drewN | apply below_drew1) | exact HB.out))) : w.heap.size ≤ gb191)); have n3_ := Aside0.mk ((by rw [hg]; exact (below_size (by repeat (first | (with_reducible first | exact HB.out | apply below_alloc | apply pw_below_drewN | apply below_drew1) | exact HB.out))) : w.heap.size ≤ gb191)); clear HB; have HB := n0_; have BK191 := n1_; have GW191 := n2_; have GE191 := n3_; clear n0_ n1_ n2_ n3_; clear hb hbox hg; have hcz10_0 : w9.cell? ⟨gb191, 0, none⟩ = some (.slice A0_0 l0_0.length c0_0) := (blk_cell BK191.out 0).trans rfl; have hfz10_0 := blk_frozen BK191.out 0) | ((with_reducible refine gate_callee (f := 39) rfl ?_); refine goesL_ (some 18) rfl rfl Try.func39 (by kernel_rfl) rfl #[.agg #[.slice A0_0 l0_0.length c0_0], .int .i64 a1, .slice A2 l2.length c2] rfl (by (try simp only [List.map_toArray, List.map_cons, List.map_nil]); first | done | rfl | (simp only [List.length_drop, List.length_take]; rfl)) ?_; (with_reducible refine (portcullisref21_Right.calls k _ _ l0_0 a1 _ _ l2 true _ ?side1 ?side2 ?side3 ?side4 A4.out).mono ?_); (case side1 => repeat (first | exact (Kd.C_below HR0_0.out HB.out) | (with_reducible refine Kd.C_alloc ?_ _) | (with_reducible refine Kd.C_drewN ?_ _) | (with_reducible refine Kd.C_drew ?_))); (case side2 => exact HC0_0.out); (case side3 => repeat (first | exact (Kd.C_below HR2.out HB.out) | (with_reducible refine Kd.C_alloc ?_ _) | (with_reducible refine Kd.C_drewN ?_ _) | (with_reducible refine Kd.C_drew ?_))); (case side4 => exact HC2.out); rintro e w11 ⟨rfl, hb⟩; refine ⟨_, rfl, ?_⟩; have n0_ := Aside0.mk (blk_below (g := gb191) (o := .cells #[.slice A0_0 l0_0.length c0_0] 31 (0, 0)) (by (with_reducible repeat (first | refine blk_drewN ?_ _ | refine blk_drew ?_ | refine blk_alloc ?_ _)); exact BK191.out) hb); have n1_ := Aside0.mk (below_step (by repeat (first | (with_reducible first | exact HB.out | apply below_alloc | apply pw_below_drewN | apply below_drew1 | refine below_set ?_ GE191.out) | exact HB.out)) hb); clear BK191; clear HB; have BK191 := n0_; have HB := n1_; clear n0_ n1_; (try clear hb); (try clear hb2); (try clear hk); (try clear hi)) | ((with_reducible refine gate_dst (N := 21) rfl ?_); refine Kd.R_make (Kd.int .i64) _ 3 rfl (N := 21) rfl 26 _ _ rfl a1 rfl rfl Try.underlying26 (.int .i64 0) 8 info3 rfl (by decide) (by omega) 0 (ok := fun _ => True) (okp := fun _ => True) rfl (fun _ hk => hk) trivial (of_decide_eq_true (by first | (with_reducible assumption) | assumption)) (Nat.le_trans (Nat.mul_le_mul_right _ (of_decide_eq_true (by first | (with_reducible assumption) | assumption) : a1.toNat ≤ 35184372088832)) (by omega)) (Below.refl _ _) (Nat.le_refl _) ?_; intro v194 w12 ho13 hb hg_ hnew_; clear hg_ hnew_; (first | rw [← Ny193.out] at ho13 | (simp only [Int.reduceToNat] at ho13; rw [← Ny193.out] at ho13)); have n0_ := Aside0.mk (Kd.R_lower ho13 (below_size (by repeat (first | (with_reducible first | exact HB.out | apply below_alloc | apply pw_below_drewN | apply below_drew1 | refine below_set ?_ GE191.out) | exact HB.out)))); have n1_ := Aside0.mk (blk_below (g := gb191) (o := .cells #[.slice A0_0 l0_0.length c0_0] 31 (0, 0)) (by (with_reducible repeat (first | refine blk_drewN ?_ _ | refine blk_drew ?_ | refine blk_alloc ?_ _)); exact BK191.out) hb); have n2_ := Aside0.mk (below_step (by repeat (first | (with_reducible first | exact HB.out | apply below_alloc | apply pw_below_drewN | apply below_drew1 | refine below_set ?_ GE191.out) | exact HB.out)) hb); clear BK191; clear HB; have HO195 := n0_; have BK191 := n1_; have HB := n2_; clear n0_ n1_ n2_; clear hb ho13; have hcz14_0 : w12.cell? ⟨gb191, 0, none⟩ = some (.slice A0_0 l0_0.length c0_0) := (blk_cell BK191.out 0).trans rfl; have hfz14_0 := blk_frozen BK191.out 0) | ((with_reducible refine gate_callee (f := 40) rfl ?_); refine goesL_ (some 23) rfl rfl Try.func40 (by kernel_rfl) rfl #[.agg #[.slice A0_0 l0_0.length c0_0], .slice none 0 0] rfl (by (try simp only [List.map_toArray, List.map_cons, List.map_nil]); first | done | rfl | (simp only [List.length_drop, List.length_take]; rfl)) ?_; (refine (portcullisref01_Order_Join.calls k _ _ l0_0 _ _ ([] : List Int) t196 _ ?side1 ?side2 ?side3 ?side4 A8.out).mono ?_); (case side1 => repeat (first | exact (Kd.C_below HR0_0.out HB.out) | (with_reducible refine Kd.C_alloc ?_ _) | (with_reducible refine Kd.C_drewN ?_ _) | (with_reducible refine Kd.C_drew ?_))); (case side2 => exact HC0_0.out); (case side3 => exact Kd.C_nil _ _); (case side4 => exact Nat.le_refl _); rintro e w15 ⟨rfl, hb⟩; refine ⟨_, rfl, ?_⟩; have n0_ := Aside0.mk (Kd.R_below (by (with_reducible repeat (first | apply Kd.R_alloc | apply Kd.R_drewN | apply Kd.R_drew)); exact HO195.out) hb); have n1_ := Aside0.mk (blk_below (g := gb191) (o := .cells #[.slice A0_0 l0_0.length c0_0] 31 (0, 0)) (by (with_reducible repeat (first | refine blk_drewN ?_ _ | refine blk_drew ?_ | refine blk_alloc ?_ _)); exact BK191.out) hb); have n2_ := Aside0.mk (below_step (by repeat (first | (with_reducible first | exact HB.out | apply below_alloc | apply pw_below_drewN | apply below_drew1 | refine below_set ?_ GE191.out) | exact HB.out)) hb); clear HO195; clear BK191; clear HB; have HO195 := n0_; have BK191 := n1_; have HB := n2_; clear n0_ n1_ n2_; (try clear hb); (try clear hb2); (try clear hk); (try clear hi)))
        go_loopg [10] k (fun kq v10 w' => ∃ (x8_1 : List Int) (x10_1 : Int), v10 = .int .i64 x10_1 ∧ Aside0 (portcullisref21_Least.l0 kq a1 l2 x8_1 t196 x10_1 l0_0 = some (r1, r2)) ∧ Aside0 (kq ≤ k) ∧ Aside0 (Kd.R (Kd.int .i64) 3 w' w.heap.size (fun _ => True) v194 x8_1) ∧ Aside0 (w'.heap[gb191]? = some (.cells #[(.slice A0_0 l0_0.length c0_0)] 31 (0, 0))) ∧ Aside0 (Below w.heap.size w w'))
        case atStart => exact ⟨(y193), (0), (by first | rfl | (simp; done) | (simp [*]; done)), H', ⟨Nat.le_refl _⟩, ⟨by (with_reducible repeat (first | apply Kd.R_alloc | apply Kd.R_drewN | apply Kd.R_drew)); exact HO195.out⟩, ⟨by (with_reducible repeat (first | refine blk_drewN ?_ _ | refine blk_drew ?_ | refine blk_alloc ?_ _)); exact BK191.out⟩, ⟨by repeat (first | (with_reducible first | exact HB.out | apply below_alloc | apply pw_below_drewN | apply below_drew1 | refine below_set ?_ GE191.out) | exact HB.out)⟩⟩
        case round =>
          clear H'
          try clear c1
          try clear c2
          try clear p2
          try clear c3
          try clear c4
          try clear c5
          try clear c6
          try clear c6b0
          try clear c6b1
          try clear c7
          try clear c7b0
          try clear c7b1
          try clear hcz10_0
          try clear hcz14_0
          try clear hfz10_0
          try clear hfz14_0
          obtain ⟨x8_1, x10_1, rfl, HA, HK1, HO_8, BK191, HB⟩ := hrel
          cases gk with
          | zero => exact absurd HA.out (by simp [portcullisref21_Least.l0])
          | succ k1 =>
            have H := HA.out
            clear HA
            simp only [portcullisref21_Least.l0] at H
            by_cases c16 : x10_1 < a1
            · rw [if_pos c16] at H
              have c16b0 : decide (x10_1 < a1) = true := decide_eq_true c16
              clear c16
              by_cases c17 : 0 ≤ x10_1
              · rw [if_pos c17] at H
                have c17b0 : decide (0 ≤ x10_1) = true := decide_eq_true c17
                clear c17
                by_cases c18 : x10_1 < (x8_1.length : Int)
                · rw [if_pos c18] at H
                  have c18b0 : decide (x10_1 < (x8_1.length : Int)) = true := decide_eq_true c18
                  clear c18
                  obtain ⟨y197, hy197⟩ : ∃ y_ : List Int, y_ = (x8_1.set (x10_1 : Int).toNat t196) := ⟨_, rfl⟩
                  replace H : (portcullisref21_Least.l0 k1 a1 l2 y197 t196 (wrap64 (x10_1 + 1)) l0_0) = some (r1, r2) := by first | (rw [hy197]; with_reducible exact H) | (have H2_ := (Option.bind_some _ _).symm.trans H; rw [hy197]; with_reducible exact H2_) | (have H2_ := (Option.bind_some _ _).symm.trans H; with_reducible exact H2_) | with_reducible exact H | (rw [hy197]; exact H) | exact H
                  have Ny197 := Aside0.mk hy197
                  clear hy197
                  have H' := Aside0.mk H
                  clear H
                  have p19 : 0 ≤ (x10_1 : Int) := of_decide_eq_true (by first | (with_reducible assumption) | assumption)
                  have q19 : (x10_1 : Int) < ((x8_1.length : Int) : Int) := of_decide_eq_true (by first | (with_reducible assumption) | assumption)
                  obtain ⟨go19, co19, eo19, gb19, gl19, cl19, HG19⟩ := Kd.R_form HO_8.out (by omega)
                  (first | cases eo19 | (injection eo19 with ea_ en_ ec_; (first | subst ea_ | (injection ea_ with ea_; subst ea_)); subst ec_; clear en_))
                  have GB19 := Aside0.mk gb19
                  have GG19 := Aside0.mk HG19
                  clear gb19 gl19 HG19
                  obtain ⟨hx19_0, hf19_0⟩ := Kd.R_celln 0 HO_8.out (x10_1 : Int) p19 q19
                  replace p19 := eq_true p19
                  replace q19 := eq_true q19
                  have HP20 := Kd.R_putg HO_8.out (x10_1 : Int) t196
                  go_wp2_with (first | ((with_reducible refine gate_store (t := 3) (p := 32) rfl ?_); refine store_event (t := 3) (p := 32) (v := ?vo_w21) (w1 := (wr.setCell ⟨go19, (x10_1 : Int).toNat, none⟩ (.int .i64 t196))) ?hg ?ho ?hn ?hr ?_; (case ho => rfl); (case hg => rfl); (case hn => rfl); (case hr => first | (go_simp; done) | (go_simp; rfl)); intro w21 hw; have hg : wr.grownBy w21 (some go19) := (by rw [hw]; exact HP20.2); have hp_ : Kd.R (Kd.int .i64) 3 w21 w.heap.size (fun _ => True) (.slice (some ⟨go19, 0, none⟩) x8_1.length co19) y197 := (by rw [hw, Ny197.out]; exact HP20.1); clear HP20; have n0_ := Aside0.mk (hp_); have n1_ := Aside0.mk (blk_grown (g := gb191) (o := .cells #[.slice A0_0 l0_0.length c0_0] 31 (0, 0)) (by (with_reducible repeat (first | refine blk_drewN ?_ _ | refine blk_drew ?_ | refine blk_alloc ?_ _)); exact BK191.out) hg (Kd.R_ne HO_8.out BK191.out (by decide))); have n2_ := Aside0.mk ((by rw [hw]; exact below_set (HB.out) GB19.out : Below w.heap.size w w21)); clear HO_8; clear BK191; clear HB; have HO_8 := n0_; have BK191 := n1_; have HB := n2_; clear n0_ n1_ n2_; clear hg hw hp_))
                  go_roundg k1
                  case measure => have := HK1.out; omega
                  case rel => exact ⟨(y197), (wrap64 (x10_1 + 1)), (by first | rfl | (simp; done) | (simp [*]; done)), H', ⟨by have := HK1.out; omega⟩, ⟨by (with_reducible repeat (first | apply Kd.R_alloc | apply Kd.R_drewN | apply Kd.R_drew)); exact HO_8.out⟩, ⟨by (with_reducible repeat (first | refine blk_drewN ?_ _ | refine blk_drew ?_ | refine blk_alloc ?_ _)); exact BK191.out⟩, ⟨by repeat (first | (with_reducible first | exact HB.out | apply below_alloc | apply pw_below_drewN | apply below_drew1 | refine below_set ?_ GE191.out) | exact HB.out)⟩⟩
                · rw [if_neg c18] at H
                  exact absurd H (by simp)
              · rw [if_neg c17] at H
                exact absurd H (by simp)
            · rw [if_neg c16] at H
              have c16b0 : decide (x10_1 < a1) = false := decide_eq_false c16
              clear c16
              have H' := Aside0.mk H
              clear H
              go_wp2
              go_loopg [11] k1 (fun kq v11 w' => ∃ (x8_2 : List Int) (x11_2 : Bool), v11 = .bool x11_2 ∧ Aside0 (portcullisref21_Least.l1 kq l2 x8_2 x11_2 l0_0 = some (r1, r2)) ∧ Aside0 (kq ≤ k1) ∧ Aside0 (Kd.R (Kd.int .i64) 3 w' w.heap.size (fun _ => True) v194 x8_2) ∧ Aside0 (w'.heap[gb191]? = some (.cells #[(.slice A0_0 l0_0.length c0_0)] 31 (0, 0))) ∧ Aside0 (Below w.heap.size w w'))
              case atStart => exact ⟨(x8_1), (true), (by first | rfl | (simp; done) | (simp [*]; done)), H', ⟨Nat.le_refl _⟩, ⟨by (with_reducible repeat (first | apply Kd.R_alloc | apply Kd.R_drewN | apply Kd.R_drew)); exact HO_8.out⟩, ⟨by (with_reducible repeat (first | refine blk_drewN ?_ _ | refine blk_drew ?_ | refine blk_alloc ?_ _)); exact BK191.out⟩, ⟨by repeat (first | (with_reducible first | exact HB.out | apply below_alloc | apply pw_below_drewN | apply below_drew1 | refine below_set ?_ GE191.out) | exact HB.out)⟩⟩
              case round =>
                clear H'
                try clear c1
                try clear p1
                try clear q1
                try clear hx1
                try clear c2
                try clear p2
                try clear c3
                try clear c4
                try clear c5
                try clear c6
                try clear c6b0
                try clear c6b1
                try clear p6
                try clear c7
                try clear c7b0
                try clear c7b1
                try clear c16
                try clear c16b0
                try clear c17
                try clear c17b0
                try clear c18
                try clear c18b0
                try clear p19
                try clear q19
                try clear hx19
                try clear hf19
                try clear hcz10_0
                try clear hcz14_0
                try clear hfz10_0
                try clear hfz14_0
                try clear hx19_0
                try clear p19
                try clear p2
                try clear q19
                obtain ⟨x8_2, x11_2, rfl, HA, HK2, HO_8, BK191, HB⟩ := hrel
                cases gk with
                | zero => exact absurd HA.out (by simp [portcullisref21_Least.l1])
                | succ k2 =>
                  have H := HA.out
                  clear HA
                  simp only [portcullisref21_Least.l1] at H
                  by_cases c22 : x11_2 = true
                  · subst c22
                    have H1 : (portcullisref21_Least.l2 k2 l2 x8_2 false 0 l0_0) = some (r1, r2) := by rw [if_pos rfl] at H; exact H
                    clear H
                    have H := H1
                    clear H1
                    have H' := Aside0.mk H
                    clear H
                    go_wp2
                    go_loopg [11, 12] k2 (fun kq v11 v12 w' => ∃ (x8_3 : List Int) (x11_3 : Bool) (x12_3 : Int), v11 = .bool x11_3 ∧ v12 = .int .i64 x12_3 ∧ Aside0 (portcullisref21_Least.l2 kq l2 x8_3 x11_3 x12_3 l0_0 = some (r1, r2)) ∧ Aside0 (kq ≤ k2) ∧ Aside0 (Kd.R (Kd.int .i64) 3 w' w.heap.size (fun _ => True) v194 x8_3) ∧ Aside0 (w'.heap[gb191]? = some (.cells #[(.slice A0_0 l0_0.length c0_0)] 31 (0, 0))) ∧ Aside0 (Below w.heap.size w w'))
                    case atStart => exact ⟨(x8_2), (false), (0), (by first | rfl | (simp; done) | (simp [*]; done)), (by first | rfl | (simp; done) | (simp [*]; done)), H', ⟨Nat.le_refl _⟩, ⟨by (with_reducible repeat (first | apply Kd.R_alloc | apply Kd.R_drewN | apply Kd.R_drew)); exact HO_8.out⟩, ⟨by (with_reducible repeat (first | refine blk_drewN ?_ _ | refine blk_drew ?_ | refine blk_alloc ?_ _)); exact BK191.out⟩, ⟨by repeat (first | (with_reducible first | exact HB.out | apply below_alloc | apply pw_below_drewN | apply below_drew1 | refine below_set ?_ GE191.out) | exact HB.out)⟩⟩
                    case round =>
                      clear H'
                      try clear c1
                      try clear p1
                      try clear q1
                      try clear hx1
                      try clear c2
                      try clear p2
                      try clear c3
                      try clear c4
                      try clear c5
                      try clear c6
                      try clear c6b0
                      try clear c6b1
                      try clear p6
                      try clear c7
                      try clear c7b0
                      try clear c7b1
                      try clear c16
                      try clear c16b0
                      try clear c17
                      try clear c17b0
                      try clear c18
                      try clear c18b0
                      try clear p19
                      try clear q19
                      try clear hx19
                      try clear hf19
                      try clear c22
                      try clear hcz10_0
                      try clear hcz14_0
                      try clear hfz10_0
                      try clear hfz14_0
                      try clear hx19_0
                      try clear p1
                      try clear p19
                      try clear p2
                      try clear p6
                      try clear q1
                      try clear q19
                      obtain ⟨x8_3, x11_3, x12_3, rfl, rfl, HA, HK3, HO_8, BK191, HB⟩ := hrel
                      cases gk with
                      | zero => exact absurd HA.out (by simp [portcullisref21_Least.l2])
                      | succ k3 =>
                        have H := HA.out
                        clear HA
                        simp only [portcullisref21_Least.l2] at H
                        by_cases c23 : x12_3 < (l2.length : Int)
                        · rw [if_pos c23] at H
                          have c23b0 : decide (x12_3 < (l2.length : Int)) = true := decide_eq_true c23
                          clear c23
                          by_cases c24 : 0 ≤ x12_3
                          · rw [if_pos c24] at H
                            have c24b0 : decide (0 ≤ x12_3) = true := decide_eq_true c24
                            clear c24
                            by_cases c25 : ((rd_T43 l2 x12_3).f1) ≥ 0
                            · rw [if_pos c25] at H
                              have c25b0 : decide (0 ≤ ((rd_T43 l2 x12_3).f1)) = true := decide_eq_true c25
                              clear c25
                              by_cases c26 : 0 ≤ ((rd_T43 l2 x12_3).f1)
                              · rw [if_pos c26] at H
                                have c26b0 : decide (0 ≤ ((rd_T43 l2 x12_3).f1)) = true := decide_eq_true c26
                                clear c26
                                by_cases c27 : ((rd_T43 l2 x12_3).f1) < (x8_3.length : Int)
                                · rw [if_pos c27] at H
                                  have c27b0 : decide (((rd_T43 l2 x12_3).f1) < (x8_3.length : Int)) = true := decide_eq_true c27
                                  clear c27
                                  by_cases c28 : 0 ≤ (rd x8_3 ((rd_T43 l2 x12_3).f1))
                                  · rw [if_pos c28] at H
                                    have c28b0 : decide (0 ≤ (rd x8_3 ((rd_T43 l2 x12_3).f1))) = true := decide_eq_true c28
                                    clear c28
                                    by_cases c29 : (rd x8_3 ((rd_T43 l2 x12_3).f1)) < (l0_0.length : Int)
                                    · rw [if_pos c29] at H
                                      have c29b0 : decide ((rd x8_3 ((rd_T43 l2 x12_3).f1)) < (l0_0.length : Int)) = true := decide_eq_true c29
                                      clear c29
                                      by_cases c30 : 0 ≤ ((rd_T43 l2 x12_3).f0)
                                      · rw [if_pos c30] at H
                                        have c30b0 : decide (0 ≤ ((rd_T43 l2 x12_3).f0)) = true := decide_eq_true c30
                                        clear c30
                                        by_cases c31 : ((rd_T43 l2 x12_3).f0) < (x8_3.length : Int)
                                        · rw [if_pos c31] at H
                                          have c31b0 : decide (((rd_T43 l2 x12_3).f0) < (x8_3.length : Int)) = true := decide_eq_true c31
                                          clear c31
                                          by_cases c32 : 0 ≤ (rd x8_3 ((rd_T43 l2 x12_3).f0))
                                          · rw [if_pos c32] at H
                                            have c32b0 : decide (0 ≤ (rd x8_3 ((rd_T43 l2 x12_3).f0))) = true := decide_eq_true c32
                                            clear c32
                                            by_cases c33 : (rd x8_3 ((rd_T43 l2 x12_3).f0)) < ((rd_L5 l0_0 (rd x8_3 ((rd_T43 l2 x12_3).f1))).length : Int)
                                            · rw [if_pos c33] at H
                                              have c33b0 : decide ((rd x8_3 ((rd_T43 l2 x12_3).f0)) < ((rd_L5 l0_0 (rd x8_3 ((rd_T43 l2 x12_3).f1))).length : Int)) = true := decide_eq_true c33
                                              clear c33
                                              obtain ⟨bq34, hbq34⟩ : ∃ b_ : Bool, b_ = (rdOf false (rd_L5 l0_0 (rd x8_3 ((rd_T43 l2 x12_3).f1))) (rd x8_3 ((rd_T43 l2 x12_3).f0))) := ⟨_, rfl⟩
                                              replace H : (if (bq34 = true) then (portcullisref21_Least.l2 k3 l2 x8_3 x11_3 (wrap64 (x12_3 + 1)) l0_0) else ((portcullisref01_Order_Join.f k3 l0_0 (([rd x8_3 ((rd_T43 l2 x12_3).f1), rd x8_3 ((rd_T43 l2 x12_3).f0)] : List Int))).bind fun t208 => (portcullisref21_Least.l2 k3 l2 (x8_3.set (((rd_T43 l2 x12_3).f0) : Int).toNat t208) true (wrap64 (x12_3 + 1)) l0_0))) = some (r1, r2) := by rw [← hbq34] at H; exact H
                                              have Nbq34 := Aside0.mk hbq34
                                              clear hbq34
                                              by_cases c35 : (bq34 = true)
                                              · subst c35
                                                have H1 : (portcullisref21_Least.l2 k3 l2 x8_3 x11_3 (wrap64 (x12_3 + 1)) l0_0) = some (r1, r2) := by rw [if_pos rfl] at H; exact H
                                                clear H
                                                have H := H1
                                                clear H1
                                                have H' := Aside0.mk H
                                                clear H
                                                have p198 : 0 ≤ (x12_3 : Int) := of_decide_eq_true (by first | (with_reducible assumption) | assumption)
                                                have q198 : x12_3 < (l2.length : Int) := of_decide_eq_true (by first | (with_reducible assumption) | assumption)
                                                obtain ⟨ad198, e198, hx198_0, hx198_1, hx198_2⟩ := at_T43 HR2.out x12_3 p198 q198
                                                cases e198
                                                replace hx198_0 := (HB.out.cell (World.block_lt_of_cell? w _ hx198_0)).trans hx198_0
                                                replace hx198_1 := (HB.out.cell (World.block_lt_of_cell? w _ hx198_1)).trans hx198_1
                                                replace hx198_2 := (HB.out.cell (World.block_lt_of_cell? w _ hx198_2)).trans hx198_2
                                                replace p198 := eq_true p198
                                                replace q198 := eq_true q198
                                                try go_wp2_with (first | ((with_reducible refine gate_dst (N := 13) rfl ?_); refine box_event ?hg (N := 13) ?hd (cs := #[.int .i64 0, .int .i64 0, .int .i64 0]) (t := 43) ?hr ?_; (case hd => rfl); (case hg => rfl); (case hr => first | (go_simp; done) | (go_simp; rfl)); intro gb199 hg w36 hbox hb; have n0_ := Aside0.mk (Kd.R_below (by (with_reducible repeat (first | apply Kd.R_alloc | apply Kd.R_drewN | apply Kd.R_drew)); exact HO_8.out) hb); have n1_ := Aside0.mk (blk_below (g := gb191) (o := .cells #[.slice A0_0 l0_0.length c0_0] 31 (0, 0)) (by (with_reducible repeat (first | refine blk_drewN ?_ _ | refine blk_drew ?_ | refine blk_alloc ?_ _)); exact BK191.out) hb); have n2_ := Aside0.mk (below_step (by repeat (first | (with_reducible first | exact HB.out | apply below_alloc | apply pw_below_drewN | apply below_drew1 | refine below_set ?_ GE191.out) | exact HB.out)) hb); have n3_ := Aside0.mk (hbox); have n4_ := Aside0.mk ((by rw [hg]; exact (below_size (by repeat (first | (with_reducible first | exact HB.out | apply below_alloc | apply pw_below_drewN | apply below_drew1 | refine below_set ?_ GE191.out) | exact HB.out))) : w.heap.size ≤ gb199)); have n5_ := Aside0.mk ((by rw [hg]; exact (below_size (by repeat (first | (with_reducible first | exact HB.out | apply below_alloc | apply pw_below_drewN | apply below_drew1 | refine below_set ?_ GE191.out) | exact HB.out))) : w.heap.size ≤ gb199)); have n6_ := Aside0.mk ((by rw [hg]; exact Nat.ne_of_lt (blk_lt (g := gb191) (o := .cells #[.slice A0_0 l0_0.length c0_0] 31 (0, 0)) (by (with_reducible repeat (first | refine blk_drewN ?_ _ | refine blk_drew ?_ | refine blk_alloc ?_ _)); exact BK191.out)) : gb191 ≠ gb199)); have n7_ := Aside0.mk ((by rw [hg]; exact Nat.ne_of_gt (blk_lt (g := gb191) (o := .cells #[.slice A0_0 l0_0.length c0_0] 31 (0, 0)) (by (with_reducible repeat (first | refine blk_drewN ?_ _ | refine blk_drew ?_ | refine blk_alloc ?_ _)); exact BK191.out)) : gb199 ≠ gb191)); clear HO_8; clear BK191; clear HB; have HO_8 := n0_; have BK191 := n1_; have HB := n2_; have BK199 := n3_; have GW199 := n4_; have GE199 := n5_; have NB191_199 := n6_; have NB199_191 := n7_; clear n0_ n1_ n2_ n3_ n4_ n5_ n6_ n7_; clear hb hbox hg; have hnb37 := NB199_191.out; have hnc37 := NB191_199.out; have hcz38_0 : w36.cell? ⟨gb199, 0, none⟩ = some (.int .i64 0) := (blk_cell BK199.out 0).trans rfl; have hcz38_1 : w36.cell? ⟨gb199, 1, none⟩ = some (.int .i64 0) := (blk_cell BK199.out 1).trans rfl; have hcz38_2 : w36.cell? ⟨gb199, 2, none⟩ = some (.int .i64 0) := (blk_cell BK199.out 2).trans rfl; have hfz38_0 := blk_frozen BK199.out 0; have hfz38_1 := blk_frozen BK199.out 1; have hfz38_2 := blk_frozen BK199.out 2; obtain ⟨Ao39, co39, eo39⟩ := Kd.R_slice HO_8.out; subst eo39; have p200 : 0 ≤ (((rd_T43 l2 x12_3).f1) : Int) := of_decide_eq_true (by first | (with_reducible assumption) | assumption); have q200 : ((rd_T43 l2 x12_3).f1) < (x8_3.length : Int) := of_decide_eq_true (by first | (with_reducible assumption) | assumption); obtain ⟨ad200, e200, hx200_0⟩ := Kd.at_int (Kd.R_reads' HO_8.out).2.2 ((rd_T43 l2 x12_3).f1) p200 q200; cases e200; have hn200_0 : ad200.block ≠ gb199 := Kd.own_blk (Kd.R_ne HO_8.out BK199.out (by decide)); have hn200_1 : ad200.block ≠ gb199 := Kd.own_blk (Kd.R_ne HO_8.out BK199.out (by decide)); have hn200_2 : ad200.block ≠ gb199 := Kd.own_blk (Kd.R_ne HO_8.out BK199.out (by decide)); replace hx200_0 := (cell_far (p := ⟨gb199, 0, none⟩) (by first | (rw [add_block]; exact hn200_0) | (show (Addr.add _ _).block ≠ _; rw [add_block]; exact hn200_0) | exact hn200_0) (.int .i64 ((rd_T43 l2 x12_3).f0))).trans hx200_0; replace hx200_0 := (cell_far (p := ⟨gb199, 1, none⟩) (by first | (rw [add_block]; exact hn200_1) | (show (Addr.add _ _).block ≠ _; rw [add_block]; exact hn200_1) | exact hn200_1) (.int .i64 ((rd_T43 l2 x12_3).f1))).trans hx200_0; replace hx200_0 := (cell_far (p := ⟨gb199, 2, none⟩) (by first | (rw [add_block]; exact hn200_2) | (show (Addr.add _ _).block ≠ _; rw [add_block]; exact hn200_2) | exact hn200_2) (.int .i64 ((rd_T43 l2 x12_3).f2))).trans hx200_0; clear hn200_0; clear hn200_1; clear hn200_2; replace p200 := eq_true p200; replace q200 := eq_true q200))
                                                have n0_ : Aside0 (Kd.R (Kd.int .i64) 3 (((w36.setCell ⟨gb199, 0, none⟩ (.int .i64 ((rd_T43 l2 x12_3).f0))).setCell ⟨gb199, 1, none⟩ (.int .i64 ((rd_T43 l2 x12_3).f1))).setCell ⟨gb199, 2, none⟩ (.int .i64 ((rd_T43 l2 x12_3).f2))) w.heap.size (fun _ => True) (.slice (some ad200) x8_3.length co39) x8_3) := ⟨by (with_reducible repeat (first | apply Kd.R_alloc | apply Kd.R_drewN | apply Kd.R_drew)); exact Kd.R_mono (Kd.R_far (p := ⟨gb199, 2, none⟩) (Kd.R_far (p := ⟨gb199, 1, none⟩) (Kd.R_far (p := ⟨gb199, 0, none⟩) (Kd.R_types HO_8.out BK199.out (by decide)) (fun _ hk => hk.2) (.int .i64 ((rd_T43 l2 x12_3).f0))) (fun _ hk => hk.2) (.int .i64 ((rd_T43 l2 x12_3).f1))) (fun _ hk => hk.2) (.int .i64 ((rd_T43 l2 x12_3).f2))) (fun _ hk => trivial)⟩
                                                have n1_ : Aside0 ((((w36.setCell ⟨gb199, 0, none⟩ (.int .i64 ((rd_T43 l2 x12_3).f0))).setCell ⟨gb199, 1, none⟩ (.int .i64 ((rd_T43 l2 x12_3).f1))).setCell ⟨gb199, 2, none⟩ (.int .i64 ((rd_T43 l2 x12_3).f2))).heap[gb191]? = some (.cells #[.slice A0_0 l0_0.length c0_0] 31 (0, 0))) := ⟨by (with_reducible repeat (first | refine blk_drewN ?_ _ | refine blk_drew ?_ | refine blk_alloc ?_ _)); refine blk_far ?_ NB191_199.out _; (with_reducible repeat (first | refine blk_drewN ?_ _ | refine blk_drew ?_ | refine blk_alloc ?_ _)); refine blk_far ?_ NB191_199.out _; (with_reducible repeat (first | refine blk_drewN ?_ _ | refine blk_drew ?_ | refine blk_alloc ?_ _)); refine blk_far ?_ NB191_199.out _; (with_reducible repeat (first | refine blk_drewN ?_ _ | refine blk_drew ?_ | refine blk_alloc ?_ _)); exact BK191.out⟩
                                                have n2_ : Aside0 ((((w36.setCell ⟨gb199, 0, none⟩ (.int .i64 ((rd_T43 l2 x12_3).f0))).setCell ⟨gb199, 1, none⟩ (.int .i64 ((rd_T43 l2 x12_3).f1))).setCell ⟨gb199, 2, none⟩ (.int .i64 ((rd_T43 l2 x12_3).f2))).heap[gb199]? = some (.cells #[.int .i64 ((rd_T43 l2 x12_3).f0), .int .i64 ((rd_T43 l2 x12_3).f1), .int .i64 ((rd_T43 l2 x12_3).f2)] 43 (0, 0))) := ⟨by (with_reducible repeat (first | refine blk_drewN ?_ _ | refine blk_drew ?_ | refine blk_alloc ?_ _)); refine blk_put (cs := #[.int .i64 ((rd_T43 l2 x12_3).f0), .int .i64 ((rd_T43 l2 x12_3).f1), .int .i64 0]) ?_ 2 _ rfl; (with_reducible repeat (first | refine blk_drewN ?_ _ | refine blk_drew ?_ | refine blk_alloc ?_ _)); refine blk_put (cs := #[.int .i64 ((rd_T43 l2 x12_3).f0), .int .i64 0, .int .i64 0]) ?_ 1 _ rfl; (with_reducible repeat (first | refine blk_drewN ?_ _ | refine blk_drew ?_ | refine blk_alloc ?_ _)); refine blk_put (cs := #[.int .i64 0, .int .i64 0, .int .i64 0]) ?_ 0 _ rfl; (with_reducible repeat (first | refine blk_drewN ?_ _ | refine blk_drew ?_ | refine blk_alloc ?_ _)); exact BK199.out⟩
                                                have n3_ : Aside0 (Below w.heap.size w (((w36.setCell ⟨gb199, 0, none⟩ (.int .i64 ((rd_T43 l2 x12_3).f0))).setCell ⟨gb199, 1, none⟩ (.int .i64 ((rd_T43 l2 x12_3).f1))).setCell ⟨gb199, 2, none⟩ (.int .i64 ((rd_T43 l2 x12_3).f2)))) := ⟨by repeat (first | (with_reducible first | exact HB.out | apply below_alloc | apply pw_below_drewN | apply below_drew1 | refine below_set ?_ GE191.out | refine below_set ?_ GE199.out) | exact HB.out)⟩
                                                (try clear HO_8)
                                                (try clear BK191)
                                                (try clear BK199)
                                                (try clear HB)
                                                generalize (((w36.setCell ⟨gb199, 0, none⟩ (.int .i64 ((rd_T43 l2 x12_3).f0))).setCell ⟨gb199, 1, none⟩ (.int .i64 ((rd_T43 l2 x12_3).f1))).setCell ⟨gb199, 2, none⟩ (.int .i64 ((rd_T43 l2 x12_3).f2))) = w40 at n0_ n1_ n2_ n3_ ⊢
                                                have HO_8 := n0_
                                                have BK191 := n1_
                                                have BK199 := n2_
                                                have HB := n3_
                                                clear n0_ n1_ n2_ n3_
                                                have n0_ := Aside0.mk (Kd.R_drew HO_8.out)
                                                have n1_ := Aside0.mk (blk_drew BK191.out)
                                                have n2_ := Aside0.mk (blk_drew BK199.out)
                                                have n3_ := Aside0.mk (below_drew1 HB.out)
                                                clear HO_8
                                                clear BK191
                                                clear BK199
                                                clear HB
                                                have HO_8 := n0_
                                                have BK191 := n1_
                                                have BK199 := n2_
                                                have HB := n3_
                                                clear n0_ n1_ n2_ n3_
                                                have p201 : 0 ≤ ((rd x8_3 ((rd_T43 l2 x12_3).f1)) : Int) := of_decide_eq_true (by first | (with_reducible assumption) | assumption)
                                                have q201 : (rd x8_3 ((rd_T43 l2 x12_3).f1)) < (l0_0.length : Int) := of_decide_eq_true (by first | (with_reducible assumption) | assumption)
                                                obtain ⟨ad201, A201_0, c201_0, e201, hx201_0, hl201_0, hi201_0⟩ := at_L5 HR0_0.out (rd x8_3 ((rd_T43 l2 x12_3).f1)) p201 q201
                                                have hw201_0 := hx201_0
                                                cases e201
                                                replace hx201_0 := (HB.out.cell (World.block_lt_of_cell? w _ hx201_0)).trans hx201_0
                                                have HR201_0 := Aside0.mk hi201_0
                                                have HC201_0 := Aside0.mk hl201_0
                                                clear hi201_0 hl201_0
                                                replace p201 := eq_true p201
                                                replace q201 := eq_true q201
                                                have p202 : 0 ≤ (((rd_T43 l2 x12_3).f0) : Int) := of_decide_eq_true (by first | (with_reducible assumption) | assumption)
                                                have q202 : ((rd_T43 l2 x12_3).f0) < (x8_3.length : Int) := of_decide_eq_true (by first | (with_reducible assumption) | assumption)
                                                obtain ⟨ad202, e202, hx202_0⟩ := Kd.at_int (Kd.R_reads' HO_8.out).2.2 ((rd_T43 l2 x12_3).f0) p202 q202
                                                obtain rfl : ad200 = ad202 := (by injection e202)
                                                replace p202 := eq_true p202
                                                replace q202 := eq_true q202
                                                have p203 : 0 ≤ ((rd x8_3 ((rd_T43 l2 x12_3).f0)) : Int) := of_decide_eq_true (by first | (with_reducible assumption) | assumption)
                                                have q203 : (rd x8_3 ((rd_T43 l2 x12_3).f0)) < ((rd_L5 l0_0 (rd x8_3 ((rd_T43 l2 x12_3).f1))).length : Int) := of_decide_eq_true (by first | (with_reducible assumption) | assumption)
                                                obtain ⟨ad203, e203, hx203_0⟩ := Kd.at_bool HR201_0.out (rd x8_3 ((rd_T43 l2 x12_3).f0)) p203 q203
                                                have hw203_0 := hx203_0
                                                (try rw [← Nbq34.out] at hx203_0)
                                                cases e203
                                                replace hx203_0 := (HB.out.cell (World.block_lt_of_cell? w _ hx203_0)).trans hx203_0
                                                replace p203 := eq_true p203
                                                replace q203 := eq_true q203
                                                refine start_ (n := 13) (S := fun w' => w'.cell? ⟨gb191, 0, none⟩ = some (.slice (some ad201) l0_0.length c0_0) ∧ w'.cell? ⟨gb199, 0, none⟩ = some (.int .i64 ((rd_T43 l2 x12_3).f0)) ∧ w'.cell? ⟨gb199, 1, none⟩ = some (.int .i64 ((rd_T43 l2 x12_3).f1)) ∧ w'.cell? ⟨gb199, 2, none⟩ = some (.int .i64 ((rd_T43 l2 x12_3).f2)) ∧ w'.cell? (ad201.add ((rd x8_3 ((rd_T43 l2 x12_3).f1))).toNat) = some (.slice (some ad203) (rd_L5 l0_0 (rd x8_3 ((rd_T43 l2 x12_3).f1))).length c201_0) ∧ w'.cell? (ad200.add (((rd_T43 l2 x12_3).f0)).toNat) = some (.int .i64 (rd x8_3 ((rd_T43 l2 x12_3).f0))) ∧ w'.cell? (ad203.add ((rd x8_3 ((rd_T43 l2 x12_3).f0))).toNat) = some (.bool true)) (ds := []) #[false, false, false, false, false, false, false, false, false, false, false, false, false] (by kernel_rfl) rfl rfl ⟨(blk_cell BK191.out 0).trans rfl, (blk_cell BK199.out 0).trans rfl, (blk_cell BK199.out 1).trans rfl, (blk_cell BK199.out 2).trans rfl, ((HB.out.cell (World.block_lt_of_cell? w _ hw201_0)).trans hw201_0), hx202_0, hx203_0⟩ (fun hHeld => ?_); refine with_tabW portcullisref21_Least.tab19 portcullisref21_Least.bits19 (fun HT_ HW_ => ?_)
                                                generalize w40.drew = w41 at HO_8 BK191 BK199 HB HR201_0 hx201_0 hx202_0 hx203_0 hHeld ⊢
                                                refine pure_ (i := 0) (N := some 54) (v := ?_) (a' := ?_) #[true, false, false, false, false, false, false, false, false, false, false, false, false] rfl rfl (any_of HT_.out (by kernel_rfl)) (fun _ _ _ h => h) (Or.inl ⟨by rfl, ?_⟩) ?_ ?_
                                                rotate_left
                                                · intro w'
                                                  go_simp
                                                  with_reducible rfl
                                                rotate_left
                                                · simp only [Act.put, List.setIfInBounds_toArray, List.set_cons_zero, List.set_cons_succ, i64_w, i32_w]
                                                  rfl
                                                refine pure_ (i := 2) (N := some 56) (v := ?_) (a' := ?_) #[true, false, true, false, false, false, false, false, false, false, false, false, false] rfl rfl (any_of HT_.out (by kernel_rfl)) (fun _ _ _ h => h) (Or.inl ⟨by rfl, ?_⟩) ?_ ?_
                                                rotate_left
                                                · intro w'
                                                  go_simp
                                                  with_reducible rfl
                                                rotate_left
                                                · simp only [Act.put, List.setIfInBounds_toArray, List.set_cons_zero, List.set_cons_succ, i64_w, i32_w]
                                                  rfl
                                                refine pure_ (i := 5) (N := some 59) (v := ?_) (a' := ?_) #[true, false, true, false, false, true, false, false, false, false, false, false, false] rfl rfl (any_of HT_.out (by kernel_rfl)) (fun _ _ _ h => h) (Or.inl ⟨by rfl, ?_⟩) ?_ ?_
                                                rotate_left
                                                · intro w'
                                                  go_simp
                                                  with_reducible rfl
                                                rotate_left
                                                · simp only [Act.put, List.setIfInBounds_toArray, List.set_cons_zero, List.set_cons_succ, i64_w, i32_w]
                                                  rfl
                                                refine pure_ (i := 6) (N := some 60) (v := ?_) (a' := ?_) #[true, false, true, false, false, true, true, false, false, false, false, false, false] rfl rfl (any_of HT_.out (by kernel_rfl)) (fun _ _ _ h => h) (Or.inl ⟨by rfl, ?_⟩) ?_ ?_
                                                rotate_left
                                                · intro w'
                                                  go_simp
                                                  with_reducible rfl
                                                rotate_left
                                                · simp only [Act.put, List.setIfInBounds_toArray, List.set_cons_zero, List.set_cons_succ, i64_w, i32_w]
                                                  rfl
                                                refine take_ (i := 1) (N := some 55) (v := ?_) (a' := ?_) #[true, true, true, false, false, true, true, false, false, false, false, false, false] rfl rfl (take_ofW HT_.out HW_.out (by kernel_rfl)) (fun _ _ _ h => h) (Or.inl ⟨by rfl, ?_⟩) hHeld ?_ ?_
                                                rotate_left
                                                · rintro w' ⟨s0, s1, s2, s3, s4, s5, s6⟩
                                                  go_simp
                                                  with_reducible rfl
                                                rotate_left
                                                · simp only [Act.put, List.setIfInBounds_toArray, List.set_cons_zero, List.set_cons_succ, i64_w, i32_w]
                                                  rfl
                                                refine pure_ (i := 3) (N := some 57) (v := ?_) (a' := ?_) #[true, true, true, true, false, true, true, false, false, false, false, false, false] rfl rfl (any_of HT_.out (by kernel_rfl)) (fun _ _ _ h => h) (Or.inl ⟨by rfl, ?_⟩) ?_ ?_
                                                rotate_left
                                                · intro w'
                                                  go_simp
                                                  with_reducible rfl
                                                rotate_left
                                                · simp only [Act.put, List.setIfInBounds_toArray, List.set_cons_zero, List.set_cons_succ, i64_w, i32_w]
                                                  rfl
                                                refine take_ (i := 4) (N := some 58) (v := ?_) (a' := ?_) #[true, true, true, true, true, true, true, false, false, false, false, false, false] rfl rfl (take_ofW HT_.out HW_.out (by kernel_rfl)) (fun _ _ _ h => h) (Or.inl ⟨by rfl, ?_⟩) hHeld ?_ ?_
                                                rotate_left
                                                · rintro w' ⟨s0, s1, s2, s3, s4, s5, s6⟩
                                                  go_simp
                                                  with_reducible rfl
                                                rotate_left
                                                · simp only [Act.put, List.setIfInBounds_toArray, List.set_cons_zero, List.set_cons_succ, i64_w, i32_w]
                                                  rfl
                                                refine take_ (i := 7) (N := some 61) (v := ?_) (a' := ?_) #[true, true, true, true, true, true, true, true, false, false, false, false, false] rfl rfl (take_ofW HT_.out HW_.out (by kernel_rfl)) (fun _ _ _ h => h) (Or.inl ⟨by rfl, ?_⟩) hHeld ?_ ?_
                                                rotate_left
                                                · rintro w' ⟨s0, s1, s2, s3, s4, s5, s6⟩
                                                  go_simp
                                                  with_reducible rfl
                                                rotate_left
                                                · simp only [Act.put, List.setIfInBounds_toArray, List.set_cons_zero, List.set_cons_succ, i64_w, i32_w]
                                                  rfl
                                                refine pure_ (i := 8) (N := some 62) (v := ?_) (a' := ?_) #[true, true, true, true, true, true, true, true, true, false, false, false, false] rfl rfl (any_of HT_.out (by kernel_rfl)) (fun _ _ _ h => h) (Or.inl ⟨by rfl, ?_⟩) ?_ ?_
                                                rotate_left
                                                · intro w'
                                                  go_simp
                                                  with_reducible rfl
                                                rotate_left
                                                · simp only [Act.put, List.setIfInBounds_toArray, List.set_cons_zero, List.set_cons_succ, i64_w, i32_w]
                                                  rfl
                                                refine take_ (i := 9) (N := some 63) (v := ?_) (a' := ?_) #[true, true, true, true, true, true, true, true, true, true, false, false, false] rfl rfl (take_ofW HT_.out HW_.out (by kernel_rfl)) (fun _ _ _ h => h) (Or.inl ⟨by rfl, ?_⟩) hHeld ?_ ?_
                                                rotate_left
                                                · rintro w' ⟨s0, s1, s2, s3, s4, s5, s6⟩
                                                  go_simp
                                                  with_reducible rfl
                                                rotate_left
                                                · simp only [Act.put, List.setIfInBounds_toArray, List.set_cons_zero, List.set_cons_succ, i64_w, i32_w]
                                                  rfl
                                                refine pure_ (i := 10) (N := some 64) (v := ?_) (a' := ?_) #[true, true, true, true, true, true, true, true, true, true, true, false, false] rfl rfl (any_of HT_.out (by kernel_rfl)) (fun _ _ _ h => h) (Or.inl ⟨by rfl, ?_⟩) ?_ ?_
                                                rotate_left
                                                · intro w'
                                                  go_simp
                                                  with_reducible rfl
                                                rotate_left
                                                · simp only [Act.put, List.setIfInBounds_toArray, List.set_cons_zero, List.set_cons_succ, i64_w, i32_w]
                                                  rfl
                                                refine take_ (i := 11) (N := some 65) (v := ?_) (a' := ?_) #[true, true, true, true, true, true, true, true, true, true, true, true, false] rfl rfl (take_ofW HT_.out HW_.out (by kernel_rfl)) (fun _ _ _ h => h) (Or.inl ⟨by rfl, ?_⟩) hHeld ?_ ?_
                                                rotate_left
                                                · rintro w' ⟨s0, s1, s2, s3, s4, s5, s6⟩
                                                  go_simp
                                                  with_reducible rfl
                                                rotate_left
                                                · simp only [Act.put, List.setIfInBounds_toArray, List.set_cons_zero, List.set_cons_succ, i64_w, i32_w]
                                                  rfl
                                                refine pure_ (i := 12) (N := some 66) (v := ?_) (a' := ?_) #[true, true, true, true, true, true, true, true, true, true, true, true, true] rfl rfl (any_of HT_.out (by kernel_rfl)) (fun _ _ _ h => h) (Or.inl ⟨by rfl, ?_⟩) ?_ ?_
                                                rotate_left
                                                · intro w'
                                                  go_simp
                                                  with_reducible rfl
                                                rotate_left
                                                · simp only [Act.put, List.setIfInBounds_toArray, List.set_cons_zero, List.set_cons_succ, i64_w, i32_w]
                                                  rfl
                                                refine done_ (done_of HT_.out (by kernel_rfl)) ?_
                                                try go_wp2
                                                go_roundg k3
                                                case measure => have := HK1.out; have := HK2.out; have := HK3.out; omega
                                                case rel => exact ⟨(x8_3), (x11_3), (wrap64 (x12_3 + 1)), (by first | rfl | (simp; done) | (simp [*]; done)), (by first | rfl | (simp; done) | (simp [*]; done)), H', ⟨by have := HK1.out; have := HK2.out; have := HK3.out; omega⟩, ⟨by (with_reducible repeat (first | apply Kd.R_alloc | apply Kd.R_drewN | apply Kd.R_drew)); exact HO_8.out⟩, ⟨by (with_reducible repeat (first | refine blk_drewN ?_ _ | refine blk_drew ?_ | refine blk_alloc ?_ _)); exact BK191.out⟩, ⟨by repeat (first | (with_reducible first | exact HB.out | apply below_alloc | apply pw_below_drewN | apply below_drew1 | refine below_set ?_ GE191.out | refine below_set ?_ GE199.out) | exact HB.out)⟩⟩
                                              · replace c35 := Bool.eq_false_iff.mpr c35
                                                subst c35
                                                have H1 : ((portcullisref01_Order_Join.f k3 l0_0 (([rd x8_3 ((rd_T43 l2 x12_3).f1), rd x8_3 ((rd_T43 l2 x12_3).f0)] : List Int))).bind fun t208 => (portcullisref21_Least.l2 k3 l2 (x8_3.set (((rd_T43 l2 x12_3).f0) : Int).toNat t208) true (wrap64 (x12_3 + 1)) l0_0)) = some (r1, r2) := by rw [if_neg (show ¬ (false = true) by decide)] at H; exact H
                                                clear H
                                                have H := H1
                                                clear H1
                                                obtain ⟨y205, hy205⟩ : ∃ y_ : List Int, y_ = (([rd x8_3 ((rd_T43 l2 x12_3).f1), rd x8_3 ((rd_T43 l2 x12_3).f0)] : List Int)) := ⟨_, rfl⟩
                                                replace H : ((portcullisref01_Order_Join.f k3 l0_0 y205).bind fun t208 => (portcullisref21_Least.l2 k3 l2 (x8_3.set (((rd_T43 l2 x12_3).f0) : Int).toNat t208) true (wrap64 (x12_3 + 1)) l0_0)) = some (r1, r2) := by first | (rw [hy205]; with_reducible exact H) | (have H2_ := (Option.bind_some _ _).symm.trans H; rw [hy205]; with_reducible exact H2_) | (have H2_ := (Option.bind_some _ _).symm.trans H; with_reducible exact H2_) | with_reducible exact H | (rw [hy205]; exact H) | exact H
                                                have Ny205 := Aside0.mk hy205
                                                clear hy205
                                                replace H := Option.bind_eq_some_iff.mp H
                                                obtain ⟨t208, A420, H⟩ := H
                                                replace H : (portcullisref21_Least.l2 k3 l2 (x8_3.set (((rd_T43 l2 x12_3).f0) : Int).toNat t208) true (wrap64 (x12_3 + 1)) l0_0) = some (r1, r2) := H
                                                have A42 := Aside0.mk A420
                                                clear A420
                                                obtain ⟨y209, hy209⟩ : ∃ y_ : List Int, y_ = (x8_3.set (((rd_T43 l2 x12_3).f0) : Int).toNat t208) := ⟨_, rfl⟩
                                                replace H : (portcullisref21_Least.l2 k3 l2 y209 true (wrap64 (x12_3 + 1)) l0_0) = some (r1, r2) := by first | (rw [hy209]; with_reducible exact H) | (have H2_ := (Option.bind_some _ _).symm.trans H; rw [hy209]; with_reducible exact H2_) | (have H2_ := (Option.bind_some _ _).symm.trans H; with_reducible exact H2_) | with_reducible exact H | (rw [hy209]; exact H) | exact H
                                                have Ny209 := Aside0.mk hy209
                                                clear hy209
                                                have H' := Aside0.mk H
                                                clear H
                                                have p198 : 0 ≤ (x12_3 : Int) := of_decide_eq_true (by first | (with_reducible assumption) | assumption)
                                                have q198 : x12_3 < (l2.length : Int) := of_decide_eq_true (by first | (with_reducible assumption) | assumption)
                                                obtain ⟨ad198, e198, hx198_0, hx198_1, hx198_2⟩ := at_T43 HR2.out x12_3 p198 q198
                                                cases e198
                                                replace hx198_0 := (HB.out.cell (World.block_lt_of_cell? w _ hx198_0)).trans hx198_0
                                                replace hx198_1 := (HB.out.cell (World.block_lt_of_cell? w _ hx198_1)).trans hx198_1
                                                replace hx198_2 := (HB.out.cell (World.block_lt_of_cell? w _ hx198_2)).trans hx198_2
                                                replace p198 := eq_true p198
                                                replace q198 := eq_true q198
                                                try go_wp2_with (first | ((with_reducible refine gate_dst (N := 13) rfl ?_); refine box_event ?hg (N := 13) ?hd (cs := #[.int .i64 0, .int .i64 0, .int .i64 0]) (t := 43) ?hr ?_; (case hd => rfl); (case hg => rfl); (case hr => first | (go_simp; done) | (go_simp; rfl)); intro gb199 hg w44 hbox hb; have n0_ := Aside0.mk (Kd.R_below (by (with_reducible repeat (first | apply Kd.R_alloc | apply Kd.R_drewN | apply Kd.R_drew)); exact HO_8.out) hb); have n1_ := Aside0.mk (blk_below (g := gb191) (o := .cells #[.slice A0_0 l0_0.length c0_0] 31 (0, 0)) (by (with_reducible repeat (first | refine blk_drewN ?_ _ | refine blk_drew ?_ | refine blk_alloc ?_ _)); exact BK191.out) hb); have n2_ := Aside0.mk (below_step (by repeat (first | (with_reducible first | exact HB.out | apply below_alloc | apply pw_below_drewN | apply below_drew1 | refine below_set ?_ GE191.out) | exact HB.out)) hb); have n3_ := Aside0.mk (hbox); have n4_ := Aside0.mk ((by rw [hg]; exact (below_size (by repeat (first | (with_reducible first | exact HB.out | apply below_alloc | apply pw_below_drewN | apply below_drew1 | refine below_set ?_ GE191.out) | exact HB.out))) : w.heap.size ≤ gb199)); have n5_ := Aside0.mk ((by rw [hg]; exact (below_size (by repeat (first | (with_reducible first | exact HB.out | apply below_alloc | apply pw_below_drewN | apply below_drew1 | refine below_set ?_ GE191.out) | exact HB.out))) : w.heap.size ≤ gb199)); have n6_ := Aside0.mk ((by rw [hg]; exact Nat.ne_of_lt (blk_lt (g := gb191) (o := .cells #[.slice A0_0 l0_0.length c0_0] 31 (0, 0)) (by (with_reducible repeat (first | refine blk_drewN ?_ _ | refine blk_drew ?_ | refine blk_alloc ?_ _)); exact BK191.out)) : gb191 ≠ gb199)); have n7_ := Aside0.mk ((by rw [hg]; exact Nat.ne_of_gt (blk_lt (g := gb191) (o := .cells #[.slice A0_0 l0_0.length c0_0] 31 (0, 0)) (by (with_reducible repeat (first | refine blk_drewN ?_ _ | refine blk_drew ?_ | refine blk_alloc ?_ _)); exact BK191.out)) : gb199 ≠ gb191)); clear HO_8; clear BK191; clear HB; have HO_8 := n0_; have BK191 := n1_; have HB := n2_; have BK199 := n3_; have GW199 := n4_; have GE199 := n5_; have NB191_199 := n6_; have NB199_191 := n7_; clear n0_ n1_ n2_ n3_ n4_ n5_ n6_ n7_; clear hb hbox hg; have hnb45 := NB199_191.out; have hnc45 := NB191_199.out; have hcz46_0 : w44.cell? ⟨gb199, 0, none⟩ = some (.int .i64 0) := (blk_cell BK199.out 0).trans rfl; have hcz46_1 : w44.cell? ⟨gb199, 1, none⟩ = some (.int .i64 0) := (blk_cell BK199.out 1).trans rfl; have hcz46_2 : w44.cell? ⟨gb199, 2, none⟩ = some (.int .i64 0) := (blk_cell BK199.out 2).trans rfl; have hfz46_0 := blk_frozen BK199.out 0; have hfz46_1 := blk_frozen BK199.out 1; have hfz46_2 := blk_frozen BK199.out 2; obtain ⟨Ao47, co47, eo47⟩ := Kd.R_slice HO_8.out; subst eo47; have p200 : 0 ≤ (((rd_T43 l2 x12_3).f1) : Int) := of_decide_eq_true (by first | (with_reducible assumption) | assumption); have q200 : ((rd_T43 l2 x12_3).f1) < (x8_3.length : Int) := of_decide_eq_true (by first | (with_reducible assumption) | assumption); obtain ⟨ad200, e200, hx200_0⟩ := Kd.at_int (Kd.R_reads' HO_8.out).2.2 ((rd_T43 l2 x12_3).f1) p200 q200; cases e200; have hn200_0 : ad200.block ≠ gb199 := Kd.own_blk (Kd.R_ne HO_8.out BK199.out (by decide)); have hn200_1 : ad200.block ≠ gb199 := Kd.own_blk (Kd.R_ne HO_8.out BK199.out (by decide)); have hn200_2 : ad200.block ≠ gb199 := Kd.own_blk (Kd.R_ne HO_8.out BK199.out (by decide)); replace hx200_0 := (cell_far (p := ⟨gb199, 0, none⟩) (by first | (rw [add_block]; exact hn200_0) | (show (Addr.add _ _).block ≠ _; rw [add_block]; exact hn200_0) | exact hn200_0) (.int .i64 ((rd_T43 l2 x12_3).f0))).trans hx200_0; replace hx200_0 := (cell_far (p := ⟨gb199, 1, none⟩) (by first | (rw [add_block]; exact hn200_1) | (show (Addr.add _ _).block ≠ _; rw [add_block]; exact hn200_1) | exact hn200_1) (.int .i64 ((rd_T43 l2 x12_3).f1))).trans hx200_0; replace hx200_0 := (cell_far (p := ⟨gb199, 2, none⟩) (by first | (rw [add_block]; exact hn200_2) | (show (Addr.add _ _).block ≠ _; rw [add_block]; exact hn200_2) | exact hn200_2) (.int .i64 ((rd_T43 l2 x12_3).f2))).trans hx200_0; clear hn200_0; clear hn200_1; clear hn200_2; replace p200 := eq_true p200; replace q200 := eq_true q200))
                                                have n0_ : Aside0 (Kd.R (Kd.int .i64) 3 (((w44.setCell ⟨gb199, 0, none⟩ (.int .i64 ((rd_T43 l2 x12_3).f0))).setCell ⟨gb199, 1, none⟩ (.int .i64 ((rd_T43 l2 x12_3).f1))).setCell ⟨gb199, 2, none⟩ (.int .i64 ((rd_T43 l2 x12_3).f2))) w.heap.size (fun _ => True) (.slice (some ad200) x8_3.length co47) x8_3) := ⟨by (with_reducible repeat (first | apply Kd.R_alloc | apply Kd.R_drewN | apply Kd.R_drew)); exact Kd.R_mono (Kd.R_far (p := ⟨gb199, 2, none⟩) (Kd.R_far (p := ⟨gb199, 1, none⟩) (Kd.R_far (p := ⟨gb199, 0, none⟩) (Kd.R_types HO_8.out BK199.out (by decide)) (fun _ hk => hk.2) (.int .i64 ((rd_T43 l2 x12_3).f0))) (fun _ hk => hk.2) (.int .i64 ((rd_T43 l2 x12_3).f1))) (fun _ hk => hk.2) (.int .i64 ((rd_T43 l2 x12_3).f2))) (fun _ hk => trivial)⟩
                                                have n1_ : Aside0 ((((w44.setCell ⟨gb199, 0, none⟩ (.int .i64 ((rd_T43 l2 x12_3).f0))).setCell ⟨gb199, 1, none⟩ (.int .i64 ((rd_T43 l2 x12_3).f1))).setCell ⟨gb199, 2, none⟩ (.int .i64 ((rd_T43 l2 x12_3).f2))).heap[gb191]? = some (.cells #[.slice A0_0 l0_0.length c0_0] 31 (0, 0))) := ⟨by (with_reducible repeat (first | refine blk_drewN ?_ _ | refine blk_drew ?_ | refine blk_alloc ?_ _)); refine blk_far ?_ NB191_199.out _; (with_reducible repeat (first | refine blk_drewN ?_ _ | refine blk_drew ?_ | refine blk_alloc ?_ _)); refine blk_far ?_ NB191_199.out _; (with_reducible repeat (first | refine blk_drewN ?_ _ | refine blk_drew ?_ | refine blk_alloc ?_ _)); refine blk_far ?_ NB191_199.out _; (with_reducible repeat (first | refine blk_drewN ?_ _ | refine blk_drew ?_ | refine blk_alloc ?_ _)); exact BK191.out⟩
                                                have n2_ : Aside0 ((((w44.setCell ⟨gb199, 0, none⟩ (.int .i64 ((rd_T43 l2 x12_3).f0))).setCell ⟨gb199, 1, none⟩ (.int .i64 ((rd_T43 l2 x12_3).f1))).setCell ⟨gb199, 2, none⟩ (.int .i64 ((rd_T43 l2 x12_3).f2))).heap[gb199]? = some (.cells #[.int .i64 ((rd_T43 l2 x12_3).f0), .int .i64 ((rd_T43 l2 x12_3).f1), .int .i64 ((rd_T43 l2 x12_3).f2)] 43 (0, 0))) := ⟨by (with_reducible repeat (first | refine blk_drewN ?_ _ | refine blk_drew ?_ | refine blk_alloc ?_ _)); refine blk_put (cs := #[.int .i64 ((rd_T43 l2 x12_3).f0), .int .i64 ((rd_T43 l2 x12_3).f1), .int .i64 0]) ?_ 2 _ rfl; (with_reducible repeat (first | refine blk_drewN ?_ _ | refine blk_drew ?_ | refine blk_alloc ?_ _)); refine blk_put (cs := #[.int .i64 ((rd_T43 l2 x12_3).f0), .int .i64 0, .int .i64 0]) ?_ 1 _ rfl; (with_reducible repeat (first | refine blk_drewN ?_ _ | refine blk_drew ?_ | refine blk_alloc ?_ _)); refine blk_put (cs := #[.int .i64 0, .int .i64 0, .int .i64 0]) ?_ 0 _ rfl; (with_reducible repeat (first | refine blk_drewN ?_ _ | refine blk_drew ?_ | refine blk_alloc ?_ _)); exact BK199.out⟩
                                                have n3_ : Aside0 (Below w.heap.size w (((w44.setCell ⟨gb199, 0, none⟩ (.int .i64 ((rd_T43 l2 x12_3).f0))).setCell ⟨gb199, 1, none⟩ (.int .i64 ((rd_T43 l2 x12_3).f1))).setCell ⟨gb199, 2, none⟩ (.int .i64 ((rd_T43 l2 x12_3).f2)))) := ⟨by repeat (first | (with_reducible first | exact HB.out | apply below_alloc | apply pw_below_drewN | apply below_drew1 | refine below_set ?_ GE191.out | refine below_set ?_ GE199.out) | exact HB.out)⟩
                                                (try clear HO_8)
                                                (try clear BK191)
                                                (try clear BK199)
                                                (try clear HB)
                                                generalize (((w44.setCell ⟨gb199, 0, none⟩ (.int .i64 ((rd_T43 l2 x12_3).f0))).setCell ⟨gb199, 1, none⟩ (.int .i64 ((rd_T43 l2 x12_3).f1))).setCell ⟨gb199, 2, none⟩ (.int .i64 ((rd_T43 l2 x12_3).f2))) = w48 at n0_ n1_ n2_ n3_ ⊢
                                                have HO_8 := n0_
                                                have BK191 := n1_
                                                have BK199 := n2_
                                                have HB := n3_
                                                clear n0_ n1_ n2_ n3_
                                                have n0_ := Aside0.mk (Kd.R_drew HO_8.out)
                                                have n1_ := Aside0.mk (blk_drew BK191.out)
                                                have n2_ := Aside0.mk (blk_drew BK199.out)
                                                have n3_ := Aside0.mk (below_drew1 HB.out)
                                                clear HO_8
                                                clear BK191
                                                clear BK199
                                                clear HB
                                                have HO_8 := n0_
                                                have BK191 := n1_
                                                have BK199 := n2_
                                                have HB := n3_
                                                clear n0_ n1_ n2_ n3_
                                                have p201 : 0 ≤ ((rd x8_3 ((rd_T43 l2 x12_3).f1)) : Int) := of_decide_eq_true (by first | (with_reducible assumption) | assumption)
                                                have q201 : (rd x8_3 ((rd_T43 l2 x12_3).f1)) < (l0_0.length : Int) := of_decide_eq_true (by first | (with_reducible assumption) | assumption)
                                                obtain ⟨ad201, A201_0, c201_0, e201, hx201_0, hl201_0, hi201_0⟩ := at_L5 HR0_0.out (rd x8_3 ((rd_T43 l2 x12_3).f1)) p201 q201
                                                have hw201_0 := hx201_0
                                                cases e201
                                                replace hx201_0 := (HB.out.cell (World.block_lt_of_cell? w _ hx201_0)).trans hx201_0
                                                have HR201_0 := Aside0.mk hi201_0
                                                have HC201_0 := Aside0.mk hl201_0
                                                clear hi201_0 hl201_0
                                                replace p201 := eq_true p201
                                                replace q201 := eq_true q201
                                                have p202 : 0 ≤ (((rd_T43 l2 x12_3).f0) : Int) := of_decide_eq_true (by first | (with_reducible assumption) | assumption)
                                                have q202 : ((rd_T43 l2 x12_3).f0) < (x8_3.length : Int) := of_decide_eq_true (by first | (with_reducible assumption) | assumption)
                                                obtain ⟨ad202, e202, hx202_0⟩ := Kd.at_int (Kd.R_reads' HO_8.out).2.2 ((rd_T43 l2 x12_3).f0) p202 q202
                                                obtain rfl : ad200 = ad202 := (by injection e202)
                                                replace p202 := eq_true p202
                                                replace q202 := eq_true q202
                                                have p203 : 0 ≤ ((rd x8_3 ((rd_T43 l2 x12_3).f0)) : Int) := of_decide_eq_true (by first | (with_reducible assumption) | assumption)
                                                have q203 : (rd x8_3 ((rd_T43 l2 x12_3).f0)) < ((rd_L5 l0_0 (rd x8_3 ((rd_T43 l2 x12_3).f1))).length : Int) := of_decide_eq_true (by first | (with_reducible assumption) | assumption)
                                                obtain ⟨ad203, e203, hx203_0⟩ := Kd.at_bool HR201_0.out (rd x8_3 ((rd_T43 l2 x12_3).f0)) p203 q203
                                                have hw203_0 := hx203_0
                                                (try rw [← Nbq34.out] at hx203_0)
                                                cases e203
                                                replace hx203_0 := (HB.out.cell (World.block_lt_of_cell? w _ hx203_0)).trans hx203_0
                                                replace p203 := eq_true p203
                                                replace q203 := eq_true q203
                                                refine start_ (n := 13) (S := fun w' => w'.cell? ⟨gb191, 0, none⟩ = some (.slice (some ad201) l0_0.length c0_0) ∧ w'.cell? ⟨gb199, 0, none⟩ = some (.int .i64 ((rd_T43 l2 x12_3).f0)) ∧ w'.cell? ⟨gb199, 1, none⟩ = some (.int .i64 ((rd_T43 l2 x12_3).f1)) ∧ w'.cell? ⟨gb199, 2, none⟩ = some (.int .i64 ((rd_T43 l2 x12_3).f2)) ∧ w'.cell? (ad201.add ((rd x8_3 ((rd_T43 l2 x12_3).f1))).toNat) = some (.slice (some ad203) (rd_L5 l0_0 (rd x8_3 ((rd_T43 l2 x12_3).f1))).length c201_0) ∧ w'.cell? (ad200.add (((rd_T43 l2 x12_3).f0)).toNat) = some (.int .i64 (rd x8_3 ((rd_T43 l2 x12_3).f0))) ∧ w'.cell? (ad203.add ((rd x8_3 ((rd_T43 l2 x12_3).f0))).toNat) = some (.bool false)) (ds := []) #[false, false, false, false, false, false, false, false, false, false, false, false, false] (by kernel_rfl) rfl rfl ⟨(blk_cell BK191.out 0).trans rfl, (blk_cell BK199.out 0).trans rfl, (blk_cell BK199.out 1).trans rfl, (blk_cell BK199.out 2).trans rfl, ((HB.out.cell (World.block_lt_of_cell? w _ hw201_0)).trans hw201_0), hx202_0, hx203_0⟩ (fun hHeld => ?_); refine with_tabW portcullisref21_Least.tab19 portcullisref21_Least.bits19 (fun HT_ HW_ => ?_)
                                                generalize w48.drew = w49 at HO_8 BK191 BK199 HB HR201_0 hx201_0 hx202_0 hx203_0 hHeld ⊢
                                                refine pure_ (i := 0) (N := some 54) (v := ?_) (a' := ?_) #[true, false, false, false, false, false, false, false, false, false, false, false, false] rfl rfl (any_of HT_.out (by kernel_rfl)) (fun _ _ _ h => h) (Or.inl ⟨by rfl, ?_⟩) ?_ ?_
                                                rotate_left
                                                · intro w'
                                                  go_simp
                                                  with_reducible rfl
                                                rotate_left
                                                · simp only [Act.put, List.setIfInBounds_toArray, List.set_cons_zero, List.set_cons_succ, i64_w, i32_w]
                                                  rfl
                                                refine pure_ (i := 2) (N := some 56) (v := ?_) (a' := ?_) #[true, false, true, false, false, false, false, false, false, false, false, false, false] rfl rfl (any_of HT_.out (by kernel_rfl)) (fun _ _ _ h => h) (Or.inl ⟨by rfl, ?_⟩) ?_ ?_
                                                rotate_left
                                                · intro w'
                                                  go_simp
                                                  with_reducible rfl
                                                rotate_left
                                                · simp only [Act.put, List.setIfInBounds_toArray, List.set_cons_zero, List.set_cons_succ, i64_w, i32_w]
                                                  rfl
                                                refine pure_ (i := 5) (N := some 59) (v := ?_) (a' := ?_) #[true, false, true, false, false, true, false, false, false, false, false, false, false] rfl rfl (any_of HT_.out (by kernel_rfl)) (fun _ _ _ h => h) (Or.inl ⟨by rfl, ?_⟩) ?_ ?_
                                                rotate_left
                                                · intro w'
                                                  go_simp
                                                  with_reducible rfl
                                                rotate_left
                                                · simp only [Act.put, List.setIfInBounds_toArray, List.set_cons_zero, List.set_cons_succ, i64_w, i32_w]
                                                  rfl
                                                refine pure_ (i := 6) (N := some 60) (v := ?_) (a' := ?_) #[true, false, true, false, false, true, true, false, false, false, false, false, false] rfl rfl (any_of HT_.out (by kernel_rfl)) (fun _ _ _ h => h) (Or.inl ⟨by rfl, ?_⟩) ?_ ?_
                                                rotate_left
                                                · intro w'
                                                  go_simp
                                                  with_reducible rfl
                                                rotate_left
                                                · simp only [Act.put, List.setIfInBounds_toArray, List.set_cons_zero, List.set_cons_succ, i64_w, i32_w]
                                                  rfl
                                                refine take_ (i := 1) (N := some 55) (v := ?_) (a' := ?_) #[true, true, true, false, false, true, true, false, false, false, false, false, false] rfl rfl (take_ofW HT_.out HW_.out (by kernel_rfl)) (fun _ _ _ h => h) (Or.inl ⟨by rfl, ?_⟩) hHeld ?_ ?_
                                                rotate_left
                                                · rintro w' ⟨s0, s1, s2, s3, s4, s5, s6⟩
                                                  go_simp
                                                  with_reducible rfl
                                                rotate_left
                                                · simp only [Act.put, List.setIfInBounds_toArray, List.set_cons_zero, List.set_cons_succ, i64_w, i32_w]
                                                  rfl
                                                refine pure_ (i := 3) (N := some 57) (v := ?_) (a' := ?_) #[true, true, true, true, false, true, true, false, false, false, false, false, false] rfl rfl (any_of HT_.out (by kernel_rfl)) (fun _ _ _ h => h) (Or.inl ⟨by rfl, ?_⟩) ?_ ?_
                                                rotate_left
                                                · intro w'
                                                  go_simp
                                                  with_reducible rfl
                                                rotate_left
                                                · simp only [Act.put, List.setIfInBounds_toArray, List.set_cons_zero, List.set_cons_succ, i64_w, i32_w]
                                                  rfl
                                                refine take_ (i := 4) (N := some 58) (v := ?_) (a' := ?_) #[true, true, true, true, true, true, true, false, false, false, false, false, false] rfl rfl (take_ofW HT_.out HW_.out (by kernel_rfl)) (fun _ _ _ h => h) (Or.inl ⟨by rfl, ?_⟩) hHeld ?_ ?_
                                                rotate_left
                                                · rintro w' ⟨s0, s1, s2, s3, s4, s5, s6⟩
                                                  go_simp
                                                  with_reducible rfl
                                                rotate_left
                                                · simp only [Act.put, List.setIfInBounds_toArray, List.set_cons_zero, List.set_cons_succ, i64_w, i32_w]
                                                  rfl
                                                refine take_ (i := 7) (N := some 61) (v := ?_) (a' := ?_) #[true, true, true, true, true, true, true, true, false, false, false, false, false] rfl rfl (take_ofW HT_.out HW_.out (by kernel_rfl)) (fun _ _ _ h => h) (Or.inl ⟨by rfl, ?_⟩) hHeld ?_ ?_
                                                rotate_left
                                                · rintro w' ⟨s0, s1, s2, s3, s4, s5, s6⟩
                                                  go_simp
                                                  with_reducible rfl
                                                rotate_left
                                                · simp only [Act.put, List.setIfInBounds_toArray, List.set_cons_zero, List.set_cons_succ, i64_w, i32_w]
                                                  rfl
                                                refine pure_ (i := 8) (N := some 62) (v := ?_) (a' := ?_) #[true, true, true, true, true, true, true, true, true, false, false, false, false] rfl rfl (any_of HT_.out (by kernel_rfl)) (fun _ _ _ h => h) (Or.inl ⟨by rfl, ?_⟩) ?_ ?_
                                                rotate_left
                                                · intro w'
                                                  go_simp
                                                  with_reducible rfl
                                                rotate_left
                                                · simp only [Act.put, List.setIfInBounds_toArray, List.set_cons_zero, List.set_cons_succ, i64_w, i32_w]
                                                  rfl
                                                refine take_ (i := 9) (N := some 63) (v := ?_) (a' := ?_) #[true, true, true, true, true, true, true, true, true, true, false, false, false] rfl rfl (take_ofW HT_.out HW_.out (by kernel_rfl)) (fun _ _ _ h => h) (Or.inl ⟨by rfl, ?_⟩) hHeld ?_ ?_
                                                rotate_left
                                                · rintro w' ⟨s0, s1, s2, s3, s4, s5, s6⟩
                                                  go_simp
                                                  with_reducible rfl
                                                rotate_left
                                                · simp only [Act.put, List.setIfInBounds_toArray, List.set_cons_zero, List.set_cons_succ, i64_w, i32_w]
                                                  rfl
                                                refine pure_ (i := 10) (N := some 64) (v := ?_) (a' := ?_) #[true, true, true, true, true, true, true, true, true, true, true, false, false] rfl rfl (any_of HT_.out (by kernel_rfl)) (fun _ _ _ h => h) (Or.inl ⟨by rfl, ?_⟩) ?_ ?_
                                                rotate_left
                                                · intro w'
                                                  go_simp
                                                  with_reducible rfl
                                                rotate_left
                                                · simp only [Act.put, List.setIfInBounds_toArray, List.set_cons_zero, List.set_cons_succ, i64_w, i32_w]
                                                  rfl
                                                refine take_ (i := 11) (N := some 65) (v := ?_) (a' := ?_) #[true, true, true, true, true, true, true, true, true, true, true, true, false] rfl rfl (take_ofW HT_.out HW_.out (by kernel_rfl)) (fun _ _ _ h => h) (Or.inl ⟨by rfl, ?_⟩) hHeld ?_ ?_
                                                rotate_left
                                                · rintro w' ⟨s0, s1, s2, s3, s4, s5, s6⟩
                                                  go_simp
                                                  with_reducible rfl
                                                rotate_left
                                                · simp only [Act.put, List.setIfInBounds_toArray, List.set_cons_zero, List.set_cons_succ, i64_w, i32_w]
                                                  rfl
                                                refine pure_ (i := 12) (N := some 66) (v := ?_) (a' := ?_) #[true, true, true, true, true, true, true, true, true, true, true, true, true] rfl rfl (any_of HT_.out (by kernel_rfl)) (fun _ _ _ h => h) (Or.inl ⟨by rfl, ?_⟩) ?_ ?_
                                                rotate_left
                                                · intro w'
                                                  go_simp
                                                  with_reducible rfl
                                                rotate_left
                                                · simp only [Act.put, List.setIfInBounds_toArray, List.set_cons_zero, List.set_cons_succ, i64_w, i32_w]
                                                  rfl
                                                refine done_ (done_of HT_.out (by kernel_rfl)) ?_
                                                try go_wp2
                                                have n0_ := Aside0.mk (Kd.R_drew HO_8.out)
                                                have n1_ := Aside0.mk (blk_drew BK191.out)
                                                have n2_ := Aside0.mk (blk_drew BK199.out)
                                                have n3_ := Aside0.mk (below_drew1 HB.out)
                                                clear HO_8
                                                clear BK191
                                                clear BK199
                                                clear HB
                                                have HO_8 := n0_
                                                have BK191 := n1_
                                                have BK199 := n2_
                                                have HB := n3_
                                                clear n0_ n1_ n2_ n3_
                                                have p204 : 0 ≤ (((rd_T43 l2 x12_3).f0) : Int) := of_decide_eq_true (by first | (with_reducible assumption) | assumption)
                                                have q204 : ((rd_T43 l2 x12_3).f0) < (x8_3.length : Int) := of_decide_eq_true (by first | (with_reducible assumption) | assumption)
                                                obtain ⟨ad204, e204, hx204_0⟩ := Kd.at_int (Kd.R_reads' HO_8.out).2.2 ((rd_T43 l2 x12_3).f0) p204 q204
                                                obtain rfl : ad200 = ad204 := (by injection e204)
                                                replace p204 := eq_true p204
                                                replace q204 := eq_true q204
                                                refine start_ (n := 14) (S := fun w' => w'.cell? ⟨gb199, 0, none⟩ = some (.int .i64 ((rd_T43 l2 x12_3).f0)) ∧ w'.cell? ⟨gb199, 1, none⟩ = some (.int .i64 ((rd_T43 l2 x12_3).f1)) ∧ w'.cell? ⟨gb199, 2, none⟩ = some (.int .i64 ((rd_T43 l2 x12_3).f2)) ∧ w'.cell? ⟨gb191, 0, none⟩ = some (.slice (some ad201) l0_0.length c0_0) ∧ w'.cell? (ad200.add (((rd_T43 l2 x12_3).f0)).toNat) = some (.int .i64 (rd x8_3 ((rd_T43 l2 x12_3).f0)))) (ds := [13]) #[false, false, false, false, false, false, false, false, false, false, false, false, false, false] (by kernel_rfl) rfl rfl ⟨(blk_cell BK199.out 0).trans rfl, (blk_cell BK199.out 1).trans rfl, (blk_cell BK199.out 2).trans rfl, (blk_cell BK191.out 0).trans rfl, hx204_0⟩ (fun hHeld => ?_); refine with_tabW portcullisref21_Least.tab20 portcullisref21_Least.bits20 (fun HT_ HW_ => ?_)
                                                generalize w49.drew = w50 at HO_8 BK191 BK199 HB hx204_0 hHeld ⊢
                                                refine pure_ (i := 0) (N := some 67) (v := ?_) (a' := ?_) #[true, false, false, false, false, false, false, false, false, false, false, false, false, false] rfl rfl (any_of HT_.out (by kernel_rfl)) (fun _ _ _ h => h) (Or.inl ⟨by rfl, ?_⟩) ?_ ?_
                                                rotate_left
                                                · intro w'
                                                  go_simp
                                                  with_reducible rfl
                                                rotate_left
                                                · simp only [Act.put, List.setIfInBounds_toArray, List.set_cons_zero, List.set_cons_succ, i64_w, i32_w]
                                                  rfl
                                                refine pure_ (i := 1) (N := some 68) (v := ?_) (a' := ?_) #[true, true, false, false, false, false, false, false, false, false, false, false, false, false] rfl rfl (any_of HT_.out (by kernel_rfl)) (fun _ _ _ h => h) (Or.inl ⟨by rfl, ?_⟩) ?_ ?_
                                                rotate_left
                                                · intro w'
                                                  go_simp
                                                  with_reducible rfl
                                                rotate_left
                                                · simp only [Act.put, List.setIfInBounds_toArray, List.set_cons_zero, List.set_cons_succ, i64_w, i32_w]
                                                  rfl
                                                refine pure_ (i := 4) (N := some 71) (v := ?_) (a' := ?_) #[true, true, false, false, true, false, false, false, false, false, false, false, false, false] rfl rfl (any_of HT_.out (by kernel_rfl)) (fun _ _ _ h => h) (Or.inl ⟨by rfl, ?_⟩) ?_ ?_
                                                rotate_left
                                                · intro w'
                                                  go_simp
                                                  with_reducible rfl
                                                rotate_left
                                                · simp only [Act.put, List.setIfInBounds_toArray, List.set_cons_zero, List.set_cons_succ, i64_w, i32_w]
                                                  rfl
                                                refine pure_ (i := 5) (N := some 72) (v := ?_) (a' := ?_) #[true, true, false, false, true, true, false, false, false, false, false, false, false, false] rfl rfl (any_of HT_.out (by kernel_rfl)) (fun _ _ _ h => h) (Or.inl ⟨by rfl, ?_⟩) ?_ ?_
                                                rotate_left
                                                · intro w'
                                                  go_simp
                                                  with_reducible rfl
                                                rotate_left
                                                · simp only [Act.put, List.setIfInBounds_toArray, List.set_cons_zero, List.set_cons_succ, i64_w, i32_w]
                                                  rfl
                                                refine pure_ (i := 6) (N := some 73) (v := ?_) (a' := ?_) #[true, true, false, false, true, true, true, false, false, false, false, false, false, false] rfl rfl (any_of HT_.out (by kernel_rfl)) (fun _ _ _ h => h) (Or.inl ⟨by rfl, ?_⟩) ?_ ?_
                                                rotate_left
                                                · intro w'
                                                  go_simp
                                                  with_reducible rfl
                                                rotate_left
                                                · simp only [Act.put, List.setIfInBounds_toArray, List.set_cons_zero, List.set_cons_succ, i64_w, i32_w]
                                                  rfl
                                                refine take_ (i := 2) (N := some 69) (v := ?_) (a' := ?_) #[true, true, true, false, true, true, true, false, false, false, false, false, false, false] rfl rfl (take_ofW HT_.out HW_.out (by kernel_rfl)) (fun _ _ _ h => h) (Or.inl ⟨by rfl, ?_⟩) hHeld ?_ ?_
                                                rotate_left
                                                · rintro w' ⟨s0, s1, s2, s3, s4⟩
                                                  go_simp
                                                  with_reducible rfl
                                                rotate_left
                                                · simp only [Act.put, List.setIfInBounds_toArray, List.set_cons_zero, List.set_cons_succ, i64_w, i32_w]
                                                  rfl
                                                refine take_ (i := 3) (N := some 70) (v := ?_) (a' := ?_) #[true, true, true, true, true, true, true, false, false, false, false, false, false, false] rfl rfl (take_ofW HT_.out HW_.out (by kernel_rfl)) (fun _ _ _ h => h) (Or.inl ⟨by rfl, ?_⟩) hHeld ?_ ?_
                                                rotate_left
                                                · rintro w' ⟨s0, s1, s2, s3, s4⟩
                                                  go_simp
                                                  with_reducible rfl
                                                rotate_left
                                                · simp only [Act.put, List.setIfInBounds_toArray, List.set_cons_zero, List.set_cons_succ, i64_w, i32_w]
                                                  rfl
                                                refine take_ (i := 7) (N := some 74) (v := ?_) (a' := ?_) #[true, true, true, true, true, true, true, true, false, false, false, false, false, false] rfl rfl (take_ofW HT_.out HW_.out (by kernel_rfl)) (fun _ _ _ h => h) (Or.inl ⟨by rfl, ?_⟩) hHeld ?_ ?_
                                                rotate_left
                                                · rintro w' ⟨s0, s1, s2, s3, s4⟩
                                                  go_simp
                                                  with_reducible rfl
                                                rotate_left
                                                · simp only [Act.put, List.setIfInBounds_toArray, List.set_cons_zero, List.set_cons_succ, i64_w, i32_w]
                                                  rfl
                                                refine pure_ (i := 8) (N := some 75) (v := ?_) (a' := ?_) #[true, true, true, true, true, true, true, true, true, false, false, false, false, false] rfl rfl (any_of HT_.out (by kernel_rfl)) (fun _ _ _ h => h) (Or.inl ⟨by rfl, ?_⟩) ?_ ?_
                                                rotate_left
                                                · intro w'
                                                  go_simp
                                                  with_reducible rfl
                                                rotate_left
                                                · simp only [Act.put, List.setIfInBounds_toArray, List.set_cons_zero, List.set_cons_succ, i64_w, i32_w]
                                                  rfl
                                                refine take_ (i := 9) (N := some 76) (v := ?_) (a' := ?_) #[true, true, true, true, true, true, true, true, true, true, false, false, false, false] rfl rfl (take_ofW HT_.out HW_.out (by kernel_rfl)) (fun _ _ _ h => h) (Or.inl ⟨by rfl, ?_⟩) hHeld ?_ ?_
                                                rotate_left
                                                · rintro w' ⟨s0, s1, s2, s3, s4⟩
                                                  go_simp
                                                  with_reducible rfl
                                                rotate_left
                                                · simp only [Act.put, List.setIfInBounds_toArray, List.set_cons_zero, List.set_cons_succ, i64_w, i32_w]
                                                  rfl
                                                refine one_ (i := 10) (N := some 77) #[true, true, true, true, true, true, true, true, true, true, true, false, false, false] rfl rfl (one_of HT_.out (by kernel_rfl)) (by decide) (fun K hK => ?_)
                                                refine Kd.R_lit_step (Kd.int .i64) _ 3 ?hg (N := 77) ?hd (xs := ([rd x8_3 ((rd_T43 l2 x12_3).f1), rd x8_3 ((rd_T43 l2 x12_3).f0)] : List Int)) (inner := [.int .i64 (rd x8_3 ((rd_T43 l2 x12_3).f1)), .int .i64 (rd x8_3 ((rd_T43 l2 x12_3).f0))]) (ok := fun _ => True) (okp := fun _ => True) ?hr ?hp (fun _ hk => hk) trivial (Below.refl _ _) (Nat.le_refl _) (by simp) ?_; (case hd => rfl); (case hg => rfl); (case hr => first | (go_simp; done) | (go_simp; rfl)); (case hp => exact (Reps.one (show Kd.M (Kd.int .i64) _ _ _ (rd x8_3 ((rd_T43 l2 x12_3).f1)) [.int .i64 (rd x8_3 ((rd_T43 l2 x12_3).f1))] from rfl) (Reps.one (show Kd.M (Kd.int .i64) _ _ _ (rd x8_3 ((rd_T43 l2 x12_3).f0)) [.int .i64 (rd x8_3 ((rd_T43 l2 x12_3).f0))] from rfl) (Reps.none _ _))))
                                                intro v206 w51 ho52 hb hg_ hnew_
                                                have HS4_ := (hb.cell (World.block_lt_of_cell? _ _ (hHeld.2.2.2.2))).trans (hHeld.2.2.2.2)
                                                clear hg_ hnew_
                                                (first | rw [← Ny205.out] at ho52 | (simp only [Int.reduceToNat] at ho52; rw [← Ny205.out] at ho52))
                                                have n0_ := Aside0.mk (Kd.R_elder' (by (with_reducible repeat (first | apply Kd.R_alloc | apply Kd.R_drewN | apply Kd.R_drew)); exact HO_8.out) (Kd.R_base ho52) hb)
                                                have n1_ := Aside0.mk (Kd.R_lower (Kd.R_new' ho52 (Kd.R_lt (by (with_reducible repeat (first | apply Kd.R_alloc | apply Kd.R_drewN | apply Kd.R_drew)); exact HO_8.out))) (below_size (by repeat (first | (with_reducible first | exact HB.out | apply below_alloc | apply pw_below_drewN | apply below_drew1 | refine below_set ?_ GE191.out | refine below_set ?_ GE199.out) | exact HB.out))))
                                                have n2_ := Aside0.mk (blk_below (g := gb191) (o := .cells #[.slice (some ad201) l0_0.length c0_0] 31 (0, 0)) (by (with_reducible repeat (first | refine blk_drewN ?_ _ | refine blk_drew ?_ | refine blk_alloc ?_ _)); exact BK191.out) hb)
                                                have n3_ := Aside0.mk (blk_below (g := gb199) (o := .cells #[.int .i64 ((rd_T43 l2 x12_3).f0), .int .i64 ((rd_T43 l2 x12_3).f1), .int .i64 ((rd_T43 l2 x12_3).f2)] 43 (0, 0)) (by (with_reducible repeat (first | refine blk_drewN ?_ _ | refine blk_drew ?_ | refine blk_alloc ?_ _)); exact BK199.out) hb)
                                                have n4_ := Aside0.mk (below_step (by repeat (first | (with_reducible first | exact HB.out | apply below_alloc | apply pw_below_drewN | apply below_drew1 | refine below_set ?_ GE191.out | refine below_set ?_ GE199.out) | exact HB.out)) hb)
                                                clear HO_8
                                                clear BK191
                                                clear BK199
                                                clear HB
                                                have HO_8 := n0_
                                                have HO207 := n1_
                                                have BK191 := n2_
                                                have BK199 := n3_
                                                have HB := n4_
                                                clear n0_ n1_ n2_ n3_ n4_
                                                clear hb ho52
                                                obtain ⟨Ao53, co53, eo53⟩ := Kd.R_slice HO207.out
                                                (first | subst eo53 | (injection eo53 with f1_ f2_ f3_; have f4_ := f1_.symm; have f5_ := f3_.symm; clear f1_ f2_ f3_; subst f4_; subst f5_))
                                                refine hK.out _ _ ⟨(blk_cell BK199.out 0).trans rfl, (blk_cell BK199.out 1).trans rfl, (blk_cell BK199.out 2).trans rfl, (blk_cell BK191.out 0).trans rfl, HS4_⟩ (fun hHeld => ?_)
                                                clear hK K
                                                refine norm_ (a' := ?_) ?_ ?_
                                                rotate_left
                                                · show Act.put _ (some 77) _ = _
                                                  simp only [Act.put, List.setIfInBounds_toArray, List.set_cons_zero, List.set_cons_succ, i64_w, i32_w]
                                                  rfl
                                                refine one_ (i := 11) (N := some 78) #[true, true, true, true, true, true, true, true, true, true, true, true, false, false] rfl rfl (one_of HT_.out (by kernel_rfl)) (by decide) (fun K hK => ?_)
                                                refine goes_ Try.func40 (by kernel_rfl) rfl #[.agg #[.slice (some ad201) l0_0.length c0_0], .slice Ao53 y205.length co53] (by rfl) rfl rfl (by (try simp only [List.map_toArray, List.map_cons, List.map_nil]); first | done | rfl | (simp only [List.length_drop, List.length_take]; rfl)) ?_
                                                with_reducible refine (portcullisref01_Order_Join.calls k3 _ _ l0_0 _ _ y205 t208 _ ?side1 ?side2 ?side3 ?side4 A42.out).mono ?_
                                                (case side1 => repeat (first | exact (Kd.C_below HR0_0.out HB.out) | (with_reducible refine Kd.C_alloc ?_ _) | (with_reducible refine Kd.C_drewN ?_ _) | (with_reducible refine Kd.C_drew ?_)))
                                                (case side2 => exact HC0_0.out)
                                                (case side3 => repeat (first | exact (Kd.R_reads' HO207.out).2.2 | (with_reducible refine Kd.C_alloc ?_ _) | (with_reducible refine Kd.C_drewN ?_ _) | (with_reducible refine Kd.C_drew ?_)))
                                                (case side4 => exact (Kd.R_reads' HO207.out).2.1)
                                                rintro e w54 ⟨rfl, hb⟩
                                                have HS4_ := (hb.cell (World.block_lt_of_cell? _ _ (hHeld.2.2.2.2))).trans (hHeld.2.2.2.2)
                                                refine ⟨_, rfl, ?_⟩
                                                have n0_ := Aside0.mk (Kd.R_below (by (with_reducible repeat (first | apply Kd.R_alloc | apply Kd.R_drewN | apply Kd.R_drew)); exact HO_8.out) hb)
                                                have n1_ := Aside0.mk (Kd.R_below (by (with_reducible repeat (first | apply Kd.R_alloc | apply Kd.R_drewN | apply Kd.R_drew)); exact HO207.out) hb)
                                                have n2_ := Aside0.mk (blk_below (g := gb191) (o := .cells #[.slice (some ad201) l0_0.length c0_0] 31 (0, 0)) (by (with_reducible repeat (first | refine blk_drewN ?_ _ | refine blk_drew ?_ | refine blk_alloc ?_ _)); exact BK191.out) hb)
                                                have n3_ := Aside0.mk (blk_below (g := gb199) (o := .cells #[.int .i64 ((rd_T43 l2 x12_3).f0), .int .i64 ((rd_T43 l2 x12_3).f1), .int .i64 ((rd_T43 l2 x12_3).f2)] 43 (0, 0)) (by (with_reducible repeat (first | refine blk_drewN ?_ _ | refine blk_drew ?_ | refine blk_alloc ?_ _)); exact BK199.out) hb)
                                                have n4_ := Aside0.mk (below_step (by repeat (first | (with_reducible first | exact HB.out | apply below_alloc | apply pw_below_drewN | apply below_drew1 | refine below_set ?_ GE191.out | refine below_set ?_ GE199.out) | exact HB.out)) hb)
                                                clear HO_8
                                                clear HO207
                                                clear BK191
                                                clear BK199
                                                clear HB
                                                have HO_8 := n0_
                                                have HO207 := n1_
                                                have BK191 := n2_
                                                have BK199 := n3_
                                                have HB := n4_
                                                clear n0_ n1_ n2_ n3_ n4_
                                                (try clear hb)
                                                (try clear hb2)
                                                (try clear hk)
                                                (try clear hi)
                                                have p43 : 0 ≤ (((rd_T43 l2 x12_3).f0) : Int) := of_decide_eq_true (by first | (with_reducible assumption) | assumption)
                                                have q43 : (((rd_T43 l2 x12_3).f0) : Int) < ((x8_3.length : Int) : Int) := of_decide_eq_true (by first | (with_reducible assumption) | assumption)
                                                obtain ⟨go43, co43, eo43, gb43, gl43, cl43, HG43⟩ := Kd.R_form HO_8.out (by omega)
                                                (first | cases eo43 | (injection eo43 with ea_ en_ ec_; (first | subst ea_ | (injection ea_ with ea_; subst ea_)); subst ec_; clear en_))
                                                have GB43 := Aside0.mk gb43
                                                have GG43 := Aside0.mk HG43
                                                clear gb43 gl43 HG43
                                                (first | simp only [add_plain] at hx200_0 | skip)
                                                (first | simp only [add_plain] at hx202_0 | skip)
                                                (first | simp only [add_plain] at hx204_0 | skip)
                                                obtain ⟨hx43_0, hf43_0⟩ := Kd.R_celln 0 HO_8.out (((rd_T43 l2 x12_3).f0) : Int) p43 q43
                                                replace p43 := eq_true p43
                                                replace q43 := eq_true q43
                                                have HP55 := Kd.R_putn HO_8.out (((rd_T43 l2 x12_3).f0) : Int) t208
                                                rw [← Ny209.out] at HP55
                                                have HQ55 := Aside0.mk HP55
                                                clear HP55
                                                refine hK.out _ _ ⟨(blk_cell BK199.out 0).trans rfl, (blk_cell BK199.out 1).trans rfl, (blk_cell BK199.out 2).trans rfl, (blk_cell BK191.out 0).trans rfl, HS4_⟩ (fun hHeld => ?_)
                                                clear hK K
                                                refine norm_ (a' := ?_) ?_ ?_
                                                rotate_left
                                                · show Act.put _ (some 78) _ = _
                                                  simp only [Act.put, List.setIfInBounds_toArray, List.set_cons_zero, List.set_cons_succ, i64_w, i32_w]
                                                  rfl
                                                refine pure_ (i := 12) (N := some 79) (v := ?_) (a' := ?_) #[true, true, true, true, true, true, true, true, true, true, true, true, true, false] rfl rfl (any_of HT_.out (by kernel_rfl)) (fun _ _ _ h => h) (Or.inl ⟨by rfl, ?_⟩) ?_ ?_
                                                rotate_left
                                                · intro w'
                                                  go_simp
                                                  with_reducible rfl
                                                rotate_left
                                                · simp only [Act.put, List.setIfInBounds_toArray, List.set_cons_zero, List.set_cons_succ, i64_w, i32_w]
                                                  rfl
                                                refine last_ (i := 13) (N := none) #[true, true, true, true, true, true, true, true, true, true, true, true, true, true] rfl rfl (one_of HT_.out (by kernel_rfl)) (by decide) (fun K hK => ?_)
                                                refine skip_ (w1 := ?_) (by rfl) rfl ?_ ?_
                                                rotate_left
                                                · go_simp
                                                  rfl
                                                refine hK.out _ _ ?_
                                                clear hK K
                                                refine done_ (done_of HT_.out (by kernel_rfl)) ?_
                                                try go_wp2
                                                go_roundg k3
                                                case measure => have := HK1.out; have := HK2.out; have := HK3.out; omega
                                                case rel => exact ⟨(y209), (true), (wrap64 (x12_3 + 1)), (by first | rfl | (simp; done) | (simp [*]; done)), (by first | rfl | (simp; done) | (simp [*]; done)), H', ⟨by have := HK1.out; have := HK2.out; have := HK3.out; omega⟩, ⟨by (with_reducible repeat (first | apply Kd.R_alloc | apply Kd.R_drewN | apply Kd.R_drew)); exact Kd.R_mono HQ55.out (fun _ hk => trivial)⟩, ⟨by (with_reducible repeat (first | refine blk_drewN ?_ _ | refine blk_drew ?_ | refine blk_alloc ?_ _)); refine blk_far ?_ (by have h_ := Kd.R_ne HO_8.out BK191.out (by decide); intro e_; exact h_ (by rw [e_]; rfl)) _; (with_reducible repeat (first | refine blk_drewN ?_ _ | refine blk_drew ?_ | refine blk_alloc ?_ _)); exact BK191.out⟩, ⟨by repeat (first | (with_reducible first | exact HB.out | apply below_alloc | apply pw_below_drewN | apply below_drew1 | refine below_set ?_ GB43.out | refine below_set ?_ GE191.out | refine below_set ?_ GE199.out) | exact HB.out)⟩⟩
                                            · rw [if_neg c33] at H
                                              exact absurd H (by simp)
                                          · rw [if_neg c32] at H
                                            exact absurd H (by simp)
                                        · rw [if_neg c31] at H
                                          exact absurd H (by simp)
                                      · rw [if_neg c30] at H
                                        exact absurd H (by simp)
                                    · rw [if_neg c29] at H
                                      exact absurd H (by simp)
                                  · rw [if_neg c28] at H
                                    exact absurd H (by simp)
                                · rw [if_neg c27] at H
                                  exact absurd H (by simp)
                              · rw [if_neg c26] at H
                                exact absurd H (by simp)
                            · rw [if_neg c25] at H
                              have c25b0 : decide (0 ≤ ((rd_T43 l2 x12_3).f1)) = false := decide_eq_false c25
                              clear c25
                              by_cases c56 : 0 ≤ ((rd_T43 l2 x12_3).f2)
                              · rw [if_pos c56] at H
                                have c56b0 : decide (0 ≤ ((rd_T43 l2 x12_3).f2)) = true := decide_eq_true c56
                                clear c56
                                by_cases c57 : ((rd_T43 l2 x12_3).f2) < (l0_0.length : Int)
                                · rw [if_pos c57] at H
                                  have c57b0 : decide (((rd_T43 l2 x12_3).f2) < (l0_0.length : Int)) = true := decide_eq_true c57
                                  clear c57
                                  by_cases c58 : 0 ≤ ((rd_T43 l2 x12_3).f0)
                                  · rw [if_pos c58] at H
                                    have c58b0 : decide (0 ≤ ((rd_T43 l2 x12_3).f0)) = true := decide_eq_true c58
                                    clear c58
                                    by_cases c59 : ((rd_T43 l2 x12_3).f0) < (x8_3.length : Int)
                                    · rw [if_pos c59] at H
                                      have c59b0 : decide (((rd_T43 l2 x12_3).f0) < (x8_3.length : Int)) = true := decide_eq_true c59
                                      clear c59
                                      by_cases c60 : 0 ≤ (rd x8_3 ((rd_T43 l2 x12_3).f0))
                                      · rw [if_pos c60] at H
                                        have c60b0 : decide (0 ≤ (rd x8_3 ((rd_T43 l2 x12_3).f0))) = true := decide_eq_true c60
                                        clear c60
                                        by_cases c61 : (rd x8_3 ((rd_T43 l2 x12_3).f0)) < ((rd_L5 l0_0 ((rd_T43 l2 x12_3).f2)).length : Int)
                                        · rw [if_pos c61] at H
                                          have c61b0 : decide ((rd x8_3 ((rd_T43 l2 x12_3).f0)) < ((rd_L5 l0_0 ((rd_T43 l2 x12_3).f2)).length : Int)) = true := decide_eq_true c61
                                          clear c61
                                          obtain ⟨bq62, hbq62⟩ : ∃ b_ : Bool, b_ = (rdOf false (rd_L5 l0_0 ((rd_T43 l2 x12_3).f2)) (rd x8_3 ((rd_T43 l2 x12_3).f0))) := ⟨_, rfl⟩
                                          replace H : (if (bq62 = true) then (portcullisref21_Least.l2 k3 l2 x8_3 x11_3 (wrap64 (x12_3 + 1)) l0_0) else ((portcullisref01_Order_Join.f k3 l0_0 (([(rd_T43 l2 x12_3).f2, rd x8_3 ((rd_T43 l2 x12_3).f0)] : List Int))).bind fun t217 => (portcullisref21_Least.l2 k3 l2 (x8_3.set (((rd_T43 l2 x12_3).f0) : Int).toNat t217) true (wrap64 (x12_3 + 1)) l0_0))) = some (r1, r2) := by rw [← hbq62] at H; exact H
                                          have Nbq62 := Aside0.mk hbq62
                                          clear hbq62
                                          by_cases c63 : (bq62 = true)
                                          · subst c63
                                            have H1 : (portcullisref21_Least.l2 k3 l2 x8_3 x11_3 (wrap64 (x12_3 + 1)) l0_0) = some (r1, r2) := by rw [if_pos rfl] at H; exact H
                                            clear H
                                            have H := H1
                                            clear H1
                                            have H' := Aside0.mk H
                                            clear H
                                            have p198 : 0 ≤ (x12_3 : Int) := of_decide_eq_true (by first | (with_reducible assumption) | assumption)
                                            have q198 : x12_3 < (l2.length : Int) := of_decide_eq_true (by first | (with_reducible assumption) | assumption)
                                            obtain ⟨ad198, e198, hx198_0, hx198_1, hx198_2⟩ := at_T43 HR2.out x12_3 p198 q198
                                            cases e198
                                            replace hx198_0 := (HB.out.cell (World.block_lt_of_cell? w _ hx198_0)).trans hx198_0
                                            replace hx198_1 := (HB.out.cell (World.block_lt_of_cell? w _ hx198_1)).trans hx198_1
                                            replace hx198_2 := (HB.out.cell (World.block_lt_of_cell? w _ hx198_2)).trans hx198_2
                                            replace p198 := eq_true p198
                                            replace q198 := eq_true q198
                                            try go_wp2_with (first | ((with_reducible refine gate_dst (N := 13) rfl ?_); refine box_event ?hg (N := 13) ?hd (cs := #[.int .i64 0, .int .i64 0, .int .i64 0]) (t := 43) ?hr ?_; (case hd => rfl); (case hg => rfl); (case hr => first | (go_simp; done) | (go_simp; rfl)); intro gb199 hg w64 hbox hb; have n0_ := Aside0.mk (Kd.R_below (by (with_reducible repeat (first | apply Kd.R_alloc | apply Kd.R_drewN | apply Kd.R_drew)); exact HO_8.out) hb); have n1_ := Aside0.mk (blk_below (g := gb191) (o := .cells #[.slice A0_0 l0_0.length c0_0] 31 (0, 0)) (by (with_reducible repeat (first | refine blk_drewN ?_ _ | refine blk_drew ?_ | refine blk_alloc ?_ _)); exact BK191.out) hb); have n2_ := Aside0.mk (below_step (by repeat (first | (with_reducible first | exact HB.out | apply below_alloc | apply pw_below_drewN | apply below_drew1 | refine below_set ?_ GE191.out) | exact HB.out)) hb); have n3_ := Aside0.mk (hbox); have n4_ := Aside0.mk ((by rw [hg]; exact (below_size (by repeat (first | (with_reducible first | exact HB.out | apply below_alloc | apply pw_below_drewN | apply below_drew1 | refine below_set ?_ GE191.out) | exact HB.out))) : w.heap.size ≤ gb199)); have n5_ := Aside0.mk ((by rw [hg]; exact (below_size (by repeat (first | (with_reducible first | exact HB.out | apply below_alloc | apply pw_below_drewN | apply below_drew1 | refine below_set ?_ GE191.out) | exact HB.out))) : w.heap.size ≤ gb199)); have n6_ := Aside0.mk ((by rw [hg]; exact Nat.ne_of_lt (blk_lt (g := gb191) (o := .cells #[.slice A0_0 l0_0.length c0_0] 31 (0, 0)) (by (with_reducible repeat (first | refine blk_drewN ?_ _ | refine blk_drew ?_ | refine blk_alloc ?_ _)); exact BK191.out)) : gb191 ≠ gb199)); have n7_ := Aside0.mk ((by rw [hg]; exact Nat.ne_of_gt (blk_lt (g := gb191) (o := .cells #[.slice A0_0 l0_0.length c0_0] 31 (0, 0)) (by (with_reducible repeat (first | refine blk_drewN ?_ _ | refine blk_drew ?_ | refine blk_alloc ?_ _)); exact BK191.out)) : gb199 ≠ gb191)); clear HO_8; clear BK191; clear HB; have HO_8 := n0_; have BK191 := n1_; have HB := n2_; have BK199 := n3_; have GW199 := n4_; have GE199 := n5_; have NB191_199 := n6_; have NB199_191 := n7_; clear n0_ n1_ n2_ n3_ n4_ n5_ n6_ n7_; clear hb hbox hg; have hnb65 := NB199_191.out; have hnc65 := NB191_199.out; have hcz66_0 : w64.cell? ⟨gb199, 0, none⟩ = some (.int .i64 0) := (blk_cell BK199.out 0).trans rfl; have hcz66_1 : w64.cell? ⟨gb199, 1, none⟩ = some (.int .i64 0) := (blk_cell BK199.out 1).trans rfl; have hcz66_2 : w64.cell? ⟨gb199, 2, none⟩ = some (.int .i64 0) := (blk_cell BK199.out 2).trans rfl; have hfz66_0 := blk_frozen BK199.out 0; have hfz66_1 := blk_frozen BK199.out 1; have hfz66_2 := blk_frozen BK199.out 2))
                                            have n0_ : Aside0 (Kd.R (Kd.int .i64) 3 (((w64.setCell ⟨gb199, 0, none⟩ (.int .i64 ((rd_T43 l2 x12_3).f0))).setCell ⟨gb199, 1, none⟩ (.int .i64 ((rd_T43 l2 x12_3).f1))).setCell ⟨gb199, 2, none⟩ (.int .i64 ((rd_T43 l2 x12_3).f2))) w.heap.size (fun _ => True) v194 x8_3) := ⟨by (with_reducible repeat (first | apply Kd.R_alloc | apply Kd.R_drewN | apply Kd.R_drew)); exact Kd.R_mono (Kd.R_far (p := ⟨gb199, 2, none⟩) (Kd.R_far (p := ⟨gb199, 1, none⟩) (Kd.R_far (p := ⟨gb199, 0, none⟩) (Kd.R_types HO_8.out BK199.out (by decide)) (fun _ hk => hk.2) (.int .i64 ((rd_T43 l2 x12_3).f0))) (fun _ hk => hk.2) (.int .i64 ((rd_T43 l2 x12_3).f1))) (fun _ hk => hk.2) (.int .i64 ((rd_T43 l2 x12_3).f2))) (fun _ hk => trivial)⟩
                                            have n1_ : Aside0 ((((w64.setCell ⟨gb199, 0, none⟩ (.int .i64 ((rd_T43 l2 x12_3).f0))).setCell ⟨gb199, 1, none⟩ (.int .i64 ((rd_T43 l2 x12_3).f1))).setCell ⟨gb199, 2, none⟩ (.int .i64 ((rd_T43 l2 x12_3).f2))).heap[gb191]? = some (.cells #[.slice A0_0 l0_0.length c0_0] 31 (0, 0))) := ⟨by (with_reducible repeat (first | refine blk_drewN ?_ _ | refine blk_drew ?_ | refine blk_alloc ?_ _)); refine blk_far ?_ NB191_199.out _; (with_reducible repeat (first | refine blk_drewN ?_ _ | refine blk_drew ?_ | refine blk_alloc ?_ _)); refine blk_far ?_ NB191_199.out _; (with_reducible repeat (first | refine blk_drewN ?_ _ | refine blk_drew ?_ | refine blk_alloc ?_ _)); refine blk_far ?_ NB191_199.out _; (with_reducible repeat (first | refine blk_drewN ?_ _ | refine blk_drew ?_ | refine blk_alloc ?_ _)); exact BK191.out⟩
                                            have n2_ : Aside0 ((((w64.setCell ⟨gb199, 0, none⟩ (.int .i64 ((rd_T43 l2 x12_3).f0))).setCell ⟨gb199, 1, none⟩ (.int .i64 ((rd_T43 l2 x12_3).f1))).setCell ⟨gb199, 2, none⟩ (.int .i64 ((rd_T43 l2 x12_3).f2))).heap[gb199]? = some (.cells #[.int .i64 ((rd_T43 l2 x12_3).f0), .int .i64 ((rd_T43 l2 x12_3).f1), .int .i64 ((rd_T43 l2 x12_3).f2)] 43 (0, 0))) := ⟨by (with_reducible repeat (first | refine blk_drewN ?_ _ | refine blk_drew ?_ | refine blk_alloc ?_ _)); refine blk_put (cs := #[.int .i64 ((rd_T43 l2 x12_3).f0), .int .i64 ((rd_T43 l2 x12_3).f1), .int .i64 0]) ?_ 2 _ rfl; (with_reducible repeat (first | refine blk_drewN ?_ _ | refine blk_drew ?_ | refine blk_alloc ?_ _)); refine blk_put (cs := #[.int .i64 ((rd_T43 l2 x12_3).f0), .int .i64 0, .int .i64 0]) ?_ 1 _ rfl; (with_reducible repeat (first | refine blk_drewN ?_ _ | refine blk_drew ?_ | refine blk_alloc ?_ _)); refine blk_put (cs := #[.int .i64 0, .int .i64 0, .int .i64 0]) ?_ 0 _ rfl; (with_reducible repeat (first | refine blk_drewN ?_ _ | refine blk_drew ?_ | refine blk_alloc ?_ _)); exact BK199.out⟩
                                            have n3_ : Aside0 (Below w.heap.size w (((w64.setCell ⟨gb199, 0, none⟩ (.int .i64 ((rd_T43 l2 x12_3).f0))).setCell ⟨gb199, 1, none⟩ (.int .i64 ((rd_T43 l2 x12_3).f1))).setCell ⟨gb199, 2, none⟩ (.int .i64 ((rd_T43 l2 x12_3).f2)))) := ⟨by repeat (first | (with_reducible first | exact HB.out | apply below_alloc | apply pw_below_drewN | apply below_drew1 | refine below_set ?_ GE191.out | refine below_set ?_ GE199.out) | exact HB.out)⟩
                                            (try clear HO_8)
                                            (try clear BK191)
                                            (try clear BK199)
                                            (try clear HB)
                                            generalize (((w64.setCell ⟨gb199, 0, none⟩ (.int .i64 ((rd_T43 l2 x12_3).f0))).setCell ⟨gb199, 1, none⟩ (.int .i64 ((rd_T43 l2 x12_3).f1))).setCell ⟨gb199, 2, none⟩ (.int .i64 ((rd_T43 l2 x12_3).f2))) = w67 at n0_ n1_ n2_ n3_ ⊢
                                            have HO_8 := n0_
                                            have BK191 := n1_
                                            have BK199 := n2_
                                            have HB := n3_
                                            clear n0_ n1_ n2_ n3_
                                            have n0_ := Aside0.mk (Kd.R_drew HO_8.out)
                                            have n1_ := Aside0.mk (blk_drew BK191.out)
                                            have n2_ := Aside0.mk (blk_drew BK199.out)
                                            have n3_ := Aside0.mk (below_drew1 HB.out)
                                            clear HO_8
                                            clear BK191
                                            clear BK199
                                            clear HB
                                            have HO_8 := n0_
                                            have BK191 := n1_
                                            have BK199 := n2_
                                            have HB := n3_
                                            clear n0_ n1_ n2_ n3_
                                            have p210 : 0 ≤ (((rd_T43 l2 x12_3).f2) : Int) := of_decide_eq_true (by first | (with_reducible assumption) | assumption)
                                            have q210 : ((rd_T43 l2 x12_3).f2) < (l0_0.length : Int) := of_decide_eq_true (by first | (with_reducible assumption) | assumption)
                                            obtain ⟨ad210, A210_0, c210_0, e210, hx210_0, hl210_0, hi210_0⟩ := at_L5 HR0_0.out ((rd_T43 l2 x12_3).f2) p210 q210
                                            have hw210_0 := hx210_0
                                            cases e210
                                            replace hx210_0 := (HB.out.cell (World.block_lt_of_cell? w _ hx210_0)).trans hx210_0
                                            have HR210_0 := Aside0.mk hi210_0
                                            have HC210_0 := Aside0.mk hl210_0
                                            clear hi210_0 hl210_0
                                            replace p210 := eq_true p210
                                            replace q210 := eq_true q210
                                            obtain ⟨Ao69, co69, eo69⟩ := Kd.R_slice HO_8.out
                                            (first | subst eo69 | (injection eo69 with f1_ f2_ f3_; have f4_ := f1_.symm; have f5_ := f3_.symm; clear f1_ f2_ f3_; subst f4_; subst f5_))
                                            have p211 : 0 ≤ (((rd_T43 l2 x12_3).f0) : Int) := of_decide_eq_true (by first | (with_reducible assumption) | assumption)
                                            have q211 : ((rd_T43 l2 x12_3).f0) < (x8_3.length : Int) := of_decide_eq_true (by first | (with_reducible assumption) | assumption)
                                            obtain ⟨ad211, e211, hx211_0⟩ := Kd.at_int (Kd.R_reads' HO_8.out).2.2 ((rd_T43 l2 x12_3).f0) p211 q211
                                            cases e211
                                            replace p211 := eq_true p211
                                            replace q211 := eq_true q211
                                            have p212 : 0 ≤ ((rd x8_3 ((rd_T43 l2 x12_3).f0)) : Int) := of_decide_eq_true (by first | (with_reducible assumption) | assumption)
                                            have q212 : (rd x8_3 ((rd_T43 l2 x12_3).f0)) < ((rd_L5 l0_0 ((rd_T43 l2 x12_3).f2)).length : Int) := of_decide_eq_true (by first | (with_reducible assumption) | assumption)
                                            obtain ⟨ad212, e212, hx212_0⟩ := Kd.at_bool HR210_0.out (rd x8_3 ((rd_T43 l2 x12_3).f0)) p212 q212
                                            have hw212_0 := hx212_0
                                            (try rw [← Nbq62.out] at hx212_0)
                                            cases e212
                                            replace hx212_0 := (HB.out.cell (World.block_lt_of_cell? w _ hx212_0)).trans hx212_0
                                            replace p212 := eq_true p212
                                            replace q212 := eq_true q212
                                            refine start_ (n := 13) (S := fun w' => w'.cell? ⟨gb191, 0, none⟩ = some (.slice (some ad210) l0_0.length c0_0) ∧ w'.cell? ⟨gb199, 0, none⟩ = some (.int .i64 ((rd_T43 l2 x12_3).f0)) ∧ w'.cell? ⟨gb199, 1, none⟩ = some (.int .i64 ((rd_T43 l2 x12_3).f1)) ∧ w'.cell? ⟨gb199, 2, none⟩ = some (.int .i64 ((rd_T43 l2 x12_3).f2)) ∧ w'.cell? (ad210.add (((rd_T43 l2 x12_3).f2)).toNat) = some (.slice (some ad212) (rd_L5 l0_0 ((rd_T43 l2 x12_3).f2)).length c210_0) ∧ w'.cell? (ad211.add (((rd_T43 l2 x12_3).f0)).toNat) = some (.int .i64 (rd x8_3 ((rd_T43 l2 x12_3).f0))) ∧ w'.cell? (ad212.add ((rd x8_3 ((rd_T43 l2 x12_3).f0))).toNat) = some (.bool true)) (ds := []) #[false, false, false, false, false, false, false, false, false, false, false, false, false] (by kernel_rfl) rfl rfl ⟨(blk_cell BK191.out 0).trans rfl, (blk_cell BK199.out 0).trans rfl, (blk_cell BK199.out 1).trans rfl, (blk_cell BK199.out 2).trans rfl, ((HB.out.cell (World.block_lt_of_cell? w _ hw210_0)).trans hw210_0), hx211_0, hx212_0⟩ (fun hHeld => ?_); refine with_tabW portcullisref21_Least.tab19 portcullisref21_Least.bits19 (fun HT_ HW_ => ?_)
                                            generalize w67.drew = w68 at HO_8 BK191 BK199 HB HR210_0 hx210_0 hx211_0 hx212_0 hHeld ⊢
                                            refine pure_ (i := 0) (N := some 54) (v := ?_) (a' := ?_) #[true, false, false, false, false, false, false, false, false, false, false, false, false] rfl rfl (any_of HT_.out (by kernel_rfl)) (fun _ _ _ h => h) (Or.inl ⟨by rfl, ?_⟩) ?_ ?_
                                            rotate_left
                                            · intro w'
                                              go_simp
                                              with_reducible rfl
                                            rotate_left
                                            · simp only [Act.put, List.setIfInBounds_toArray, List.set_cons_zero, List.set_cons_succ, i64_w, i32_w]
                                              rfl
                                            refine pure_ (i := 2) (N := some 56) (v := ?_) (a' := ?_) #[true, false, true, false, false, false, false, false, false, false, false, false, false] rfl rfl (any_of HT_.out (by kernel_rfl)) (fun _ _ _ h => h) (Or.inl ⟨by rfl, ?_⟩) ?_ ?_
                                            rotate_left
                                            · intro w'
                                              go_simp
                                              with_reducible rfl
                                            rotate_left
                                            · simp only [Act.put, List.setIfInBounds_toArray, List.set_cons_zero, List.set_cons_succ, i64_w, i32_w]
                                              rfl
                                            refine pure_ (i := 5) (N := some 59) (v := ?_) (a' := ?_) #[true, false, true, false, false, true, false, false, false, false, false, false, false] rfl rfl (any_of HT_.out (by kernel_rfl)) (fun _ _ _ h => h) (Or.inl ⟨by rfl, ?_⟩) ?_ ?_
                                            rotate_left
                                            · intro w'
                                              go_simp
                                              with_reducible rfl
                                            rotate_left
                                            · simp only [Act.put, List.setIfInBounds_toArray, List.set_cons_zero, List.set_cons_succ, i64_w, i32_w]
                                              rfl
                                            refine pure_ (i := 6) (N := some 60) (v := ?_) (a' := ?_) #[true, false, true, false, false, true, true, false, false, false, false, false, false] rfl rfl (any_of HT_.out (by kernel_rfl)) (fun _ _ _ h => h) (Or.inl ⟨by rfl, ?_⟩) ?_ ?_
                                            rotate_left
                                            · intro w'
                                              go_simp
                                              with_reducible rfl
                                            rotate_left
                                            · simp only [Act.put, List.setIfInBounds_toArray, List.set_cons_zero, List.set_cons_succ, i64_w, i32_w]
                                              rfl
                                            refine take_ (i := 1) (N := some 55) (v := ?_) (a' := ?_) #[true, true, true, false, false, true, true, false, false, false, false, false, false] rfl rfl (take_ofW HT_.out HW_.out (by kernel_rfl)) (fun _ _ _ h => h) (Or.inl ⟨by rfl, ?_⟩) hHeld ?_ ?_
                                            rotate_left
                                            · rintro w' ⟨s0, s1, s2, s3, s4, s5, s6⟩
                                              go_simp
                                              with_reducible rfl
                                            rotate_left
                                            · simp only [Act.put, List.setIfInBounds_toArray, List.set_cons_zero, List.set_cons_succ, i64_w, i32_w]
                                              rfl
                                            refine pure_ (i := 3) (N := some 57) (v := ?_) (a' := ?_) #[true, true, true, true, false, true, true, false, false, false, false, false, false] rfl rfl (any_of HT_.out (by kernel_rfl)) (fun _ _ _ h => h) (Or.inl ⟨by rfl, ?_⟩) ?_ ?_
                                            rotate_left
                                            · intro w'
                                              go_simp
                                              with_reducible rfl
                                            rotate_left
                                            · simp only [Act.put, List.setIfInBounds_toArray, List.set_cons_zero, List.set_cons_succ, i64_w, i32_w]
                                              rfl
                                            refine take_ (i := 4) (N := some 58) (v := ?_) (a' := ?_) #[true, true, true, true, true, true, true, false, false, false, false, false, false] rfl rfl (take_ofW HT_.out HW_.out (by kernel_rfl)) (fun _ _ _ h => h) (Or.inl ⟨by rfl, ?_⟩) hHeld ?_ ?_
                                            rotate_left
                                            · rintro w' ⟨s0, s1, s2, s3, s4, s5, s6⟩
                                              go_simp
                                              with_reducible rfl
                                            rotate_left
                                            · simp only [Act.put, List.setIfInBounds_toArray, List.set_cons_zero, List.set_cons_succ, i64_w, i32_w]
                                              rfl
                                            refine take_ (i := 7) (N := some 61) (v := ?_) (a' := ?_) #[true, true, true, true, true, true, true, true, false, false, false, false, false] rfl rfl (take_ofW HT_.out HW_.out (by kernel_rfl)) (fun _ _ _ h => h) (Or.inl ⟨by rfl, ?_⟩) hHeld ?_ ?_
                                            rotate_left
                                            · rintro w' ⟨s0, s1, s2, s3, s4, s5, s6⟩
                                              go_simp
                                              with_reducible rfl
                                            rotate_left
                                            · simp only [Act.put, List.setIfInBounds_toArray, List.set_cons_zero, List.set_cons_succ, i64_w, i32_w]
                                              rfl
                                            refine pure_ (i := 8) (N := some 62) (v := ?_) (a' := ?_) #[true, true, true, true, true, true, true, true, true, false, false, false, false] rfl rfl (any_of HT_.out (by kernel_rfl)) (fun _ _ _ h => h) (Or.inl ⟨by rfl, ?_⟩) ?_ ?_
                                            rotate_left
                                            · intro w'
                                              go_simp
                                              with_reducible rfl
                                            rotate_left
                                            · simp only [Act.put, List.setIfInBounds_toArray, List.set_cons_zero, List.set_cons_succ, i64_w, i32_w]
                                              rfl
                                            refine take_ (i := 9) (N := some 63) (v := ?_) (a' := ?_) #[true, true, true, true, true, true, true, true, true, true, false, false, false] rfl rfl (take_ofW HT_.out HW_.out (by kernel_rfl)) (fun _ _ _ h => h) (Or.inl ⟨by rfl, ?_⟩) hHeld ?_ ?_
                                            rotate_left
                                            · rintro w' ⟨s0, s1, s2, s3, s4, s5, s6⟩
                                              go_simp
                                              with_reducible rfl
                                            rotate_left
                                            · simp only [Act.put, List.setIfInBounds_toArray, List.set_cons_zero, List.set_cons_succ, i64_w, i32_w]
                                              rfl
                                            refine pure_ (i := 10) (N := some 64) (v := ?_) (a' := ?_) #[true, true, true, true, true, true, true, true, true, true, true, false, false] rfl rfl (any_of HT_.out (by kernel_rfl)) (fun _ _ _ h => h) (Or.inl ⟨by rfl, ?_⟩) ?_ ?_
                                            rotate_left
                                            · intro w'
                                              go_simp
                                              with_reducible rfl
                                            rotate_left
                                            · simp only [Act.put, List.setIfInBounds_toArray, List.set_cons_zero, List.set_cons_succ, i64_w, i32_w]
                                              rfl
                                            refine take_ (i := 11) (N := some 65) (v := ?_) (a' := ?_) #[true, true, true, true, true, true, true, true, true, true, true, true, false] rfl rfl (take_ofW HT_.out HW_.out (by kernel_rfl)) (fun _ _ _ h => h) (Or.inl ⟨by rfl, ?_⟩) hHeld ?_ ?_
                                            rotate_left
                                            · rintro w' ⟨s0, s1, s2, s3, s4, s5, s6⟩
                                              go_simp
                                              with_reducible rfl
                                            rotate_left
                                            · simp only [Act.put, List.setIfInBounds_toArray, List.set_cons_zero, List.set_cons_succ, i64_w, i32_w]
                                              rfl
                                            refine pure_ (i := 12) (N := some 66) (v := ?_) (a' := ?_) #[true, true, true, true, true, true, true, true, true, true, true, true, true] rfl rfl (any_of HT_.out (by kernel_rfl)) (fun _ _ _ h => h) (Or.inl ⟨by rfl, ?_⟩) ?_ ?_
                                            rotate_left
                                            · intro w'
                                              go_simp
                                              with_reducible rfl
                                            rotate_left
                                            · simp only [Act.put, List.setIfInBounds_toArray, List.set_cons_zero, List.set_cons_succ, i64_w, i32_w]
                                              rfl
                                            refine done_ (done_of HT_.out (by kernel_rfl)) ?_
                                            try go_wp2
                                            go_roundg k3
                                            case measure => have := HK1.out; have := HK2.out; have := HK3.out; omega
                                            case rel => exact ⟨(x8_3), (x11_3), (wrap64 (x12_3 + 1)), (by first | rfl | (simp; done) | (simp [*]; done)), (by first | rfl | (simp; done) | (simp [*]; done)), H', ⟨by have := HK1.out; have := HK2.out; have := HK3.out; omega⟩, ⟨by (with_reducible repeat (first | apply Kd.R_alloc | apply Kd.R_drewN | apply Kd.R_drew)); exact HO_8.out⟩, ⟨by (with_reducible repeat (first | refine blk_drewN ?_ _ | refine blk_drew ?_ | refine blk_alloc ?_ _)); exact BK191.out⟩, ⟨by repeat (first | (with_reducible first | exact HB.out | apply below_alloc | apply pw_below_drewN | apply below_drew1 | refine below_set ?_ GE191.out | refine below_set ?_ GE199.out) | exact HB.out)⟩⟩
                                          · replace c63 := Bool.eq_false_iff.mpr c63
                                            subst c63
                                            have H1 : ((portcullisref01_Order_Join.f k3 l0_0 (([(rd_T43 l2 x12_3).f2, rd x8_3 ((rd_T43 l2 x12_3).f0)] : List Int))).bind fun t217 => (portcullisref21_Least.l2 k3 l2 (x8_3.set (((rd_T43 l2 x12_3).f0) : Int).toNat t217) true (wrap64 (x12_3 + 1)) l0_0)) = some (r1, r2) := by rw [if_neg (show ¬ (false = true) by decide)] at H; exact H
                                            clear H
                                            have H := H1
                                            clear H1
                                            obtain ⟨y214, hy214⟩ : ∃ y_ : List Int, y_ = (([(rd_T43 l2 x12_3).f2, rd x8_3 ((rd_T43 l2 x12_3).f0)] : List Int)) := ⟨_, rfl⟩
                                            replace H : ((portcullisref01_Order_Join.f k3 l0_0 y214).bind fun t217 => (portcullisref21_Least.l2 k3 l2 (x8_3.set (((rd_T43 l2 x12_3).f0) : Int).toNat t217) true (wrap64 (x12_3 + 1)) l0_0)) = some (r1, r2) := by first | (rw [hy214]; with_reducible exact H) | (have H2_ := (Option.bind_some _ _).symm.trans H; rw [hy214]; with_reducible exact H2_) | (have H2_ := (Option.bind_some _ _).symm.trans H; with_reducible exact H2_) | with_reducible exact H | (rw [hy214]; exact H) | exact H
                                            have Ny214 := Aside0.mk hy214
                                            clear hy214
                                            replace H := Option.bind_eq_some_iff.mp H
                                            obtain ⟨t217, A700, H⟩ := H
                                            replace H : (portcullisref21_Least.l2 k3 l2 (x8_3.set (((rd_T43 l2 x12_3).f0) : Int).toNat t217) true (wrap64 (x12_3 + 1)) l0_0) = some (r1, r2) := H
                                            have A70 := Aside0.mk A700
                                            clear A700
                                            obtain ⟨y218, hy218⟩ : ∃ y_ : List Int, y_ = (x8_3.set (((rd_T43 l2 x12_3).f0) : Int).toNat t217) := ⟨_, rfl⟩
                                            replace H : (portcullisref21_Least.l2 k3 l2 y218 true (wrap64 (x12_3 + 1)) l0_0) = some (r1, r2) := by first | (rw [hy218]; with_reducible exact H) | (have H2_ := (Option.bind_some _ _).symm.trans H; rw [hy218]; with_reducible exact H2_) | (have H2_ := (Option.bind_some _ _).symm.trans H; with_reducible exact H2_) | with_reducible exact H | (rw [hy218]; exact H) | exact H
                                            have Ny218 := Aside0.mk hy218
                                            clear hy218
                                            have H' := Aside0.mk H
                                            clear H
                                            have p198 : 0 ≤ (x12_3 : Int) := of_decide_eq_true (by first | (with_reducible assumption) | assumption)
                                            have q198 : x12_3 < (l2.length : Int) := of_decide_eq_true (by first | (with_reducible assumption) | assumption)
                                            obtain ⟨ad198, e198, hx198_0, hx198_1, hx198_2⟩ := at_T43 HR2.out x12_3 p198 q198
                                            cases e198
                                            replace hx198_0 := (HB.out.cell (World.block_lt_of_cell? w _ hx198_0)).trans hx198_0
                                            replace hx198_1 := (HB.out.cell (World.block_lt_of_cell? w _ hx198_1)).trans hx198_1
                                            replace hx198_2 := (HB.out.cell (World.block_lt_of_cell? w _ hx198_2)).trans hx198_2
                                            replace p198 := eq_true p198
                                            replace q198 := eq_true q198
                                            try go_wp2_with (first | ((with_reducible refine gate_dst (N := 13) rfl ?_); refine box_event ?hg (N := 13) ?hd (cs := #[.int .i64 0, .int .i64 0, .int .i64 0]) (t := 43) ?hr ?_; (case hd => rfl); (case hg => rfl); (case hr => first | (go_simp; done) | (go_simp; rfl)); intro gb199 hg w72 hbox hb; have n0_ := Aside0.mk (Kd.R_below (by (with_reducible repeat (first | apply Kd.R_alloc | apply Kd.R_drewN | apply Kd.R_drew)); exact HO_8.out) hb); have n1_ := Aside0.mk (blk_below (g := gb191) (o := .cells #[.slice A0_0 l0_0.length c0_0] 31 (0, 0)) (by (with_reducible repeat (first | refine blk_drewN ?_ _ | refine blk_drew ?_ | refine blk_alloc ?_ _)); exact BK191.out) hb); have n2_ := Aside0.mk (below_step (by repeat (first | (with_reducible first | exact HB.out | apply below_alloc | apply pw_below_drewN | apply below_drew1 | refine below_set ?_ GE191.out) | exact HB.out)) hb); have n3_ := Aside0.mk (hbox); have n4_ := Aside0.mk ((by rw [hg]; exact (below_size (by repeat (first | (with_reducible first | exact HB.out | apply below_alloc | apply pw_below_drewN | apply below_drew1 | refine below_set ?_ GE191.out) | exact HB.out))) : w.heap.size ≤ gb199)); have n5_ := Aside0.mk ((by rw [hg]; exact (below_size (by repeat (first | (with_reducible first | exact HB.out | apply below_alloc | apply pw_below_drewN | apply below_drew1 | refine below_set ?_ GE191.out) | exact HB.out))) : w.heap.size ≤ gb199)); have n6_ := Aside0.mk ((by rw [hg]; exact Nat.ne_of_lt (blk_lt (g := gb191) (o := .cells #[.slice A0_0 l0_0.length c0_0] 31 (0, 0)) (by (with_reducible repeat (first | refine blk_drewN ?_ _ | refine blk_drew ?_ | refine blk_alloc ?_ _)); exact BK191.out)) : gb191 ≠ gb199)); have n7_ := Aside0.mk ((by rw [hg]; exact Nat.ne_of_gt (blk_lt (g := gb191) (o := .cells #[.slice A0_0 l0_0.length c0_0] 31 (0, 0)) (by (with_reducible repeat (first | refine blk_drewN ?_ _ | refine blk_drew ?_ | refine blk_alloc ?_ _)); exact BK191.out)) : gb199 ≠ gb191)); clear HO_8; clear BK191; clear HB; have HO_8 := n0_; have BK191 := n1_; have HB := n2_; have BK199 := n3_; have GW199 := n4_; have GE199 := n5_; have NB191_199 := n6_; have NB199_191 := n7_; clear n0_ n1_ n2_ n3_ n4_ n5_ n6_ n7_; clear hb hbox hg; have hnb73 := NB199_191.out; have hnc73 := NB191_199.out; have hcz74_0 : w72.cell? ⟨gb199, 0, none⟩ = some (.int .i64 0) := (blk_cell BK199.out 0).trans rfl; have hcz74_1 : w72.cell? ⟨gb199, 1, none⟩ = some (.int .i64 0) := (blk_cell BK199.out 1).trans rfl; have hcz74_2 : w72.cell? ⟨gb199, 2, none⟩ = some (.int .i64 0) := (blk_cell BK199.out 2).trans rfl; have hfz74_0 := blk_frozen BK199.out 0; have hfz74_1 := blk_frozen BK199.out 1; have hfz74_2 := blk_frozen BK199.out 2))
                                            have n0_ : Aside0 (Kd.R (Kd.int .i64) 3 (((w72.setCell ⟨gb199, 0, none⟩ (.int .i64 ((rd_T43 l2 x12_3).f0))).setCell ⟨gb199, 1, none⟩ (.int .i64 ((rd_T43 l2 x12_3).f1))).setCell ⟨gb199, 2, none⟩ (.int .i64 ((rd_T43 l2 x12_3).f2))) w.heap.size (fun _ => True) v194 x8_3) := ⟨by (with_reducible repeat (first | apply Kd.R_alloc | apply Kd.R_drewN | apply Kd.R_drew)); exact Kd.R_mono (Kd.R_far (p := ⟨gb199, 2, none⟩) (Kd.R_far (p := ⟨gb199, 1, none⟩) (Kd.R_far (p := ⟨gb199, 0, none⟩) (Kd.R_types HO_8.out BK199.out (by decide)) (fun _ hk => hk.2) (.int .i64 ((rd_T43 l2 x12_3).f0))) (fun _ hk => hk.2) (.int .i64 ((rd_T43 l2 x12_3).f1))) (fun _ hk => hk.2) (.int .i64 ((rd_T43 l2 x12_3).f2))) (fun _ hk => trivial)⟩
                                            have n1_ : Aside0 ((((w72.setCell ⟨gb199, 0, none⟩ (.int .i64 ((rd_T43 l2 x12_3).f0))).setCell ⟨gb199, 1, none⟩ (.int .i64 ((rd_T43 l2 x12_3).f1))).setCell ⟨gb199, 2, none⟩ (.int .i64 ((rd_T43 l2 x12_3).f2))).heap[gb191]? = some (.cells #[.slice A0_0 l0_0.length c0_0] 31 (0, 0))) := ⟨by (with_reducible repeat (first | refine blk_drewN ?_ _ | refine blk_drew ?_ | refine blk_alloc ?_ _)); refine blk_far ?_ NB191_199.out _; (with_reducible repeat (first | refine blk_drewN ?_ _ | refine blk_drew ?_ | refine blk_alloc ?_ _)); refine blk_far ?_ NB191_199.out _; (with_reducible repeat (first | refine blk_drewN ?_ _ | refine blk_drew ?_ | refine blk_alloc ?_ _)); refine blk_far ?_ NB191_199.out _; (with_reducible repeat (first | refine blk_drewN ?_ _ | refine blk_drew ?_ | refine blk_alloc ?_ _)); exact BK191.out⟩
                                            have n2_ : Aside0 ((((w72.setCell ⟨gb199, 0, none⟩ (.int .i64 ((rd_T43 l2 x12_3).f0))).setCell ⟨gb199, 1, none⟩ (.int .i64 ((rd_T43 l2 x12_3).f1))).setCell ⟨gb199, 2, none⟩ (.int .i64 ((rd_T43 l2 x12_3).f2))).heap[gb199]? = some (.cells #[.int .i64 ((rd_T43 l2 x12_3).f0), .int .i64 ((rd_T43 l2 x12_3).f1), .int .i64 ((rd_T43 l2 x12_3).f2)] 43 (0, 0))) := ⟨by (with_reducible repeat (first | refine blk_drewN ?_ _ | refine blk_drew ?_ | refine blk_alloc ?_ _)); refine blk_put (cs := #[.int .i64 ((rd_T43 l2 x12_3).f0), .int .i64 ((rd_T43 l2 x12_3).f1), .int .i64 0]) ?_ 2 _ rfl; (with_reducible repeat (first | refine blk_drewN ?_ _ | refine blk_drew ?_ | refine blk_alloc ?_ _)); refine blk_put (cs := #[.int .i64 ((rd_T43 l2 x12_3).f0), .int .i64 0, .int .i64 0]) ?_ 1 _ rfl; (with_reducible repeat (first | refine blk_drewN ?_ _ | refine blk_drew ?_ | refine blk_alloc ?_ _)); refine blk_put (cs := #[.int .i64 0, .int .i64 0, .int .i64 0]) ?_ 0 _ rfl; (with_reducible repeat (first | refine blk_drewN ?_ _ | refine blk_drew ?_ | refine blk_alloc ?_ _)); exact BK199.out⟩
                                            have n3_ : Aside0 (Below w.heap.size w (((w72.setCell ⟨gb199, 0, none⟩ (.int .i64 ((rd_T43 l2 x12_3).f0))).setCell ⟨gb199, 1, none⟩ (.int .i64 ((rd_T43 l2 x12_3).f1))).setCell ⟨gb199, 2, none⟩ (.int .i64 ((rd_T43 l2 x12_3).f2)))) := ⟨by repeat (first | (with_reducible first | exact HB.out | apply below_alloc | apply pw_below_drewN | apply below_drew1 | refine below_set ?_ GE191.out | refine below_set ?_ GE199.out) | exact HB.out)⟩
                                            (try clear HO_8)
                                            (try clear BK191)
                                            (try clear BK199)
                                            (try clear HB)
                                            generalize (((w72.setCell ⟨gb199, 0, none⟩ (.int .i64 ((rd_T43 l2 x12_3).f0))).setCell ⟨gb199, 1, none⟩ (.int .i64 ((rd_T43 l2 x12_3).f1))).setCell ⟨gb199, 2, none⟩ (.int .i64 ((rd_T43 l2 x12_3).f2))) = w75 at n0_ n1_ n2_ n3_ ⊢
                                            have HO_8 := n0_
                                            have BK191 := n1_
                                            have BK199 := n2_
                                            have HB := n3_
                                            clear n0_ n1_ n2_ n3_
                                            have n0_ := Aside0.mk (Kd.R_drew HO_8.out)
                                            have n1_ := Aside0.mk (blk_drew BK191.out)
                                            have n2_ := Aside0.mk (blk_drew BK199.out)
                                            have n3_ := Aside0.mk (below_drew1 HB.out)
                                            clear HO_8
                                            clear BK191
                                            clear BK199
                                            clear HB
                                            have HO_8 := n0_
                                            have BK191 := n1_
                                            have BK199 := n2_
                                            have HB := n3_
                                            clear n0_ n1_ n2_ n3_
                                            have p210 : 0 ≤ (((rd_T43 l2 x12_3).f2) : Int) := of_decide_eq_true (by first | (with_reducible assumption) | assumption)
                                            have q210 : ((rd_T43 l2 x12_3).f2) < (l0_0.length : Int) := of_decide_eq_true (by first | (with_reducible assumption) | assumption)
                                            obtain ⟨ad210, A210_0, c210_0, e210, hx210_0, hl210_0, hi210_0⟩ := at_L5 HR0_0.out ((rd_T43 l2 x12_3).f2) p210 q210
                                            have hw210_0 := hx210_0
                                            cases e210
                                            replace hx210_0 := (HB.out.cell (World.block_lt_of_cell? w _ hx210_0)).trans hx210_0
                                            have HR210_0 := Aside0.mk hi210_0
                                            have HC210_0 := Aside0.mk hl210_0
                                            clear hi210_0 hl210_0
                                            replace p210 := eq_true p210
                                            replace q210 := eq_true q210
                                            obtain ⟨Ao77, co77, eo77⟩ := Kd.R_slice HO_8.out
                                            (first | subst eo77 | (injection eo77 with f1_ f2_ f3_; have f4_ := f1_.symm; have f5_ := f3_.symm; clear f1_ f2_ f3_; subst f4_; subst f5_))
                                            have p211 : 0 ≤ (((rd_T43 l2 x12_3).f0) : Int) := of_decide_eq_true (by first | (with_reducible assumption) | assumption)
                                            have q211 : ((rd_T43 l2 x12_3).f0) < (x8_3.length : Int) := of_decide_eq_true (by first | (with_reducible assumption) | assumption)
                                            obtain ⟨ad211, e211, hx211_0⟩ := Kd.at_int (Kd.R_reads' HO_8.out).2.2 ((rd_T43 l2 x12_3).f0) p211 q211
                                            cases e211
                                            replace p211 := eq_true p211
                                            replace q211 := eq_true q211
                                            have p212 : 0 ≤ ((rd x8_3 ((rd_T43 l2 x12_3).f0)) : Int) := of_decide_eq_true (by first | (with_reducible assumption) | assumption)
                                            have q212 : (rd x8_3 ((rd_T43 l2 x12_3).f0)) < ((rd_L5 l0_0 ((rd_T43 l2 x12_3).f2)).length : Int) := of_decide_eq_true (by first | (with_reducible assumption) | assumption)
                                            obtain ⟨ad212, e212, hx212_0⟩ := Kd.at_bool HR210_0.out (rd x8_3 ((rd_T43 l2 x12_3).f0)) p212 q212
                                            have hw212_0 := hx212_0
                                            (try rw [← Nbq62.out] at hx212_0)
                                            cases e212
                                            replace hx212_0 := (HB.out.cell (World.block_lt_of_cell? w _ hx212_0)).trans hx212_0
                                            replace p212 := eq_true p212
                                            replace q212 := eq_true q212
                                            refine start_ (n := 13) (S := fun w' => w'.cell? ⟨gb191, 0, none⟩ = some (.slice (some ad210) l0_0.length c0_0) ∧ w'.cell? ⟨gb199, 0, none⟩ = some (.int .i64 ((rd_T43 l2 x12_3).f0)) ∧ w'.cell? ⟨gb199, 1, none⟩ = some (.int .i64 ((rd_T43 l2 x12_3).f1)) ∧ w'.cell? ⟨gb199, 2, none⟩ = some (.int .i64 ((rd_T43 l2 x12_3).f2)) ∧ w'.cell? (ad210.add (((rd_T43 l2 x12_3).f2)).toNat) = some (.slice (some ad212) (rd_L5 l0_0 ((rd_T43 l2 x12_3).f2)).length c210_0) ∧ w'.cell? (ad211.add (((rd_T43 l2 x12_3).f0)).toNat) = some (.int .i64 (rd x8_3 ((rd_T43 l2 x12_3).f0))) ∧ w'.cell? (ad212.add ((rd x8_3 ((rd_T43 l2 x12_3).f0))).toNat) = some (.bool false)) (ds := []) #[false, false, false, false, false, false, false, false, false, false, false, false, false] (by kernel_rfl) rfl rfl ⟨(blk_cell BK191.out 0).trans rfl, (blk_cell BK199.out 0).trans rfl, (blk_cell BK199.out 1).trans rfl, (blk_cell BK199.out 2).trans rfl, ((HB.out.cell (World.block_lt_of_cell? w _ hw210_0)).trans hw210_0), hx211_0, hx212_0⟩ (fun hHeld => ?_); refine with_tabW portcullisref21_Least.tab19 portcullisref21_Least.bits19 (fun HT_ HW_ => ?_)
                                            generalize w75.drew = w76 at HO_8 BK191 BK199 HB HR210_0 hx210_0 hx211_0 hx212_0 hHeld ⊢
                                            refine pure_ (i := 0) (N := some 54) (v := ?_) (a' := ?_) #[true, false, false, false, false, false, false, false, false, false, false, false, false] rfl rfl (any_of HT_.out (by kernel_rfl)) (fun _ _ _ h => h) (Or.inl ⟨by rfl, ?_⟩) ?_ ?_
                                            rotate_left
                                            · intro w'
                                              go_simp
                                              with_reducible rfl
                                            rotate_left
                                            · simp only [Act.put, List.setIfInBounds_toArray, List.set_cons_zero, List.set_cons_succ, i64_w, i32_w]
                                              rfl
                                            refine pure_ (i := 2) (N := some 56) (v := ?_) (a' := ?_) #[true, false, true, false, false, false, false, false, false, false, false, false, false] rfl rfl (any_of HT_.out (by kernel_rfl)) (fun _ _ _ h => h) (Or.inl ⟨by rfl, ?_⟩) ?_ ?_
                                            rotate_left
                                            · intro w'
                                              go_simp
                                              with_reducible rfl
                                            rotate_left
                                            · simp only [Act.put, List.setIfInBounds_toArray, List.set_cons_zero, List.set_cons_succ, i64_w, i32_w]
                                              rfl
                                            refine pure_ (i := 5) (N := some 59) (v := ?_) (a' := ?_) #[true, false, true, false, false, true, false, false, false, false, false, false, false] rfl rfl (any_of HT_.out (by kernel_rfl)) (fun _ _ _ h => h) (Or.inl ⟨by rfl, ?_⟩) ?_ ?_
                                            rotate_left
                                            · intro w'
                                              go_simp
                                              with_reducible rfl
                                            rotate_left
                                            · simp only [Act.put, List.setIfInBounds_toArray, List.set_cons_zero, List.set_cons_succ, i64_w, i32_w]
                                              rfl
                                            refine pure_ (i := 6) (N := some 60) (v := ?_) (a' := ?_) #[true, false, true, false, false, true, true, false, false, false, false, false, false] rfl rfl (any_of HT_.out (by kernel_rfl)) (fun _ _ _ h => h) (Or.inl ⟨by rfl, ?_⟩) ?_ ?_
                                            rotate_left
                                            · intro w'
                                              go_simp
                                              with_reducible rfl
                                            rotate_left
                                            · simp only [Act.put, List.setIfInBounds_toArray, List.set_cons_zero, List.set_cons_succ, i64_w, i32_w]
                                              rfl
                                            refine take_ (i := 1) (N := some 55) (v := ?_) (a' := ?_) #[true, true, true, false, false, true, true, false, false, false, false, false, false] rfl rfl (take_ofW HT_.out HW_.out (by kernel_rfl)) (fun _ _ _ h => h) (Or.inl ⟨by rfl, ?_⟩) hHeld ?_ ?_
                                            rotate_left
                                            · rintro w' ⟨s0, s1, s2, s3, s4, s5, s6⟩
                                              go_simp
                                              with_reducible rfl
                                            rotate_left
                                            · simp only [Act.put, List.setIfInBounds_toArray, List.set_cons_zero, List.set_cons_succ, i64_w, i32_w]
                                              rfl
                                            refine pure_ (i := 3) (N := some 57) (v := ?_) (a' := ?_) #[true, true, true, true, false, true, true, false, false, false, false, false, false] rfl rfl (any_of HT_.out (by kernel_rfl)) (fun _ _ _ h => h) (Or.inl ⟨by rfl, ?_⟩) ?_ ?_
                                            rotate_left
                                            · intro w'
                                              go_simp
                                              with_reducible rfl
                                            rotate_left
                                            · simp only [Act.put, List.setIfInBounds_toArray, List.set_cons_zero, List.set_cons_succ, i64_w, i32_w]
                                              rfl
                                            refine take_ (i := 4) (N := some 58) (v := ?_) (a' := ?_) #[true, true, true, true, true, true, true, false, false, false, false, false, false] rfl rfl (take_ofW HT_.out HW_.out (by kernel_rfl)) (fun _ _ _ h => h) (Or.inl ⟨by rfl, ?_⟩) hHeld ?_ ?_
                                            rotate_left
                                            · rintro w' ⟨s0, s1, s2, s3, s4, s5, s6⟩
                                              go_simp
                                              with_reducible rfl
                                            rotate_left
                                            · simp only [Act.put, List.setIfInBounds_toArray, List.set_cons_zero, List.set_cons_succ, i64_w, i32_w]
                                              rfl
                                            refine take_ (i := 7) (N := some 61) (v := ?_) (a' := ?_) #[true, true, true, true, true, true, true, true, false, false, false, false, false] rfl rfl (take_ofW HT_.out HW_.out (by kernel_rfl)) (fun _ _ _ h => h) (Or.inl ⟨by rfl, ?_⟩) hHeld ?_ ?_
                                            rotate_left
                                            · rintro w' ⟨s0, s1, s2, s3, s4, s5, s6⟩
                                              go_simp
                                              with_reducible rfl
                                            rotate_left
                                            · simp only [Act.put, List.setIfInBounds_toArray, List.set_cons_zero, List.set_cons_succ, i64_w, i32_w]
                                              rfl
                                            refine pure_ (i := 8) (N := some 62) (v := ?_) (a' := ?_) #[true, true, true, true, true, true, true, true, true, false, false, false, false] rfl rfl (any_of HT_.out (by kernel_rfl)) (fun _ _ _ h => h) (Or.inl ⟨by rfl, ?_⟩) ?_ ?_
                                            rotate_left
                                            · intro w'
                                              go_simp
                                              with_reducible rfl
                                            rotate_left
                                            · simp only [Act.put, List.setIfInBounds_toArray, List.set_cons_zero, List.set_cons_succ, i64_w, i32_w]
                                              rfl
                                            refine take_ (i := 9) (N := some 63) (v := ?_) (a' := ?_) #[true, true, true, true, true, true, true, true, true, true, false, false, false] rfl rfl (take_ofW HT_.out HW_.out (by kernel_rfl)) (fun _ _ _ h => h) (Or.inl ⟨by rfl, ?_⟩) hHeld ?_ ?_
                                            rotate_left
                                            · rintro w' ⟨s0, s1, s2, s3, s4, s5, s6⟩
                                              go_simp
                                              with_reducible rfl
                                            rotate_left
                                            · simp only [Act.put, List.setIfInBounds_toArray, List.set_cons_zero, List.set_cons_succ, i64_w, i32_w]
                                              rfl
                                            refine pure_ (i := 10) (N := some 64) (v := ?_) (a' := ?_) #[true, true, true, true, true, true, true, true, true, true, true, false, false] rfl rfl (any_of HT_.out (by kernel_rfl)) (fun _ _ _ h => h) (Or.inl ⟨by rfl, ?_⟩) ?_ ?_
                                            rotate_left
                                            · intro w'
                                              go_simp
                                              with_reducible rfl
                                            rotate_left
                                            · simp only [Act.put, List.setIfInBounds_toArray, List.set_cons_zero, List.set_cons_succ, i64_w, i32_w]
                                              rfl
                                            refine take_ (i := 11) (N := some 65) (v := ?_) (a' := ?_) #[true, true, true, true, true, true, true, true, true, true, true, true, false] rfl rfl (take_ofW HT_.out HW_.out (by kernel_rfl)) (fun _ _ _ h => h) (Or.inl ⟨by rfl, ?_⟩) hHeld ?_ ?_
                                            rotate_left
                                            · rintro w' ⟨s0, s1, s2, s3, s4, s5, s6⟩
                                              go_simp
                                              with_reducible rfl
                                            rotate_left
                                            · simp only [Act.put, List.setIfInBounds_toArray, List.set_cons_zero, List.set_cons_succ, i64_w, i32_w]
                                              rfl
                                            refine pure_ (i := 12) (N := some 66) (v := ?_) (a' := ?_) #[true, true, true, true, true, true, true, true, true, true, true, true, true] rfl rfl (any_of HT_.out (by kernel_rfl)) (fun _ _ _ h => h) (Or.inl ⟨by rfl, ?_⟩) ?_ ?_
                                            rotate_left
                                            · intro w'
                                              go_simp
                                              with_reducible rfl
                                            rotate_left
                                            · simp only [Act.put, List.setIfInBounds_toArray, List.set_cons_zero, List.set_cons_succ, i64_w, i32_w]
                                              rfl
                                            refine done_ (done_of HT_.out (by kernel_rfl)) ?_
                                            try go_wp2
                                            have n0_ := Aside0.mk (Kd.R_drew HO_8.out)
                                            have n1_ := Aside0.mk (blk_drew BK191.out)
                                            have n2_ := Aside0.mk (blk_drew BK199.out)
                                            have n3_ := Aside0.mk (below_drew1 HB.out)
                                            clear HO_8
                                            clear BK191
                                            clear BK199
                                            clear HB
                                            have HO_8 := n0_
                                            have BK191 := n1_
                                            have BK199 := n2_
                                            have HB := n3_
                                            clear n0_ n1_ n2_ n3_
                                            have p213 : 0 ≤ (((rd_T43 l2 x12_3).f0) : Int) := of_decide_eq_true (by first | (with_reducible assumption) | assumption)
                                            have q213 : ((rd_T43 l2 x12_3).f0) < (x8_3.length : Int) := of_decide_eq_true (by first | (with_reducible assumption) | assumption)
                                            obtain ⟨ad213, e213, hx213_0⟩ := Kd.at_int (Kd.R_reads' HO_8.out).2.2 ((rd_T43 l2 x12_3).f0) p213 q213
                                            obtain rfl : ad211 = ad213 := (by injection e213)
                                            replace p213 := eq_true p213
                                            replace q213 := eq_true q213
                                            refine start_ (n := 14) (S := fun w' => w'.cell? ⟨gb199, 0, none⟩ = some (.int .i64 ((rd_T43 l2 x12_3).f0)) ∧ w'.cell? ⟨gb199, 1, none⟩ = some (.int .i64 ((rd_T43 l2 x12_3).f1)) ∧ w'.cell? ⟨gb199, 2, none⟩ = some (.int .i64 ((rd_T43 l2 x12_3).f2)) ∧ w'.cell? ⟨gb191, 0, none⟩ = some (.slice (some ad210) l0_0.length c0_0) ∧ w'.cell? (ad211.add (((rd_T43 l2 x12_3).f0)).toNat) = some (.int .i64 (rd x8_3 ((rd_T43 l2 x12_3).f0)))) (ds := [13]) #[false, false, false, false, false, false, false, false, false, false, false, false, false, false] (by kernel_rfl) rfl rfl ⟨(blk_cell BK199.out 0).trans rfl, (blk_cell BK199.out 1).trans rfl, (blk_cell BK199.out 2).trans rfl, (blk_cell BK191.out 0).trans rfl, hx213_0⟩ (fun hHeld => ?_); refine with_tabW portcullisref21_Least.tab20 portcullisref21_Least.bits20 (fun HT_ HW_ => ?_)
                                            generalize w76.drew = w78 at HO_8 BK191 BK199 HB hx213_0 hHeld ⊢
                                            refine pure_ (i := 0) (N := some 67) (v := ?_) (a' := ?_) #[true, false, false, false, false, false, false, false, false, false, false, false, false, false] rfl rfl (any_of HT_.out (by kernel_rfl)) (fun _ _ _ h => h) (Or.inl ⟨by rfl, ?_⟩) ?_ ?_
                                            rotate_left
                                            · intro w'
                                              go_simp
                                              with_reducible rfl
                                            rotate_left
                                            · simp only [Act.put, List.setIfInBounds_toArray, List.set_cons_zero, List.set_cons_succ, i64_w, i32_w]
                                              rfl
                                            refine pure_ (i := 1) (N := some 68) (v := ?_) (a' := ?_) #[true, true, false, false, false, false, false, false, false, false, false, false, false, false] rfl rfl (any_of HT_.out (by kernel_rfl)) (fun _ _ _ h => h) (Or.inl ⟨by rfl, ?_⟩) ?_ ?_
                                            rotate_left
                                            · intro w'
                                              go_simp
                                              with_reducible rfl
                                            rotate_left
                                            · simp only [Act.put, List.setIfInBounds_toArray, List.set_cons_zero, List.set_cons_succ, i64_w, i32_w]
                                              rfl
                                            refine pure_ (i := 4) (N := some 71) (v := ?_) (a' := ?_) #[true, true, false, false, true, false, false, false, false, false, false, false, false, false] rfl rfl (any_of HT_.out (by kernel_rfl)) (fun _ _ _ h => h) (Or.inl ⟨by rfl, ?_⟩) ?_ ?_
                                            rotate_left
                                            · intro w'
                                              go_simp
                                              with_reducible rfl
                                            rotate_left
                                            · simp only [Act.put, List.setIfInBounds_toArray, List.set_cons_zero, List.set_cons_succ, i64_w, i32_w]
                                              rfl
                                            refine pure_ (i := 5) (N := some 72) (v := ?_) (a' := ?_) #[true, true, false, false, true, true, false, false, false, false, false, false, false, false] rfl rfl (any_of HT_.out (by kernel_rfl)) (fun _ _ _ h => h) (Or.inl ⟨by rfl, ?_⟩) ?_ ?_
                                            rotate_left
                                            · intro w'
                                              go_simp
                                              with_reducible rfl
                                            rotate_left
                                            · simp only [Act.put, List.setIfInBounds_toArray, List.set_cons_zero, List.set_cons_succ, i64_w, i32_w]
                                              rfl
                                            refine pure_ (i := 6) (N := some 73) (v := ?_) (a' := ?_) #[true, true, false, false, true, true, true, false, false, false, false, false, false, false] rfl rfl (any_of HT_.out (by kernel_rfl)) (fun _ _ _ h => h) (Or.inl ⟨by rfl, ?_⟩) ?_ ?_
                                            rotate_left
                                            · intro w'
                                              go_simp
                                              with_reducible rfl
                                            rotate_left
                                            · simp only [Act.put, List.setIfInBounds_toArray, List.set_cons_zero, List.set_cons_succ, i64_w, i32_w]
                                              rfl
                                            refine take_ (i := 2) (N := some 69) (v := ?_) (a' := ?_) #[true, true, true, false, true, true, true, false, false, false, false, false, false, false] rfl rfl (take_ofW HT_.out HW_.out (by kernel_rfl)) (fun _ _ _ h => h) (Or.inl ⟨by rfl, ?_⟩) hHeld ?_ ?_
                                            rotate_left
                                            · rintro w' ⟨s0, s1, s2, s3, s4⟩
                                              go_simp
                                              with_reducible rfl
                                            rotate_left
                                            · simp only [Act.put, List.setIfInBounds_toArray, List.set_cons_zero, List.set_cons_succ, i64_w, i32_w]
                                              rfl
                                            refine take_ (i := 3) (N := some 70) (v := ?_) (a' := ?_) #[true, true, true, true, true, true, true, false, false, false, false, false, false, false] rfl rfl (take_ofW HT_.out HW_.out (by kernel_rfl)) (fun _ _ _ h => h) (Or.inl ⟨by rfl, ?_⟩) hHeld ?_ ?_
                                            rotate_left
                                            · rintro w' ⟨s0, s1, s2, s3, s4⟩
                                              go_simp
                                              with_reducible rfl
                                            rotate_left
                                            · simp only [Act.put, List.setIfInBounds_toArray, List.set_cons_zero, List.set_cons_succ, i64_w, i32_w]
                                              rfl
                                            refine take_ (i := 7) (N := some 74) (v := ?_) (a' := ?_) #[true, true, true, true, true, true, true, true, false, false, false, false, false, false] rfl rfl (take_ofW HT_.out HW_.out (by kernel_rfl)) (fun _ _ _ h => h) (Or.inl ⟨by rfl, ?_⟩) hHeld ?_ ?_
                                            rotate_left
                                            · rintro w' ⟨s0, s1, s2, s3, s4⟩
                                              go_simp
                                              with_reducible rfl
                                            rotate_left
                                            · simp only [Act.put, List.setIfInBounds_toArray, List.set_cons_zero, List.set_cons_succ, i64_w, i32_w]
                                              rfl
                                            refine pure_ (i := 8) (N := some 75) (v := ?_) (a' := ?_) #[true, true, true, true, true, true, true, true, true, false, false, false, false, false] rfl rfl (any_of HT_.out (by kernel_rfl)) (fun _ _ _ h => h) (Or.inl ⟨by rfl, ?_⟩) ?_ ?_
                                            rotate_left
                                            · intro w'
                                              go_simp
                                              with_reducible rfl
                                            rotate_left
                                            · simp only [Act.put, List.setIfInBounds_toArray, List.set_cons_zero, List.set_cons_succ, i64_w, i32_w]
                                              rfl
                                            refine take_ (i := 9) (N := some 76) (v := ?_) (a' := ?_) #[true, true, true, true, true, true, true, true, true, true, false, false, false, false] rfl rfl (take_ofW HT_.out HW_.out (by kernel_rfl)) (fun _ _ _ h => h) (Or.inl ⟨by rfl, ?_⟩) hHeld ?_ ?_
                                            rotate_left
                                            · rintro w' ⟨s0, s1, s2, s3, s4⟩
                                              go_simp
                                              with_reducible rfl
                                            rotate_left
                                            · simp only [Act.put, List.setIfInBounds_toArray, List.set_cons_zero, List.set_cons_succ, i64_w, i32_w]
                                              rfl
                                            refine one_ (i := 10) (N := some 77) #[true, true, true, true, true, true, true, true, true, true, true, false, false, false] rfl rfl (one_of HT_.out (by kernel_rfl)) (by decide) (fun K hK => ?_)
                                            refine Kd.R_lit_step (Kd.int .i64) _ 3 ?hg (N := 77) ?hd (xs := ([(rd_T43 l2 x12_3).f2, rd x8_3 ((rd_T43 l2 x12_3).f0)] : List Int)) (inner := [.int .i64 ((rd_T43 l2 x12_3).f2), .int .i64 (rd x8_3 ((rd_T43 l2 x12_3).f0))]) (ok := fun _ => True) (okp := fun _ => True) ?hr ?hp (fun _ hk => hk) trivial (Below.refl _ _) (Nat.le_refl _) (by simp) ?_; (case hd => rfl); (case hg => rfl); (case hr => first | (go_simp; done) | (go_simp; rfl)); (case hp => exact (Reps.one (show Kd.M (Kd.int .i64) _ _ _ ((rd_T43 l2 x12_3).f2) [.int .i64 ((rd_T43 l2 x12_3).f2)] from rfl) (Reps.one (show Kd.M (Kd.int .i64) _ _ _ (rd x8_3 ((rd_T43 l2 x12_3).f0)) [.int .i64 (rd x8_3 ((rd_T43 l2 x12_3).f0))] from rfl) (Reps.none _ _))))
                                            intro v215 w79 ho80 hb hg_ hnew_
                                            have HS4_ := (hb.cell (World.block_lt_of_cell? _ _ (hHeld.2.2.2.2))).trans (hHeld.2.2.2.2)
                                            clear hg_ hnew_
                                            (first | rw [← Ny214.out] at ho80 | (simp only [Int.reduceToNat] at ho80; rw [← Ny214.out] at ho80))
                                            have n0_ := Aside0.mk (Kd.R_elder' (by (with_reducible repeat (first | apply Kd.R_alloc | apply Kd.R_drewN | apply Kd.R_drew)); exact HO_8.out) (Kd.R_base ho80) hb)
                                            have n1_ := Aside0.mk (Kd.R_lower (Kd.R_new' ho80 (Kd.R_lt (by (with_reducible repeat (first | apply Kd.R_alloc | apply Kd.R_drewN | apply Kd.R_drew)); exact HO_8.out))) (below_size (by repeat (first | (with_reducible first | exact HB.out | apply below_alloc | apply pw_below_drewN | apply below_drew1 | refine below_set ?_ GE191.out | refine below_set ?_ GE199.out) | exact HB.out))))
                                            have n2_ := Aside0.mk (blk_below (g := gb191) (o := .cells #[.slice (some ad210) l0_0.length c0_0] 31 (0, 0)) (by (with_reducible repeat (first | refine blk_drewN ?_ _ | refine blk_drew ?_ | refine blk_alloc ?_ _)); exact BK191.out) hb)
                                            have n3_ := Aside0.mk (blk_below (g := gb199) (o := .cells #[.int .i64 ((rd_T43 l2 x12_3).f0), .int .i64 ((rd_T43 l2 x12_3).f1), .int .i64 ((rd_T43 l2 x12_3).f2)] 43 (0, 0)) (by (with_reducible repeat (first | refine blk_drewN ?_ _ | refine blk_drew ?_ | refine blk_alloc ?_ _)); exact BK199.out) hb)
                                            have n4_ := Aside0.mk (below_step (by repeat (first | (with_reducible first | exact HB.out | apply below_alloc | apply pw_below_drewN | apply below_drew1 | refine below_set ?_ GE191.out | refine below_set ?_ GE199.out) | exact HB.out)) hb)
                                            clear HO_8
                                            clear BK191
                                            clear BK199
                                            clear HB
                                            have HO_8 := n0_
                                            have HO216 := n1_
                                            have BK191 := n2_
                                            have BK199 := n3_
                                            have HB := n4_
                                            clear n0_ n1_ n2_ n3_ n4_
                                            clear hb ho80
                                            obtain ⟨Ao81, co81, eo81⟩ := Kd.R_slice HO216.out
                                            (first | subst eo81 | (injection eo81 with f1_ f2_ f3_; have f4_ := f1_.symm; have f5_ := f3_.symm; clear f1_ f2_ f3_; subst f4_; subst f5_))
                                            refine hK.out _ _ ⟨(blk_cell BK199.out 0).trans rfl, (blk_cell BK199.out 1).trans rfl, (blk_cell BK199.out 2).trans rfl, (blk_cell BK191.out 0).trans rfl, HS4_⟩ (fun hHeld => ?_)
                                            clear hK K
                                            refine norm_ (a' := ?_) ?_ ?_
                                            rotate_left
                                            · show Act.put _ (some 77) _ = _
                                              simp only [Act.put, List.setIfInBounds_toArray, List.set_cons_zero, List.set_cons_succ, i64_w, i32_w]
                                              rfl
                                            refine one_ (i := 11) (N := some 78) #[true, true, true, true, true, true, true, true, true, true, true, true, false, false] rfl rfl (one_of HT_.out (by kernel_rfl)) (by decide) (fun K hK => ?_)
                                            refine goes_ Try.func40 (by kernel_rfl) rfl #[.agg #[.slice (some ad210) l0_0.length c0_0], .slice Ao81 y214.length co81] (by rfl) rfl rfl (by (try simp only [List.map_toArray, List.map_cons, List.map_nil]); first | done | rfl | (simp only [List.length_drop, List.length_take]; rfl)) ?_
                                            with_reducible refine (portcullisref01_Order_Join.calls k3 _ _ l0_0 _ _ y214 t217 _ ?side1 ?side2 ?side3 ?side4 A70.out).mono ?_
                                            (case side1 => repeat (first | exact (Kd.C_below HR0_0.out HB.out) | (with_reducible refine Kd.C_alloc ?_ _) | (with_reducible refine Kd.C_drewN ?_ _) | (with_reducible refine Kd.C_drew ?_)))
                                            (case side2 => exact HC0_0.out)
                                            (case side3 => repeat (first | exact (Kd.R_reads' HO216.out).2.2 | (with_reducible refine Kd.C_alloc ?_ _) | (with_reducible refine Kd.C_drewN ?_ _) | (with_reducible refine Kd.C_drew ?_)))
                                            (case side4 => exact (Kd.R_reads' HO216.out).2.1)
                                            rintro e w82 ⟨rfl, hb⟩
                                            have HS4_ := (hb.cell (World.block_lt_of_cell? _ _ (hHeld.2.2.2.2))).trans (hHeld.2.2.2.2)
                                            refine ⟨_, rfl, ?_⟩
                                            have n0_ := Aside0.mk (Kd.R_below (by (with_reducible repeat (first | apply Kd.R_alloc | apply Kd.R_drewN | apply Kd.R_drew)); exact HO_8.out) hb)
                                            have n1_ := Aside0.mk (Kd.R_below (by (with_reducible repeat (first | apply Kd.R_alloc | apply Kd.R_drewN | apply Kd.R_drew)); exact HO216.out) hb)
                                            have n2_ := Aside0.mk (blk_below (g := gb191) (o := .cells #[.slice (some ad210) l0_0.length c0_0] 31 (0, 0)) (by (with_reducible repeat (first | refine blk_drewN ?_ _ | refine blk_drew ?_ | refine blk_alloc ?_ _)); exact BK191.out) hb)
                                            have n3_ := Aside0.mk (blk_below (g := gb199) (o := .cells #[.int .i64 ((rd_T43 l2 x12_3).f0), .int .i64 ((rd_T43 l2 x12_3).f1), .int .i64 ((rd_T43 l2 x12_3).f2)] 43 (0, 0)) (by (with_reducible repeat (first | refine blk_drewN ?_ _ | refine blk_drew ?_ | refine blk_alloc ?_ _)); exact BK199.out) hb)
                                            have n4_ := Aside0.mk (below_step (by repeat (first | (with_reducible first | exact HB.out | apply below_alloc | apply pw_below_drewN | apply below_drew1 | refine below_set ?_ GE191.out | refine below_set ?_ GE199.out) | exact HB.out)) hb)
                                            clear HO_8
                                            clear HO216
                                            clear BK191
                                            clear BK199
                                            clear HB
                                            have HO_8 := n0_
                                            have HO216 := n1_
                                            have BK191 := n2_
                                            have BK199 := n3_
                                            have HB := n4_
                                            clear n0_ n1_ n2_ n3_ n4_
                                            (try clear hb)
                                            (try clear hb2)
                                            (try clear hk)
                                            (try clear hi)
                                            have p71 : 0 ≤ (((rd_T43 l2 x12_3).f0) : Int) := of_decide_eq_true (by first | (with_reducible assumption) | assumption)
                                            have q71 : (((rd_T43 l2 x12_3).f0) : Int) < ((x8_3.length : Int) : Int) := of_decide_eq_true (by first | (with_reducible assumption) | assumption)
                                            obtain ⟨go71, co71, eo71, gb71, gl71, cl71, HG71⟩ := Kd.R_form HO_8.out (by omega)
                                            (first | cases eo71 | (injection eo71 with ea_ en_ ec_; (first | subst ea_ | (injection ea_ with ea_; subst ea_)); subst ec_; clear en_))
                                            have GB71 := Aside0.mk gb71
                                            have GG71 := Aside0.mk HG71
                                            clear gb71 gl71 HG71
                                            (first | simp only [add_plain] at hx211_0 | skip)
                                            (first | simp only [add_plain] at hx213_0 | skip)
                                            obtain ⟨hx71_0, hf71_0⟩ := Kd.R_celln 0 HO_8.out (((rd_T43 l2 x12_3).f0) : Int) p71 q71
                                            replace p71 := eq_true p71
                                            replace q71 := eq_true q71
                                            have HP83 := Kd.R_putn HO_8.out (((rd_T43 l2 x12_3).f0) : Int) t217
                                            rw [← Ny218.out] at HP83
                                            have HQ83 := Aside0.mk HP83
                                            clear HP83
                                            refine hK.out _ _ ⟨(blk_cell BK199.out 0).trans rfl, (blk_cell BK199.out 1).trans rfl, (blk_cell BK199.out 2).trans rfl, (blk_cell BK191.out 0).trans rfl, HS4_⟩ (fun hHeld => ?_)
                                            clear hK K
                                            refine norm_ (a' := ?_) ?_ ?_
                                            rotate_left
                                            · show Act.put _ (some 78) _ = _
                                              simp only [Act.put, List.setIfInBounds_toArray, List.set_cons_zero, List.set_cons_succ, i64_w, i32_w]
                                              rfl
                                            refine pure_ (i := 12) (N := some 79) (v := ?_) (a' := ?_) #[true, true, true, true, true, true, true, true, true, true, true, true, true, false] rfl rfl (any_of HT_.out (by kernel_rfl)) (fun _ _ _ h => h) (Or.inl ⟨by rfl, ?_⟩) ?_ ?_
                                            rotate_left
                                            · intro w'
                                              go_simp
                                              with_reducible rfl
                                            rotate_left
                                            · simp only [Act.put, List.setIfInBounds_toArray, List.set_cons_zero, List.set_cons_succ, i64_w, i32_w]
                                              rfl
                                            refine last_ (i := 13) (N := none) #[true, true, true, true, true, true, true, true, true, true, true, true, true, true] rfl rfl (one_of HT_.out (by kernel_rfl)) (by decide) (fun K hK => ?_)
                                            refine skip_ (w1 := ?_) (by rfl) rfl ?_ ?_
                                            rotate_left
                                            · go_simp
                                              rfl
                                            refine hK.out _ _ ?_
                                            clear hK K
                                            refine done_ (done_of HT_.out (by kernel_rfl)) ?_
                                            try go_wp2
                                            go_roundg k3
                                            case measure => have := HK1.out; have := HK2.out; have := HK3.out; omega
                                            case rel => exact ⟨(y218), (true), (wrap64 (x12_3 + 1)), (by first | rfl | (simp; done) | (simp [*]; done)), (by first | rfl | (simp; done) | (simp [*]; done)), H', ⟨by have := HK1.out; have := HK2.out; have := HK3.out; omega⟩, ⟨by (with_reducible repeat (first | apply Kd.R_alloc | apply Kd.R_drewN | apply Kd.R_drew)); exact Kd.R_mono HQ83.out (fun _ hk => trivial)⟩, ⟨by (with_reducible repeat (first | refine blk_drewN ?_ _ | refine blk_drew ?_ | refine blk_alloc ?_ _)); refine blk_far ?_ (by have h_ := Kd.R_ne HO_8.out BK191.out (by decide); intro e_; exact h_ (by rw [e_]; rfl)) _; (with_reducible repeat (first | refine blk_drewN ?_ _ | refine blk_drew ?_ | refine blk_alloc ?_ _)); exact BK191.out⟩, ⟨by repeat (first | (with_reducible first | exact HB.out | apply below_alloc | apply pw_below_drewN | apply below_drew1 | refine below_set ?_ GB71.out | refine below_set ?_ GE191.out | refine below_set ?_ GE199.out) | exact HB.out)⟩⟩
                                        · rw [if_neg c61] at H
                                          exact absurd H (by simp)
                                      · rw [if_neg c60] at H
                                        exact absurd H (by simp)
                                    · rw [if_neg c59] at H
                                      exact absurd H (by simp)
                                  · rw [if_neg c58] at H
                                    exact absurd H (by simp)
                                · rw [if_neg c57] at H
                                  exact absurd H (by simp)
                              · rw [if_neg c56] at H
                                exact absurd H (by simp)
                          · rw [if_neg c24] at H
                            exact absurd H (by simp)
                        · rw [if_neg c23] at H
                          have c23b0 : decide (x12_3 < (l2.length : Int)) = false := decide_eq_false c23
                          clear c23
                          have H' := Aside0.mk H
                          clear H
                          go_wp2
                          go_roundg k3
                          case measure => have := HK1.out; have := HK2.out; have := HK3.out; omega
                          case rel => exact ⟨(x8_3), (x11_3), (by first | rfl | (simp; done) | (simp [*]; done)), H', ⟨by have := HK1.out; have := HK2.out; have := HK3.out; omega⟩, ⟨by (with_reducible repeat (first | apply Kd.R_alloc | apply Kd.R_drewN | apply Kd.R_drew)); exact HO_8.out⟩, ⟨by (with_reducible repeat (first | refine blk_drewN ?_ _ | refine blk_drew ?_ | refine blk_alloc ?_ _)); exact BK191.out⟩, ⟨by repeat (first | (with_reducible first | exact HB.out | apply below_alloc | apply pw_below_drewN | apply below_drew1 | refine below_set ?_ GE191.out) | exact HB.out)⟩⟩
                  · replace c22 := Bool.eq_false_iff.mpr c22
                    subst c22
                    have H1 : (some (x8_2, 0)) = some (r1, r2) := by rw [if_neg (show ¬ (false = true) by decide)] at H; exact H
                    clear H
                    have H := H1
                    clear H1
                    simp only [Option.some.injEq, Prod.mk.injEq] at H
                    obtain ⟨rfl, rfl⟩ := H
                    go_wp2
                    go_ret2
                    exact ⟨_, by first | rfl | (simp [errW_none, errW_some] <;> rfl) | (simp [*, errW_none, errW_some] <;> rfl), by (with_reducible repeat (first | apply Kd.R_alloc | apply Kd.R_drewN | apply Kd.R_drew)); exact HO_8.out, by repeat (first | (with_reducible first | exact HB.out | apply below_alloc | apply pw_below_drewN | apply below_drew1 | refine below_set ?_ GE191.out) | exact HB.out)⟩
      · rw [if_neg c7] at H
        exact absurd H (by simp)
    · rw [if_neg c6] at H
      exact absurd H (by simp)
  · replace c5 := Bool.eq_false_iff.mpr c5
    subst c5
    have H1 : (some (([] : List Int), 72)) = some (r1, r2) := by rw [if_neg (show ¬ (false = true) by decide)] at H; exact H
    clear H
    have H := H1
    clear H1
    simp only [Option.some.injEq, Prod.mk.injEq] at H
    obtain ⟨rfl, rfl⟩ := H
    go_enter Try.func16, Try.ntmps16
    go_wp2_with (first | ((with_reducible refine gate_dst (N := 3) rfl ?_); refine box_event ?hg (N := 3) ?hd (cs := #[.slice A0_0 l0_0.length c0_0]) (t := 31) ?hr ?_; (case hd => rfl); (case hg => rfl); (case hr => first | (go_simp; done) | (go_simp; rfl)); intro gb191 hg w84 hbox hb; have n0_ := Aside0.mk (below_step (by repeat (first | (with_reducible first | exact HB.out | apply below_alloc | apply pw_below_drewN | apply below_drew1) | exact HB.out)) hb); have n1_ := Aside0.mk (hbox); have n2_ := Aside0.mk ((by rw [hg]; exact (below_size (by repeat (first | (with_reducible first | exact HB.out | apply below_alloc | apply pw_below_drewN | apply below_drew1) | exact HB.out))) : w.heap.size ≤ gb191)); have n3_ := Aside0.mk ((by rw [hg]; exact (below_size (by repeat (first | (with_reducible first | exact HB.out | apply below_alloc | apply pw_below_drewN | apply below_drew1) | exact HB.out))) : w.heap.size ≤ gb191)); clear HB; have HB := n0_; have BK191 := n1_; have GW191 := n2_; have GE191 := n3_; clear n0_ n1_ n2_ n3_; clear hb hbox hg; have hcz85_0 : w84.cell? ⟨gb191, 0, none⟩ = some (.slice A0_0 l0_0.length c0_0) := (blk_cell BK191.out 0).trans rfl; have hfz85_0 := blk_frozen BK191.out 0) | ((with_reducible refine gate_callee (f := 39) rfl ?_); refine goesL_ (some 18) rfl rfl Try.func39 (by kernel_rfl) rfl #[.agg #[.slice A0_0 l0_0.length c0_0], .int .i64 a1, .slice A2 l2.length c2] rfl (by (try simp only [List.map_toArray, List.map_cons, List.map_nil]); first | done | rfl | (simp only [List.length_drop, List.length_take]; rfl)) ?_; (with_reducible refine (portcullisref21_Right.calls k _ _ l0_0 a1 _ _ l2 false _ ?side1 ?side2 ?side3 ?side4 A4.out).mono ?_); (case side1 => repeat (first | exact (Kd.C_below HR0_0.out HB.out) | (with_reducible refine Kd.C_alloc ?_ _) | (with_reducible refine Kd.C_drewN ?_ _) | (with_reducible refine Kd.C_drew ?_))); (case side2 => exact HC0_0.out); (case side3 => repeat (first | exact (Kd.C_below HR2.out HB.out) | (with_reducible refine Kd.C_alloc ?_ _) | (with_reducible refine Kd.C_drewN ?_ _) | (with_reducible refine Kd.C_drew ?_))); (case side4 => exact HC2.out); rintro e w86 ⟨rfl, hb⟩; refine ⟨_, rfl, ?_⟩; have n0_ := Aside0.mk (blk_below (g := gb191) (o := .cells #[.slice A0_0 l0_0.length c0_0] 31 (0, 0)) (by (with_reducible repeat (first | refine blk_drewN ?_ _ | refine blk_drew ?_ | refine blk_alloc ?_ _)); exact BK191.out) hb); have n1_ := Aside0.mk (below_step (by repeat (first | (with_reducible first | exact HB.out | apply below_alloc | apply pw_below_drewN | apply below_drew1 | refine below_set ?_ GE191.out) | exact HB.out)) hb); clear BK191; clear HB; have BK191 := n0_; have HB := n1_; clear n0_ n1_; (try clear hb); (try clear hb2); (try clear hk); (try clear hi)))
    go_ret2
    exact ⟨_, by first | rfl | (simp [errW_none, errW_some] <;> rfl) | (simp [*, errW_none, errW_some] <;> rfl), by first | exact Kd.R_nil _ _ _ _ _ | exact Kd.N_nil _ _ _ _ _ | exact Kd.V_nil _ _ _ _ _ | exact Kd.Q_nil _ _ _ _ _ | exact Kd.S_nil _ _ _ _ _, by repeat (first | (with_reducible first | exact HB.out | apply below_alloc | apply pw_below_drewN | apply below_drew1 | refine below_set ?_ GE191.out) | exact HB.out)⟩

end Go.Proofs.Ytpbaebjohioijaa.PSolveLeast
