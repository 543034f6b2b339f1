-- PRINTED BY print.sh 35421559b90ae4d0a3588c463048766b98c2df88dd9212a6774a882060cdf62d: not written by this session
import Derived.Test.YtnjfiinnidklaaaPLatticeNewsx0
namespace Go.Proofs.Ytnjfiinnidklaaa.PLatticeNews
open Go.RowKit Go.Proofs.YtnjfiinnidklaaaW.PrintWords Go.Proofs.YtnjfiinnidklaaaW.PrintLast Go.Proofs.YtnjfiinnidklaaaW.PrintMore
attribute [local go_sem] max2_int min2_int max_two min_two max_three min_three max_four min_four   -- for this text's walks alone
set_option linter.unusedVariables false
set_option linter.unusedSimpArgs false

/-! ### portcullisref01_Order_Chain: function 28 -/
mutual
def portcullisref01_Order_Chain.l0 : Nat → List Int → List Bool → List (List Bool) → Option (List Int)
  | 0, _, _, _ => none
  | k + 1, x3, x4, x199000 => if (x3.length : Int) < (x199000.length : Int) then (portcullisref01_Order_Chain.l1 k x3 x4 0 x199000) else (some x3)
def portcullisref01_Order_Chain.l1 : Nat → List Int → List Bool → Int → List (List Bool) → Option (List Int)
  | 0, _, _, _, _ => none
  | k + 1, x3, x4, x5, x199000 => if x5 < (x199000.length : Int) then (if 0 ≤ x5 then (if x5 < (x4.length : Int) then (portcullisref01_Order_Chain.l2 k x3 x4 x5 (!(rdOf false x4 x5)) 0 x199000) else (none)) else (none)) else (portcullisref01_Order_Chain.l0 k x3 x4 x199000)
def portcullisref01_Order_Chain.l2 : Nat → List Int → List Bool → Int → Bool → Int → List (List Bool) → Option (List Int)
  | 0, _, _, _, _, _, _ => none
  | k + 1, x3, x4, x5, x6, x7, x199000 => if x7 < (x199000.length : Int) then (if x6 = true then (if x7 = x5 then (portcullisref01_Order_Chain.l2 k x3 x4 x5 true (wrap64 (x7 + 1)) x199000) else (if 0 ≤ x7 then (if x7 < (x4.length : Int) then (if rdOf false x4 x7 = true then (portcullisref01_Order_Chain.l2 k x3 x4 x5 true (wrap64 (x7 + 1)) x199000) else (if 0 ≤ x5 then (if x5 < ((rd_L3 x199000 x7).length : Int) then (portcullisref01_Order_Chain.l2 k x3 x4 x5 (!(rdOf false (rd_L3 x199000 x7) x5)) (wrap64 (x7 + 1)) x199000) else (none)) else (none))) else (none)) else (none))) else (portcullisref01_Order_Chain.l2 k x3 x4 x5 false (wrap64 (x7 + 1)) x199000)) else (if x6 = true then (if 0 ≤ x5 then (if x5 < (x4.length : Int) then (if x3.length < 17592186044416 then (portcullisref01_Order_Chain.l0 k (x3 ++ [x5]) (x4.set (x5 : Int).toNat true) x199000) else (none)) else (none)) else (none)) else (portcullisref01_Order_Chain.l1 k x3 x4 (wrap64 (x5 + 1)) x199000))
end
def portcullisref01_Order_Chain.f (k : Nat) (l0_0 : List (List Bool)) : Option (List Int) := if 0 ≤ (l0_0.length : Int) then (if ((l0_0.length : Int) : Int).toNat ≤ 281474976710656 then (portcullisref01_Order_Chain.l0 k (([] : List Int)) (List.replicate ((l0_0.length : Int) : Int).toNat false) l0_0) else (none)) else (none)
theorem portcullisref01_Order_Chain.mono_l : ∀ k, (∀ y0 y1 y2, LeO (portcullisref01_Order_Chain.l0 k y0 y1 y2) (portcullisref01_Order_Chain.l0 (k + 1) y0 y1 y2)) ∧ (∀ y0 y1 y2 y3, LeO (portcullisref01_Order_Chain.l1 k y0 y1 y2 y3) (portcullisref01_Order_Chain.l1 (k + 1) y0 y1 y2 y3)) ∧ (∀ y0 y1 y2 y3 y4 y5, LeO (portcullisref01_Order_Chain.l2 k y0 y1 y2 y3 y4 y5) (portcullisref01_Order_Chain.l2 (k + 1) y0 y1 y2 y3 y4 y5))
  | 0 => ⟨fun _ _ _ r h => by simp [portcullisref01_Order_Chain.l0] at h, fun _ _ _ _ r h => by simp [portcullisref01_Order_Chain.l1] at h, fun _ _ _ _ _ _ r h => by simp [portcullisref01_Order_Chain.l2] at h⟩
  | k + 1 => by
    obtain ⟨ih0, ih1, ih2⟩ := portcullisref01_Order_Chain.mono_l k
    refine ⟨?_, ?_, ?_⟩
    · intro y0 y1 y2
      unfold portcullisref01_Order_Chain.l0
      repeat' first
      | (with_reducible exact ih0 _ _ _)
      | (with_reducible exact ih1 _ _ _ _)
      | (with_reducible exact ih2 _ _ _ _ _ _)
      | (with_reducible exact LeO.refl _)
      | (with_reducible exact LeO.none _)
      | (with_reducible refine LeO.ite ?_ ?_)
      | (with_reducible refine LeO.bind ?_ (fun _ => ?_))
      | exact ih0 _ _ _
      | exact ih1 _ _ _ _
      | exact ih2 _ _ _ _ _ _
      | exact LeO.none _
      | refine LeO.ite ?_ ?_
      | refine LeO.bind ?_ (fun _ => ?_)
    · intro y0 y1 y2 y3
      unfold portcullisref01_Order_Chain.l1
      repeat' first
      | (with_reducible exact ih0 _ _ _)
      | (with_reducible exact ih1 _ _ _ _)
      | (with_reducible exact ih2 _ _ _ _ _ _)
      | (with_reducible exact LeO.refl _)
      | (with_reducible exact LeO.none _)
      | (with_reducible refine LeO.ite ?_ ?_)
      | (with_reducible refine LeO.bind ?_ (fun _ => ?_))
      | exact ih0 _ _ _
      | exact ih1 _ _ _ _
      | exact ih2 _ _ _ _ _ _
      | exact LeO.none _
      | refine LeO.ite ?_ ?_
      | refine LeO.bind ?_ (fun _ => ?_)
    · intro y0 y1 y2 y3 y4 y5
      unfold portcullisref01_Order_Chain.l2
      repeat' first
      | (with_reducible exact ih0 _ _ _)
      | (with_reducible exact ih1 _ _ _ _)
      | (with_reducible exact ih2 _ _ _ _ _ _)
      | (with_reducible exact LeO.refl _)
      | (with_reducible exact LeO.none _)
      | (with_reducible refine LeO.ite ?_ ?_)
      | (with_reducible refine LeO.bind ?_ (fun _ => ?_))
      | exact ih0 _ _ _
      | exact ih1 _ _ _ _
      | exact ih2 _ _ _ _ _ _
      | exact LeO.none _
      | refine LeO.ite ?_ ?_
      | refine LeO.bind ?_ (fun _ => ?_)
theorem portcullisref01_Order_Chain.mono : ∀ a0 k, LeO (portcullisref01_Order_Chain.f k a0) (portcullisref01_Order_Chain.f (k + 1) a0) := by
  intro a0 k
  obtain ⟨ih0, ih1, ih2⟩ := portcullisref01_Order_Chain.mono_l k
  unfold portcullisref01_Order_Chain.f
  repeat' first
      | (with_reducible exact ih0 _ _ _)
      | (with_reducible exact ih1 _ _ _ _)
      | (with_reducible exact ih2 _ _ _ _ _ _)
      | (with_reducible exact LeO.refl _)
      | (with_reducible exact LeO.none _)
      | (with_reducible refine LeO.ite ?_ ?_)
      | (with_reducible refine LeO.bind ?_ (fun _ => ?_))
      | exact ih0 _ _ _
      | exact ih1 _ _ _ _
      | exact ih2 _ _ _ _ _ _
      | exact LeO.none _
      | refine LeO.ite ?_ ?_
      | refine LeO.bind ?_ (fun _ => ?_)
set_option maxHeartbeats 8000000 in
set_option maxRecDepth 100000 in
theorem portcullisref01_Order_Chain.calls (k : Nat) (A0_0 : Option Addr) (c0_0 : Nat) (l0_0 : List (List Bool)) (r : List Int) (w : World) (hr0_0 : Kd.C (Kd.slice 4 Kd.bool) w A0_0 l0_0.length l0_0) (hc0_0 : l0_0.length ≤ c0_0) (h : portcullisref01_Order_Chain.f k l0_0 = some r) :
    Calls Try.prog 28 #[.agg #[.slice A0_0 l0_0.length c0_0]] w fun e w' => ∃ v0_ : Value, e = .returned (v0_) ∧ Kd.R (Kd.int .i64) 3 w' w.heap.size (fun _ => True) v0_ r ∧ Below w.heap.size w w' := by
  have hu32 := Try.underlying32
  have HR0_0 := Aside0.mk hr0_0
  have HC0_0 := Aside0.mk hc0_0
  clear hr0_0 hc0_0
  have HB := Aside0.mk (Below.refl w.heap.size w)
  have H : (if 0 ≤ (l0_0.length : Int) then (if ((l0_0.length : Int) : Int).toNat ≤ 281474976710656 then (portcullisref01_Order_Chain.l0 k (([] : List Int)) (List.replicate ((l0_0.length : Int) : Int).toNat false) l0_0) else (none)) else (none)) = some r := h
  clear h
  obtain ⟨y199, hy199⟩ : ∃ y_ : List Int, y_ = (([] : List Int)) := ⟨_, rfl⟩
  replace H : (if 0 ≤ (l0_0.length : Int) then (if ((l0_0.length : Int) : Int).toNat ≤ 281474976710656 then (portcullisref01_Order_Chain.l0 k y199 (List.replicate ((l0_0.length : Int) : Int).toNat false) l0_0) else (none)) else (none)) = some r := by first | (rw [hy199]; with_reducible exact H) | (have H2_ := (Option.bind_some _ _).symm.trans H; rw [hy199]; with_reducible exact H2_) | (have H2_ := (Option.bind_some _ _).symm.trans H; with_reducible exact H2_) | with_reducible exact H | (rw [hy199]; exact H) | exact H
  have Ny199 := Aside0.mk hy199
  clear hy199
  by_cases c2 : 0 ≤ (l0_0.length : Int)
  · rw [if_pos c2] at H
    have c2b0 := eq_true c2
    have c2b1 : decide (0 ≤ (l0_0.length : Int)) = true := decide_eq_true c2
    clear c2
    by_cases c3 : ((l0_0.length : Int) : Int).toNat ≤ 281474976710656
    · rw [if_pos c3] at H
      have c3b0 := eq_true c3
      have c3b1 : decide (((l0_0.length : Int) : Int).toNat ≤ 281474976710656) = true := decide_eq_true c3
      clear c3
      obtain ⟨y202, hy202⟩ : ∃ y_ : List Bool, y_ = (List.replicate ((l0_0.length : Int) : Int).toNat false) := ⟨_, rfl⟩
      replace H : (portcullisref01_Order_Chain.l0 k y199 y202 l0_0) = some r := by first | (rw [hy202]; with_reducible exact H) | (have H2_ := (Option.bind_some _ _).symm.trans H; rw [hy202]; with_reducible exact H2_) | (have H2_ := (Option.bind_some _ _).symm.trans H; with_reducible exact H2_) | with_reducible exact H | (rw [hy202]; exact H) | exact H
      have Ny202 := Aside0.mk hy202
      clear hy202
      have H' := Aside0.mk H
      clear H
      go_enter Try.func28, Try.ntmps28
      go_wp2_with (first | ((with_reducible refine gate_dst (N := 1) rfl ?_); refine box_event ?hg (N := 1) ?hd (cs := #[.slice A0_0 l0_0.length c0_0]) (t := 32) ?hr ?_; (case hd => rfl); (case hg => rfl); (case hr => first | (go_simp; done) | (go_simp; rfl)); intro gb198 hg w4 hbox hb; have n0_ := Aside0.mk (below_step (by repeat (first | (with_reducible first | exact HB.out | apply below_alloc | apply pw_below_drewN | apply below_drew1) | exact HB.out)) hb); have n1_ := Aside0.mk (hbox); have n2_ := Aside0.mk ((by rw [hg]; exact (below_size (by repeat (first | (with_reducible first | exact HB.out | apply below_alloc | apply pw_below_drewN | apply below_drew1) | exact HB.out))) : w.heap.size ≤ gb198)); have n3_ := Aside0.mk ((by rw [hg]; exact (below_size (by repeat (first | (with_reducible first | exact HB.out | apply below_alloc | apply pw_below_drewN | apply below_drew1) | exact HB.out))) : w.heap.size ≤ gb198)); clear HB; have HB := n0_; have BK198 := n1_; have GW198 := n2_; have GE198 := n3_; clear n0_ n1_ n2_ n3_; clear hb hbox hg) | ((with_reducible refine gate_dst (N := 8) rfl ?_); refine Kd.R_lit (Kd.int .i64) _ 3 ?hg (N := 8) ?hd (xs := ([] : List Int)) (inner := []) (ok := fun _ => True) (okp := fun _ => True) ?hr ?hp (fun _ hk => hk) trivial (Below.refl _ _) (Nat.le_refl _) (by simp) ?_; (case hd => rfl); (case hg => rfl); (case hr => first | (go_simp; done) | (go_simp; rfl)); (case hp => exact (Reps.none _ _)); intro v200 w5 ho6 hb hg_ hnew_; clear hg_ hnew_; (first | rw [← Ny199.out] at ho6 | (simp only [Int.reduceToNat] at ho6; rw [← Ny199.out] at ho6)); have n0_ := Aside0.mk (Kd.R_lower ho6 (below_size (by repeat (first | (with_reducible first | exact HB.out | apply below_alloc | apply pw_below_drewN | apply below_drew1 | refine below_set ?_ GE198.out) | exact HB.out)))); have n1_ := Aside0.mk (blk_below (g := gb198) (o := .cells #[.slice A0_0 l0_0.length c0_0] 32 (0, 0)) (by (with_reducible repeat (first | refine blk_drewN ?_ _ | refine blk_drew ?_ | refine blk_alloc ?_ _)); exact BK198.out) hb); have n2_ := Aside0.mk (below_step (by repeat (first | (with_reducible first | exact HB.out | apply below_alloc | apply pw_below_drewN | apply below_drew1 | refine below_set ?_ GE198.out) | exact HB.out)) hb); clear BK198; clear HB; have HO201 := n0_; have BK198 := n1_; have HB := n2_; clear n0_ n1_ n2_; clear hb ho6; have hcz7_0 : w5.cell? ⟨gb198, 0, none⟩ = some (.slice A0_0 l0_0.length c0_0) := (blk_cell BK198.out 0).trans rfl; have hfz7_0 := blk_frozen BK198.out 0) | ((with_reducible refine gate_dst (N := 12) rfl ?_); refine Kd.R_make Kd.bool _ 4 rfl (N := 12) rfl 60 _ _ rfl (l0_0.length : Int) rfl rfl Try.underlying60 (.bool false) 1 info4 rfl (by decide) (by omega) false (ok := fun _ => True) (okp := fun _ => True) rfl (fun _ hk => hk) trivial (of_decide_eq_true (by first | (with_reducible assumption) | assumption)) (Nat.le_trans (Nat.mul_le_mul_right _ (of_decide_eq_true (by first | (with_reducible assumption) | assumption) : (l0_0.length : Int).toNat ≤ 281474976710656)) (by omega)) (Below.refl _ _) (Nat.le_refl _) ?_; intro v203 w8 ho9 hb hg_ hnew_; clear hg_ hnew_; (first | rw [← Ny202.out] at ho9 | (simp only [Int.reduceToNat] at ho9; rw [← Ny202.out] at ho9)); have n0_ := Aside0.mk (Kd.R_below (by (with_reducible repeat (first | apply Kd.R_alloc | apply Kd.R_drewN | apply Kd.R_drew)); exact HO201.out) hb); have n1_ := Aside0.mk (Kd.R_lower ho9 (below_size (by repeat (first | (with_reducible first | exact HB.out | apply below_alloc | apply pw_below_drewN | apply below_drew1 | refine below_set ?_ GE198.out) | exact HB.out)))); have n2_ := Aside0.mk (blk_below (g := gb198) (o := .cells #[.slice A0_0 l0_0.length c0_0] 32 (0, 0)) (by (with_reducible repeat (first | refine blk_drewN ?_ _ | refine blk_drew ?_ | refine blk_alloc ?_ _)); exact BK198.out) hb); have n3_ := Aside0.mk (below_step (by repeat (first | (with_reducible first | exact HB.out | apply below_alloc | apply pw_below_drewN | apply below_drew1 | refine below_set ?_ GE198.out) | exact HB.out)) hb); clear HO201; clear BK198; clear HB; have HO201 := n0_; have HO204 := n1_; have BK198 := n2_; have HB := n3_; clear n0_ n1_ n2_ n3_; clear hb ho9))
      go_loopg [3] k (fun kq v3 w' => ∃ (x3_1 : List Int) (x4_1 : List Bool), Aside0 (portcullisref01_Order_Chain.l0 kq x3_1 x4_1 l0_0 = some r) ∧ Aside0 (kq ≤ k) ∧ Aside0 (Kd.R (Kd.int .i64) 3 w' w.heap.size (fun _ => True) v3 x3_1) ∧ Aside0 (Kd.R Kd.bool 4 w' w.heap.size (fun _ => True) v203 x4_1) ∧ Aside0 (w'.heap[gb198]? = some (.cells #[(.slice A0_0 l0_0.length c0_0)] 32 (0, 0))) ∧ Aside0 (Below w.heap.size w w'))
      case atStart => exact ⟨(y199), (y202), H', ⟨Nat.le_refl _⟩, ⟨by (with_reducible repeat (first | apply Kd.R_alloc | apply Kd.R_drewN | apply Kd.R_drew)); exact HO201.out⟩, ⟨by (with_reducible repeat (first | apply Kd.R_alloc | apply Kd.R_drewN | apply Kd.R_drew)); exact HO204.out⟩, ⟨by (with_reducible repeat (first | refine blk_drewN ?_ _ | refine blk_drew ?_ | refine blk_alloc ?_ _)); exact BK198.out⟩, ⟨by repeat (first | (with_reducible first | exact HB.out | apply below_alloc | apply pw_below_drewN | apply below_drew1 | refine below_set ?_ GE198.out) | exact HB.out)⟩⟩
      case round =>
        clear H'
        try clear c2
        try clear c2b0
        try clear c2b1
        try clear p2
        try clear c3
        try clear c3b0
        try clear c3b1
        try clear hcz7_0
        try clear hfz7_0
        obtain ⟨x3_1, x4_1, HA, HK1, HO_3, HO_4, BK198, HB⟩ := hrel
        cases gk with
        | zero => exact absurd HA.out (by simp [portcullisref01_Order_Chain.l0])
        | succ k1 =>
          have H := HA.out
          clear HA
          simp only [portcullisref01_Order_Chain.l0] at H
          by_cases c10 : (x3_1.length : Int) < (l0_0.length : Int)
          · rw [if_pos c10] at H
            have c10b0 : decide ((x3_1.length : Int) < (l0_0.length : Int)) = true := decide_eq_true c10
            have c10b1 : decide (x3_1.length < l0_0.length) = true := decide_eq_true (Int.ofNat_lt.mp c10)
            clear c10
            have H' := Aside0.mk H
            clear H
            obtain ⟨Ao11, co11, eo11⟩ := Kd.R_slice HO_3.out
            subst eo11
            have hcz12_0 : wr.cell? ⟨gb198, 0, none⟩ = some (.slice A0_0 l0_0.length c0_0) := (blk_cell BK198.out 0).trans rfl
            have hfz12_0 := blk_frozen BK198.out 0
            go_wp2
            go_loopg [3, 5] k1 (fun kq v3 v5 w' => ∃ (x3_2 : List Int) (x4_2 : List Bool) (x5_2 : Int), v5 = .int .i64 x5_2 ∧ Aside0 (portcullisref01_Order_Chain.l1 kq x3_2 x4_2 x5_2 l0_0 = some r) ∧ Aside0 (kq ≤ k1) ∧ Aside0 (Kd.R (Kd.int .i64) 3 w' w.heap.size (fun _ => True) v3 x3_2) ∧ Aside0 (Kd.R Kd.bool 4 w' w.heap.size (fun _ => True) v203 x4_2) ∧ Aside0 (w'.heap[gb198]? = some (.cells #[(.slice A0_0 l0_0.length c0_0)] 32 (0, 0))) ∧ Aside0 (Below w.heap.size w w'))
            case atStart => exact ⟨(x3_1), (x4_1), (0), (by first | rfl | (simp; done) | (simp [*]; done)), H', ⟨Nat.le_refl _⟩, ⟨by (with_reducible repeat (first | apply Kd.R_alloc | apply Kd.R_drewN | apply Kd.R_drew)); exact HO_3.out⟩, ⟨by (with_reducible repeat (first | apply Kd.R_alloc | apply Kd.R_drewN | apply Kd.R_drew)); exact HO_4.out⟩, ⟨by (with_reducible repeat (first | refine blk_drewN ?_ _ | refine blk_drew ?_ | refine blk_alloc ?_ _)); exact BK198.out⟩, ⟨by repeat (first | (with_reducible first | exact HB.out | apply below_alloc | apply pw_below_drewN | apply below_drew1 | refine below_set ?_ GE198.out) | exact HB.out)⟩⟩
            case round =>
              clear H'
              try clear c1
              try clear c2
              try clear c2b0
              try clear c2b1
              try clear p2
              try clear c3
              try clear c3b0
              try clear c3b1
              try clear c10
              try clear c10b0
              try clear c10b1
              try clear hcz12_0
              try clear hcz7_0
              try clear hfz12_0
              try clear hfz7_0
              try clear p2
              obtain ⟨x3_2, x4_2, x5_2, rfl, HA, HK2, HO_3, HO_4, BK198, HB⟩ := hrel
              cases gk with
              | zero => exact absurd HA.out (by simp [portcullisref01_Order_Chain.l1])
              | succ k2 =>
                have H := HA.out
                clear HA
                simp only [portcullisref01_Order_Chain.l1] at H
                by_cases c13 : x5_2 < (l0_0.length : Int)
                · rw [if_pos c13] at H
                  have c13b0 : decide (x5_2 < (l0_0.length : Int)) = true := decide_eq_true c13
                  clear c13
                  by_cases c14 : 0 ≤ x5_2
                  · rw [if_pos c14] at H
                    have c14b0 : decide (0 ≤ x5_2) = true := decide_eq_true c14
                    clear c14
                    by_cases c15 : x5_2 < (x4_2.length : Int)
                    · rw [if_pos c15] at H
                      have c15b0 : decide (x5_2 < (x4_2.length : Int)) = true := decide_eq_true c15
                      clear c15
                      have H' := Aside0.mk H
                      clear H
                      have hcz16_0 : wr.cell? ⟨gb198, 0, none⟩ = some (.slice A0_0 l0_0.length c0_0) := (blk_cell BK198.out 0).trans rfl
                      have hfz16_0 := blk_frozen BK198.out 0
                      obtain ⟨Ao17, co17, eo17⟩ := Kd.R_slice HO_4.out
                      subst eo17
                      have p205 : 0 ≤ (x5_2 : Int) := of_decide_eq_true (by first | (with_reducible assumption) | assumption)
                      have q205 : x5_2 < (x4_2.length : Int) := of_decide_eq_true (by first | (with_reducible assumption) | assumption)
                      obtain ⟨ad205, e205, hx205_0⟩ := Kd.at_bool (Kd.R_reads' HO_4.out).2.2 x5_2 p205 q205
                      cases e205
                      replace p205 := eq_true p205
                      replace q205 := eq_true q205
                      go_wp2
                      go_loopg [6, 7] k2 (fun kq v6 v7 w' => ∃ (x6_3 : Bool) (x7_3 : Int), v6 = .bool x6_3 ∧ v7 = .int .i64 x7_3 ∧ Aside0 (portcullisref01_Order_Chain.l2 kq x3_2 x4_2 x5_2 x6_3 x7_3 l0_0 = some r) ∧ Aside0 (kq ≤ k2) ∧ Aside0 (Kd.R (Kd.int .i64) 3 w' w.heap.size (fun _ => True) u3 x3_2) ∧ Aside0 (Kd.R Kd.bool 4 w' w.heap.size (fun _ => True) (.slice (some ad205) x4_2.length co17) x4_2) ∧ Aside0 (w'.heap[gb198]? = some (.cells #[(.slice A0_0 l0_0.length c0_0)] 32 (0, 0))) ∧ Aside0 (Below w.heap.size w w'))
                      case atStart => exact ⟨(!(rdOf false x4_2 x5_2)), (0), (by first | rfl | (simp; done) | (simp [*]; done)), (by first | rfl | (simp; done) | (simp [*]; done)), H', ⟨Nat.le_refl _⟩, ⟨by (with_reducible repeat (first | apply Kd.R_alloc | apply Kd.R_drewN | apply Kd.R_drew)); exact HO_3.out⟩, ⟨by (with_reducible repeat (first | apply Kd.R_alloc | apply Kd.R_drewN | apply Kd.R_drew)); exact HO_4.out⟩, ⟨by (with_reducible repeat (first | refine blk_drewN ?_ _ | refine blk_drew ?_ | refine blk_alloc ?_ _)); exact BK198.out⟩, ⟨by repeat (first | (with_reducible first | exact HB.out | apply below_alloc | apply pw_below_drewN | apply below_drew1 | refine below_set ?_ GE198.out) | exact HB.out)⟩⟩
                      case round =>
                        clear H'
                        try clear c1
                        try clear c2
                        try clear c2b0
                        try clear c2b1
                        try clear p2
                        try clear q2
                        try clear hx2
                        try clear c3
                        try clear c3b0
                        try clear c3b1
                        try clear c10
                        try clear c10b0
                        try clear c10b1
                        try clear c13
                        try clear c13b0
                        try clear c14
                        try clear c14b0
                        try clear c15
                        try clear c15b0
                        try clear hcz12_0
                        try clear hcz16_0
                        try clear hcz7_0
                        try clear hfz12_0
                        try clear hfz16_0
                        try clear hfz7_0
                        try clear hx205_0
                        try clear p2
                        try clear p205
                        try clear q205
                        obtain ⟨x6_3, x7_3, rfl, rfl, HA, HK3, HO_3, HO_4, BK198, HB⟩ := hrel
                        cases gk with
                        | zero => exact absurd HA.out (by simp [portcullisref01_Order_Chain.l2])
                        | succ k3 =>
                          have H := HA.out
                          clear HA
                          simp only [portcullisref01_Order_Chain.l2] at H
                          by_cases c18 : x7_3 < (l0_0.length : Int)
                          · rw [if_pos c18] at H
                            have c18b0 : decide (x7_3 < (l0_0.length : Int)) = true := decide_eq_true c18
                            clear c18
                            by_cases c19 : x6_3 = true
                            · subst c19
                              have H1 : (if x7_3 = x5_2 then (portcullisref01_Order_Chain.l2 k3 x3_2 x4_2 x5_2 true (wrap64 (x7_3 + 1)) l0_0) else (if 0 ≤ x7_3 then (if x7_3 < (x4_2.length : Int) then (if rdOf false x4_2 x7_3 = true then (portcullisref01_Order_Chain.l2 k3 x3_2 x4_2 x5_2 true (wrap64 (x7_3 + 1)) l0_0) else (if 0 ≤ x5_2 then (if x5_2 < ((rd_L3 l0_0 x7_3).length : Int) then (portcullisref01_Order_Chain.l2 k3 x3_2 x4_2 x5_2 (!(rdOf false (rd_L3 l0_0 x7_3) x5_2)) (wrap64 (x7_3 + 1)) l0_0) else (none)) else (none))) else (none)) else (none))) = some r := by rw [if_pos rfl] at H; exact H
                              clear H
                              have H := H1
                              clear H1
                              by_cases c20 : x7_3 = x5_2
                              · rw [if_pos c20] at H
                                have c20b0 : (x7_3 == x5_2) = true := beq_iff_eq.mpr c20
                                have c20b1 : (x7_3 != x5_2) = false := bne_eq_false_iff_eq.mpr c20
                                clear c20
                                have H' := Aside0.mk H
                                clear H
                                have hcz21_0 : wr.cell? ⟨gb198, 0, none⟩ = some (.slice A0_0 l0_0.length c0_0) := (blk_cell BK198.out 0).trans rfl
                                have hfz21_0 := blk_frozen BK198.out 0
                                go_wp2
                                go_roundg k3
                                case measure => have := HK1.out; have := HK2.out; have := HK3.out; omega
                                case rel => exact ⟨(true), (wrap64 (x7_3 + 1)), (by first | rfl | (simp; done) | (simp [*]; done)), (by first | rfl | (simp; done) | (simp [*]; done)), H', ⟨by have := HK1.out; have := HK2.out; have := HK3.out; omega⟩, ⟨by (with_reducible repeat (first | apply Kd.R_alloc | apply Kd.R_drewN | apply Kd.R_drew)); exact HO_3.out⟩, ⟨by (with_reducible repeat (first | apply Kd.R_alloc | apply Kd.R_drewN | apply Kd.R_drew)); exact HO_4.out⟩, ⟨by (with_reducible repeat (first | refine blk_drewN ?_ _ | refine blk_drew ?_ | refine blk_alloc ?_ _)); exact BK198.out⟩, ⟨by repeat (first | (with_reducible first | exact HB.out | apply below_alloc | apply pw_below_drewN | apply below_drew1 | refine below_set ?_ GE198.out) | exact HB.out)⟩⟩
                              · rw [if_neg c20] at H
                                have c20b0 : (x7_3 == x5_2) = false := beq_eq_false_iff_ne.mpr c20
                                have c20b1 : (x7_3 != x5_2) = true := bne_iff_ne.mpr c20
                                by_cases c22 : 0 ≤ x7_3
                                · rw [if_pos c22] at H
                                  have c22b0 : decide (0 ≤ x7_3) = true := decide_eq_true c22
                                  clear c22
                                  by_cases c23 : x7_3 < (x4_2.length : Int)
                                  · rw [if_pos c23] at H
                                    have c23b0 : decide (x7_3 < (x4_2.length : Int)) = true := decide_eq_true c23
                                    clear c23
                                    obtain ⟨bq24, hbq24⟩ : ∃ b_ : Bool, b_ = (rdOf false x4_2 x7_3) := ⟨_, rfl⟩
                                    replace H : (if bq24 = true then (portcullisref01_Order_Chain.l2 k3 x3_2 x4_2 x5_2 true (wrap64 (x7_3 + 1)) l0_0) else (if 0 ≤ x5_2 then (if x5_2 < ((rd_L3 l0_0 x7_3).length : Int) then (portcullisref01_Order_Chain.l2 k3 x3_2 x4_2 x5_2 (!(rdOf false (rd_L3 l0_0 x7_3) x5_2)) (wrap64 (x7_3 + 1)) l0_0) else (none)) else (none))) = some r := by rw [← hbq24] at H; exact H
                                    have Nbq24 := Aside0.mk hbq24
                                    clear hbq24
                                    by_cases c25 : bq24 = true
                                    · subst c25
                                      have H1 : (portcullisref01_Order_Chain.l2 k3 x3_2 x4_2 x5_2 true (wrap64 (x7_3 + 1)) l0_0) = some r := by rw [if_pos rfl] at H; exact H
                                      clear H
                                      have H := H1
                                      clear H1
                                      have H' := Aside0.mk H
                                      clear H
                                      have hcz26_0 : wr.cell? ⟨gb198, 0, none⟩ = some (.slice A0_0 l0_0.length c0_0) := (blk_cell BK198.out 0).trans rfl
                                      have hfz26_0 := blk_frozen BK198.out 0
                                      have p206 : 0 ≤ (x7_3 : Int) := of_decide_eq_true (by first | (with_reducible assumption) | assumption)
                                      have q206 : x7_3 < (x4_2.length : Int) := of_decide_eq_true (by first | (with_reducible assumption) | assumption)
                                      obtain ⟨ad206, e206, hx206_0⟩ := Kd.at_bool (Kd.R_reads' HO_4.out).2.2 x7_3 p206 q206
                                      (try rw [← Nbq24.out] at hx206_0)
                                      obtain rfl : ad205 = ad206 := (by injection e206)
                                      replace p206 := eq_true p206
                                      replace q206 := eq_true q206
                                      go_wp2
                                      go_roundg k3
                                      case measure => have := HK1.out; have := HK2.out; have := HK3.out; omega
                                      case rel => exact ⟨(true), (wrap64 (x7_3 + 1)), (by first | rfl | (simp; done) | (simp [*]; done)), (by first | rfl | (simp; done) | (simp [*]; done)), H', ⟨by have := HK1.out; have := HK2.out; have := HK3.out; omega⟩, ⟨by (with_reducible repeat (first | apply Kd.R_alloc | apply Kd.R_drewN | apply Kd.R_drew)); exact HO_3.out⟩, ⟨by (with_reducible repeat (first | apply Kd.R_alloc | apply Kd.R_drewN | apply Kd.R_drew)); exact HO_4.out⟩, ⟨by (with_reducible repeat (first | refine blk_drewN ?_ _ | refine blk_drew ?_ | refine blk_alloc ?_ _)); exact BK198.out⟩, ⟨by repeat (first | (with_reducible first | exact HB.out | apply below_alloc | apply pw_below_drewN | apply below_drew1 | refine below_set ?_ GE198.out) | exact HB.out)⟩⟩
                                    · replace c25 := Bool.eq_false_iff.mpr c25
                                      subst c25
                                      have H1 : (if 0 ≤ x5_2 then (if x5_2 < ((rd_L3 l0_0 x7_3).length : Int) then (portcullisref01_Order_Chain.l2 k3 x3_2 x4_2 x5_2 (!(rdOf false (rd_L3 l0_0 x7_3) x5_2)) (wrap64 (x7_3 + 1)) l0_0) else (none)) else (none)) = some r := by rw [if_neg (show ¬ (false = true) by decide)] at H; exact H
                                      clear H
                                      have H := H1
                                      clear H1
                                      by_cases c27 : 0 ≤ x5_2
                                      · rw [if_pos c27] at H
                                        have c27b0 : decide (0 ≤ x5_2) = true := decide_eq_true c27
                                        clear c27
                                        by_cases c28 : x5_2 < ((rd_L3 l0_0 x7_3).length : Int)
                                        · rw [if_pos c28] at H
                                          have c28b0 : decide (x5_2 < ((rd_L3 l0_0 x7_3).length : Int)) = true := decide_eq_true c28
                                          clear c28
                                          have H' := Aside0.mk H
                                          clear H
                                          have hcz29_0 : wr.cell? ⟨gb198, 0, none⟩ = some (.slice A0_0 l0_0.length c0_0) := (blk_cell BK198.out 0).trans rfl
                                          have hfz29_0 := blk_frozen BK198.out 0
                                          have p206 : 0 ≤ (x7_3 : Int) := of_decide_eq_true (by first | (with_reducible assumption) | assumption)
                                          have q206 : x7_3 < (x4_2.length : Int) := of_decide_eq_true (by first | (with_reducible assumption) | assumption)
                                          obtain ⟨ad206, e206, hx206_0⟩ := Kd.at_bool (Kd.R_reads' HO_4.out).2.2 x7_3 p206 q206
                                          (try rw [← Nbq24.out] at hx206_0)
                                          obtain rfl : ad205 = ad206 := (by injection e206)
                                          replace p206 := eq_true p206
                                          replace q206 := eq_true q206
                                          have p207 : 0 ≤ (x7_3 : Int) := of_decide_eq_true (by first | (with_reducible assumption) | assumption)
                                          have q207 : x7_3 < (l0_0.length : Int) := of_decide_eq_true (by first | (with_reducible assumption) | assumption)
                                          obtain ⟨ad207, A207_0, c207_0, e207, hx207_0, hl207_0, hi207_0⟩ := at_L3 HR0_0.out x7_3 p207 q207
                                          cases e207
                                          replace hx207_0 := (HB.out.cell (World.block_lt_of_cell? w _ hx207_0)).trans hx207_0
                                          have HR207_0 := Aside0.mk hi207_0
                                          have HC207_0 := Aside0.mk hl207_0
                                          clear hi207_0 hl207_0
                                          replace p207 := eq_true p207
                                          replace q207 := eq_true q207
                                          have p208 : 0 ≤ (x5_2 : Int) := of_decide_eq_true (by first | (with_reducible assumption) | assumption)
                                          have q208 : x5_2 < ((rd_L3 l0_0 x7_3).length : Int) := of_decide_eq_true (by first | (with_reducible assumption) | assumption)
                                          obtain ⟨ad208, e208, hx208_0⟩ := Kd.at_bool HR207_0.out x5_2 p208 q208
                                          (try rw [← Nbq24.out] at hx208_0)
                                          cases e208
                                          replace hx208_0 := (HB.out.cell (World.block_lt_of_cell? w _ hx208_0)).trans hx208_0
                                          replace p208 := eq_true p208
                                          replace q208 := eq_true q208
                                          go_wp2
                                          go_roundg k3
                                          case measure => have := HK1.out; have := HK2.out; have := HK3.out; omega
                                          case rel => exact ⟨(!(rdOf false (rd_L3 l0_0 x7_3) x5_2)), (wrap64 (x7_3 + 1)), (by first | rfl | (simp; done) | (simp [*]; done)), (by first | rfl | (simp; done) | (simp [*]; done)), H', ⟨by have := HK1.out; have := HK2.out; have := HK3.out; omega⟩, ⟨by (with_reducible repeat (first | apply Kd.R_alloc | apply Kd.R_drewN | apply Kd.R_drew)); exact HO_3.out⟩, ⟨by (with_reducible repeat (first | apply Kd.R_alloc | apply Kd.R_drewN | apply Kd.R_drew)); exact HO_4.out⟩, ⟨by (with_reducible repeat (first | refine blk_drewN ?_ _ | refine blk_drew ?_ | refine blk_alloc ?_ _)); exact BK198.out⟩, ⟨by repeat (first | (with_reducible first | exact HB.out | apply below_alloc | apply pw_below_drewN | apply below_drew1 | refine below_set ?_ GE198.out) | exact HB.out)⟩⟩
                                        · rw [if_neg c28] at H
                                          exact absurd H (by simp)
                                      · rw [if_neg c27] at H
                                        exact absurd H (by simp)
                                  · rw [if_neg c23] at H
                                    exact absurd H (by simp)
                                · rw [if_neg c22] at H
                                  exact absurd H (by simp)
                            · replace c19 := Bool.eq_false_iff.mpr c19
                              subst c19
                              have H1 : (portcullisref01_Order_Chain.l2 k3 x3_2 x4_2 x5_2 false (wrap64 (x7_3 + 1)) l0_0) = some r := by rw [if_neg (show ¬ (false = true) by decide)] at H; exact H
                              clear H
                              have H := H1
                              clear H1
                              have H' := Aside0.mk H
                              clear H
                              have hcz30_0 : wr.cell? ⟨gb198, 0, none⟩ = some (.slice A0_0 l0_0.length c0_0) := (blk_cell BK198.out 0).trans rfl
                              have hfz30_0 := blk_frozen BK198.out 0
                              go_wp2
                              go_roundg k3
                              case measure => have := HK1.out; have := HK2.out; have := HK3.out; omega
                              case rel => exact ⟨(false), (wrap64 (x7_3 + 1)), (by first | rfl | (simp; done) | (simp [*]; done)), (by first | rfl | (simp; done) | (simp [*]; done)), H', ⟨by have := HK1.out; have := HK2.out; have := HK3.out; omega⟩, ⟨by (with_reducible repeat (first | apply Kd.R_alloc | apply Kd.R_drewN | apply Kd.R_drew)); exact HO_3.out⟩, ⟨by (with_reducible repeat (first | apply Kd.R_alloc | apply Kd.R_drewN | apply Kd.R_drew)); exact HO_4.out⟩, ⟨by (with_reducible repeat (first | refine blk_drewN ?_ _ | refine blk_drew ?_ | refine blk_alloc ?_ _)); exact BK198.out⟩, ⟨by repeat (first | (with_reducible first | exact HB.out | apply below_alloc | apply pw_below_drewN | apply below_drew1 | refine below_set ?_ GE198.out) | exact HB.out)⟩⟩
                          · rw [if_neg c18] at H
                            have c18b0 : decide (x7_3 < (l0_0.length : Int)) = false := decide_eq_false c18
                            clear c18
                            by_cases c31 : x6_3 = true
                            · subst c31
                              have H1 : (if 0 ≤ x5_2 then (if x5_2 < (x4_2.length : Int) then (if x3_2.length < 17592186044416 then (portcullisref01_Order_Chain.l0 k3 (x3_2 ++ [x5_2]) (x4_2.set (x5_2 : Int).toNat true) l0_0) else (none)) else (none)) else (none)) = some r := by rw [if_pos rfl] at H; exact H
                              clear H
                              have H := H1
                              clear H1
                              by_cases c32 : 0 ≤ x5_2
                              · rw [if_pos c32] at H
                                have c32b0 : decide (0 ≤ x5_2) = true := decide_eq_true c32
                                clear c32
                                by_cases c33 : x5_2 < (x4_2.length : Int)
                                · rw [if_pos c33] at H
                                  have c33b0 : decide (x5_2 < (x4_2.length : Int)) = true := decide_eq_true c33
                                  clear c33
                                  obtain ⟨y209, hy209⟩ : ∃ y_ : List Bool, y_ = (x4_2.set (x5_2 : Int).toNat true) := ⟨_, rfl⟩
                                  replace H : (if x3_2.length < 17592186044416 then (portcullisref01_Order_Chain.l0 k3 (x3_2 ++ [x5_2]) y209 l0_0) else (none)) = some r := by first | (rw [hy209]; with_reducible exact H) | (have H2_ := (Option.bind_some _ _).symm.trans H; rw [hy209]; with_reducible exact H2_) | (have H2_ := (Option.bind_some _ _).symm.trans H; with_reducible exact H2_) | with_reducible exact H | (rw [hy209]; exact H) | exact H
                                  have Ny209 := Aside0.mk hy209
                                  clear hy209
                                  by_cases c35 : x3_2.length < 17592186044416
                                  · rw [if_pos c35] at H
                                    have LMc35 := Aside0.mk c35
                                    clear c35
                                    obtain ⟨y210, hy210⟩ : ∃ y_ : List Int, y_ = (x3_2 ++ [x5_2]) := ⟨_, rfl⟩
                                    replace H : (portcullisref01_Order_Chain.l0 k3 y210 y209 l0_0) = some r := by first | (rw [hy210]; with_reducible exact H) | (have H2_ := (Option.bind_some _ _).symm.trans H; rw [hy210]; with_reducible exact H2_) | (have H2_ := (Option.bind_some _ _).symm.trans H; with_reducible exact H2_) | with_reducible exact H | (rw [hy210]; exact H) | exact H
                                    have Ny210 := Aside0.mk hy210
                                    clear hy210
                                    have H' := Aside0.mk H
                                    clear H
                                    have hcz36_0 : wr.cell? ⟨gb198, 0, none⟩ = some (.slice A0_0 l0_0.length c0_0) := (blk_cell BK198.out 0).trans rfl
                                    have hfz36_0 := blk_frozen BK198.out 0
                                    have p34 : 0 ≤ (x5_2 : Int) := of_decide_eq_true (by first | (with_reducible assumption) | assumption)
                                    have q34 : (x5_2 : Int) < ((x4_2.length : Int) : Int) := of_decide_eq_true (by first | (with_reducible assumption) | assumption)
                                    obtain ⟨go34, co34, eo34, gb34, gl34, cl34, HG34⟩ := Kd.R_form HO_4.out (by omega)
                                    (first | cases eo34 | (injection eo34 with ea_ en_ ec_; (first | subst ea_ | (injection ea_ with ea_; subst ea_)); subst ec_; clear en_))
                                    have GB34 := Aside0.mk gb34
                                    have GG34 := Aside0.mk HG34
                                    clear gb34 gl34 HG34
                                    (first | simp only [add_plain] at hx205_0 | skip)
                                    (first | simp only [add_plain] at hx206_0 | skip)
                                    obtain ⟨hx34_0, hf34_0⟩ := Kd.R_celln false HO_4.out (x5_2 : Int) p34 q34
                                    replace p34 := eq_true p34
                                    replace q34 := eq_true q34
                                    have HP37 := Kd.R_putg HO_4.out (x5_2 : Int) true
                                    go_wp2_with (first | ((with_reducible refine gate_store (t := 4) (p := 64) rfl ?_); refine store_event (t := 4) (p := 64) (v := ?vo_w38) (w1 := (wr.setCell ⟨go34, (x5_2 : Int).toNat, none⟩ (.bool true))) ?hg ?ho ?hn ?hr ?_; (case ho => rfl); (case hg => rfl); (case hn => rfl); (case hr => first | (go_simp; done) | (go_simp; rfl)); intro w38 hw; have hg : wr.grownBy w38 (some go34) := (by rw [hw]; exact HP37.2); have hp_ : Kd.R Kd.bool 4 w38 w.heap.size (fun _ => True) (.slice (some ⟨go34, 0, none⟩) x4_2.length co17) y209 := (by rw [hw, Ny209.out]; exact HP37.1); clear HP37; have n0_ := Aside0.mk (Kd.R_over' (v := (.slice (some ⟨go34, 0, none⟩) x4_2.length co17)) (by (with_reducible repeat (first | apply Kd.R_alloc | apply Kd.R_drewN | apply Kd.R_drew)); exact HO_3.out) (Kd.R_typed HO_4.out) (by decide) hg); have n1_ := Aside0.mk (hp_); have n2_ := Aside0.mk (blk_grown (g := gb198) (o := .cells #[.slice A0_0 l0_0.length c0_0] 32 (0, 0)) (by (with_reducible repeat (first | refine blk_drewN ?_ _ | refine blk_drew ?_ | refine blk_alloc ?_ _)); exact BK198.out) hg (Kd.R_ne HO_4.out BK198.out (by decide))); have n3_ := Aside0.mk ((by rw [hw]; exact below_set (HB.out) GB34.out : Below w.heap.size w w38)); clear HO_3; clear HO_4; clear BK198; clear HB; have HO_3 := n0_; have HO_4 := n1_; have BK198 := n2_; have HB := n3_; clear n0_ n1_ n2_ n3_; clear hg hw hp_) | ((with_reducible refine gate_builtin (b := .append) (xs := #[.tmp 65, .tmp 67]) rfl ?_); at_builtin; refine Kd.R_append (Kd.int .i64) (w0 := w) w.heap.size rfl (.tmp 65) (.tmp 67) 23 3 (.int .i64 0) 8 rfl Try.underlying23 info3 rfl (by decide) (by omega) u3 x3_2 x5_2 [.int .i64 x5_2] (fun _ => True) (fun _ => False) rfl rfl ?aP (fun _ hk => hk.elim) ?aF ?aO ?aB ?aS ?aL ?_; (case aP => exact rfl); (case aB => exact (by repeat (first | (with_reducible first | exact HB.out | apply below_alloc | apply pw_below_drewN | apply below_drew1 | refine below_set ?_ GE198.out) | exact HB.out))); (case aF => exact (fun _ _ => trivial)); (case aO => exact (by (with_reducible repeat (first | apply Kd.R_alloc | apply Kd.R_drewN | apply Kd.R_drew)); exact HO_3.out)); (case aS => exact (below_size (by repeat (first | (with_reducible first | exact HB.out | apply below_alloc | apply pw_below_drewN | apply below_drew1 | refine below_set ?_ GE198.out) | exact HB.out)))); (case aL => have := LMc35.out; omega); intro v211 w39 ho hb hg hat; rw [← Ny210.out] at ho; have n0_ := Aside0.mk (Kd.R_over' (by (with_reducible repeat (first | apply Kd.R_alloc | apply Kd.R_drewN | apply Kd.R_drew)); exact HO_4.out) (Kd.R_typed (by (with_reducible repeat (first | apply Kd.R_alloc | apply Kd.R_drewN | apply Kd.R_drew)); exact HO_3.out)) (by decide) hg); have n1_ := Aside0.mk (blk_grown (g := gb198) (o := .cells #[.slice A0_0 l0_0.length c0_0] 32 (0, 0)) (by (with_reducible repeat (first | refine blk_drewN ?_ _ | refine blk_drew ?_ | refine blk_alloc ?_ _)); exact BK198.out) hg (Kd.R_ne HO_3.out BK198.out (by decide))); have n2_ := Aside0.mk (hb); have n3_ := Aside0.mk (ho); clear HO_4; clear BK198; clear HB; clear HO_3; have HO_4 := n0_; have BK198 := n1_; have HB := n2_; have HO212 := n3_; clear n0_ n1_ n2_ n3_; clear ho hb hg hat))
                                    go_roundg k3
                                    case measure => have := HK1.out; have := HK2.out; have := HK3.out; omega
                                    case rel => exact ⟨(y210), (y209), H', ⟨by have := HK1.out; have := HK2.out; have := HK3.out; omega⟩, ⟨by (with_reducible repeat (first | apply Kd.R_alloc | apply Kd.R_drewN | apply Kd.R_drew)); exact HO212.out⟩, ⟨by (with_reducible repeat (first | apply Kd.R_alloc | apply Kd.R_drewN | apply Kd.R_drew)); exact HO_4.out⟩, ⟨by (with_reducible repeat (first | refine blk_drewN ?_ _ | refine blk_drew ?_ | refine blk_alloc ?_ _)); exact BK198.out⟩, ⟨by repeat (first | (with_reducible first | exact HB.out | apply below_alloc | apply pw_below_drewN | apply below_drew1 | refine below_set ?_ GE198.out) | exact HB.out)⟩⟩
                                  · rw [if_neg c35] at H
                                    exact absurd H (by simp)
                                · rw [if_neg c33] at H
                                  exact absurd H (by simp)
                              · rw [if_neg c32] at H
                                exact absurd H (by simp)
                            · replace c31 := Bool.eq_false_iff.mpr c31
                              subst c31
                              have H1 : (portcullisref01_Order_Chain.l1 k3 x3_2 x4_2 (wrap64 (x5_2 + 1)) l0_0) = some r := by rw [if_neg (show ¬ (false = true) by decide)] at H; exact H
                              clear H
                              have H := H1
                              clear H1
                              have H' := Aside0.mk H
                              clear H
                              have hcz40_0 : wr.cell? ⟨gb198, 0, none⟩ = some (.slice A0_0 l0_0.length c0_0) := (blk_cell BK198.out 0).trans rfl
                              have hfz40_0 := blk_frozen BK198.out 0
                              go_wp2
                              go_roundg k3
                              case measure => have := HK1.out; have := HK2.out; have := HK3.out; omega
                              case rel => exact ⟨(x3_2), (x4_2), (wrap64 (x5_2 + 1)), (by first | rfl | (simp; done) | (simp [*]; done)), H', ⟨by have := HK1.out; have := HK2.out; have := HK3.out; omega⟩, ⟨by (with_reducible repeat (first | apply Kd.R_alloc | apply Kd.R_drewN | apply Kd.R_drew)); exact HO_3.out⟩, ⟨by (with_reducible repeat (first | apply Kd.R_alloc | apply Kd.R_drewN | apply Kd.R_drew)); exact HO_4.out⟩, ⟨by (with_reducible repeat (first | refine blk_drewN ?_ _ | refine blk_drew ?_ | refine blk_alloc ?_ _)); exact BK198.out⟩, ⟨by repeat (first | (with_reducible first | exact HB.out | apply below_alloc | apply pw_below_drewN | apply below_drew1 | refine below_set ?_ GE198.out) | exact HB.out)⟩⟩
                    · rw [if_neg c15] at H
                      exact absurd H (by simp)
                  · rw [if_neg c14] at H
                    exact absurd H (by simp)
                · rw [if_neg c13] at H
                  have c13b0 : decide (x5_2 < (l0_0.length : Int)) = false := decide_eq_false c13
                  clear c13
                  have H' := Aside0.mk H
                  clear H
                  have hcz41_0 : wr.cell? ⟨gb198, 0, none⟩ = some (.slice A0_0 l0_0.length c0_0) := (blk_cell BK198.out 0).trans rfl
                  have hfz41_0 := blk_frozen BK198.out 0
                  go_wp2
                  go_roundg k2
                  case measure => have := HK1.out; have := HK2.out; omega
                  case rel => exact ⟨(x3_2), (x4_2), H', ⟨by have := HK1.out; have := HK2.out; omega⟩, ⟨by (with_reducible repeat (first | apply Kd.R_alloc | apply Kd.R_drewN | apply Kd.R_drew)); exact HO_3.out⟩, ⟨by (with_reducible repeat (first | apply Kd.R_alloc | apply Kd.R_drewN | apply Kd.R_drew)); exact HO_4.out⟩, ⟨by (with_reducible repeat (first | refine blk_drewN ?_ _ | refine blk_drew ?_ | refine blk_alloc ?_ _)); exact BK198.out⟩, ⟨by repeat (first | (with_reducible first | exact HB.out | apply below_alloc | apply pw_below_drewN | apply below_drew1 | refine below_set ?_ GE198.out) | exact HB.out)⟩⟩
          · rw [if_neg c10] at H
            have c10b0 : decide ((x3_1.length : Int) < (l0_0.length : Int)) = false := decide_eq_false c10
            have c10b1 : decide (x3_1.length < l0_0.length) = false := decide_eq_false (fun h => c10 (Int.ofNat_lt.mpr h))
            clear c10
            obtain rfl := Option.some.inj H
            obtain ⟨Ao42, co42, eo42⟩ := Kd.R_slice HO_3.out
            subst eo42
            have hcz43_0 : wr.cell? ⟨gb198, 0, none⟩ = some (.slice A0_0 l0_0.length c0_0) := (blk_cell BK198.out 0).trans rfl
            have hfz43_0 := blk_frozen BK198.out 0
            go_wp2
            go_ret
            exact ⟨_, by first | rfl | (simp [errW_none, errW_some] <;> rfl) | (simp [*, errW_none, errW_some] <;> rfl), by (with_reducible repeat (first | apply Kd.R_alloc | apply Kd.R_drewN | apply Kd.R_drew)); exact HO_3.out, by repeat (first | (with_reducible first | exact HB.out | apply below_alloc | apply pw_below_drewN | apply below_drew1 | refine below_set ?_ GE198.out) | exact HB.out)⟩
    · rw [if_neg c3] at H
      exact absurd H (by simp)
  · rw [if_neg c2] at H
    exact absurd H (by simp)

end Go.Proofs.Ytnjfiinnidklaaa.PLatticeNews
