/- Printed models and contracts (print.sh), upon fewer words. -/
import Derived.Test.YtpbaebjohioijaaX0
namespace Go.Proofs.Ytpbaebjohioijaa.PSolveLeast
open Go.RowKit Go.Proofs.YtpbaebjohioijaaW.PrintWords Go.Proofs.YtpbaebjohioijaaW.PrintLast Go.Proofs.YtpbaebjohioijaaW.PrintMore
attribute [local go_sem] max2_int min2_int max_two min_two max_three min_three max_four min_four   -- for this text's walks alone
set_option linter.unusedVariables false
set_option linter.unusedSimpArgs false

/-! ### portcullisref01_Order_least: function 45 -/
mutual
def portcullisref01_Order_least.l0 : Nat → List Int → Int → List (List Bool) → Option (Int)
  | 0, _, _, _ => none
  | k + 1, x1, x5, x159000 => if x5 < (x159000.length : Int) then (portcullisref01_Order_least.l1 k x1 x5 true 0 x159000) else (some (-1))
def portcullisref01_Order_least.l1 : Nat → List Int → Int → Bool → Int → List (List Bool) → Option (Int)
  | 0, _, _, _, _, _ => none
  | k + 1, x1, x5, x6, x7, x159000 => if x7 < (x1.length : Int) then (if x6 = true then (if 0 ≤ x7 then (if 0 ≤ (rd x1 x7) then (if (rd x1 x7) < (x159000.length : Int) then (if 0 ≤ x5 then (if x5 < ((rd_L5 x159000 (rd x1 x7)).length : Int) then (portcullisref01_Order_least.l1 k x1 x5 (rdOf false (rd_L5 x159000 (rd x1 x7)) x5) (wrap64 (x7 + 1)) x159000) else (none)) else (none)) else (none)) else (none)) else (none)) else (portcullisref01_Order_least.l1 k x1 x5 false (wrap64 (x7 + 1)) x159000)) else (portcullisref01_Order_least.l2 k x1 x5 x6 0 x159000)
def portcullisref01_Order_least.l2 : Nat → List Int → Int → Bool → Int → List (List Bool) → Option (Int)
  | 0, _, _, _, _, _ => none
  | k + 1, x1, x5, x6, x8, x159000 => if x8 < (x159000.length : Int) then (portcullisref01_Order_least.j3 k x1 x5 x6 x8 x6 x159000) else (portcullisref01_Order_least.j3 k x1 x5 x6 x8 false x159000)
def portcullisref01_Order_least.j3 : Nat → List Int → Int → Bool → Int → Bool → List (List Bool) → Option (Int)
  | 0, _, _, _, _, _, _ => none
  | k + 1, x1, x5, x6, x8, x45, x159000 => if x45 = true then (portcullisref01_Order_least.l3 k x1 x5 x8 true 0 x159000) else (if x6 = true then (some x5) else (portcullisref01_Order_least.l0 k x1 (wrap64 (x5 + 1)) x159000))
def portcullisref01_Order_least.l3 : Nat → List Int → Int → Int → Bool → Int → List (List Bool) → Option (Int)
  | 0, _, _, _, _, _, _ => none
  | k + 1, x1, x5, x8, x9, x10, x159000 => if x10 < (x1.length : Int) then (if x9 = true then (if 0 ≤ x10 then (if 0 ≤ (rd x1 x10) then (if (rd x1 x10) < (x159000.length : Int) then (if 0 ≤ x8 then (if x8 < ((rd_L5 x159000 (rd x1 x10)).length : Int) then (portcullisref01_Order_least.l3 k x1 x5 x8 (rdOf false (rd_L5 x159000 (rd x1 x10)) x8) (wrap64 (x10 + 1)) x159000) else (none)) else (none)) else (none)) else (none)) else (none)) else (portcullisref01_Order_least.l3 k x1 x5 x8 false (wrap64 (x10 + 1)) x159000)) else (if x9 = true then (if 0 ≤ x5 then (if x5 < (x159000.length : Int) then (if 0 ≤ x8 then (if x8 < ((rd_L5 x159000 x5).length : Int) then (portcullisref01_Order_least.l2 k x1 x5 (rdOf false (rd_L5 x159000 x5) x8) (wrap64 (x8 + 1)) x159000) else (none)) else (none)) else (none)) else (none)) else (portcullisref01_Order_least.l2 k x1 x5 true (wrap64 (x8 + 1)) x159000))
end
def portcullisref01_Order_least.f (k : Nat) (l0_0 : List (List Bool)) (l1 : List Int) : Option (Int) := portcullisref01_Order_least.l0 k l1 0 l0_0
theorem portcullisref01_Order_least.mono_l : ∀ k, (∀ y0 y1 y2, LeO (portcullisref01_Order_least.l0 k y0 y1 y2) (portcullisref01_Order_least.l0 (k + 1) y0 y1 y2)) ∧ (∀ y0 y1 y2 y3 y4, LeO (portcullisref01_Order_least.l1 k y0 y1 y2 y3 y4) (portcullisref01_Order_least.l1 (k + 1) y0 y1 y2 y3 y4)) ∧ (∀ y0 y1 y2 y3 y4, LeO (portcullisref01_Order_least.l2 k y0 y1 y2 y3 y4) (portcullisref01_Order_least.l2 (k + 1) y0 y1 y2 y3 y4)) ∧ (∀ y0 y1 y2 y3 y4 y5, LeO (portcullisref01_Order_least.j3 k y0 y1 y2 y3 y4 y5) (portcullisref01_Order_least.j3 (k + 1) y0 y1 y2 y3 y4 y5)) ∧ (∀ y0 y1 y2 y3 y4 y5, LeO (portcullisref01_Order_least.l3 k y0 y1 y2 y3 y4 y5) (portcullisref01_Order_least.l3 (k + 1) y0 y1 y2 y3 y4 y5))
  | 0 => ⟨fun _ _ _ r h => by simp [portcullisref01_Order_least.l0] at h, fun _ _ _ _ _ r h => by simp [portcullisref01_Order_least.l1] at h, fun _ _ _ _ _ r h => by simp [portcullisref01_Order_least.l2] at h, fun _ _ _ _ _ _ r h => by simp [portcullisref01_Order_least.j3] at h, fun _ _ _ _ _ _ r h => by simp [portcullisref01_Order_least.l3] at h⟩
  | k + 1 => by
    obtain ⟨ih0, ih1, ih2, ih3, ih4⟩ := portcullisref01_Order_least.mono_l k
    refine ⟨?_, ?_, ?_, ?_, ?_⟩
    · intro y0 y1 y2
      unfold portcullisref01_Order_least.l0
      repeat' first
      | (with_reducible exact ih0 _ _ _)
      | (with_reducible exact ih1 _ _ _ _ _)
      | (with_reducible exact ih2 _ _ _ _ _)
      | (with_reducible exact ih3 _ _ _ _ _ _)
      | (with_reducible exact ih4 _ _ _ _ _ _)
      | (with_reducible exact LeO.refl _)
      | (with_reducible exact LeO.none _)
      | (with_reducible refine LeO.ite ?_ ?_)
      | (with_reducible refine LeO.bind ?_ (fun _ => ?_))
      | exact ih0 _ _ _
      | exact ih1 _ _ _ _ _
      | exact ih2 _ _ _ _ _
      | exact ih3 _ _ _ _ _ _
      | exact ih4 _ _ _ _ _ _
      | exact LeO.none _
      | refine LeO.ite ?_ ?_
      | refine LeO.bind ?_ (fun _ => ?_)
    · intro y0 y1 y2 y3 y4
      unfold portcullisref01_Order_least.l1
      repeat' first
      | (with_reducible exact ih0 _ _ _)
      | (with_reducible exact ih1 _ _ _ _ _)
      | (with_reducible exact ih2 _ _ _ _ _)
      | (with_reducible exact ih3 _ _ _ _ _ _)
      | (with_reducible exact ih4 _ _ _ _ _ _)
      | (with_reducible exact LeO.refl _)
      | (with_reducible exact LeO.none _)
      | (with_reducible refine LeO.ite ?_ ?_)
      | (with_reducible refine LeO.bind ?_ (fun _ => ?_))
      | exact ih0 _ _ _
      | exact ih1 _ _ _ _ _
      | exact ih2 _ _ _ _ _
      | exact ih3 _ _ _ _ _ _
      | exact ih4 _ _ _ _ _ _
      | exact LeO.none _
      | refine LeO.ite ?_ ?_
      | refine LeO.bind ?_ (fun _ => ?_)
    · intro y0 y1 y2 y3 y4
      unfold portcullisref01_Order_least.l2
      repeat' first
      | (with_reducible exact ih0 _ _ _)
      | (with_reducible exact ih1 _ _ _ _ _)
      | (with_reducible exact ih2 _ _ _ _ _)
      | (with_reducible exact ih3 _ _ _ _ _ _)
      | (with_reducible exact ih4 _ _ _ _ _ _)
      | (with_reducible exact LeO.refl _)
      | (with_reducible exact LeO.none _)
      | (with_reducible refine LeO.ite ?_ ?_)
      | (with_reducible refine LeO.bind ?_ (fun _ => ?_))
      | exact ih0 _ _ _
      | exact ih1 _ _ _ _ _
      | exact ih2 _ _ _ _ _
      | exact ih3 _ _ _ _ _ _
      | exact ih4 _ _ _ _ _ _
      | exact LeO.none _
      | refine LeO.ite ?_ ?_
      | refine LeO.bind ?_ (fun _ => ?_)
    · intro y0 y1 y2 y3 y4 y5
      unfold portcullisref01_Order_least.j3
      repeat' first
      | (with_reducible exact ih0 _ _ _)
      | (with_reducible exact ih1 _ _ _ _ _)
      | (with_reducible exact ih2 _ _ _ _ _)
      | (with_reducible exact ih3 _ _ _ _ _ _)
      | (with_reducible exact ih4 _ _ _ _ _ _)
      | (with_reducible exact LeO.refl _)
      | (with_reducible exact LeO.none _)
      | (with_reducible refine LeO.ite ?_ ?_)
      | (with_reducible refine LeO.bind ?_ (fun _ => ?_))
      | exact ih0 _ _ _
      | exact ih1 _ _ _ _ _
      | exact ih2 _ _ _ _ _
      | exact ih3 _ _ _ _ _ _
      | exact ih4 _ _ _ _ _ _
      | exact LeO.none _
      | refine LeO.ite ?_ ?_
      | refine LeO.bind ?_ (fun _ => ?_)
    · intro y0 y1 y2 y3 y4 y5
      unfold portcullisref01_Order_least.l3
      repeat' first
      | (with_reducible exact ih0 _ _ _)
      | (with_reducible exact ih1 _ _ _ _ _)
      | (with_reducible exact ih2 _ _ _ _ _)
      | (with_reducible exact ih3 _ _ _ _ _ _)
      | (with_reducible exact ih4 _ _ _ _ _ _)
      | (with_reducible exact LeO.refl _)
      | (with_reducible exact LeO.none _)
      | (with_reducible refine LeO.ite ?_ ?_)
      | (with_reducible refine LeO.bind ?_ (fun _ => ?_))
      | exact ih0 _ _ _
      | exact ih1 _ _ _ _ _
      | exact ih2 _ _ _ _ _
      | exact ih3 _ _ _ _ _ _
      | exact ih4 _ _ _ _ _ _
      | exact LeO.none _
      | refine LeO.ite ?_ ?_
      | refine LeO.bind ?_ (fun _ => ?_)
theorem portcullisref01_Order_least.mono : ∀ a0 a1 k, LeO (portcullisref01_Order_least.f k a0 a1) (portcullisref01_Order_least.f (k + 1) a0 a1) := by
  intro a0 a1 k
  obtain ⟨ih0, ih1, ih2, ih3, ih4⟩ := portcullisref01_Order_least.mono_l k
  unfold portcullisref01_Order_least.f
  repeat' first
      | (with_reducible exact ih0 _ _ _)
      | (with_reducible exact ih1 _ _ _ _ _)
      | (with_reducible exact ih2 _ _ _ _ _)
      | (with_reducible exact ih3 _ _ _ _ _ _)
      | (with_reducible exact ih4 _ _ _ _ _ _)
      | (with_reducible exact LeO.refl _)
      | (with_reducible exact LeO.none _)
      | (with_reducible refine LeO.ite ?_ ?_)
      | (with_reducible refine LeO.bind ?_ (fun _ => ?_))
      | exact ih0 _ _ _
      | exact ih1 _ _ _ _ _
      | exact ih2 _ _ _ _ _
      | exact ih3 _ _ _ _ _ _
      | exact ih4 _ _ _ _ _ _
      | exact LeO.none _
      | refine LeO.ite ?_ ?_
      | refine LeO.bind ?_ (fun _ => ?_)
set_option maxHeartbeats 8000000 in
set_option maxRecDepth 100000 in
theorem portcullisref01_Order_least.calls (k : Nat) (A0_0 : Option Addr) (c0_0 : Nat) (l0_0 : List (List Bool)) (A1 : Option Addr) (c1 : Nat) (l1 : List Int) (r : Int) (w : World) (hr0_0 : Kd.C (Kd.slice 4 Kd.bool) w A0_0 l0_0.length l0_0) (hc0_0 : l0_0.length ≤ c0_0) (hr1 : Kd.C (Kd.int .i64) w A1 l1.length l1) (hc1 : l1.length ≤ c1) (h : portcullisref01_Order_least.f k l0_0 l1 = some r) :
    Calls Try.prog 45 #[.agg #[.slice A0_0 l0_0.length c0_0], .slice A1 l1.length c1] w fun e w' => e = .returned (.int .i64 r) ∧ Below w.heap.size w w' := by
  have hu31 := Try.underlying31
  have HR0_0 := Aside0.mk hr0_0
  have HC0_0 := Aside0.mk hc0_0
  clear hr0_0 hc0_0
  have HR1 := Aside0.mk hr1
  have HC1 := Aside0.mk hc1
  clear hr1 hc1
  have HB := Aside0.mk (Below.refl w.heap.size w)
  have H : (portcullisref01_Order_least.l0 k l1 0 l0_0) = some r := h
  clear h
  have H' := Aside0.mk H
  clear H
  go_enter Try.func45, Try.ntmps45
  go_wp2_with (first | ((with_reducible refine gate_dst (N := 2) rfl ?_); refine box_event ?hg (N := 2) ?hd (cs := #[.slice A0_0 l0_0.length c0_0]) (t := 31) ?hr ?_; (case hd => rfl); (case hg => rfl); (case hr => first | (go_simp; done) | (go_simp; rfl)); intro gb158 hg w3 hbox hb; have n0_ := Aside0.mk (below_step (by repeat (first | (with_reducible first | exact HB.out | apply below_alloc | apply pw_below_drewN | apply below_drew1) | exact HB.out)) hb); have n1_ := Aside0.mk (hbox); have n2_ := Aside0.mk ((by rw [hg]; exact (below_size (by repeat (first | (with_reducible first | exact HB.out | apply below_alloc | apply pw_below_drewN | apply below_drew1) | exact HB.out))) : w.heap.size ≤ gb158)); have n3_ := Aside0.mk ((by rw [hg]; exact (below_size (by repeat (first | (with_reducible first | exact HB.out | apply below_alloc | apply pw_below_drewN | apply below_drew1) | exact HB.out))) : w.heap.size ≤ gb158)); clear HB; have HB := n0_; have BK158 := n1_; have GW158 := n2_; have GE158 := n3_; clear n0_ n1_ n2_ n3_; clear hb hbox hg))
  repeat (go_quiet (first | ((with_reducible refine gate_dst (N := 2) rfl ?_); refine box_event ?hg (N := 2) ?hd (cs := #[.slice A0_0 l0_0.length c0_0]) (t := 31) ?hr ?_; (case hd => rfl); (case hg => rfl); (case hr => first | (go_simp; done) | (go_simp; rfl)); intro gb158 hg w3 hbox hb; have n0_ := Aside0.mk (below_step (by repeat (first | (with_reducible first | exact HB.out | apply below_alloc | apply pw_below_drewN | apply below_drew1) | exact HB.out)) hb); have n1_ := Aside0.mk (hbox); have n2_ := Aside0.mk ((by rw [hg]; exact (below_size (by repeat (first | (with_reducible first | exact HB.out | apply below_alloc | apply pw_below_drewN | apply below_drew1) | exact HB.out))) : w.heap.size ≤ gb158)); have n3_ := Aside0.mk ((by rw [hg]; exact (below_size (by repeat (first | (with_reducible first | exact HB.out | apply below_alloc | apply pw_below_drewN | apply below_drew1) | exact HB.out))) : w.heap.size ≤ gb158)); clear HB; have HB := n0_; have BK158 := n1_; have GW158 := n2_; have GE158 := n3_; clear n0_ n1_ n2_ n3_; clear hb hbox hg)); try go_wp2_with (first | ((with_reducible refine gate_dst (N := 2) rfl ?_); refine box_event ?hg (N := 2) ?hd (cs := #[.slice A0_0 l0_0.length c0_0]) (t := 31) ?hr ?_; (case hd => rfl); (case hg => rfl); (case hr => first | (go_simp; done) | (go_simp; rfl)); intro gb158 hg w3 hbox hb; have n0_ := Aside0.mk (below_step (by repeat (first | (with_reducible first | exact HB.out | apply below_alloc | apply pw_below_drewN | apply below_drew1) | exact HB.out)) hb); have n1_ := Aside0.mk (hbox); have n2_ := Aside0.mk ((by rw [hg]; exact (below_size (by repeat (first | (with_reducible first | exact HB.out | apply below_alloc | apply pw_below_drewN | apply below_drew1) | exact HB.out))) : w.heap.size ≤ gb158)); have n3_ := Aside0.mk ((by rw [hg]; exact (below_size (by repeat (first | (with_reducible first | exact HB.out | apply below_alloc | apply pw_below_drewN | apply below_drew1) | exact HB.out))) : w.heap.size ≤ gb158)); clear HB; have HB := n0_; have BK158 := n1_; have GW158 := n2_; have GE158 := n3_; clear n0_ n1_ n2_ n3_; clear hb hbox hg)))
  go_loopg [5] k (fun kq v5 w' => ∃ (x5_1 : Int), v5 = .int .i64 x5_1 ∧ Aside0 (portcullisref01_Order_least.l0 kq l1 x5_1 l0_0 = some r) ∧ Aside0 (kq ≤ k) ∧ Aside0 (w'.heap[gb158]? = some (.cells #[(.slice A0_0 l0_0.length c0_0)] 31 (0, 0))) ∧ Aside0 (Below w.heap.size w w'))
  case atStart => exact ⟨(0), (by first | rfl | (simp; done) | (simp [*]; done)), H', ⟨Nat.le_refl _⟩, ⟨by (with_reducible repeat (first | refine blk_drewN ?_ _ | refine blk_drew ?_ | refine blk_alloc ?_ _)); exact BK158.out⟩, ⟨by repeat (first | (with_reducible first | exact HB.out | apply below_alloc | apply pw_below_drewN | apply below_drew1 | refine below_set ?_ GE158.out) | exact HB.out)⟩⟩
  case round =>
    clear H'
    try clear c1
    try clear p2
    obtain ⟨x5_1, rfl, HA, HK1, BK158, HB⟩ := hrel
    cases gk with
    | zero => exact absurd HA.out (by simp [portcullisref01_Order_least.l0])
    | succ k1 =>
      have H := HA.out
      clear HA
      simp only [portcullisref01_Order_least.l0] at H
      by_cases c4 : x5_1 < (l0_0.length : Int)
      · rw [if_pos c4] at H
        have c4b0 : decide (x5_1 < (l0_0.length : Int)) = true := decide_eq_true c4
        clear c4
        have H' := Aside0.mk H
        clear H
        have hcz5_0 : wr.cell? ⟨gb158, 0, none⟩ = some (.slice A0_0 l0_0.length c0_0) := (blk_cell BK158.out 0).trans rfl
        have hfz5_0 := blk_frozen BK158.out 0
        go_wp2
        repeat (go_quiet (fail); try go_wp2)
        go_loopg [6, 7] k1 (fun kq v6 v7 w' => ∃ (x6_2 : Bool) (x7_2 : Int), v6 = .bool x6_2 ∧ v7 = .int .i64 x7_2 ∧ Aside0 (portcullisref01_Order_least.l1 kq l1 x5_1 x6_2 x7_2 l0_0 = some r) ∧ Aside0 (kq ≤ k1) ∧ Aside0 (w'.heap[gb158]? = some (.cells #[(.slice A0_0 l0_0.length c0_0)] 31 (0, 0))) ∧ Aside0 (Below w.heap.size w w'))
        case atStart => exact ⟨(true), (0), (by first | rfl | (simp; done) | (simp [*]; done)), (by first | rfl | (simp; done) | (simp [*]; done)), H', ⟨Nat.le_refl _⟩, ⟨by (with_reducible repeat (first | refine blk_drewN ?_ _ | refine blk_drew ?_ | refine blk_alloc ?_ _)); exact BK158.out⟩, ⟨by repeat (first | (with_reducible first | exact HB.out | apply below_alloc | apply pw_below_drewN | apply below_drew1 | refine below_set ?_ GE158.out) | exact HB.out)⟩⟩
        case round =>
          clear H'
          try clear c1
          try clear p2
          try clear c4
          try clear c4b0
          try clear hcz5_0
          try clear hfz5_0
          try clear p2
          obtain ⟨x6_2, x7_2, rfl, rfl, HA, HK2, BK158, HB⟩ := hrel
          cases gk with
          | zero => exact absurd HA.out (by simp [portcullisref01_Order_least.l1])
          | succ k2 =>
            have H := HA.out
            clear HA
            simp only [portcullisref01_Order_least.l1] at H
            by_cases c6 : x7_2 < (l1.length : Int)
            · rw [if_pos c6] at H
              have c6b0 : decide (x7_2 < (l1.length : Int)) = true := decide_eq_true c6
              clear c6
              by_cases c7 : x6_2 = true
              · subst c7
                have H1 : (if 0 ≤ x7_2 then (if 0 ≤ (rd l1 x7_2) then (if (rd l1 x7_2) < (l0_0.length : Int) then (if 0 ≤ x5_1 then (if x5_1 < ((rd_L5 l0_0 (rd l1 x7_2)).length : Int) then (portcullisref01_Order_least.l1 k2 l1 x5_1 (rdOf false (rd_L5 l0_0 (rd l1 x7_2)) x5_1) (wrap64 (x7_2 + 1)) l0_0) else (none)) else (none)) else (none)) else (none)) else (none)) = some r := by rw [if_pos rfl] at H; exact H
                clear H
                have H := H1
                clear H1
                by_cases c8 : 0 ≤ x7_2
                · rw [if_pos c8] at H
                  have c8b0 : decide (0 ≤ x7_2) = true := decide_eq_true c8
                  clear c8
                  by_cases c9 : 0 ≤ (rd l1 x7_2)
                  · rw [if_pos c9] at H
                    have c9b0 : decide (0 ≤ (rd l1 x7_2)) = true := decide_eq_true c9
                    clear c9
                    by_cases c10 : (rd l1 x7_2) < (l0_0.length : Int)
                    · rw [if_pos c10] at H
                      have c10b0 : decide ((rd l1 x7_2) < (l0_0.length : Int)) = true := decide_eq_true c10
                      clear c10
                      by_cases c11 : 0 ≤ x5_1
                      · rw [if_pos c11] at H
                        have c11b0 : decide (0 ≤ x5_1) = true := decide_eq_true c11
                        clear c11
                        by_cases c12 : x5_1 < ((rd_L5 l0_0 (rd l1 x7_2)).length : Int)
                        · rw [if_pos c12] at H
                          have c12b0 : decide (x5_1 < ((rd_L5 l0_0 (rd l1 x7_2)).length : Int)) = true := decide_eq_true c12
                          clear c12
                          have H' := Aside0.mk H
                          clear H
                          have hcz13_0 : wr.cell? ⟨gb158, 0, none⟩ = some (.slice A0_0 l0_0.length c0_0) := (blk_cell BK158.out 0).trans rfl
                          have hfz13_0 := blk_frozen BK158.out 0
                          have p159 : 0 ≤ (x7_2 : Int) := of_decide_eq_true (by first | (with_reducible assumption) | assumption)
                          have q159 : x7_2 < (l1.length : Int) := of_decide_eq_true (by first | (with_reducible assumption) | assumption)
                          obtain ⟨ad159, e159, hx159_0⟩ := Kd.at_int HR1.out x7_2 p159 q159
                          cases e159
                          replace hx159_0 := (HB.out.cell (World.block_lt_of_cell? w _ hx159_0)).trans hx159_0
                          replace p159 := eq_true p159
                          replace q159 := eq_true q159
                          have p160 : 0 ≤ ((rd l1 x7_2) : Int) := of_decide_eq_true (by first | (with_reducible assumption) | assumption)
                          have q160 : (rd l1 x7_2) < (l0_0.length : Int) := of_decide_eq_true (by first | (with_reducible assumption) | assumption)
                          obtain ⟨ad160, A160_0, c160_0, e160, hx160_0, hl160_0, hi160_0⟩ := at_L5 HR0_0.out (rd l1 x7_2) p160 q160
                          cases e160
                          replace hx160_0 := (HB.out.cell (World.block_lt_of_cell? w _ hx160_0)).trans hx160_0
                          have HR160_0 := Aside0.mk hi160_0
                          have HC160_0 := Aside0.mk hl160_0
                          clear hi160_0 hl160_0
                          replace p160 := eq_true p160
                          replace q160 := eq_true q160
                          have p161 : 0 ≤ (x5_1 : Int) := of_decide_eq_true (by first | (with_reducible assumption) | assumption)
                          have q161 : x5_1 < ((rd_L5 l0_0 (rd l1 x7_2)).length : Int) := of_decide_eq_true (by first | (with_reducible assumption) | assumption)
                          obtain ⟨ad161, e161, hx161_0⟩ := Kd.at_bool HR160_0.out x5_1 p161 q161
                          cases e161
                          replace hx161_0 := (HB.out.cell (World.block_lt_of_cell? w _ hx161_0)).trans hx161_0
                          replace p161 := eq_true p161
                          replace q161 := eq_true q161
                          go_wp2
                          repeat (go_quiet (fail); try go_wp2)
                          go_roundg k2
                          case measure => have := HK1.out; have := HK2.out; omega
                          case rel => exact ⟨(rdOf false (rd_L5 l0_0 (rd l1 x7_2)) x5_1), (wrap64 (x7_2 + 1)), (by first | rfl | (simp; done) | (simp [*]; done)), (by first | rfl | (simp; done) | (simp [*]; done)), H', ⟨by have := HK1.out; have := HK2.out; omega⟩, ⟨by (with_reducible repeat (first | refine blk_drewN ?_ _ | refine blk_drew ?_ | refine blk_alloc ?_ _)); exact BK158.out⟩, ⟨by repeat (first | (with_reducible first | exact HB.out | apply below_alloc | apply pw_below_drewN | apply below_drew1 | refine below_set ?_ GE158.out) | exact HB.out)⟩⟩
                        · rw [if_neg c12] at H
                          exact absurd H (by simp)
                      · rw [if_neg c11] at H
                        exact absurd H (by simp)
                    · rw [if_neg c10] at H
                      exact absurd H (by simp)
                  · rw [if_neg c9] at H
                    exact absurd H (by simp)
                · rw [if_neg c8] at H
                  exact absurd H (by simp)
              · replace c7 := Bool.eq_false_iff.mpr c7
                subst c7
                have H1 : (portcullisref01_Order_least.l1 k2 l1 x5_1 false (wrap64 (x7_2 + 1)) l0_0) = some r := by rw [if_neg (show ¬ (false = true) by decide)] at H; exact H
                clear H
                have H := H1
                clear H1
                have H' := Aside0.mk H
                clear H
                go_wp2
                repeat (go_quiet (fail); try go_wp2)
                go_roundg k2
                case measure => have := HK1.out; have := HK2.out; omega
                case rel => exact ⟨(false), (wrap64 (x7_2 + 1)), (by first | rfl | (simp; done) | (simp [*]; done)), (by first | rfl | (simp; done) | (simp [*]; done)), H', ⟨by have := HK1.out; have := HK2.out; omega⟩, ⟨by (with_reducible repeat (first | refine blk_drewN ?_ _ | refine blk_drew ?_ | refine blk_alloc ?_ _)); exact BK158.out⟩, ⟨by repeat (first | (with_reducible first | exact HB.out | apply below_alloc | apply pw_below_drewN | apply below_drew1 | refine below_set ?_ GE158.out) | exact HB.out)⟩⟩
            · rw [if_neg c6] at H
              have c6b0 : decide (x7_2 < (l1.length : Int)) = false := decide_eq_false c6
              clear c6
              have H' := Aside0.mk H
              clear H
              go_wp2
              repeat (go_quiet (fail); try go_wp2)
              go_loopg [6, 8] k2 (fun kq v6 v8 w' => ∃ (x6_3 : Bool) (x8_3 : Int), v6 = .bool x6_3 ∧ v8 = .int .i64 x8_3 ∧ Aside0 (portcullisref01_Order_least.l2 kq l1 x5_1 x6_3 x8_3 l0_0 = some r) ∧ Aside0 (kq ≤ k2) ∧ Aside0 (w'.heap[gb158]? = some (.cells #[(.slice A0_0 l0_0.length c0_0)] 31 (0, 0))) ∧ Aside0 (Below w.heap.size w w'))
              case atStart => exact ⟨(x6_2), (0), (by first | rfl | (simp; done) | (simp [*]; done)), (by first | rfl | (simp; done) | (simp [*]; done)), H', ⟨Nat.le_refl _⟩, ⟨by (with_reducible repeat (first | refine blk_drewN ?_ _ | refine blk_drew ?_ | refine blk_alloc ?_ _)); exact BK158.out⟩, ⟨by repeat (first | (with_reducible first | exact HB.out | apply below_alloc | apply pw_below_drewN | apply below_drew1 | refine below_set ?_ GE158.out) | exact HB.out)⟩⟩
              case round =>
                clear H'
                try clear c1
                try clear p1
                try clear q1
                try clear hx1
                try clear p2
                try clear c4
                try clear c4b0
                try clear c6
                try clear c6b0
                try clear p6
                try clear c7
                try clear c8
                try clear c8b0
                try clear c9
                try clear c9b0
                try clear c10
                try clear c10b0
                try clear c11
                try clear c11b0
                try clear c12
                try clear c12b0
                try clear hcz13_0
                try clear hcz5_0
                try clear hfz13_0
                try clear hfz5_0
                try clear hx159_0
                try clear hx160_0
                try clear hx161_0
                try clear p159
                try clear p160
                try clear p161
                try clear p2
                try clear q159
                try clear q160
                try clear q161
                obtain ⟨x6_3, x8_3, rfl, rfl, HA, HK3, BK158, HB⟩ := hrel
                cases gk with
                | zero => exact absurd HA.out (by simp [portcullisref01_Order_least.l2])
                | succ k3 =>
                  have H := HA.out
                  clear HA
                  simp only [portcullisref01_Order_least.l2] at H
                  have HC14 := Aside0.mk H
                  clear H
                  go_upto_region 10 with (fail)
                  repeat (go_quiet (fail); go_upto_region 10 with (fail))
                  go_cut [45] (fun v45 wc => ∃ (kq : Nat) (x45_13 : Bool), v45 = .bool x45_13 ∧ Aside0 (portcullisref01_Order_least.j3 kq l1 x5_1 x6_3 x8_3 x45_13 l0_0 = some r) ∧ Aside0 (kq ≤ k3) ∧ Aside0 (wc.heap[gb158]? = some (.cells #[(.slice A0_0 l0_0.length c0_0)] 31 (0, 0))) ∧ Aside0 (Below w.heap.size w wc))
                  case first =>
                    have H := HC14.out
                    clear HC14
                    by_cases c15 : x8_3 < (l0_0.length : Int)
                    · rw [if_pos c15] at H
                      have c15b0 : decide (x8_3 < (l0_0.length : Int)) = true := decide_eq_true c15
                      clear c15
                      (first | rw [c15b0] | (simp only [i64_w, i32_w]; rw [c15b0]) | skip)
                      have H' := Aside0.mk H
                      clear H
                      have hcz16_0 : wr.cell? ⟨gb158, 0, none⟩ = some (.slice A0_0 l0_0.length c0_0) := (blk_cell BK158.out 0).trans rfl
                      have hfz16_0 := blk_frozen BK158.out 0
                      go_wp2
                      repeat (go_quiet (fail); try go_wp2)
                      go_meet
                      case rel => exact ⟨_, (x6_3), (by first | rfl | (simp; done) | (simp [*]; done)), H', ⟨by have := HK1.out; have := HK2.out; have := HK3.out; first | omega | exact Nat.le_refl _⟩, ⟨by (with_reducible repeat (first | refine blk_drewN ?_ _ | refine blk_drew ?_ | refine blk_alloc ?_ _)); exact BK158.out⟩, ⟨by repeat (first | (with_reducible first | exact HB.out | apply below_alloc | apply pw_below_drewN | apply below_drew1 | refine below_set ?_ GE158.out) | exact HB.out)⟩⟩
                    · rw [if_neg c15] at H
                      have c15b0 : decide (x8_3 < (l0_0.length : Int)) = false := decide_eq_false c15
                      clear c15
                      (first | rw [c15b0] | (simp only [i64_w, i32_w]; rw [c15b0]) | skip)
                      have H' := Aside0.mk H
                      clear H
                      have hcz17_0 : wr.cell? ⟨gb158, 0, none⟩ = some (.slice A0_0 l0_0.length c0_0) := (blk_cell BK158.out 0).trans rfl
                      have hfz17_0 := blk_frozen BK158.out 0
                      go_wp2
                      repeat (go_quiet (fail); try go_wp2)
                      go_meet
                      case rel => exact ⟨_, (false), (by first | rfl | (simp; done) | (simp [*]; done)), H', ⟨by have := HK1.out; have := HK2.out; have := HK3.out; first | omega | exact Nat.le_refl _⟩, ⟨by (with_reducible repeat (first | refine blk_drewN ?_ _ | refine blk_drew ?_ | refine blk_alloc ?_ _)); exact BK158.out⟩, ⟨by repeat (first | (with_reducible first | exact HB.out | apply below_alloc | apply pw_below_drewN | apply below_drew1 | refine below_set ?_ GE158.out) | exact HB.out)⟩⟩
                  case rest =>
                    clear HC14
                    try clear c1
                    try clear p1
                    try clear q1
                    try clear hx1
                    try clear p2
                    try clear c4
                    try clear c4b0
                    try clear c6
                    try clear c6b0
                    try clear p6
                    try clear c7
                    try clear c8
                    try clear c8b0
                    try clear c9
                    try clear c9b0
                    try clear c10
                    try clear c10b0
                    try clear c11
                    try clear c11b0
                    try clear c12
                    try clear c12b0
                    try clear c15
                    try clear c15b0
                    try clear p15
                    try clear q15
                    try clear hx15
                    try clear c16
                    try clear p16
                    try clear q16
                    try clear hx16
                    try clear hcz13_0
                    try clear hcz16_0
                    try clear hcz17_0
                    try clear hcz5_0
                    try clear hfz13_0
                    try clear hfz16_0
                    try clear hfz17_0
                    try clear hfz5_0
                    try clear hx159_0
                    try clear hx160_0
                    try clear hx161_0
                    try clear p1
                    try clear p159
                    try clear p160
                    try clear p161
                    try clear p2
                    try clear p6
                    try clear q1
                    try clear q159
                    try clear q160
                    try clear q161
                    obtain ⟨kq, x45_13, rfl, HA, HJ13, BK158, HB⟩ := hcut
                    cases kq with
                    | zero => exact absurd HA.out (by simp [portcullisref01_Order_least.j3])
                    | succ kj13 =>
                      have H := HA.out
                      clear HA
                      simp only [portcullisref01_Order_least.j3] at H
                      by_cases c18 : x45_13 = true
                      · subst c18
                        have H1 : (portcullisref01_Order_least.l3 kj13 l1 x5_1 x8_3 true 0 l0_0) = some r := by rw [if_pos rfl] at H; exact H
                        clear H
                        have H := H1
                        clear H1
                        have H' := Aside0.mk H
                        clear H
                        go_wp2
                        repeat (go_quiet (fail); try go_wp2)
                        go_loopg [9, 10] kj13 (fun kq v9 v10 w' => ∃ (x9_5 : Bool) (x10_5 : Int), v9 = .bool x9_5 ∧ v10 = .int .i64 x10_5 ∧ Aside0 (portcullisref01_Order_least.l3 kq l1 x5_1 x8_3 x9_5 x10_5 l0_0 = some r) ∧ Aside0 (kq ≤ kj13) ∧ Aside0 (w'.heap[gb158]? = some (.cells #[(.slice A0_0 l0_0.length c0_0)] 31 (0, 0))) ∧ Aside0 (Below w.heap.size w w'))
                        case atStart => exact ⟨(true), (0), (by first | rfl | (simp; done) | (simp [*]; done)), (by first | rfl | (simp; done) | (simp [*]; done)), H', ⟨Nat.le_refl _⟩, ⟨by (with_reducible repeat (first | refine blk_drewN ?_ _ | refine blk_drew ?_ | refine blk_alloc ?_ _)); exact BK158.out⟩, ⟨by repeat (first | (with_reducible first | exact HB.out | apply below_alloc | apply pw_below_drewN | apply below_drew1 | refine below_set ?_ GE158.out) | exact HB.out)⟩⟩
                        case round =>
                          clear H'
                          try clear c1
                          try clear p1
                          try clear q1
                          try clear hx1
                          try clear p2
                          try clear c4
                          try clear c4b0
                          try clear c6
                          try clear c6b0
                          try clear p6
                          try clear c7
                          try clear c8
                          try clear c8b0
                          try clear c9
                          try clear c9b0
                          try clear c10
                          try clear c10b0
                          try clear c11
                          try clear c11b0
                          try clear c12
                          try clear c12b0
                          try clear c15
                          try clear c15b0
                          try clear p15
                          try clear q15
                          try clear hx15
                          try clear c16
                          try clear p16
                          try clear q16
                          try clear hx16
                          try clear c18
                          try clear hcz13_0
                          try clear hcz16_0
                          try clear hcz17_0
                          try clear hcz5_0
                          try clear hfz13_0
                          try clear hfz16_0
                          try clear hfz17_0
                          try clear hfz5_0
                          try clear hx159_0
                          try clear hx160_0
                          try clear hx161_0
                          try clear p1
                          try clear p15
                          try clear p159
                          try clear p16
                          try clear p160
                          try clear p161
                          try clear p2
                          try clear p6
                          try clear q1
                          try clear q15
                          try clear q159
                          try clear q16
                          try clear q160
                          try clear q161
                          obtain ⟨x9_5, x10_5, rfl, rfl, HA, HK5, BK158, HB⟩ := hrel
                          cases gk with
                          | zero => exact absurd HA.out (by simp [portcullisref01_Order_least.l3])
                          | succ k5 =>
                            have H := HA.out
                            clear HA
                            simp only [portcullisref01_Order_least.l3] at H
                            by_cases c19 : x10_5 < (l1.length : Int)
                            · rw [if_pos c19] at H
                              have c19b0 : decide (x10_5 < (l1.length : Int)) = true := decide_eq_true c19
                              clear c19
                              by_cases c20 : x9_5 = true
                              · subst c20
                                have H1 : (if 0 ≤ x10_5 then (if 0 ≤ (rd l1 x10_5) then (if (rd l1 x10_5) < (l0_0.length : Int) then (if 0 ≤ x8_3 then (if x8_3 < ((rd_L5 l0_0 (rd l1 x10_5)).length : Int) then (portcullisref01_Order_least.l3 k5 l1 x5_1 x8_3 (rdOf false (rd_L5 l0_0 (rd l1 x10_5)) x8_3) (wrap64 (x10_5 + 1)) l0_0) else (none)) else (none)) else (none)) else (none)) else (none)) = some r := by rw [if_pos rfl] at H; exact H
                                clear H
                                have H := H1
                                clear H1
                                by_cases c21 : 0 ≤ x10_5
                                · rw [if_pos c21] at H
                                  have c21b0 : decide (0 ≤ x10_5) = true := decide_eq_true c21
                                  clear c21
                                  by_cases c22 : 0 ≤ (rd l1 x10_5)
                                  · rw [if_pos c22] at H
                                    have c22b0 : decide (0 ≤ (rd l1 x10_5)) = true := decide_eq_true c22
                                    clear c22
                                    by_cases c23 : (rd l1 x10_5) < (l0_0.length : Int)
                                    · rw [if_pos c23] at H
                                      have c23b0 : decide ((rd l1 x10_5) < (l0_0.length : Int)) = true := decide_eq_true c23
                                      clear c23
                                      by_cases c24 : 0 ≤ x8_3
                                      · rw [if_pos c24] at H
                                        have c24b0 : decide (0 ≤ x8_3) = true := decide_eq_true c24
                                        clear c24
                                        by_cases c25 : x8_3 < ((rd_L5 l0_0 (rd l1 x10_5)).length : Int)
                                        · rw [if_pos c25] at H
                                          have c25b0 : decide (x8_3 < ((rd_L5 l0_0 (rd l1 x10_5)).length : Int)) = true := decide_eq_true c25
                                          clear c25
                                          have H' := Aside0.mk H
                                          clear H
                                          have hcz26_0 : wr.cell? ⟨gb158, 0, none⟩ = some (.slice A0_0 l0_0.length c0_0) := (blk_cell BK158.out 0).trans rfl
                                          have hfz26_0 := blk_frozen BK158.out 0
                                          have p162 : 0 ≤ (x10_5 : Int) := of_decide_eq_true (by first | (with_reducible assumption) | assumption)
                                          have q162 : x10_5 < (l1.length : Int) := of_decide_eq_true (by first | (with_reducible assumption) | assumption)
                                          obtain ⟨ad162, e162, hx162_0⟩ := Kd.at_int HR1.out x10_5 p162 q162
                                          cases e162
                                          replace hx162_0 := (HB.out.cell (World.block_lt_of_cell? w _ hx162_0)).trans hx162_0
                                          replace p162 := eq_true p162
                                          replace q162 := eq_true q162
                                          have p163 : 0 ≤ ((rd l1 x10_5) : Int) := of_decide_eq_true (by first | (with_reducible assumption) | assumption)
                                          have q163 : (rd l1 x10_5) < (l0_0.length : Int) := of_decide_eq_true (by first | (with_reducible assumption) | assumption)
                                          obtain ⟨ad163, A163_0, c163_0, e163, hx163_0, hl163_0, hi163_0⟩ := at_L5 HR0_0.out (rd l1 x10_5) p163 q163
                                          cases e163
                                          replace hx163_0 := (HB.out.cell (World.block_lt_of_cell? w _ hx163_0)).trans hx163_0
                                          have HR163_0 := Aside0.mk hi163_0
                                          have HC163_0 := Aside0.mk hl163_0
                                          clear hi163_0 hl163_0
                                          replace p163 := eq_true p163
                                          replace q163 := eq_true q163
                                          have p164 : 0 ≤ (x8_3 : Int) := of_decide_eq_true (by first | (with_reducible assumption) | assumption)
                                          have q164 : x8_3 < ((rd_L5 l0_0 (rd l1 x10_5)).length : Int) := of_decide_eq_true (by first | (with_reducible assumption) | assumption)
                                          obtain ⟨ad164, e164, hx164_0⟩ := Kd.at_bool HR163_0.out x8_3 p164 q164
                                          cases e164
                                          replace hx164_0 := (HB.out.cell (World.block_lt_of_cell? w _ hx164_0)).trans hx164_0
                                          replace p164 := eq_true p164
                                          replace q164 := eq_true q164
                                          go_wp2
                                          repeat (go_quiet (fail); try go_wp2)
                                          go_roundg k5
                                          case measure => have := HK1.out; have := HK2.out; have := HK3.out; have := HJ13.out; have := HK5.out; omega
                                          case rel => exact ⟨(rdOf false (rd_L5 l0_0 (rd l1 x10_5)) x8_3), (wrap64 (x10_5 + 1)), (by first | rfl | (simp; done) | (simp [*]; done)), (by first | rfl | (simp; done) | (simp [*]; done)), H', ⟨by have := HK1.out; have := HK2.out; have := HK3.out; have := HJ13.out; have := HK5.out; omega⟩, ⟨by (with_reducible repeat (first | refine blk_drewN ?_ _ | refine blk_drew ?_ | refine blk_alloc ?_ _)); exact BK158.out⟩, ⟨by repeat (first | (with_reducible first | exact HB.out | apply below_alloc | apply pw_below_drewN | apply below_drew1 | refine below_set ?_ GE158.out) | exact HB.out)⟩⟩
                                        · rw [if_neg c25] at H
                                          exact absurd H (by simp)
                                      · rw [if_neg c24] at H
                                        exact absurd H (by simp)
                                    · rw [if_neg c23] at H
                                      exact absurd H (by simp)
                                  · rw [if_neg c22] at H
                                    exact absurd H (by simp)
                                · rw [if_neg c21] at H
                                  exact absurd H (by simp)
                              · replace c20 := Bool.eq_false_iff.mpr c20
                                subst c20
                                have H1 : (portcullisref01_Order_least.l3 k5 l1 x5_1 x8_3 false (wrap64 (x10_5 + 1)) l0_0) = some r := by rw [if_neg (show ¬ (false = true) by decide)] at H; exact H
                                clear H
                                have H := H1
                                clear H1
                                have H' := Aside0.mk H
                                clear H
                                go_wp2
                                repeat (go_quiet (fail); try go_wp2)
                                go_roundg k5
                                case measure => have := HK1.out; have := HK2.out; have := HK3.out; have := HJ13.out; have := HK5.out; omega
                                case rel => exact ⟨(false), (wrap64 (x10_5 + 1)), (by first | rfl | (simp; done) | (simp [*]; done)), (by first | rfl | (simp; done) | (simp [*]; done)), H', ⟨by have := HK1.out; have := HK2.out; have := HK3.out; have := HJ13.out; have := HK5.out; omega⟩, ⟨by (with_reducible repeat (first | refine blk_drewN ?_ _ | refine blk_drew ?_ | refine blk_alloc ?_ _)); exact BK158.out⟩, ⟨by repeat (first | (with_reducible first | exact HB.out | apply below_alloc | apply pw_below_drewN | apply below_drew1 | refine below_set ?_ GE158.out) | exact HB.out)⟩⟩
                            · rw [if_neg c19] at H
                              have c19b0 : decide (x10_5 < (l1.length : Int)) = false := decide_eq_false c19
                              clear c19
                              by_cases c27 : x9_5 = true
                              · subst c27
                                have H1 : (if 0 ≤ x5_1 then (if x5_1 < (l0_0.length : Int) then (if 0 ≤ x8_3 then (if x8_3 < ((rd_L5 l0_0 x5_1).length : Int) then (portcullisref01_Order_least.l2 k5 l1 x5_1 (rdOf false (rd_L5 l0_0 x5_1) x8_3) (wrap64 (x8_3 + 1)) l0_0) else (none)) else (none)) else (none)) else (none)) = some r := by rw [if_pos rfl] at H; exact H
                                clear H
                                have H := H1
                                clear H1
                                by_cases c28 : 0 ≤ x5_1
                                · rw [if_pos c28] at H
                                  have c28b0 : decide (0 ≤ x5_1) = true := decide_eq_true c28
                                  clear c28
                                  by_cases c29 : x5_1 < (l0_0.length : Int)
                                  · rw [if_pos c29] at H
                                    have c29b0 : decide (x5_1 < (l0_0.length : Int)) = true := decide_eq_true c29
                                    clear c29
                                    by_cases c30 : 0 ≤ x8_3
                                    · rw [if_pos c30] at H
                                      have c30b0 : decide (0 ≤ x8_3) = true := decide_eq_true c30
                                      clear c30
                                      by_cases c31 : x8_3 < ((rd_L5 l0_0 x5_1).length : Int)
                                      · rw [if_pos c31] at H
                                        have c31b0 : decide (x8_3 < ((rd_L5 l0_0 x5_1).length : Int)) = true := decide_eq_true c31
                                        clear c31
                                        have H' := Aside0.mk H
                                        clear H
                                        have hcz32_0 : wr.cell? ⟨gb158, 0, none⟩ = some (.slice A0_0 l0_0.length c0_0) := (blk_cell BK158.out 0).trans rfl
                                        have hfz32_0 := blk_frozen BK158.out 0
                                        have p165 : 0 ≤ (x5_1 : Int) := of_decide_eq_true (by first | (with_reducible assumption) | assumption)
                                        have q165 : x5_1 < (l0_0.length : Int) := of_decide_eq_true (by first | (with_reducible assumption) | assumption)
                                        obtain ⟨ad165, A165_0, c165_0, e165, hx165_0, hl165_0, hi165_0⟩ := at_L5 HR0_0.out x5_1 p165 q165
                                        cases e165
                                        replace hx165_0 := (HB.out.cell (World.block_lt_of_cell? w _ hx165_0)).trans hx165_0
                                        have HR165_0 := Aside0.mk hi165_0
                                        have HC165_0 := Aside0.mk hl165_0
                                        clear hi165_0 hl165_0
                                        replace p165 := eq_true p165
                                        replace q165 := eq_true q165
                                        have p166 : 0 ≤ (x8_3 : Int) := of_decide_eq_true (by first | (with_reducible assumption) | assumption)
                                        have q166 : x8_3 < ((rd_L5 l0_0 x5_1).length : Int) := of_decide_eq_true (by first | (with_reducible assumption) | assumption)
                                        obtain ⟨ad166, e166, hx166_0⟩ := Kd.at_bool HR165_0.out x8_3 p166 q166
                                        cases e166
                                        replace hx166_0 := (HB.out.cell (World.block_lt_of_cell? w _ hx166_0)).trans hx166_0
                                        replace p166 := eq_true p166
                                        replace q166 := eq_true q166
                                        go_wp2
                                        repeat (go_quiet (fail); try go_wp2)
                                        go_roundg k5
                                        case measure => have := HK1.out; have := HK2.out; have := HK3.out; have := HJ13.out; have := HK5.out; omega
                                        case rel => exact ⟨(rdOf false (rd_L5 l0_0 x5_1) x8_3), (wrap64 (x8_3 + 1)), (by first | rfl | (simp; done) | (simp [*]; done)), (by first | rfl | (simp; done) | (simp [*]; done)), H', ⟨by have := HK1.out; have := HK2.out; have := HK3.out; have := HJ13.out; have := HK5.out; omega⟩, ⟨by (with_reducible repeat (first | refine blk_drewN ?_ _ | refine blk_drew ?_ | refine blk_alloc ?_ _)); exact BK158.out⟩, ⟨by repeat (first | (with_reducible first | exact HB.out | apply below_alloc | apply pw_below_drewN | apply below_drew1 | refine below_set ?_ GE158.out) | exact HB.out)⟩⟩
                                      · rw [if_neg c31] at H
                                        exact absurd H (by simp)
                                    · rw [if_neg c30] at H
                                      exact absurd H (by simp)
                                  · rw [if_neg c29] at H
                                    exact absurd H (by simp)
                                · rw [if_neg c28] at H
                                  exact absurd H (by simp)
                              · replace c27 := Bool.eq_false_iff.mpr c27
                                subst c27
                                have H1 : (portcullisref01_Order_least.l2 k5 l1 x5_1 true (wrap64 (x8_3 + 1)) l0_0) = some r := by rw [if_neg (show ¬ (false = true) by decide)] at H; exact H
                                clear H
                                have H := H1
                                clear H1
                                have H' := Aside0.mk H
                                clear H
                                go_wp2
                                repeat (go_quiet (fail); try go_wp2)
                                go_roundg k5
                                case measure => have := HK1.out; have := HK2.out; have := HK3.out; have := HJ13.out; have := HK5.out; omega
                                case rel => exact ⟨(true), (wrap64 (x8_3 + 1)), (by first | rfl | (simp; done) | (simp [*]; done)), (by first | rfl | (simp; done) | (simp [*]; done)), H', ⟨by have := HK1.out; have := HK2.out; have := HK3.out; have := HJ13.out; have := HK5.out; omega⟩, ⟨by (with_reducible repeat (first | refine blk_drewN ?_ _ | refine blk_drew ?_ | refine blk_alloc ?_ _)); exact BK158.out⟩, ⟨by repeat (first | (with_reducible first | exact HB.out | apply below_alloc | apply pw_below_drewN | apply below_drew1 | refine below_set ?_ GE158.out) | exact HB.out)⟩⟩
                      · replace c18 := Bool.eq_false_iff.mpr c18
                        subst c18
                        have H1 : (if x6_3 = true then (some x5_1) else (portcullisref01_Order_least.l0 kj13 l1 (wrap64 (x5_1 + 1)) l0_0)) = some r := by rw [if_neg (show ¬ (false = true) by decide)] at H; exact H
                        clear H
                        have H := H1
                        clear H1
                        by_cases c33 : x6_3 = true
                        · subst c33
                          have H1 : (some x5_1) = some r := by rw [if_pos rfl] at H; exact H
                          clear H
                          have H := H1
                          clear H1
                          obtain rfl := Option.some.inj H
                          go_wp2
                          repeat (go_quiet (fail); try go_wp2)
                          go_ret
                          exact ⟨by first | rfl | (simp [errW_none, errW_some] <;> rfl) | (simp [*, errW_none, errW_some] <;> rfl), by repeat (first | (with_reducible first | exact HB.out | apply below_alloc | apply pw_below_drewN | apply below_drew1 | refine below_set ?_ GE158.out) | exact HB.out)⟩
                        · replace c33 := Bool.eq_false_iff.mpr c33
                          subst c33
                          have H1 : (portcullisref01_Order_least.l0 kj13 l1 (wrap64 (x5_1 + 1)) l0_0) = some r := by rw [if_neg (show ¬ (false = true) by decide)] at H; exact H
                          clear H
                          have H := H1
                          clear H1
                          have H' := Aside0.mk H
                          clear H
                          go_wp2
                          repeat (go_quiet (fail); try go_wp2)
                          go_roundg kj13
                          case measure => have := HK1.out; have := HK2.out; have := HK3.out; have := HJ13.out; omega
                          case rel => exact ⟨(wrap64 (x5_1 + 1)), (by first | rfl | (simp; done) | (simp [*]; done)), H', ⟨by have := HK1.out; have := HK2.out; have := HK3.out; have := HJ13.out; omega⟩, ⟨by (with_reducible repeat (first | refine blk_drewN ?_ _ | refine blk_drew ?_ | refine blk_alloc ?_ _)); exact BK158.out⟩, ⟨by repeat (first | (with_reducible first | exact HB.out | apply below_alloc | apply pw_below_drewN | apply below_drew1 | refine below_set ?_ GE158.out) | exact HB.out)⟩⟩
      · rw [if_neg c4] at H
        have c4b0 : decide (x5_1 < (l0_0.length : Int)) = false := decide_eq_false c4
        clear c4
        obtain rfl := Option.some.inj H
        have hcz34_0 : wr.cell? ⟨gb158, 0, none⟩ = some (.slice A0_0 l0_0.length c0_0) := (blk_cell BK158.out 0).trans rfl
        have hfz34_0 := blk_frozen BK158.out 0
        go_wp2
        repeat (go_quiet (fail); try go_wp2)
        go_ret
        exact ⟨by first | rfl | (simp [errW_none, errW_some] <;> rfl) | (simp [*, errW_none, errW_some] <;> rfl), by repeat (first | (with_reducible first | exact HB.out | apply below_alloc | apply pw_below_drewN | apply below_drew1 | refine below_set ?_ GE158.out) | exact HB.out)⟩



/-! ### portcullisref00_CopyCons: function 10 -/
end Go.Proofs.Ytpbaebjohioijaa.PSolveLeast
