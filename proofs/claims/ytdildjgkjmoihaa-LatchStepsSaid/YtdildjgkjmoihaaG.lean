import Derived.Test.YtdildjgkjmoihaaF
namespace Go.Proofs.Ytdildjgkjmoihaa.Latch
open Go.RowKit Go.Proofs.YtdildjgkjmoihaaW.PrintWords Go.Proofs.YtdildjgkjmoihaaW.PrintLast Go.Proofs.YtdildjgkjmoihaaW.PrintMore Go.Proofs.Ytdildjgkjmoihaa.PLatchSteps
set_option linter.unusedVariables false
set_option linter.unusedSimpArgs false

/-- The table, in a world since w1. -/
structure TR (w1 w : World) (hb ab : Nat) (xs : List Int) : Prop where
  tb : TB w hb ab xs
  ge : ∀ y ∈ xs, -1 ≤ y
  bel : Below w1.heap.size w1 w
  ab1 : w1.heap.size ≤ ab
theorem TR.below {w1 w w' : World} {hb ab : Nat} {xs : List Int} (h : TR w1 w hb ab xs) (hb' : Below w.heap.size w w') : TR w1 w' hb ab xs := ⟨h.tb.below hb', h.ge, below_then h.bel h.bel.size hb', h.ab1⟩
theorem TR.foot {w1 w w' : World} {hb ab : Nat} {xs ys : List Int} (h : TR w1 w hb ab xs) (ht : TB w' hb ab ys) (hg : ∀ y ∈ ys, -1 ≤ y) (hf : Foot (fun k => k = ab) w w') : TR w1 w' hb ab ys :=
  ⟨ht, hg, h.bel.trans (hf.below h.bel.size (fun b hb => by rw [hb]; exact h.ab1)), h.ab1⟩

theorem mem_take_succ (hs : List Int) (k : Nat) (hk : k < hs.length) (q : Int) : decide (q ∈ hs.take (k + 1)) = (decide (q ∈ hs.take k) || (rd hs (k : Nat) == q)) := by
  have h : hs.take (k + 1) = hs.take k ++ [rd hs (k : Nat)] := by
    rw [List.take_add_one]; unfold rd; simp [hk]
  rw [h, Bool.eq_iff_iff, Bool.or_eq_true, decide_eq_true_eq, decide_eq_true_eq, beq_iff_eq, List.mem_append, List.mem_singleton]
  exact ⟨fun h => h.elim Or.inl (fun h => Or.inr h.symm), fun h => h.elim Or.inl (fun h => Or.inr h.symm)⟩
theorem rise_at {hs : List Int} (h : hs.Pairwise (· < ·)) (k : Nat) (hk : k + 1 < hs.length) : rd hs (k : Nat) < rd hs ((k + 1 : Nat) : Int) := by
  have := List.pairwise_iff_getElem.1 h k (k + 1) (by omega) hk (by omega)
  unfold rd
  rw [Int.toNat_natCast, Int.toNat_natCast, List.getD_eq_getElem?_getD, List.getD_eq_getElem?_getD, List.getElem?_eq_getElem (by omega), List.getElem?_eq_getElem hk]
  exact this

set_option maxHeartbeats 2000000 in
set_option maxRecDepth 100000 in
theorem latchHeld_walk (n : Int) (A : Option Addr) (c : Nat) (ss : List S31) (w : World) (_hn : (Lit.int .i64 n).wf = true) (hr : Kd.C k31 w A ss.length ss) (_hw : ∀ x ∈ ss, G31 x) :
    Calls Try.prog 6 #[.int .i64 n, .slice A ss.length c] w fun e w' => e = .returned (.bool true) ∧ Below w.heap.size w w' := by
  have hmax := Kd.C_max hr
  have HC := Aside0.mk hr
  clear hr _hw
  by_cases hl : 300 < ss.length
  · go_enter Try.func6, Try.ntmps6
    go_wp2_with fail
    refine (alive w).mono ?_
    rintro e w1 ⟨rfl, b1⟩
    go_wp2
    go_ret
    exact ⟨rfl, b1⟩
  · go_enter Try.func6, Try.ntmps6
    go_wp2_with fail
    refine (alive w).mono ?_
    rintro e w1 ⟨rfl, b1⟩
    have B1 := Aside0.mk b1
    have s1 := b1.size
    clear b1
    go_wp2_with fail
    refine (new_at n (max 0 (min n 8)).toNat (by omega) w1).mono ?_
    rintro e w2 ⟨hb, ab, rfl, t2, g1, g2, b2⟩
    have T2 : Aside0 (TR w1 w2 hb ab (List.replicate (max 0 (min n 8)).toNat (-1))) := ⟨⟨t2, fun y hy => by rw [List.eq_of_mem_replicate hy]; exact Int.le_refl _, b2, g2⟩⟩
    clear t2 b2 g1 g2
    go_wp2
    go_loopw [6] (fun i wr => ∃ (k : Nat) (xs : List Int), i = .int .i64 k ∧ k ≤ ss.length ∧ Aside0 (TR w1 wr hb ab xs)) (fun i _ => ss.length - (intOf i).toNat)
    case atStart => exact ⟨0, _, rfl, Nat.zero_le _, T2⟩
    case round =>
      clear T2
      obtain ⟨k, xs, rfl, hk, HT⟩ := hrel
      obtain ⟨wo, rfl⟩ : ∃ wo : World, wo = wr := ⟨_, rfl⟩
      have hsz := HT.out.bel.size
      by_cases hlt : k < ss.length
      · obtain ⟨ad, hA, c0, c1, c2⟩ := at_T31 (Kd.C_below HC.out (below_then B1.out s1 HT.out.bel)) k (by omega) (by omega)
        subst hA
        rw [Int.toNat_natCast] at c0 c1 c2
        obtain ⟨x, hx⟩ : ∃ x, rd_T31 ss k = x := ⟨_, rfl⟩
        rw [hx] at c0 c1 c2
        clear hx
        by_cases h1 : x.f0 = 1
        · have hd1 : (x.f0 == 1) = true := beq_iff_eq.2 h1
          clear h1
          go_wp2
          go_still_tail 11, (by kernel_rfl)
          go_wp2_with fail
          have HT' := Aside0.mk (HT.out.below (below_drew (Below.refl _ _)))
          refine (take_any HT'.out.tb x.f1 x.f2).mono ?_
          rintro e w3 ⟨rfl, t3, f3⟩
          have T3 := Aside0.mk (HT'.out.foot t3 (mem_ge HT.out.ge _ _) f3)
          clear t3 f3 HT'
          go_wp2
          go_roundw
          case rel => exact ⟨k + 1, _, by go_num, by omega, T3⟩
          case measure => simp [intOf]; omega
        · have hd1 : (x.f0 == 1) = false := beq_eq_false_iff_ne.2 h1
          clear h1
          go_wp2
          go_still_tail 11, (by kernel_rfl)
          go_wp2_with fail
          have HT' := Aside0.mk (HT.out.below (below_drew (Below.refl _ _)))
          refine (drop_any HT'.out.tb x.f1 x.f2).mono ?_
          rintro e w3 ⟨rfl, t3, f3⟩
          have T3 := Aside0.mk (HT'.out.foot t3 (mem_ge' HT.out.ge _ _) f3)
          clear t3 f3 HT'
          go_wp2
          go_roundw
          case rel => exact ⟨k + 1, _, by go_num, by omega, T3⟩
          case measure => simp [intOf]; omega
      · go_wp2_with fail
        refine (all_any HT.out.tb).mono ?_
        rintro e w4 ⟨v4, rfl, r4, b4⟩
        obtain ⟨A4, c4, hv4, hl4, hC4⟩ := Kd.R_reads r4
        subst hv4
        have R4 := Aside0.mk hC4
        have T4 := Aside0.mk (HT.out.below b4)
        have hge := Aside0.mk HT.out.ge
        have hl8 := HT.out.tb.le8
        clear r4 b4 hC4
        go_wp2
        go_loopw [8] (fun l wr => ∃ (q : Nat), l = .int .i64 q ∧ q ≤ xs.length ∧ Aside0 (Below w4.heap.size w4 wr)) (fun l _ => xs.length - (intOf l).toNat)
        case atStart => exact ⟨0, rfl, Nat.zero_le _, ⟨Below.refl _ _⟩⟩
        case round =>
          obtain ⟨q, rfl, hq, HB⟩ := hrel
          obtain ⟨w5, rfl⟩ : ∃ w5 : World, w5 = wr := ⟨_, rfl⟩
          by_cases hlq : q < xs.length
          · have T5 := Aside0.mk (T4.out.below HB.out)
            obtain ⟨y, hy⟩ : ∃ y, rd xs (q : Nat) = y := ⟨_, rfl⟩
            have hh : holder xs (q : Nat) = y := by unfold holder; rw [if_neg (by omega), if_neg (by omega)]; exact hy
            have HH : Aside0 (∀ n, Calls Try.prog 15 #[.pointer (some ⟨hb, 0, none⟩), .int .i64 (q : Nat)] (w5.drewN n) fun e w' => e = .returned (.int .i64 y) ∧ w' = w5.drewN n) := ⟨fun n => by
              have := holder_any (T5.out.below (pw_below_drewN (Below.refl _ _) n)).tb (q : Nat)
              rw [hh] at this
              exact this.mono (fun _ _ h => ⟨h.1, h.2.symm⟩)⟩
            obtain ⟨ad4, e4, k4⟩ := Kd.at_int (Kd.C_below R4.out HB.out) (q : Nat) (by omega) (by omega)
            subst e4
            rw [Int.toNat_natCast, hy] at k4
            have HY := Aside0.mk hy
            clear hh hy
            go_wp2
            go_quiet ((go_at_call 15; exact Calls.quiet_of_same (HH.out _)))
            go_wp2
            go_loopw [9] (fun l wr => ∃ (j : Nat), l = .int .i64 j ∧ j ≤ ss.length ∧ Aside0 (Below w4.heap.size w4 wr)) (fun l _ => ss.length - (intOf l).toNat)
            case atStart => exact ⟨0, rfl, Nat.zero_le _, ⟨below_then HB.out HB.out.size (pw_below_drewN (Below.refl _ _) _)⟩⟩
            case round =>
              obtain ⟨j, rfl, hj, HB6⟩ := hrel
              obtain ⟨w6, rfl⟩ : ∃ w6 : World, w6 = wr := ⟨_, rfl⟩
              have T6 := Aside0.mk (T4.out.below HB6.out)
              by_cases hlj : j < ss.length
              · obtain ⟨ad, hA, c0, c1, c2⟩ := at_T31 (Kd.C_below HC.out (below_then B1.out s1 T6.out.bel)) j (by omega) (by omega)
                subst hA
                rw [Int.toNat_natCast] at c0 c1 c2
                obtain ⟨t, hx⟩ : ∃ t, (rd_T31 ss j).f2 = t := ⟨_, rfl⟩
                rw [hx] at c2
                clear hx
                go_wp2_with fail
                refine (held_any T6.out.tb t).mono ?_
                rintro e w7 ⟨v7, rfl, r7, b7⟩
                obtain ⟨A7, c7, hv7, hl7, hC7⟩ := Kd.R_reads r7
                subst hv7
                have R7 := Aside0.mk hC7
                have B7 := Aside0.mk (below_then HB6.out HB6.out.size b7)
                have hll := held_len xs t xs.length
                have hmem := mem_held xs t xs.length q
                have hris := Aside0.mk (held_rise xs t xs.length)
                rw [HY.out] at hmem
                obtain ⟨hs, hhs⟩ : ∃ hs, held xs t xs.length = hs := ⟨_, rfl⟩
                rw [hhs] at hll hmem hris hl7 R7
                rw [hhs]
                have hmem := Aside0.mk hmem
                clear r7 b7 hC7 hhs c0 c1 c2
                go_wp2
                go_loopw [12, 13] (fun b l wr => ∃ (k2 : Nat), l = .int .i64 k2 ∧ k2 ≤ hs.length ∧ b = .bool (decide ((q : Int) ∈ hs.take k2)) ∧ Aside0 (Below w7.heap.size w7 wr)) (fun _ l _ => hs.length - (intOf l).toNat)
                case atStart => exact ⟨0, rfl, Nat.zero_le _, rfl, ⟨Below.refl _ _⟩⟩
                case round =>
                  obtain ⟨k2, rfl, hk2, rfl, HB8⟩ := hrel
                  obtain ⟨w8, rfl⟩ : ∃ w8 : World, w8 = wr := ⟨_, rfl⟩
                  by_cases hlk : k2 < hs.length
                  · obtain ⟨z, hz⟩ : ∃ z, rd hs (k2 : Nat) = z := ⟨_, rfl⟩
                    obtain ⟨ad7, e7, kk7⟩ := Kd.at_int (Kd.C_below R7.out HB8.out) (k2 : Nat) (by omega) (by omega)
                    subst e7
                    rw [Int.toNat_natCast, hz] at kk7
                    have hb1 := mem_take_succ hs k2 hlk (q : Int)
                    rw [hz] at hb1
                    obtain ⟨b, hb0⟩ : ∃ b, decide ((q : Int) ∈ hs.take k2) = b := ⟨_, rfl⟩
                    rw [hb0] at hb1
                    have Hb1 := Aside0.mk hb1
                    clear hb1
                    rw [hb0]
                    clear hb0
                    have hz := Aside0.mk hz
                    by_cases hk0 : k2 = 0
                    · have hd0 : decide (0 < (k2 : Int)) = false := decide_eq_false (by omega)
                      have hn1 : ¬ (0 : Int) < (k2 : Int) := by omega
                      have hn2 : ¬ 0 < k2 := by omega
                      clear hk0
                      cases b with
                      | true =>
                        go_wp2
                        go_quiet (fail)
                        go_wp2
                        go_roundw
                        case rel => exact ⟨k2 + 1, by go_num, by omega, by rw [Hb1.out]; exact rfl, ⟨below_then HB8.out HB8.out.size (pw_below_drewN (Below.refl _ _) _)⟩⟩
                        case measure => simp [intOf]; omega
                      | false =>
                        by_cases hzq : z = (q : Int)
                        · have hdq : (z == (q : Int)) = true := beq_iff_eq.2 hzq
                          clear hzq
                          go_wp2
                          go_quiet (fail)
                          go_wp2
                          go_roundw
                          case rel => exact ⟨k2 + 1, by go_num, by omega, by rw [Hb1.out, hdq]; exact rfl, ⟨below_then HB8.out HB8.out.size (pw_below_drewN (Below.refl _ _) _)⟩⟩
                          case measure => simp [intOf]; omega
                        · have hdq : (z == (q : Int)) = false := beq_eq_false_iff_ne.2 hzq
                          clear hzq
                          go_wp2
                          go_quiet (fail)
                          go_wp2
                          go_roundw
                          case rel => exact ⟨k2 + 1, by go_num, by omega, by rw [Hb1.out, hdq]; exact rfl, ⟨below_then HB8.out HB8.out.size (pw_below_drewN (Below.refl _ _) _)⟩⟩
                          case measure => simp [intOf]; omega
                    · have hd0 : decide (0 < (k2 : Int)) = true := decide_eq_true (by omega)
                      have hn1 : (0 : Int) < (k2 : Int) := by omega
                      have hn2 : 0 < k2 := by omega
                      clear hk0
                      obtain ⟨ad8, e8, kk8⟩ := Kd.at_int (Kd.C_below R7.out HB8.out) ((k2 : Int) - 1) (by omega) (by omega)
                      rw [Option.some.injEq] at e8
                      subst e8
                      obtain ⟨z', hz'⟩ : ∃ z', rd hs ((k2 : Int) - 1) = z' := ⟨_, rfl⟩
                      rw [hz', show ((k2 : Int) - 1).toNat = k2 - 1 from by omega] at kk8
                      have hlt' : decide (z ≤ z') = false := decide_eq_false (by
                        have := rise_at hris.out (k2 - 1) (by omega)
                        rw [show ((k2 - 1 : Nat) : Int) = (k2 : Int) - 1 from by omega, show ((k2 - 1 + 1 : Nat) : Int) = (k2 : Int) from by omega, hz', hz.out] at this
                        omega)
                      clear hz'
                      cases b with
                      | true =>
                        go_wp2
                        go_quiet (fail)
                        go_wp2
                        go_roundw
                        case rel => exact ⟨k2 + 1, by go_num, by omega, by rw [Hb1.out]; exact rfl, ⟨below_then HB8.out HB8.out.size (pw_below_drewN (Below.refl _ _) _)⟩⟩
                        case measure => simp [intOf]; omega
                      | false =>
                        by_cases hzq : z = (q : Int)
                        · have hdq : (z == (q : Int)) = true := beq_iff_eq.2 hzq
                          clear hzq
                          go_wp2
                          go_quiet (fail)
                          go_wp2
                          go_roundw
                          case rel => exact ⟨k2 + 1, by go_num, by omega, by rw [Hb1.out, hdq]; exact rfl, ⟨below_then HB8.out HB8.out.size (pw_below_drewN (Below.refl _ _) _)⟩⟩
                          case measure => simp [intOf]; omega
                        · have hdq : (z == (q : Int)) = false := beq_eq_false_iff_ne.2 hzq
                          clear hzq
                          go_wp2
                          go_quiet (fail)
                          go_wp2
                          go_roundw
                          case rel => exact ⟨k2 + 1, by go_num, by omega, by rw [Hb1.out, hdq]; exact rfl, ⟨below_then HB8.out HB8.out.size (pw_below_drewN (Below.refl _ _) _)⟩⟩
                          case measure => simp [intOf]; omega
                  · obtain rfl : k2 = hs.length := by omega
                    rw [List.take_length]
                    have hy1 : -1 ≤ y := by
                      rw [← HY.out]; unfold rd
                      rw [Int.toNat_natCast, List.getD_eq_getElem?_getD, List.getElem?_eq_getElem hlq]
                      exact hge.out _ (List.getElem_mem _)
                    obtain ⟨ad9, e9, kk9⟩ := Kd.at_int (Kd.C_below R4.out (below_then B7.out B7.out.size HB8.out)) (q : Nat) (by omega) (by omega)
                    rw [Option.some.injEq] at e9
                    subst e9
                    rw [Int.toNat_natCast, HY.out] at kk9
                    by_cases ht0 : 0 ≤ t
                    · have hd0 : decide (0 ≤ t) = true := decide_eq_true ht0
                      by_cases hyt : y = t
                      · have hd1 : (y == t) = true := beq_iff_eq.2 hyt
                        have hd2 : decide ((q : Int) ∈ hs) = true := decide_eq_true (hmem.out.2 ⟨hlq, hyt, by omega⟩)
                        rw [hd2]
                        clear hyt ht0 hy1
                        go_wp2
                        go_roundw
                        case rel => exact ⟨j + 1, by go_num, by omega, ⟨below_then B7.out B7.out.size HB8.out⟩⟩
                        case measure => simp [intOf]; omega
                      · have hd1 : (y == t) = false := beq_eq_false_iff_ne.2 hyt
                        have hd2 : decide ((q : Int) ∈ hs) = false := decide_eq_false (fun h => hyt (hmem.out.1 h).2.1)
                        rw [hd2]
                        clear hyt ht0 hy1
                        go_wp2
                        go_roundw
                        case rel => exact ⟨j + 1, by go_num, by omega, ⟨below_then B7.out B7.out.size HB8.out⟩⟩
                        case measure => simp [intOf]; omega
                    · have hd0 : decide (0 ≤ t) = false := decide_eq_false ht0
                      have hd2 : decide ((q : Int) ∈ hs) = false := decide_eq_false (fun h => by have := hmem.out.1 h; omega)
                      rw [hd2]
                      clear ht0 hy1
                      go_wp2
                      go_roundw
                      case rel => exact ⟨j + 1, by go_num, by omega, ⟨below_then B7.out B7.out.size HB8.out⟩⟩
                      case measure => simp [intOf]; omega
              · go_wp2
                go_roundw
                case rel => exact ⟨q + 1, by go_num, by omega, HB6⟩
                case measure => simp [intOf]; omega
          · have T5 := Aside0.mk (T4.out.below HB.out)
            go_wp2
            go_ret
            exact ⟨rfl, below_then B1.out s1 T5.out.bel⟩
end Go.Proofs.Ytdildjgkjmoihaa.Latch
