import Derived.Test.YtdildjgkjmoihaaH
namespace Go.Proofs.Ytdildjgkjmoihaa.Latch
open Go.RowKit Go.Proofs.YtdildjgkjmoihaaW.PrintWords Go.Proofs.YtdildjgkjmoihaaW.PrintLast Go.Proofs.YtdildjgkjmoihaaW.PrintMore Go.Proofs.Ytdildjgkjmoihaa.PLatchSteps
set_option linter.unusedVariables false
set_option linter.unusedSimpArgs false
theorem copy_ints (l : List Int) (h : l.length ≤ 1000000) : portcullisref00_CopyInts.f l = some l := by
  unfold portcullisref00_CopyInts.f
  show (if ([] : List Int).length + l.length < 17592186044416 then some (([] : List Int) ++ l) else none) = some l
  rw [if_pos (by simp; omega)]
  rfl

set_option maxHeartbeats 2000000 in
set_option maxRecDepth 100000 in
theorem latchRings_walk (A : Option Addr) (c : Nat) (ss : List S31) (AW : Option Addr) (cW : Nat) (ws : List Int) (w : World) (hr : Kd.C k31 w A ss.length ss) (_hw : ∀ x ∈ ss, G31 x) (hr2 : Kd.C (Kd.int .i64) w AW ws.length ws) (_hw2 : ∀ x ∈ ws, (Lit.int .i64 x).wf = true) (hcap : ws.length ≤ cW) :
    Calls Try.prog 4 #[.slice A ss.length c, .slice AW ws.length cW] w fun e w' => e = .returned (.bool true) ∧ Below w.heap.size w w' := by
  have hmax := Kd.C_max hr
  have hmax2 := Kd.C_max hr2
  have HC := Aside0.mk hr
  have HW := Aside0.mk hr2
  clear hr _hw hr2 _hw2
  by_cases hl : 300 < ss.length
  · go_enter Try.func4, Try.ntmps4
    go_wp2_with fail
    refine (alive w).mono ?_
    rintro e w1 ⟨rfl, b1⟩
    go_wp2
    go_ret
    exact ⟨rfl, b1⟩
  by_cases hl2 : 100 < ws.length
  · go_enter Try.func4, Try.ntmps4
    go_wp2_with fail
    refine (alive w).mono ?_
    rintro e w1 ⟨rfl, b1⟩
    go_wp2
    go_ret
    exact ⟨rfl, b1⟩
  · go_enter Try.func4, Try.ntmps4
    go_wp2_with fail
    refine (alive w).mono ?_
    rintro e w1 ⟨rfl, b1⟩
    have B1 := Aside0.mk b1
    have s1 := b1.size
    clear b1
    go_wp2_with fail
    refine (new_at 8 8 (by omega) w1).mono ?_
    rintro e w2 ⟨hb, ab, rfl, t2, g1, g2, b2⟩
    have T2 : Aside0 (TR w1 w2 hb ab (List.replicate 8 (-1))) := ⟨⟨t2, by intro y hy; rw [(List.mem_replicate.1 hy).2]; exact Int.le_refl _, b2, g2⟩⟩
    clear t2 g1 g2 b2
    go_wp2
    go_loopw [6] (fun i wr => ∃ (k : Nat) (xs : List Int), i = .int .i64 k ∧ k ≤ ss.length ∧ Aside0 (TR w1 wr hb ab xs)) (fun i _ => ss.length - (intOf i).toNat)
    case atStart => exact ⟨0, _, rfl, Nat.zero_le _, T2⟩
    case round =>
      clear T2
      obtain ⟨k, xs, rfl, hk, HT⟩ := hrel
      obtain ⟨wo, rfl⟩ : ∃ wo : World, wo = wr := ⟨_, rfl⟩
      have hsz := HT.out.bel.size
      by_cases hlt : k < ss.length
      · obtain ⟨ad, hA, c0, c1, c2⟩ := at_T31 (Kd.C_below HC.out (below_then B1.out s1 HT.out.bel)) k (by omega) (by omega)
        subst hA
        rw [Int.toNat_natCast] at c0 c1 c2
        obtain ⟨x, hx⟩ : ∃ x, rd_T31 ss k = x := ⟨_, rfl⟩
        rw [hx] at c0 c1 c2
        clear hx
        go_wp2
        go_still_tail 11, (by kernel_rfl)
        go_wp2_with fail
        have HT' := Aside0.mk (HT.out.below (below_drew (Below.refl _ _)))
        refine (take_any HT'.out.tb x.f1 x.f2).mono ?_
        rintro e w3 ⟨rfl, t3, f3⟩
        have T3 := Aside0.mk (HT'.out.foot t3 (mem_ge HT.out.ge _ _) f3)
        clear t3 f3 HT'
        go_wp2
        go_roundw
        case rel => exact ⟨k + 1, _, by go_num, by omega, T3⟩
        case measure => simp [intOf]; omega
      · have HC1 := Aside0.mk (Kd.C_below HW.out (below_then B1.out s1 HT.out.bel))
        go_wp2_with fail
        refine (portcullisref00_CopyInts.calls AW cW ws ws wo HC1.out hcap (copy_ints ws (by omega))).mono ?_
        rintro e w3 ⟨v3, rfl, r3, b3⟩
        obtain ⟨A3, c3, hv3, hl3, hC3⟩ := Kd.R_reads r3
        subst hv3
        have T3 := Aside0.mk (HT.out.below b3)
        have R3 := Aside0.mk hC3
        clear r3 b3 hC3
        go_wp2_with fail
        refine (ring_any T3.out.tb A3 c3 ws R3.out (by omega)).mono ?_
        rintro e w4 ⟨v4, rfl, r4, b4⟩
        obtain ⟨A4, c4, hv4, hl4, hC4⟩ := Kd.R_reads r4
        subst hv4
        have T4 := Aside0.mk (T3.out.below b4)
        have R4 := Aside0.mk hC4
        clear r4 b4 hC4
        have hrl := ring_len xs ws
        have hlaw := Aside0.mk (ring_law xs ws)
        have hnob := Aside0.mk (no_back xs ws)
        obtain ⟨rs, hrs⟩ : ∃ rs, ring xs ws = rs := ⟨_, rfl⟩
        rw [hrs] at hrl hlaw hnob hl4 R4
        rw [hrs]
        clear hrs
        go_wp2
        go_loopw [8, 9] (fun l nxt wr => ∃ (q : Nat), l = .int .i64 q ∧ q ≤ rs.length ∧ Aside0 (Below w4.heap.size w4 wr)) (fun l _ _ => rs.length - (intOf l).toNat)
        case atStart => exact ⟨0, rfl, Nat.zero_le _, ⟨Below.refl _ _⟩⟩
        case round =>
          obtain ⟨q, rfl, hq, HB⟩ := hrel
          obtain ⟨w5, rfl⟩ : ∃ w5 : World, w5 = wr := ⟨_, rfl⟩
          have T5 := Aside0.mk (T4.out.below HB.out)
          have HW5 := Aside0.mk (Kd.C_below HW.out (below_then B1.out s1 T5.out.bel))
          have HR5 := Aside0.mk (Kd.C_below R4.out HB.out)
          by_cases hlq : q < rs.length
          · obtain ⟨m1, m2, m3, m4⟩ := hlaw.out q hlq
            have hmod : (q + 1) % rs.length < rs.length := Nat.mod_lt _ (by omega)
            obtain ⟨ad4, e4, k4⟩ := Kd.at_int HR5.out (q : Nat) (by omega) (by omega)
            obtain ⟨ad4', e4', k5⟩ := Kd.at_int HR5.out (((q + 1) % rs.length : Nat) : Int) (by omega) (by omega)
            obtain ⟨ad4'', e4'', k6⟩ := Kd.at_int HR5.out ((0 : Nat) : Int) (by omega) (by omega)
            subst e4
            rw [Option.some.injEq] at e4' e4''
            subst e4' e4''
            rw [Int.toNat_natCast] at k4 k5 k6
            have k6' : w5.cell? ad4 = some (.int .i64 (rd rs ((0 : Nat) : Int))) := k6
            obtain ⟨ai, hai⟩ : ∃ a, rd rs (q : Nat) = a := ⟨_, rfl⟩
            obtain ⟨a0, ha0⟩ : ∃ a, rd rs ((0 : Nat) : Int) = a := ⟨_, rfl⟩
            obtain ⟨an, han⟩ : ∃ a, rd rs (((q + 1) % rs.length : Nat) : Int) = a := ⟨_, rfl⟩
            rw [hai] at m1 m2 m3 m4 k4
            rw [han] at m3 k5
            rw [ha0] at m4 k6 k6'
            clear hai ha0 han
            obtain ⟨r, rfl⟩ : ∃ r : Nat, ai = r := ⟨ai.toNat, by omega⟩
            obtain ⟨ad7, e7, k7⟩ := Kd.at_int HW5.out (r : Nat) (by omega) (by omega)
            subst e7
            rw [Int.toNat_natCast] at k7
            obtain ⟨b, hb0⟩ : ∃ b, rd ws (r : Nat) = b := ⟨_, rfl⟩
            rw [hb0] at m3 k7
            clear hb0
            have HH : Aside0 (∀ n, Calls Try.prog 15 #[.pointer (some ⟨hb, 0, none⟩), .int .i64 b] (w5.drewN n) fun e w' => e = .returned (.int .i64 an) ∧ w' = w5.drewN n) := ⟨fun n => by
              have := holder_any (T5.out.below (pw_below_drewN (Below.refl _ _) n)).tb b
              rw [m3] at this
              exact this.mono (fun _ _ h => ⟨h.1, h.2.symm⟩)⟩
            clear m3
            have hm : Int.tmod ((q : Int) + 1) (rs.length : Int) = (((q + 1) % rs.length : Nat) : Int) := by
              rw [Int.tmod_eq_emod_of_nonneg (by omega)]; simp
            have hm1 : 0 ≤ ((q : Int) + 1) % (rs.length : Int) := Int.emod_nonneg _ (by omega)
            have hm2 : ((q : Int) + 1) % (rs.length : Int) < (rs.length : Int) := Int.emod_lt_of_pos _ (by omega)
            have hn1 : ¬ (ws.length : Int) ≤ (r : Int) := by omega
            have hn2 : ¬ ws.length ≤ r := by omega
            have hn3 : ¬ (r : Int) < a0 := by omega
            have hn4 : ¬ (r : Int) < 0 := by omega
            have hn5 : 0 < rs.length := by omega
            go_wp2
            go_quiet ((go_at_call 15; exact Calls.quiet_of_same (HH.out _)))
            go_wp2
            go_roundw
            case rel => exact ⟨q + 1, by go_num, by omega, ⟨below_then HB.out HB.out.size (pw_below_drewN (Below.refl _ _) _)⟩⟩
            case measure => simp [intOf]; omega
          · by_cases hr0 : 0 < rs.length
            · go_wp2
              go_ret
              exact ⟨rfl, below_then B1.out s1 T5.out.bel⟩
            · have hr1 : rs.length = 0 := by omega
              have hnil : rs = [] := List.length_eq_zero_iff.1 hr1
              have hnob' := Aside0.mk (hnob.out hnil)
              clear hnil hlaw hr1
              go_wp2
              go_loopw [10, 11, 12] (fun l at_ kk wr => ∃ (q2 : Nat), l = .int .i64 q2 ∧ q2 ≤ ws.length ∧ Aside0 (Below w4.heap.size w4 wr)) (fun l _ _ _ => ws.length - (intOf l).toNat)
              case atStart => exact ⟨0, rfl, Nat.zero_le _, HB⟩
              case round =>
                obtain ⟨q2, rfl, hq2, HB6⟩ := hrel
                obtain ⟨w6, rfl⟩ : ∃ w6 : World, w6 = wr := ⟨_, rfl⟩
                by_cases hlq2 : q2 < ws.length
                · go_wp2
                  go_loopw [11, 12] (fun at_ kk wr => ∃ (k2 : Nat), kk = .int .i64 k2 ∧ k2 ≤ ws.length + 1 ∧ at_ = .int .i64 (it xs ws q2 k2) ∧ Aside0 (∀ j, j ≤ k2 → 0 ≤ it xs ws q2 j ∧ it xs ws q2 j < ws.length) ∧ Aside0 (Below w4.heap.size w4 wr)) (fun _ kk _ => ws.length + 1 - (intOf kk).toNat)
                  case atStart => exact ⟨0, rfl, Nat.zero_le _, rfl, ⟨fun j hj => by obtain rfl : j = 0 := by omega
                                                                                     show 0 ≤ (q2 : Int) ∧ (q2 : Int) < ws.length; omega⟩, HB6⟩
                  case round =>
                    obtain ⟨k2, rfl, hk2, rfl, HI, HB7⟩ := hrel
                    obtain ⟨w7, rfl⟩ : ∃ w7 : World, w7 = wr := ⟨_, rfl⟩
                    have T7 := Aside0.mk (T4.out.below HB7.out)
                    have HW7 := Aside0.mk (Kd.C_below HW.out (below_then B1.out s1 T7.out.bel))
                    by_cases hlk2 : k2 ≤ ws.length
                    · have hz0 : it xs ws q2 (k2 + 1) = holder xs (rd ws (it xs ws q2 k2)) := rfl
                      have hback := hnob'.out q2 k2 HI.out
                      have hI := HI.out k2 (Nat.le_refl _)
                      obtain ⟨y, hy⟩ : ∃ y, it xs ws q2 k2 = y := ⟨_, rfl⟩
                      rw [hy] at hz0 hI
                      rw [hy]
                      clear hy
                      obtain ⟨r, rfl⟩ : ∃ r : Nat, y = r := ⟨y.toNat, by omega⟩
                      obtain ⟨ad7, e7, k7⟩ := Kd.at_int HW7.out (r : Nat) (by omega) (by omega)
                      subst e7
                      rw [Int.toNat_natCast] at k7
                      obtain ⟨b, hb0⟩ : ∃ b, rd ws (r : Nat) = b := ⟨_, rfl⟩
                      rw [hb0] at hz0 k7
                      clear hb0
                      obtain ⟨z, hz⟩ : ∃ z, holder xs b = z := ⟨_, rfl⟩
                      have hho := Aside0.mk (holder_any T7.out.tb b)
                      rw [hz] at hho hz0
                      clear hz
                      have hne : (z == (q2 : Int)) = false := beq_eq_false_iff_ne.2 (by rw [← hz0]; exact hback)
                      have hz := Aside0.mk hz0
                      clear hz0 hback
                      by_cases hz1 : z < 0
                      · go_wp2_with fail
                        refine hho.out.mono ?_
                        rintro e w8 ⟨rfl, rfl⟩
                        go_wp2
                        go_roundw
                        case rel => exact ⟨q2 + 1, by go_num, by omega, HB7⟩
                        case measure => simp [intOf]; omega
                      · by_cases hz2 : (ws.length : Int) ≤ z
                        · go_wp2_with fail
                          refine hho.out.mono ?_
                          rintro e w8 ⟨rfl, rfl⟩
                          go_wp2
                          go_roundw
                          case rel => exact ⟨q2 + 1, by go_num, by omega, HB7⟩
                          case measure => simp [intOf]; omega
                        · go_wp2_with fail
                          refine hho.out.mono ?_
                          rintro e w8 ⟨rfl, rfl⟩
                          go_wp2
                          go_roundw
                          case rel => exact ⟨k2 + 1, by go_num, by omega, by rw [hz.out], ⟨fun j hj => by
                            rcases Nat.lt_or_ge j (k2 + 1) with h | h
                            · exact HI.out j (by omega)
                            · obtain rfl : j = k2 + 1 := by omega
                              rw [hz.out]; omega⟩, HB7⟩
                          case measure => simp [intOf]; omega
                    · go_wp2
                      go_roundw
                      case rel => exact ⟨q2 + 1, by go_num, by omega, HB7⟩
                      case measure => simp [intOf]; omega
                · go_wp2
                  go_ret
                  exact ⟨rfl, below_then B1.out s1 (T4.out.below HB6.out).bel⟩
end Go.Proofs.Ytdildjgkjmoihaa.Latch
