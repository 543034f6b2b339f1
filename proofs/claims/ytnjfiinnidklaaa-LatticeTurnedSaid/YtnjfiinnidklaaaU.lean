import Derived.Test.YtnjfiinnidklaaaM
import Derived.Test.YtnjfiinnidklaaaS
import Derived.Deep.RegionLaw
namespace Go.Proofs.Ytnjfiinnidklaaa.Lat
open Go.RowKit Go.Proofs.YtnjfiinnidklaaaW.PrintWords Go.Proofs.YtnjfiinnidklaaaW.PrintLast Go.Proofs.YtnjfiinnidklaaaW.PrintMore Go.Proofs.Ytnjfiinnidklaaa.PLatticeNews
set_option linter.unusedVariables false
set_option linter.unusedSimpArgs false

theorem back_succ (es : List (Int × Int)) (k : Nat) (h : k < es.length) : backE (es.take (k + 1)) = backE (es.take k) ++ [((rdE es k).2, (rdE es k).1)] := by
  unfold backE
  rw [List.take_add_one, List.map_append]
  simp [rdE, List.getD_eq_getElem?_getD, List.getElem?_eq_getElem h]
set_option maxHeartbeats 4000000 in
set_option maxRecDepth 100000 in
theorem latticeTurned_walk (n : Int) (A : Option Addr) (cE : Nat) (es : List (Int × Int)) (a b : Int) (w : World) (_hn : (Lit.int .i64 n).wf = true) (hr : Kd.C KE w A es.length es) (_hw : ∀ x ∈ es, (Lit.int .i64 x.1).wf = true ∧ (Lit.int .i64 x.2).wf = true) (_ha : (Lit.int .i64 a).wf = true) (_hb : (Lit.int .i64 b).wf = true) :
    Calls Try.prog 9 #[.int .i64 n, .slice A es.length cE, .int .i64 a, .int .i64 b] w fun e w' => e = .returned (.bool true) ∧ Below w.heap.size w w' := by
  have hmax := Kd.C_max hr
  have HC := Aside0.mk hr
  clear hr _hw
  by_cases hl : 200 < es.length
  · go_enter Try.func9, Try.ntmps9
    go_wp2_with fail
    refine (alive w).mono ?_
    rintro e w1 ⟨rfl, b1⟩
    go_wp2
    go_ret
    exact ⟨rfl, b1⟩
  · go_enter Try.func9, Try.ntmps9
    go_wp2_with fail
    refine (alive w).mono ?_
    rintro e w1 ⟨rfl, b1⟩
    have B1 := Aside0.mk b1
    clear b1
    have s1 := B1.out.size
    have R0 := Aside0.mk (lit_nil KE 41 w1 w1.heap.size (Nat.le_refl _))
    have D0 := Aside0.mk (below_alloc (Below.refl w1.heap.size w1) (.cells #[] 41))
    go_wp2_with fail
    go_loopw [9, 10] (fun v i wr => ∃ k : Nat, i = .int .i64 k ∧ k ≤ es.length ∧ Aside0 (KE.R 41 wr w1.heap.size (fun _ => True) v (backE (es.take k))) ∧ Aside0 (Below w1.heap.size w1 wr)) (fun v i _ => es.length - (intOf i).toNat)
    case atStart => exact ⟨0, rfl, Nat.zero_le _, R0, D0⟩
    case round =>
      clear R0 D0
      obtain ⟨k, rfl, hk, R, B⟩ := hrel
      obtain ⟨A3, c3, rfl, hl3, hC3⟩ := Kd.R_reads R.out
      clear hC3
      have hlk : (backE (es.take k)).length = min k es.length := by simp [backE]
      have HLK : Aside0 ((backE (es.take k)).length ≤ 200) := ⟨by rw [hlk]; omega⟩
      clear hlk
      obtain ⟨wi, rfl⟩ : ∃ wi : World, wi = wr := ⟨_, rfl⟩
      by_cases hke : k < es.length
      · have HBS := Aside0.mk (back_succ es k hke)
        obtain ⟨xs, hxs⟩ : ∃ xs, backE (es.take k) = xs := ⟨_, rfl⟩
        rw [hxs] at R HLK HBS hl3 ⊢
        clear hxs
        obtain ⟨n3, hn3⟩ : ∃ n, xs.length = n := ⟨_, rfl⟩
        rw [hn3] at R hl3 ⊢
        clear hn3
        obtain ⟨ad, eA, c0, c1⟩ := at_E (Kd.C_below HC.out (below_then B1.out s1 B.out)) k hke
        subst eA
        obtain ⟨e, he⟩ : ∃ e, (rdE es k).1 = e := ⟨_, rfl⟩
        obtain ⟨f, hf⟩ : ∃ e, (rdE es k).2 = e := ⟨_, rfl⟩
        rw [he, hf] at HBS
        rw [he] at c0
        rw [hf] at c1
        clear he hf
        have BB := Aside0.mk (below_drew B.out)
        have RR : Aside0 (KE.R 41 wi.drew w1.heap.size (fun _ => True) (.slice A3 n3 c3) xs) := ⟨Kd.R_mono (Kd.R_old R.out (below_drew (Below.refl _ _))) (fun _ hk => hk.1)⟩
        go_wp2_with fail
        go_region_law ((refine Kd.R_append_step KE w1.heap.size rfl (.tmp 27) (.tmp 39) 22 41 _ 16 rfl Try.underlying22 info41 rfl (by decide) (by decide) (.slice A3 n3 c3) xs (f, e) [.int .i64 f, .int .i64 e] (fun _ => True) (fun _ => False) rfl rfl ⟨[.int .i64 f], [.int .i64 e], rfl, rfl, rfl⟩ (fun _ h => h.elim) (fun _ _ => trivial) RR.out BB.out BB.out.size (by have := HLK.out; omega) ?_); intro v9 w9 hv9 hb9 hg9 hat9)
        all_goals (
          have HV9 := Aside0.mk hv9
          have HB9 := Aside0.mk hb9
          clear hv9 hb9 hg9 hat9
          go_wp2_with fail
          go_roundw
          case rel => exact ⟨k + 1, by go_num, by omega, ⟨by rw [HBS.out]; exact HV9.out⟩, HB9⟩
          case measure => simp [intOf]; omega)
      · have HXA : Aside0 (backE (es.take k) = backE es) := ⟨by rw [List.take_of_length_le (by omega)]⟩
        rw [HXA.out] at R hl3 HLK ⊢
        obtain ⟨A9, c9, e9, hl9, hC9⟩ := Kd.R_reads R.out
        simp only [Value.slice.injEq] at e9
        obtain ⟨rfl, _, rfl⟩ := e9
        have C9 := Aside0.mk hC9
        have B9 := Aside0.mk (below_then B1.out s1 B.out)
        clear hC9 R B HXA
        go_wp2_with fail
        refine (copies_any A cE es wi (Kd.C_below HC.out B9.out) (by omega)).mono ?_
        rintro e w10 ⟨vv, rfl, r10, b10⟩
        obtain ⟨A10, c10, e10, hl10, hC10⟩ := Kd.R_reads r10
        subst e10
        have B10 := Aside0.mk (below_then B9.out B9.out.size b10)
        have C10 := Aside0.mk hC10
        have C9' := Aside0.mk (Kd.C_below C9.out b10)
        clear r10 b10 hC10 B9 C9
        go_wp2_with fail
        refine (new_any n A10 c10 es w10 C10.out (by omega)).mono ?_
        rintro e w11 ⟨b11, h11⟩
        have B11 := Aside0.mk (below_then B10.out B10.out.size b11)
        have C11 := Aside0.mk (Kd.C_below C9'.out b11)
        clear b11 B10 C10 C9'
        rcases h11 with ⟨hne, rfl⟩ | ⟨h0, hb, ub, db, rfl, T⟩
        · go_wp2_with fail
          refine (new_any n A3 c3 (backE es) w11 C11.out (by have := HLK.out; omega)).mono ?_
          rintro e w12 ⟨b12, ⟨_, rfl⟩ | ⟨h, _⟩⟩
          rotate_left
          · rw [code_back] at h
            exact absurd h hne
          have B12 := Aside0.mk (below_then B11.out B11.out.size b12)
          clear b12
          rw [code_back]
          obtain ⟨cd, hcd⟩ : ∃ cd, codeM n es = cd := ⟨_, rfl⟩
          rw [hcd] at hne ⊢
          clear hcd
          have n1 : (cd == 0) = false := beq_eq_false_iff_ne.2 hne
          have n2 : (cd != 0) = true := bne_iff_ne.2 hne
          go_wp2
          go_ret
          exact ⟨by first | rfl | simp [n1, n2] | simp [hne], B12.out⟩
        · have T11 := Aside0.mk T
          clear T
          go_wp2_with fail
          refine (new_any n A3 c3 (backE es) w11 C11.out (by have := HLK.out; omega)).mono ?_
          rintro e w12 ⟨b12, ⟨h, _⟩ | ⟨_, hb2, ub2, db2, rfl, T2⟩⟩
          · rw [code_back] at h
            exact absurd h0 h
          obtain ⟨m, rfl, hm0, hm8, hbad, hR⟩ := code_zero h0
          rw [Int.toNat_natCast] at T11 T2
          rw [clos_back hm8 hbad] at T2
          have B12 := Aside0.mk (below_then B11.out B11.out.size b12)
          have T12 := Aside0.mk (T11.out.below b12)
          have T22 := Aside0.mk T2
          obtain ⟨k1, k2⟩ := clos_Mk hm8 hbad
          have hL := lat_clos hm8 hbad hR
          obtain ⟨ys, zs, H, y1, y2, y3, y4⟩ := height_turn hm8 hm0 k1 k2 hL
          have HMT := Aside0.mk (most_turn hm8 k1 k2 a b)
          have HY1 := Aside0.mk y1
          have HY2 := Aside0.mk y2
          have HY3 := Aside0.mk y3
          have HY4 := Aside0.mk y4
          clear b12 T2 T11 B11 C11 h0 hbad hR k1 k2 hL y1 y2 y3 y4
          obtain ⟨us, hus⟩ : ∃ us, (closE m es).1 = us := ⟨_, rfl⟩
          obtain ⟨ds, hds⟩ : ∃ ds, (closE m es).2 = ds := ⟨_, rfl⟩
          dsimp only at T22
          rw [hus, hds] at T12 T22 HMT
          rw [hds] at HY1 HY3
          rw [hus] at HY2 HY4
          clear hus hds
          have HJ1 := join2 T12.out
          have HM1 := meet2 T12.out
          have HO1 := most2 T12.out
          have HT1 := top2 T12.out
          have HJ2 := join2 T22.out
          have HM2 := meet2 T22.out
          have HO2 := most2 T22.out
          have HB2 := bottom2 T22.out
          have D12 := Aside0.mk (Below.refl w12.heap.size w12)
          obtain ⟨z1, hz1⟩ : ∃ z, allM m us [a, b] = z := ⟨_, rfl⟩
          obtain ⟨z2, hz2⟩ : ∃ z, allM m ds [a, b] = z := ⟨_, rfl⟩
          obtain ⟨z3, hz3⟩ : ∃ z, allM m ds [] = z := ⟨_, rfl⟩
          obtain ⟨t1, ht1⟩ : ∃ z, mostM m us a b = z := ⟨_, rfl⟩
          rw [ht1] at HMT
          have HZ1 := Aside0.mk hz1
          have HZ2 := Aside0.mk hz2
          have HZ3 := Aside0.mk hz3
          have HT := Aside0.mk ht1
          clear hz1 hz2 hz3 ht1
          go_wp2_with fail
          refine (HJ1.out w12 D12.out a b _ HZ1.out).mono ?_
          rintro e w' ⟨rfl, rfl⟩
          have D13 := Aside0.mk (below_alloc D12.out (.cells #[.int .i64 a, .int .i64 b] 3))
          obtain ⟨w13, hw⟩ : ∃ W, w12.alloc (.cells #[.int .i64 a, .int .i64 b] 3) = W := ⟨_, rfl⟩
          rw [hw] at D13 ⊢
          clear hw D12
          go_wp2_with fail
          refine (HM2.out w13 D13.out a b _ HZ1.out).mono ?_
          rintro e w' ⟨rfl, rfl⟩
          have D14 := Aside0.mk (below_alloc D13.out (.cells #[.int .i64 a, .int .i64 b] 3))
          obtain ⟨w14, hw⟩ : ∃ W, w13.alloc (.cells #[.int .i64 a, .int .i64 b] 3) = W := ⟨_, rfl⟩
          rw [hw] at D14 ⊢
          clear hw D13
          go_wp2_with fail
          refine (HM1.out w14 D14.out a b _ HZ2.out).mono ?_
          rintro e w' ⟨rfl, rfl⟩
          have D15 := Aside0.mk (below_alloc D14.out (.cells #[.int .i64 a, .int .i64 b] 3))
          obtain ⟨w15, hw⟩ : ∃ W, w14.alloc (.cells #[.int .i64 a, .int .i64 b] 3) = W := ⟨_, rfl⟩
          rw [hw] at D15 ⊢
          clear hw D14
          go_wp2_with fail
          refine (HJ2.out w15 D15.out a b _ HZ2.out).mono ?_
          rintro e w' ⟨rfl, rfl⟩
          have D16 := Aside0.mk (below_alloc D15.out (.cells #[.int .i64 a, .int .i64 b] 3))
          obtain ⟨w16, hw⟩ : ∃ W, w15.alloc (.cells #[.int .i64 a, .int .i64 b] 3) = W := ⟨_, rfl⟩
          rw [hw] at D16 ⊢
          clear hw D15
          go_wp2_with fail
          refine (HO1.out w16 D16.out a b _ HT.out).mono ?_
          rintro e w' ⟨rfl, rfl⟩
          go_wp2_with fail
          refine (HO2.out w16 D16.out b a _ HMT.out).mono ?_
          rintro e w' ⟨rfl, rfl⟩
          go_wp2_with fail
          refine (height_any (T12.out.below D16.out) hm0 HY1.out).mono ?_
          rintro e w17 ⟨rfl, b16⟩
          have D17 := Aside0.mk (below_then D16.out D16.out.size b16)
          clear b16 D16
          rw [HY3.out]
          go_wp2_with fail
          refine (height_any (T22.out.below D17.out) hm0 HY2.out).mono ?_
          rintro e w18 ⟨rfl, b17⟩
          have D18 := Aside0.mk (below_then D17.out D17.out.size b17)
          clear b17 D17
          rw [HY4.out]
          go_wp2_with fail
          refine (HT1.out w18 D18.out _ HZ3.out).mono ?_
          rintro e w' ⟨rfl, rfl⟩
          go_wp2_with fail
          refine (HB2.out w18 D18.out _ HZ3.out).mono ?_
          rintro e w' ⟨rfl, rfl⟩
          go_wp2_with fail
          go_ret
          exact ⟨by first | rfl | simp, below_then B12.out B12.out.size D18.out⟩
end Go.Proofs.Ytnjfiinnidklaaa.Lat
