import Derived.Test.YtnjfiinnidklaaaJ
import Derived.Test.YtnjfiinnidklaaaL
namespace Go.Proofs.Ytnjfiinnidklaaa.Lat
open Go.RowKit Go.Proofs.YtnjfiinnidklaaaW.PrintWords Go.Proofs.YtnjfiinnidklaaaW.PrintLast Go.Proofs.YtnjfiinnidklaaaW.PrintMore Go.Proofs.Ytnjfiinnidklaaa.PLatticeNews
set_option linter.unusedVariables false
set_option linter.unusedSimpArgs false

abbrev GE (x : Int × Int) : Prop := (Lit.int .i64 x.1).wf = true ∧ (Lit.int .i64 x.2).wf = true
theorem lit2 (W : World) (x y : Int) : Kd.C (Kd.int .i64) (W.alloc (.cells #[.int .i64 x, .int .i64 y] 3)) (some ⟨W.heap.size, 0, none⟩) 2 [x, y] := C_ints _ _ [x, y] (blk_new W _) (by simp)
section
variable {w3 : World} {hb ub db m : Nat} {us ds : List Int} (T : TO w3 hb ub db m us ds)
include T
theorem join2 : Aside0 (∀ W, Below w3.heap.size w3 W → ∀ x y z : Int, allM m us [x, y] = z → Calls Try.prog 15 #[.pointer (some ⟨hb, 0, none⟩), .slice (some ⟨W.heap.size, 0, none⟩) 2 2] (W.alloc (.cells #[.int .i64 x, .int .i64 y] 3)) fun e w' => e = .returned (.int .i64 z) ∧ W.alloc (.cells #[.int .i64 x, .int .i64 y] 3) = w') :=
  ⟨fun W B x y z h => h ▸ join_any (T.below (below_alloc B _)) _ [x, y] 2 (Nat.le_refl _) (lit2 W x y) (by simp)⟩
theorem meet2 : Aside0 (∀ W, Below w3.heap.size w3 W → ∀ x y z : Int, allM m ds [x, y] = z → Calls Try.prog 17 #[.pointer (some ⟨hb, 0, none⟩), .slice (some ⟨W.heap.size, 0, none⟩) 2 2] (W.alloc (.cells #[.int .i64 x, .int .i64 y] 3)) fun e w' => e = .returned (.int .i64 z) ∧ W.alloc (.cells #[.int .i64 x, .int .i64 y] 3) = w') :=
  ⟨fun W B x y z h => h ▸ meet_any (T.below (below_alloc B _)) _ [x, y] 2 (Nat.le_refl _) (lit2 W x y) (by simp)⟩
theorem most2 : Aside0 (∀ W, Below w3.heap.size w3 W → ∀ (x y : Int) (t : Bool), mostM m us x y = t → Calls Try.prog 20 #[.pointer (some ⟨hb, 0, none⟩), .int .i64 x, .int .i64 y] W fun e w' => e = .returned (.bool t) ∧ W = w') :=
  ⟨fun W B x y t h => h ▸ most_any (T.below B) x y⟩
theorem bottom2 : Aside0 (∀ W, Below w3.heap.size w3 W → ∀ z : Int, allM m us [] = z → Calls Try.prog 29 #[.pointer (some ⟨hb, 0, none⟩)] W fun e w' => e = .returned (.int .i64 z) ∧ W = w') :=
  ⟨fun W B z h => h ▸ bottom_any (T.below B)⟩
theorem top2 : Aside0 (∀ W, Below w3.heap.size w3 W → ∀ z : Int, allM m ds [] = z → Calls Try.prog 23 #[.pointer (some ⟨hb, 0, none⟩)] W fun e w' => e = .returned (.int .i64 z) ∧ W = w') :=
  ⟨fun W B z h => h ▸ top_any (T.below B)⟩
end
set_option maxHeartbeats 4000000 in
set_option maxRecDepth 100000 in
theorem latticeAlgebra_walk (n : Int) (A : Option Addr) (cE : Nat) (es : List (Int × Int)) (a b c : Int) (w : World) (_hn : (Lit.int .i64 n).wf = true) (hr : Kd.C KE w A es.length es) (_hw : ∀ x ∈ es, GE x) (_ha : (Lit.int .i64 a).wf = true) (_hb : (Lit.int .i64 b).wf = true) (_hc : (Lit.int .i64 c).wf = true) :
    Calls Try.prog 8 #[.int .i64 n, .slice A es.length cE, .int .i64 a, .int .i64 b, .int .i64 c] w fun e w' => e = .returned (.bool true) ∧ Below w.heap.size w w' := by
  have hmax := Kd.C_max hr
  have HC := Aside0.mk hr
  clear hr _hw
  by_cases hl : 200 < es.length
  · go_enter Try.func8, Try.ntmps8
    go_wp2_with fail
    refine (alive w).mono ?_
    rintro e w1 ⟨rfl, b1⟩
    go_wp2
    go_ret
    exact ⟨rfl, b1⟩
  · go_enter Try.func8, Try.ntmps8
    go_wp2_with fail
    refine (alive w).mono ?_
    rintro e w1 ⟨rfl, b1⟩
    have B1 := Aside0.mk b1
    clear b1
    go_wp2_with fail
    refine (copies_any A cE es w1 (Kd.C_below HC.out B1.out) (by omega)).mono ?_
    rintro e w2 ⟨v, rfl, r2, b2⟩
    have B2 := Aside0.mk (below_then B1.out B1.out.size b2)
    obtain ⟨A2, c2, hv2, hl2, hC2⟩ := Kd.R_reads r2
    subst hv2
    have HC2 := Aside0.mk hC2
    clear r2 b2 hC2 B1
    go_wp2_with fail
    refine (new_any n A2 c2 es w2 HC2.out (by omega)).mono ?_
    rintro e w3 ⟨b3, h3⟩
    have B3 := Aside0.mk (below_then B2.out B2.out.size b3)
    clear b3 B2 HC2
    rcases h3 with ⟨hne, rfl⟩ | ⟨h0, hb, ub, db, rfl, T⟩
    · obtain ⟨cd, hcd⟩ : ∃ cd, codeM n es = cd := ⟨_, rfl⟩
      rw [hcd] at hne ⊢
      clear hcd
      have n1 : (cd == 0) = false := beq_eq_false_iff_ne.2 hne
      have n2 : (cd != 0) = true := bne_iff_ne.2 hne
      go_wp2
      go_ret
      exact ⟨by first | rfl | simp [n1, n2] | simp [hne], B3.out⟩
    · obtain ⟨m, rfl, hm0, hm8, hbad, hR⟩ := code_zero h0
      rw [Int.toNat_natCast] at T
      have T3 := Aside0.mk T
      have HB := Aside0.mk hbad
      have HRT := Aside0.mk hR
      clear T hbad hR h0
      by_cases g1 : a < 0
      · go_wp2
        go_ret
        exact ⟨rfl, B3.out⟩
      by_cases g2 : b < 0
      · go_wp2
        go_ret
        exact ⟨rfl, B3.out⟩
      by_cases g3 : c < 0
      · go_wp2
        go_ret
        exact ⟨rfl, B3.out⟩
      by_cases g4 : (m : Int) ≤ a
      · go_wp2
        go_ret
        exact ⟨rfl, B3.out⟩
      by_cases g5 : (m : Int) ≤ b
      · go_wp2
        go_ret
        exact ⟨rfl, B3.out⟩
      by_cases g6 : (m : Int) ≤ c
      · go_wp2
        go_ret
        exact ⟨rfl, B3.out⟩
      obtain ⟨h1, h2⟩ := clos_Mk hm8 HB.out
      obtain ⟨a, rfl⟩ := Int.eq_ofNat_of_zero_le (show 0 ≤ a by omega)
      obtain ⟨b, rfl⟩ := Int.eq_ofNat_of_zero_le (show 0 ≤ b by omega)
      obtain ⟨c, rfl⟩ := Int.eq_ofNat_of_zero_le (show 0 ≤ c by omega)
      obtain ⟨ab, bc, abc, mab, mbc, mabc, bot, top, t, F⟩ := alg hm8 h1 h2 (lat_clos hm8 HB.out HRT.out) (a := a) (b := b) (c := c) (by omega) (by omega) (by omega)
      have o2 := F.o2
      have o3 := F.o3
      have FF := Aside0.mk F
      clear h1 h2 F HB HRT
      obtain ⟨us, hus⟩ : ∃ us, (closE m es).1 = us := ⟨_, rfl⟩
      obtain ⟨ds, hds⟩ : ∃ ds, (closE m es).2 = ds := ⟨_, rfl⟩
      rw [hus, hds] at T3 FF
      clear hus hds
      have HJ := join2 T3.out
      have HM := meet2 T3.out
      have HO := most2 T3.out
      have HBo := bottom2 T3.out
      have HTo := top2 T3.out
      have D3 := Aside0.mk (Below.refl w3.heap.size w3)
      go_wp2_with fail
      refine (HJ.out w3 D3.out (a : Nat) (b : Nat) _ FF.out.j1).mono ?_
      rintro e w' ⟨rfl, rfl⟩
      have D4 := Aside0.mk (below_alloc D3.out (.cells #[.int .i64 (a : Nat), .int .i64 (b : Nat)] 3))
      obtain ⟨w4, hw⟩ : ∃ W, w3.alloc (.cells #[.int .i64 (a : Nat), .int .i64 (b : Nat)] 3) = W := ⟨_, rfl⟩
      rw [hw] at D4 ⊢
      clear hw D3
      go_wp2_with fail
      refine (HJ.out w4 D4.out (b : Nat) (a : Nat) _ FF.out.j2).mono ?_
      rintro e w' ⟨rfl, rfl⟩
      have D5 := Aside0.mk (below_alloc D4.out (.cells #[.int .i64 (b : Nat), .int .i64 (a : Nat)] 3))
      obtain ⟨w5, hw⟩ : ∃ W, w4.alloc (.cells #[.int .i64 (b : Nat), .int .i64 (a : Nat)] 3) = W := ⟨_, rfl⟩
      rw [hw] at D5 ⊢
      clear hw D4
      go_wp2_with fail
      refine (HM.out w5 D5.out (a : Nat) (b : Nat) _ FF.out.m1).mono ?_
      rintro e w' ⟨rfl, rfl⟩
      have D6 := Aside0.mk (below_alloc D5.out (.cells #[.int .i64 (a : Nat), .int .i64 (b : Nat)] 3))
      obtain ⟨w6, hw⟩ : ∃ W, w5.alloc (.cells #[.int .i64 (a : Nat), .int .i64 (b : Nat)] 3) = W := ⟨_, rfl⟩
      rw [hw] at D6 ⊢
      clear hw D5
      go_wp2_with fail
      refine (HM.out w6 D6.out (b : Nat) (a : Nat) _ FF.out.m2).mono ?_
      rintro e w' ⟨rfl, rfl⟩
      have D7 := Aside0.mk (below_alloc D6.out (.cells #[.int .i64 (b : Nat), .int .i64 (a : Nat)] 3))
      obtain ⟨w7, hw⟩ : ∃ W, w6.alloc (.cells #[.int .i64 (b : Nat), .int .i64 (a : Nat)] 3) = W := ⟨_, rfl⟩
      rw [hw] at D7 ⊢
      clear hw D6
      go_wp2_with fail
      refine (HJ.out w7 D7.out (b : Nat) (c : Nat) _ FF.out.j3).mono ?_
      rintro e w' ⟨rfl, rfl⟩
      have D8 := Aside0.mk (below_alloc D7.out (.cells #[.int .i64 (b : Nat), .int .i64 (c : Nat)] 3))
      obtain ⟨w8, hw⟩ : ∃ W, w7.alloc (.cells #[.int .i64 (b : Nat), .int .i64 (c : Nat)] 3) = W := ⟨_, rfl⟩
      rw [hw] at D8 ⊢
      clear hw D7
      go_wp2_with fail
      refine (HJ.out w8 D8.out (a : Nat) bc _ FF.out.j4).mono ?_
      rintro e w' ⟨rfl, rfl⟩
      have D9 := Aside0.mk (below_alloc D8.out (.cells #[.int .i64 (a : Nat), .int .i64 bc] 3))
      obtain ⟨w9, hw⟩ : ∃ W, w8.alloc (.cells #[.int .i64 (a : Nat), .int .i64 bc] 3) = W := ⟨_, rfl⟩
      rw [hw] at D9 ⊢
      clear hw D8
      go_wp2_with fail
      refine (HJ.out w9 D9.out (a : Nat) (b : Nat) _ FF.out.j1).mono ?_
      rintro e w' ⟨rfl, rfl⟩
      have D10 := Aside0.mk (below_alloc D9.out (.cells #[.int .i64 (a : Nat), .int .i64 (b : Nat)] 3))
      obtain ⟨w10, hw⟩ : ∃ W, w9.alloc (.cells #[.int .i64 (a : Nat), .int .i64 (b : Nat)] 3) = W := ⟨_, rfl⟩
      rw [hw] at D10 ⊢
      clear hw D9
      go_wp2_with fail
      refine (HJ.out w10 D10.out ab (c : Nat) _ FF.out.j5).mono ?_
      rintro e w' ⟨rfl, rfl⟩
      have D11 := Aside0.mk (below_alloc D10.out (.cells #[.int .i64 ab, .int .i64 (c : Nat)] 3))
      obtain ⟨w11, hw⟩ : ∃ W, w10.alloc (.cells #[.int .i64 ab, .int .i64 (c : Nat)] 3) = W := ⟨_, rfl⟩
      rw [hw] at D11 ⊢
      clear hw D10
      go_wp2_with fail
      refine (HM.out w11 D11.out (b : Nat) (c : Nat) _ FF.out.m3).mono ?_
      rintro e w' ⟨rfl, rfl⟩
      have D12 := Aside0.mk (below_alloc D11.out (.cells #[.int .i64 (b : Nat), .int .i64 (c : Nat)] 3))
      obtain ⟨w12, hw⟩ : ∃ W, w11.alloc (.cells #[.int .i64 (b : Nat), .int .i64 (c : Nat)] 3) = W := ⟨_, rfl⟩
      rw [hw] at D12 ⊢
      clear hw D11
      go_wp2_with fail
      refine (HM.out w12 D12.out (a : Nat) mbc _ FF.out.m4).mono ?_
      rintro e w' ⟨rfl, rfl⟩
      have D13 := Aside0.mk (below_alloc D12.out (.cells #[.int .i64 (a : Nat), .int .i64 mbc] 3))
      obtain ⟨w13, hw⟩ : ∃ W, w12.alloc (.cells #[.int .i64 (a : Nat), .int .i64 mbc] 3) = W := ⟨_, rfl⟩
      rw [hw] at D13 ⊢
      clear hw D12
      go_wp2_with fail
      refine (HM.out w13 D13.out (a : Nat) (b : Nat) _ FF.out.m1).mono ?_
      rintro e w' ⟨rfl, rfl⟩
      have D14 := Aside0.mk (below_alloc D13.out (.cells #[.int .i64 (a : Nat), .int .i64 (b : Nat)] 3))
      obtain ⟨w14, hw⟩ : ∃ W, w13.alloc (.cells #[.int .i64 (a : Nat), .int .i64 (b : Nat)] 3) = W := ⟨_, rfl⟩
      rw [hw] at D14 ⊢
      clear hw D13
      go_wp2_with fail
      refine (HM.out w14 D14.out mab (c : Nat) _ FF.out.m5).mono ?_
      rintro e w' ⟨rfl, rfl⟩
      have D15 := Aside0.mk (below_alloc D14.out (.cells #[.int .i64 mab, .int .i64 (c : Nat)] 3))
      obtain ⟨w15, hw⟩ : ∃ W, w14.alloc (.cells #[.int .i64 mab, .int .i64 (c : Nat)] 3) = W := ⟨_, rfl⟩
      rw [hw] at D15 ⊢
      clear hw D14
      go_wp2_with fail
      refine (HM.out w15 D15.out (a : Nat) (b : Nat) _ FF.out.m1).mono ?_
      rintro e w' ⟨rfl, rfl⟩
      have D16 := Aside0.mk (below_alloc D15.out (.cells #[.int .i64 (a : Nat), .int .i64 (b : Nat)] 3))
      obtain ⟨w16, hw⟩ : ∃ W, w15.alloc (.cells #[.int .i64 (a : Nat), .int .i64 (b : Nat)] 3) = W := ⟨_, rfl⟩
      rw [hw] at D16 ⊢
      clear hw D15
      go_wp2_with fail
      refine (HJ.out w16 D16.out (a : Nat) mab _ FF.out.j6).mono ?_
      rintro e w' ⟨rfl, rfl⟩
      have D17 := Aside0.mk (below_alloc D16.out (.cells #[.int .i64 (a : Nat), .int .i64 mab] 3))
      obtain ⟨w17, hw⟩ : ∃ W, w16.alloc (.cells #[.int .i64 (a : Nat), .int .i64 mab] 3) = W := ⟨_, rfl⟩
      rw [hw] at D17 ⊢
      clear hw D16
      go_wp2_with fail
      refine (HJ.out w17 D17.out (a : Nat) (b : Nat) _ FF.out.j1).mono ?_
      rintro e w' ⟨rfl, rfl⟩
      have D18 := Aside0.mk (below_alloc D17.out (.cells #[.int .i64 (a : Nat), .int .i64 (b : Nat)] 3))
      obtain ⟨w18, hw⟩ : ∃ W, w17.alloc (.cells #[.int .i64 (a : Nat), .int .i64 (b : Nat)] 3) = W := ⟨_, rfl⟩
      rw [hw] at D18 ⊢
      clear hw D17
      go_wp2_with fail
      refine (HM.out w18 D18.out (a : Nat) ab _ FF.out.m6).mono ?_
      rintro e w' ⟨rfl, rfl⟩
      have D19 := Aside0.mk (below_alloc D18.out (.cells #[.int .i64 (a : Nat), .int .i64 ab] 3))
      obtain ⟨w19, hw⟩ : ∃ W, w18.alloc (.cells #[.int .i64 (a : Nat), .int .i64 ab] 3) = W := ⟨_, rfl⟩
      rw [hw] at D19 ⊢
      clear hw D18
      go_wp2_with fail
      refine (HO.out w19 D19.out a b _ FF.out.o1).mono ?_
      rintro e w' ⟨rfl, rfl⟩
      go_wp2_with fail
      refine (HJ.out w19 D19.out (a : Nat) (b : Nat) _ FF.out.j1).mono ?_
      rintro e w' ⟨rfl, rfl⟩
      have D20 := Aside0.mk (below_alloc D19.out (.cells #[.int .i64 (a : Nat), .int .i64 (b : Nat)] 3))
      obtain ⟨w20, hw⟩ : ∃ W, w19.alloc (.cells #[.int .i64 (a : Nat), .int .i64 (b : Nat)] 3) = W := ⟨_, rfl⟩
      rw [hw] at D20 ⊢
      clear hw D19
      go_wp2_with fail
      refine (HO.out w20 D20.out a b _ FF.out.o1).mono ?_
      rintro e w' ⟨rfl, rfl⟩
      go_wp2_with fail
      refine (HM.out w20 D20.out (a : Nat) (b : Nat) _ FF.out.m1).mono ?_
      rintro e w' ⟨rfl, rfl⟩
      have D21 := Aside0.mk (below_alloc D20.out (.cells #[.int .i64 (a : Nat), .int .i64 (b : Nat)] 3))
      obtain ⟨w21, hw⟩ : ∃ W, w20.alloc (.cells #[.int .i64 (a : Nat), .int .i64 (b : Nat)] 3) = W := ⟨_, rfl⟩
      rw [hw] at D21 ⊢
      clear hw D20
      go_wp2_with fail
      refine (HBo.out w21 D21.out _ FF.out.b1).mono ?_
      rintro e w' ⟨rfl, rfl⟩
      go_wp2_with fail
      refine (HO.out w21 D21.out bot a _ FF.out.b2).mono ?_
      rintro e w' ⟨rfl, rfl⟩
      go_wp2_with fail
      refine (HTo.out w21 D21.out _ FF.out.t1).mono ?_
      rintro e w' ⟨rfl, rfl⟩
      go_wp2_with fail
      refine (HO.out w21 D21.out a top _ FF.out.t2).mono ?_
      rintro e w' ⟨rfl, rfl⟩
      go_wp2_with fail
      go_ret
      exact ⟨by first | rfl | simp, below_then B3.out B3.out.size D21.out⟩
end Go.Proofs.Ytnjfiinnidklaaa.Lat
