import Derived.Test.YthkndoglmajehaaDoorM
import Derived.Test.YthkndoglmajehaaDoorQ
import Derived.IntWalk
namespace Go.Proofs.YthkndoglmajehaaDoor.Lex
open Go.RowKit Go.Proofs.YthkndoglmajehaaDoorW.PrintWords Go.Proofs.YthkndoglmajehaaDoorW.PrintLast Go.Proofs.YthkndoglmajehaaDoorW.PrintMore Go.Proofs.YthkndoglmajehaaDoor.PLexTokens
set_option linter.unusedVariables false
set_option linter.unusedSimpArgs false

theorem rd_nat (ts : List S31) (k : Nat) (h : k < ts.length) : rd_T31 ts (k : Nat) = ts[k] := by
  unfold rd_T31
  rw [Int.toNat_natCast, List.getD_eq_getElem?_getD, List.getElem?_eq_getElem h]
  rfl
set_option maxHeartbeats 8000000 in
set_option maxRecDepth 100000 in
theorem lexCuts_walk (s : ByteArray) (k : Int) (w : World) (hm : ML w) (hs : s.size ≤ 140737488351232) (hwk : (Lit.int .i64 k).wf = true) :
    Calls Tryd.prog 7 #[.string s, .int .i64 k] w fun e w' => e = .returned (.bool true) ∧ Below w.heap.size w w' := by
  have HM := Aside0.mk hm
  clear hm hwk
  by_cases hbig : 10000 < s.size
  · go_enter Tryd.func7, Tryd.ntmps7
    go_wp2_with fail
    refine (alive _ HM.out).mono ?_
    rintro e w1 ⟨rfl, b1⟩
    go_wp2_with fail
    go_ret
    exact ⟨rfl, b1⟩
  · have ht : toks s.data.toList = (run s.data.toList 0 0).out := by unfold toks; rw [size_list, if_neg (by omega)]
    have hlen := toks_len s.data.toList
    rw [size_list] at hlen
    obtain ⟨l, hl⟩ : ∃ l, s.data.toList = l := ⟨_, rfl⟩
    have hll := size_list s
    rw [hl] at ht hlen hll
    have HL := Aside0.mk hl
    have HLL := Aside0.mk hll
    clear hl hll
    cases hr : run l 0 0 with
    | bad a er =>
      have hne := run_bad_ne l 0 0 a er hr
      have HR : Aside0 (toks l = ([], (a : Int), er)) := ⟨by rw [ht, hr]; rfl⟩
      have hb : (er != 0) = true := bne_iff_ne.2 hne
      clear hr ht hne hlen
      go_enter Tryd.func7, Tryd.ntmps7
      go_wp2_with fail
      refine (alive _ HM.out).mono ?_
      rintro e w1 ⟨rfl, b1⟩
      have B1 := Aside0.mk b1
      have HM1 := Aside0.mk (HM.out.next b1)
      clear b1
      go_wp2_with fail
      refine (tok_any s _ HM1.out (by omega)).mono ?_
      rintro e w2 ⟨A, c, rfl, _, _, b2⟩
      rw [HL.out, HR.out]
      have B2 := Aside0.mk (below_then B1.out B1.out.size b2)
      clear b2
      go_wp2_with fail
      go_ret
      exact ⟨rfl, B2.out⟩
    | ok ts =>
      have HT : Aside0 (toks l = (ts, 0, 0)) := ⟨by rw [ht, hr]; rfl⟩
      rw [HT.out] at hlen
      dsimp only at hlen
      have HRN := Aside0.mk hr
      clear hr ht
      have common : True := trivial
      by_cases hk0 : k < 0
      · have d1 : decide (k < 0) = true := decide_eq_true hk0
        go_enter Tryd.func7, Tryd.ntmps7
        go_wp2_with fail
        refine (alive _ HM.out).mono ?_
        rintro e w1 ⟨rfl, b1⟩
        have B1 := Aside0.mk b1
        have HM1 := Aside0.mk (HM.out.next b1)
        clear b1
        go_wp2_with fail
        refine (tok_any s _ HM1.out (by omega)).mono ?_
        rintro e w2 ⟨A, c, rfl, _, hC, b2⟩
        rw [HL.out, HT.out]
        have B2 := Aside0.mk (below_then B1.out B1.out.size b2)
        clear b2 hC B1 HM1
        go_wp2_with fail
        go_ret
        exact ⟨rfl, B2.out⟩
      by_cases hk1 : (ts.length : Int) ≤ k
      · go_enter Tryd.func7, Tryd.ntmps7
        go_wp2_with fail
        refine (alive _ HM.out).mono ?_
        rintro e w1 ⟨rfl, b1⟩
        have B1 := Aside0.mk b1
        have HM1 := Aside0.mk (HM.out.next b1)
        clear b1
        go_wp2_with fail
        refine (tok_any s _ HM1.out (by omega)).mono ?_
        rintro e w2 ⟨A, c, rfl, _, hC, b2⟩
        rw [HL.out, HT.out]
        have B2 := Aside0.mk (below_then B1.out B1.out.size b2)
        clear b2 hC B1 HM1
        go_wp2_with fail
        go_ret
        exact ⟨rfl, B2.out⟩
      obtain ⟨m, rfl⟩ : ∃ m : Nat, k = m := ⟨k.toNat, by omega⟩
      have hmt : m < ts.length := by omega
      obtain ⟨q1, q2, q3⟩ := run_cuts l 0 0 ts HRN.out m hmt
      have hrd := rd_nat ts m hmt
      obtain ⟨t, hT⟩ : ∃ t, ts[m] = t := ⟨_, rfl⟩
      rw [hT] at q1 q2 q3 hrd
      obtain ⟨f0, x, f2⟩ := t
      dsimp only at q1 q2 q3
      obtain ⟨q, rfl⟩ : ∃ q : Nat, f2 = q := ⟨f2.toNat, by omega⟩
      rw [Int.toNat_natCast, HLL.out] at q2
      rw [Int.toNat_natCast, Nat.sub_zero] at q3
      have hxe : (s.extract 0 (q + x.size)).data.toList = l.take (q + x.size) := by rw [Lib.extract_data, HL.out]; simp
      have hxs : (s.extract 0 (q + x.size)).size ≤ 10000 := by rw [← size_list, hxe, List.length_take, HLL.out]; omega
      have HT2 : Aside0 (toks (s.extract 0 (q + x.size)).data.toList = (ts.take (m + 1), 0, 0)) := ⟨by
        unfold toks
        rw [size_list, if_neg (by omega), hxe, q3]; rfl⟩
      obtain ⟨y, hy⟩ : ∃ y, s.extract 0 (q + x.size) = y := ⟨_, rfl⟩
      rw [hy] at hxs HT2
      have HXS := Aside0.mk hxs
      have HRD := Aside0.mk hrd
      have z6 : IntKind.i64.wrap ((q : Int) + (x.size : Int)) = (q : Int) + (x.size : Int) := IntWalk.i64_in _ (by omega)
      have z1 : (0 : Int) ≤ (m : Int) := by omega
      have z2 : (m : Int) < ts.length := by omega
      have z3 : ¬ ts.length ≤ m := by omega
      have z4 : q + x.size ≤ s.size := by omega
      have z5 : ((q : Int) + (x.size : Int)) ≤ s.size := by omega
      have hm1 : m + 1 ≤ ts.length := by omega
      have hm2 : (ts.take (m + 1)).length = m + 1 := by rw [List.length_take]; omega
      have HM12 := Aside0.mk hm2
      clear hT q1 q2 q3 hrd hk0 hk1 hxe hxs hm2
      go_enter Tryd.func7, Tryd.ntmps7
      go_wp2_with fail
      refine (alive _ HM.out).mono ?_
      rintro e w1 ⟨rfl, b1⟩
      have B1 := Aside0.mk b1
      have HM1 := Aside0.mk (HM.out.next b1)
      clear b1
      go_wp2_with fail
      refine (tok_any s _ HM1.out (by omega)).mono ?_
      rintro e w2 ⟨A, c, rfl, hlc, hC, b2⟩
      rw [HL.out, HT.out] at hC hlc ⊢
      have B2 := Aside0.mk (below_then B1.out B1.out.size b2)
      have HM2 := Aside0.mk (HM1.out.next b2)
      obtain ⟨ad, e1, x0, x1, x2⟩ := at_T31 hC (m : Nat) (by omega) (by omega)
      cases e1
      rw [HRD.out, Int.toNat_natCast] at x0 x1 x2
      dsimp only at x0 x1 x2 hlc
      have HC2 := Aside0.mk hC
      clear b2 hC B1 HM1
      go_wp2
      go_quiet (fail)
      go_wp2_with fail
      refine (tok_any y _ (HM2.out.below (pw_below_drewN (Below.refl w2.heap.size w2) _) HM2.out.pos (by simp)) (Nat.le_trans HXS.out (by decide))).mono ?_
      rintro e w3 ⟨A3, c3, rfl, hlc3, hC3, b3⟩
      rw [HT2.out] at hC3 ⊢
      have B3 := Aside0.mk (below_then (pw_below_drewN B2.out _) (by have := B2.out.size; simp; omega) b3)
      have HC3 := Aside0.mk (Kd.C_take (Kd.C_below HC2.out (below_then (pw_below_drewN (Below.refl w2.heap.size w2) nq) (by simp) b3)) hm1)
      have HD3 := Aside0.mk hC3
      clear b3 hC3 HC2
      obtain ⟨us, hus⟩ : ∃ us, ts.take (m + 1) = us := ⟨_, rfl⟩
      rw [hus] at HM12 HC3 HD3 ⊢
      have HCA : Aside0 (Kd.C k31 w3 (some ad) (m + 1) us) := ⟨by rw [← HM12.out]; exact HC3.out⟩
      clear hus hlc3
      go_wp2_with fail
      have H := same_any A3 (some ad) c3 c us w3 HD3.out HC3.out (by rw [HM12.out]; omega)
      rw [HM12.out] at H ⊢
      refine H.mono ?_
      clear H
      rintro e w4 ⟨rfl, b4⟩
      have B4 := Aside0.mk (below_then B3.out B3.out.size b4)
      clear b4
      go_wp2_with fail
      go_ret
      exact ⟨rfl, B4.out⟩
end Go.Proofs.YthkndoglmajehaaDoor.Lex
