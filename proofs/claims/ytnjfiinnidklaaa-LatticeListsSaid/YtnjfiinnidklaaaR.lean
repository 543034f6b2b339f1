import Derived.Test.YtnjfiinnidklaaaM
import Derived.Test.YtnjfiinnidklaaaQ
import Derived.Deep.RegionLaw
namespace Go.Proofs.Ytnjfiinnidklaaa.Lat
open Go.RowKit Go.Proofs.YtnjfiinnidklaaaW.PrintWords Go.Proofs.YtnjfiinnidklaaaW.PrintLast Go.Proofs.YtnjfiinnidklaaaW.PrintMore Go.Proofs.Ytnjfiinnidklaaa.PLatticeNews
set_option linter.unusedVariables false
set_option linter.unusedSimpArgs false

/-! ### SameInts -/
theorem same_loop (a b : List Int) (hl : a.length = b.length) (hm : a.length ≤ 9223372036854775800) : ∀ (d k i : Nat), i + d = a.length → d < k → portcullisref00_SameInts.l0 k a b (i : Int) = some (decide (a.drop i = b.drop i)) := by
  intro d
  induction d with
  | zero =>
    intro k i hi hk
    obtain ⟨k, rfl⟩ : ∃ m, k = m + 1 := ⟨k - 1, by omega⟩
    simp only [portcullisref00_SameInts.l0]
    rw [if_neg (by omega), List.drop_eq_nil_of_le (by omega), List.drop_eq_nil_of_le (by omega)]
    rfl
  | succ d ih =>
    intro k i hi hk
    obtain ⟨k, rfl⟩ : ∃ m, k = m + 1 := ⟨k - 1, by omega⟩
    simp only [portcullisref00_SameInts.l0]
    rw [if_pos (by omega), if_pos (by omega), if_pos (by omega)]
    have ha : a.drop i = rd a i :: a.drop (i + 1) := by
      rw [List.drop_eq_getElem_cons (by omega)]
      simp [rd, List.getD_eq_getElem?_getD, List.getElem?_eq_getElem (show i < a.length by omega)]
    have hb : b.drop i = rd b i :: b.drop (i + 1) := by
      rw [List.drop_eq_getElem_cons (by omega)]
      simp [rd, List.getD_eq_getElem?_getD, List.getElem?_eq_getElem (show i < b.length by omega)]
    have hw : wrap64 ((i : Int) + 1) = ((i + 1 : Nat) : Int) := by unfold wrap64; omega
    by_cases c : rd a i = rd b i
    · rw [if_pos c, hw, ih k (i + 1) (by omega) (by omega), ha, hb, c]
      simp
    · rw [if_neg c, ha, hb]
      simp [c]
theorem same_ints (a b : List Int) (hm : a.length ≤ 9223372036854775800) : portcullisref00_SameInts.f (a.length + 1) a b = some (decide (a = b)) := by
  unfold portcullisref00_SameInts.f
  by_cases h : a.length = b.length
  · rw [if_pos (by omega)]
    have := same_loop a b h hm a.length (a.length + 1) 0 (by omega) (by omega)
    simpa using this
  · rw [if_neg (by omega)]
    have : ¬ a = b := fun e => h (by rw [e])
    simp [this]
theorem sameInts_any (a b : List Int) (A B : Option Addr) (ca cb : Nat) (w : World) (ha : Kd.C (Kd.int .i64) w A a.length a) (hca : a.length ≤ ca) (hb : Kd.C (Kd.int .i64) w B b.length b) (hcb : b.length ≤ cb) (hm : a.length ≤ 1000000) :
    Calls Try.prog 19 #[.slice A a.length ca, .slice B b.length cb] w fun e w' => e = .returned (.bool (decide (a = b))) ∧ Drawn0 w w' :=
  portcullisref00_SameInts.calls (a.length + 1) A ca a B cb b _ w ha hca hb hcb (same_ints a b (by omega))

theorem take_succE {α : Type} (f : Int × Int → List α) (es : List (Int × Int)) (k : Nat) (h : k < es.length) : (es.take (k + 1)).flatMap f = (es.take k).flatMap f ++ f (rdE es k) := by
  rw [List.take_add_one, List.flatMap_append]
  simp [rdE, List.getD_eq_getElem?_getD, List.getElem?_eq_getElem h]
theorem flat_take {α β : Type} (f : α → List β) (es : List α) (k : Nat) : ((es.take k).flatMap f).length ≤ (es.flatMap f).length := by
  have : es.flatMap f = (es.take k).flatMap f ++ (es.drop k).flatMap f := by rw [← List.flatMap_append, List.take_append_drop]
  rw [this, List.length_append]
  omega
def compP (es : List (Int × Int)) (e : Int × Int) (q : Nat) : List (Int × Int) := ((es.take q).filter (fun f => e.2 == f.1)).map (fun f => (e.1, f.2))
theorem compP_succ (es : List (Int × Int)) (e : Int × Int) (q : Nat) (h : q < es.length) : compP es e (q + 1) = compP es e q ++ if e.2 == (rdE es q).1 then [(e.1, (rdE es q).2)] else [] := by
  unfold compP
  rw [List.take_add_one, List.filter_append, List.map_append]
  congr 1
  simp only [rdE, List.getD_eq_getElem?_getD, List.getElem?_eq_getElem h, Option.toList_some, Option.getD_some]
  by_cases c : (e.2 == es[q].1) = true
  · simp [List.filter_cons, c]
  · simp [List.filter_cons, c]
theorem compP_all (es : List (Int × Int)) (e : Int × Int) (q : Nat) (h : es.length ≤ q) : compP es e q = compOf es e := by
  unfold compP compOf
  rw [List.take_of_length_le h]
set_option maxHeartbeats 4000000 in
set_option maxRecDepth 100000 in
theorem latticeAgain_walk (n : Int) (A : Option Addr) (cE : Nat) (es : List (Int × Int)) (w : World) (_hn : (Lit.int .i64 n).wf = true) (hr : Kd.C KE w A es.length es) (_hw : ∀ x ∈ es, (Lit.int .i64 x.1).wf = true ∧ (Lit.int .i64 x.2).wf = true) :
    Calls Try.prog 5 #[.int .i64 n, .slice A es.length cE] w fun e w' => e = .returned (.bool true) ∧ Below w.heap.size w w' := by
  have hmax := Kd.C_max hr
  have HC := Aside0.mk hr
  clear hr _hw
  by_cases hl : 100 < es.length
  · go_enter Try.func5, Try.ntmps5
    go_wp2_with fail
    refine (alive w).mono ?_
    rintro e w1 ⟨rfl, b1⟩
    go_wp2
    go_ret
    exact ⟨rfl, b1⟩
  · go_enter Try.func5, Try.ntmps5
    go_wp2_with fail
    refine (alive w).mono ?_
    rintro e w1 ⟨rfl, b1⟩
    have B1 := Aside0.mk b1
    clear b1
    go_wp2_with fail
    refine (copies_any A cE es w1 (Kd.C_below HC.out B1.out) (by omega)).mono ?_
    rintro e w2 ⟨v, rfl, r2, b2⟩
    have R2 := Aside0.mk r2
    have B2 := Aside0.mk b2
    have s1 := B1.out.size
    clear r2 b2
    go_wp2_with fail
    go_loopw [5, 6] (fun v i wr => ∃ k : Nat, i = .int .i64 k ∧ k ≤ es.length ∧ Aside0 (KE.R 41 wr w1.heap.size (fun _ => True) v (es ++ (es.take k).flatMap (compOf es))) ∧ Aside0 (Below w1.heap.size w1 wr)) (fun v i _ => es.length - (intOf i).toNat)
    case atStart => exact ⟨0, rfl, Nat.zero_le _, ⟨by simpa using R2.out⟩, B2⟩
    case round =>
      clear R2 B2
      obtain ⟨k, rfl, hk, R, B⟩ := hrel
      obtain ⟨A3, c3, rfl, hl3, hC3⟩ := Kd.R_reads R.out
      clear hC3
      obtain ⟨wo, rfl⟩ : ∃ wo : World, wo = wr := ⟨_, rfl⟩
      by_cases hke : k < es.length
      · have HTS := Aside0.mk (take_succE (compOf es) es k hke)
        obtain ⟨xs, hxs⟩ : ∃ xs, es ++ (es.take k).flatMap (compOf es) = xs := ⟨_, rfl⟩
        have HXS := Aside0.mk hxs
        rw [hxs] at R hl3 ⊢
        clear hxs
        obtain ⟨e, he⟩ : ∃ e, rdE es k = e := ⟨_, rfl⟩
        have HE := Aside0.mk he
        rw [he] at HTS
        clear he
        obtain ⟨n3, hn3⟩ : ∃ n, xs.length = n := ⟨_, rfl⟩
        have HN3 := Aside0.mk hn3
        rw [hn3] at hl3 R ⊢
        clear hn3
        go_wp2_with fail
        go_loopw [5, 7] (fun v j wr => ∃ q : Nat, j = .int .i64 q ∧ q ≤ es.length ∧ Aside0 (KE.R 41 wr w1.heap.size (fun _ => True) v (xs ++ compP es e q)) ∧ Aside0 (Below w1.heap.size w1 wr)) (fun v j _ => es.length - (intOf j).toNat)
        case atStart => exact ⟨0, rfl, Nat.zero_le _, ⟨by simpa [compP] using R.out⟩, B⟩
        case round =>
          clear R B
          obtain ⟨q, rfl, hq, R, B⟩ := hrel
          obtain ⟨A4, c4, rfl, hl4, hC4⟩ := Kd.R_reads R.out
          clear hC4
          obtain ⟨n4, hn4⟩ : ∃ n, (xs ++ compP es e q).length = n := ⟨_, rfl⟩
          have HN4 := Aside0.mk hn4
          rw [hn4] at hl4 R ⊢
          clear hn4
          obtain ⟨wi, rfl⟩ : ∃ wi : World, wi = wr := ⟨_, rfl⟩
          by_cases hqe : q < es.length
          · have HCS := Aside0.mk (compP_succ es e q hqe)
            have HCW := Kd.C_below HC.out (below_then B1.out s1 B.out)
            obtain ⟨ad, eA, c0, c1⟩ := at_E HCW k hke
            obtain ⟨ad2, eA2, d0, d1⟩ := at_E HCW q hqe
            subst eA
            obtain rfl : ad = ad2 := by injection eA2
            rw [HE.out] at c0 c1
            obtain ⟨f, hf⟩ : ∃ f, rdE es q = f := ⟨_, rfl⟩
            rw [hf] at d0 d1 HCS
            clear eA2 hf HCW
            have HL : Aside0 ((xs ++ compP es e q).length ≤ 200000) := ⟨by
              rw [← HXS.out]
              have h1 := more_len es
              rw [moreE, List.length_append, List.length_append] at h1
              have h2 := flat_take (compOf es) es k
              have h3 : (compP es e q).length ≤ es.length := by
                rw [compP, List.length_map]
                exact Nat.le_trans (List.length_filter_le _ _) (by rw [List.length_take]; omega)
              have h4 : es.length * es.length ≤ 100 * 100 := Nat.mul_le_mul (by omega) (by omega)
              rw [List.length_append, List.length_append]
              omega⟩
            by_cases hp : (e.2 == f.1) = true
            · have hp2 : e.2 = f.1 := by simpa using hp
              have HCT : Aside0 (compP es e (q + 1) = compP es e q ++ [(e.1, f.2)]) := ⟨by rw [HCS.out, if_pos hp]⟩
              obtain ⟨a, ha⟩ : ∃ a, e.1 = a := ⟨_, rfl⟩
              obtain ⟨b, hb⟩ : ∃ a, f.2 = a := ⟨_, rfl⟩
              obtain ⟨c, hc⟩ : ∃ a, f.1 = a := ⟨_, rfl⟩
              rw [ha, hb] at HCT
              rw [ha] at c0
              rw [hb] at d1
              rw [hp2, hc] at c1
              rw [hc] at d0
              clear ha hb hc hp hp2 HCS
              go_wp2_with fail
              go_quiet (fail)
              go_wp2_with fail
              have DI : Drawn0 wi (wi.drewN (nq + 1)) := Drawn0.step (Drawn0.refl wi) (nq + 1)
              have BB := Aside0.mk (below_then B.out B.out.size DI.below)
              have RR := Aside0.mk (Kd.R_mono (Kd.R_old R.out DI.below) (fun _ hk => hk.1))
              go_region_law ((refine Kd.R_append_step KE w1.heap.size rfl (.tmp 44) (.tmp 56) 22 41 _ 16 rfl Try.underlying22 info41 rfl (by decide) (by decide) (.slice A4 n4 c4) (xs ++ compP es e q) (a, b) [.int .i64 a, .int .i64 b] (fun _ => True) (fun _ => False) rfl rfl ⟨[.int .i64 a], [.int .i64 b], rfl, rfl, rfl⟩ (fun _ h => h.elim) (fun _ _ => trivial) RR.out BB.out BB.out.size (by have := HL.out; omega) ?_); intro v9 w9 hv9 hb9 hg9 hat9)
              all_goals (
                have HV9 := Aside0.mk hv9
                have HB9 := Aside0.mk hb9
                clear hv9 hb9 hg9 hat9
                go_wp2_with fail
                go_roundw
                case rel => exact ⟨q + 1, by go_num, by omega, ⟨by rw [HCT.out, ← List.append_assoc]; exact HV9.out⟩, HB9⟩
                case measure => simp [intOf]; omega)
            · obtain hp : (e.2 == f.1) = false := by simpa using hp
              have HCT : Aside0 (compP es e (q + 1) = compP es e q) := ⟨by rw [HCS.out, hp]; simp⟩
              have hp2 : ¬ e.2 = f.1 := by simpa using hp
              obtain ⟨a, ha⟩ : ∃ a, e.2 = a := ⟨_, rfl⟩
              obtain ⟨c, hc⟩ : ∃ a, f.1 = a := ⟨_, rfl⟩
              rw [ha] at c1 hp hp2
              rw [hc] at d0 hp hp2
              clear ha hc HCS
              go_wp2_with fail
              go_quiet (fail)
              go_wp2_with fail
              go_roundw
              case rel => exact ⟨q + 1, by go_num, by omega, ⟨by rw [HCT.out]; exact Kd.R_mono (Kd.R_old R.out (Drawn0.step (Drawn0.refl wi) nq).below) (fun _ hk => hk.1)⟩, ⟨below_then B.out B.out.size (Drawn0.step (Drawn0.refl wi) nq).below⟩⟩
              case measure => simp [intOf]; omega
          · have HCA : Aside0 (xs ++ compP es e q = es ++ (es.take (k + 1)).flatMap (compOf es)) := ⟨by rw [HTS.out, compP_all es e q (by omega), ← List.append_assoc, HXS.out]⟩
            go_wp2_with fail
            go_roundw
            case rel => exact ⟨k + 1, by go_num, by omega, ⟨by rw [← HCA.out]; exact R.out⟩, B⟩
            case measure => simp [intOf]; omega
      · have HXA : Aside0 (es ++ (es.take k).flatMap (compOf es) ++ es = moreE es) := ⟨by rw [List.take_of_length_le (by omega)]; rfl⟩
        have HML := more_len es
        obtain ⟨xs, hxs⟩ : ∃ xs, es ++ (es.take k).flatMap (compOf es) = xs := ⟨_, rfl⟩
        rw [hxs] at R hl3 HXA ⊢
        clear hxs
        have HLM : (moreE es).length ≤ 10200 := Nat.le_trans HML (by
          have : es.length * es.length ≤ 100 * 100 := Nat.mul_le_mul (by omega) (by omega)
          omega)
        have HLX : xs.length + es.length = (moreE es).length := by rw [← HXA.out, List.length_append]
        have hlx2 : xs.length + es.length ≤ 10200 := by omega
        have HLX2 := Aside0.mk HLM
        clear HML HLM HLX
        have HCW := Aside0.mk (Kd.C_below HC.out (below_then B1.out s1 B.out))
        go_wp2_with (at_builtin; go_loud (refine Kd.R_append_rows KE w1.heap.size rfl (.tmp 58) (.tmp 59) 22 41 _ 16 rfl Try.underlying22 info41 rfl (by decide) (by decide) (.slice A3 xs.length c3) xs es A es.length cE (fun _ => True) (fun _ => False) rfl rfl R.out HCW.out (fun x cs h => h) (fun _ h => h.elim) (fun _ _ => trivial) B.out B.out.size (by omega) ?_; intro v9 w9 hv9 hb9 hg9 hat9))
        rw [HXA.out] at hv9
        obtain ⟨A9, c9, e9, hl9, hC9⟩ := Kd.R_reads hv9
        subst e9
        have C9 := Aside0.mk hC9
        have B9 := Aside0.mk (below_then B1.out s1 hb9)
        clear hv9 hb9 hg9 hat9 hC9 R B HCW
        go_wp2_with fail
        refine (copies_any A cE es w9 (Kd.C_below HC.out B9.out) (by omega)).mono ?_
        rintro e w10 ⟨vv, rfl, r10, b10⟩
        obtain ⟨A10, c10, e10, hl10, hC10⟩ := Kd.R_reads r10
        subst e10
        have B10 := Aside0.mk (below_then B9.out B9.out.size b10)
        have C10 := Aside0.mk hC10
        have C9' := Aside0.mk (Kd.C_below C9.out b10)
        clear r10 b10 hC10 B9 C9
        go_wp2_with fail
        refine (new_any n A10 c10 es w10 C10.out (by omega)).mono ?_
        rintro e w11 ⟨b11, h11⟩
        have B11 := Aside0.mk (below_then B10.out B10.out.size b11)
        have C11 := Aside0.mk (Kd.C_below C9'.out b11)
        clear b11 B10 C10 C9'
        rcases h11 with ⟨hne, rfl⟩ | ⟨h0, hb, ub, db, rfl, T⟩
        · go_wp2_with fail
          refine (new_any n A9 c9 (moreE es) w11 C11.out (by have := HLX2.out; omega)).mono ?_
          rintro e w12 ⟨b12, ⟨_, rfl⟩ | ⟨h, _⟩⟩
          rotate_left
          · rw [code_more] at h
            exact absurd h hne
          have B12 := Aside0.mk (below_then B11.out B11.out.size b12)
          clear b12
          rw [code_more]
          obtain ⟨cd, hcd⟩ : ∃ cd, codeM n es = cd := ⟨_, rfl⟩
          rw [hcd] at hne ⊢
          clear hcd
          have n1 : (cd == 0) = false := beq_eq_false_iff_ne.2 hne
          have n2 : (cd != 0) = true := bne_iff_ne.2 hne
          go_wp2
          go_ret
          exact ⟨by first | rfl | simp [n1, n2] | simp [hne], B12.out⟩
        · have T11 := Aside0.mk T
          have H0 := Aside0.mk h0
          clear T
          go_wp2_with fail
          refine (new_any n A9 c9 (moreE es) w11 C11.out (by have := HLX2.out; omega)).mono ?_
          rintro e w12 ⟨b12, ⟨h, _⟩ | ⟨_, hb2, ub2, db2, rfl, T2⟩⟩
          · rw [code_more] at h
            exact absurd h0 h
          obtain ⟨m, rfl, hm0, hm8, hbad, hR⟩ := code_zero h0
          rw [Int.toNat_natCast] at T11 T2
          rw [clos_more hm8 hbad] at T2
          have B12 := Aside0.mk (below_then B11.out B11.out.size b12)
          have T12 := Aside0.mk (T11.out.below b12)
          have T22 := Aside0.mk T2
          obtain ⟨k1, k2⟩ := clos_Mk hm8 hbad
          obtain ⟨ys, hys, _⟩ := chain_all hm8 k2 (lat_clos hm8 hbad hR)
          have HY := Aside0.mk hys
          have HYL := Aside0.mk (chainF_len hys)
          clear b12 T2 T11 B11 C11 h0 H0 hbad hR k1 k2 hys
          obtain ⟨us, hus⟩ : ∃ us, (closE m es).1 = us := ⟨_, rfl⟩
          obtain ⟨ds, hds⟩ : ∃ ds, (closE m es).2 = ds := ⟨_, rfl⟩
          rw [hus, hds] at T12 T22
          rw [hds] at HY
          clear hus hds
          have HJ1 := join2 T12.out
          have HJ2 := join2 T22.out
          have HO1 := most2 T12.out
          have HO2 := most2 T22.out
          go_wp2_with fail
          go_loopw [12] (fun i wr => ∃ a : Nat, i = .int .i64 a ∧ a ≤ m ∧ Aside0 (Below w12.heap.size w12 wr)) (fun i _ => m - (intOf i).toNat)
          case atStart => exact ⟨0, rfl, Nat.zero_le _, ⟨Below.refl _ _⟩⟩
          case round =>
            obtain ⟨a, rfl, ha, D⟩ := hrel
            obtain ⟨wo, rfl⟩ : ∃ wo : World, wo = wr := ⟨_, rfl⟩
            by_cases ham : a < m
            · go_wp2_with fail
              go_loopw [13] (fun i wr => ∃ b : Nat, i = .int .i64 b ∧ b ≤ m ∧ Aside0 (Below w12.heap.size w12 wr)) (fun i _ => m - (intOf i).toNat)
              case atStart => exact ⟨0, rfl, Nat.zero_le _, D⟩
              case round =>
                clear D
                obtain ⟨b, rfl, hb3, D3⟩ := hrel
                obtain ⟨w3, rfl⟩ : ∃ w3 : World, w3 = wr := ⟨_, rfl⟩
                by_cases hbm : b < m
                · obtain ⟨t, ht⟩ : ∃ t, mostM m us a b = t := ⟨_, rfl⟩
                  obtain ⟨z, hz⟩ : ∃ z, allM m us [(a : Int), (b : Int)] = z := ⟨_, rfl⟩
                  have HT := Aside0.mk ht
                  have HZ := Aside0.mk hz
                  clear ht hz
                  go_wp2_with fail
                  refine (HO1.out w3 D3.out a b _ HT.out).mono ?_
                  rintro e w' ⟨rfl, rfl⟩
                  go_wp2_with fail
                  refine (HO2.out w3 D3.out a b _ HT.out).mono ?_
                  rintro e w' ⟨rfl, rfl⟩
                  go_wp2_with fail
                  refine (HJ1.out w3 D3.out (a : Nat) (b : Nat) _ HZ.out).mono ?_
                  rintro e w' ⟨rfl, rfl⟩
                  have D4 := Aside0.mk (below_alloc D3.out (.cells #[.int .i64 (a : Nat), .int .i64 (b : Nat)] 3))
                  obtain ⟨w4, hw⟩ : ∃ W, w3.alloc (.cells #[.int .i64 (a : Nat), .int .i64 (b : Nat)] 3) = W := ⟨_, rfl⟩
                  rw [hw] at D4 ⊢
                  clear hw D3
                  go_wp2_with fail
                  refine (HJ2.out w4 D4.out (a : Nat) (b : Nat) _ HZ.out).mono ?_
                  rintro e w' ⟨rfl, rfl⟩
                  have D5 := Aside0.mk (below_alloc D4.out (.cells #[.int .i64 (a : Nat), .int .i64 (b : Nat)] 3))
                  obtain ⟨w5, hw⟩ : ∃ W, w4.alloc (.cells #[.int .i64 (a : Nat), .int .i64 (b : Nat)] 3) = W := ⟨_, rfl⟩
                  rw [hw] at D5 ⊢
                  clear hw D4
                  go_wp2_with fail
                  go_roundw
                  case rel => exact ⟨b + 1, by go_num, by omega, D5⟩
                  case measure => simp [intOf]; omega
                · go_wp2_with fail
                  go_roundw
                  case rel => exact ⟨a + 1, by go_num, by omega, D3⟩
                  case measure => simp [intOf]; omega
            · have B13 := Aside0.mk (below_then B12.out B12.out.size D.out)
              have T13 := Aside0.mk (T12.out.below D.out)
              have T23 := Aside0.mk (T22.out.below D.out)
              clear D B12 T12 T22 HJ1 HJ2 HO1 HO2
              go_wp2_with fail
              refine (chain_any T13.out HY.out).mono ?_
              rintro e w14 ⟨v1, rfl, r14, b14⟩
              obtain ⟨A14, c14, e14, hl14, hC14⟩ := Kd.R_reads r14
              subst e14
              have B14 := Aside0.mk (below_then B13.out B13.out.size b14)
              have T24 := Aside0.mk (T23.out.below b14)
              have C14 := Aside0.mk hC14
              clear r14 b14 hC14 B13 T13 T23
              go_wp2_with fail
              refine (chain_any T24.out HY.out).mono ?_
              rintro e w15 ⟨v2, rfl, r15, b15⟩
              obtain ⟨A15, c15, e15, hl15, hC15⟩ := Kd.R_reads r15
              subst e15
              have B15 := Aside0.mk (below_then B14.out B14.out.size b15)
              have C15 := Aside0.mk hC15
              have C14' := Aside0.mk (Kd.C_below C14.out b15)
              clear r15 b15 hC15 B14 T24 C14
              go_wp2_with fail
              refine (sameInts_any ys ys A14 A15 c14 c15 w15 C14'.out hl14 C15.out hl15 (by have := HYL.out; omega)).mono ?_
              rintro e w16 ⟨rfl, d16⟩
              have B16 := Aside0.mk (below_then B15.out B15.out.size d16.below)
              clear d16
              go_wp2_with fail
              go_ret
              exact ⟨by first | rfl | simp, B16.out⟩
end Go.Proofs.Ytnjfiinnidklaaa.Lat
