import Derived.Test.YtnjfiinnidklaaaM
import Derived.Test.YtnjfiinnidklaaaR
import Derived.Test.YtnjfiinnidklaaaBF
import Derived.Deep.RegionHeld3
namespace Go.Proofs.Ytnjfiinnidklaaa.Lat
open Go.RowKit Go.Proofs.YtnjfiinnidklaaaW.PrintWords Go.Proofs.YtnjfiinnidklaaaW.PrintLast Go.Proofs.YtnjfiinnidklaaaW.PrintMore Go.Proofs.Ytnjfiinnidklaaa.PLatticeNews
set_option linter.unusedVariables false
set_option linter.unusedSimpArgs false

theorem copyInts_any (A : Option Addr) (c : Nat) (xs : List Int) (w : World) (hr : Kd.C (Kd.int .i64) w A xs.length xs) (hl : xs.length ≤ 1000000) :
    Calls Try.prog 14 #[.slice A xs.length c] w fun e w' => ∃ v, e = .returned v ∧ (Kd.int .i64).R 3 w' w.heap.size (fun _ => True) v xs ∧ Below w.heap.size w w' := by
  have HR := Aside0.mk hr
  clear hr
  go_enter Try.func14, Try.ntmps14
  go_wp2_with (at_builtin; refine Kd.R_append_rows (Kd.int .i64) w.heap.size rfl (.tmp 5) (.tmp 6) 23 3 _ 8 rfl Try.underlying23 info3 rfl (by decide) (by decide) (.slice (some ⟨w.heap.size, 0, none⟩) 0 0) [] xs A xs.length c (fun _ => True) (fun _ => False) rfl rfl (lit_nil (Kd.int .i64) 3 w w.heap.size (Nat.le_refl _)) (Kd.C_below HR.out (below_alloc (Below.refl _ _) _)) (fun x cs h => h) (fun _ h => h.elim) (fun _ _ => trivial) (below_alloc (Below.refl _ _) _) (by simp) (by simp; omega) ?_; intro v1 w1 hv1 hb1 hg1 hat1)
  have HV := Aside0.mk hv1
  clear hv1
  go_wp2
  go_ret
  exact ⟨_, rfl, HV.out, hb1⟩
set_option maxHeartbeats 4000000 in
set_option maxRecDepth 100000 in
theorem latticeLists_walk (n : Int) (A : Option Addr) (cE : Nat) (es : List (Int × Int)) (A0 : Option Addr) (c0 : Nat) (ws : List Int) (w : World) (_hn : (Lit.int .i64 n).wf = true) (hr : Kd.C KE w A es.length es) (_hw : ∀ x ∈ es, (Lit.int .i64 x.1).wf = true ∧ (Lit.int .i64 x.2).wf = true) (hr2 : Kd.C (Kd.int .i64) w A0 ws.length ws) (_hw2 : ∀ x ∈ ws, (Lit.int .i64 x).wf = true) (hcA : es.length ≤ cE) (hcap : ws.length ≤ c0) :
    Calls Try.prog 3 #[.int .i64 n, .slice A es.length cE, .slice A0 ws.length c0] w fun e w' => e = .returned (.bool true) ∧ Below w.heap.size w w' := by
  have hmax := Kd.C_max hr
  have HC := Aside0.mk hr
  clear hr _hw
  have hmax2 := Kd.C_max hr2
  have HCW := Aside0.mk hr2
  clear hr2 _hw2
  by_cases hl : 200 < es.length
  · go_enter Try.func3, Try.ntmps3
    go_wp2_with fail
    refine (alive w).mono ?_
    rintro e w1 ⟨rfl, b1⟩
    go_wp2
    go_ret
    exact ⟨rfl, b1⟩
  by_cases hl2 : 200 < ws.length
  · go_enter Try.func3, Try.ntmps3
    go_wp2_with fail
    refine (alive w).mono ?_
    rintro e w1 ⟨rfl, b1⟩
    go_wp2
    go_ret
    exact ⟨rfl, b1⟩
  · go_enter Try.func3, Try.ntmps3
    go_wp2_with fail
    refine (alive w).mono ?_
    rintro e w1 ⟨rfl, b1⟩
    have B1 := Aside0.mk b1
    clear b1
    go_wp2_with fail
    refine (copies_any A cE es w1 (Kd.C_below HC.out B1.out) (by omega)).mono ?_
    rintro e w2 ⟨v, rfl, r2, b2⟩
    have B2 := Aside0.mk (below_then B1.out B1.out.size b2)
    obtain ⟨A2, c2, hv2, hl2', hC2⟩ := Kd.R_reads r2
    subst hv2
    have HC2 := Aside0.mk hC2
    clear r2 b2 hC2 B1
    go_wp2_with fail
    refine (new_any n A2 c2 es w2 HC2.out (by omega)).mono ?_
    rintro e w3 ⟨b3, h3⟩
    have B3 := Aside0.mk (below_then B2.out B2.out.size b3)
    clear b3 B2 HC2
    rcases h3 with ⟨hne, rfl⟩ | ⟨h0, hb, ub, db, rfl, T⟩
    · go_wp2_with fail
      refine (refNew_any n A cE es w3 (Kd.C_below HC.out B3.out) (by omega)).mono ?_
      rintro e w4 ⟨b4, ⟨_, rfl⟩ | ⟨h, _⟩⟩
      rotate_left
      · exact absurd h hne
      have B4 := Aside0.mk (below_alloc (below_then B3.out B3.out.size b4) (.cells #[.slice none 0 0] 32))
      clear b4
      obtain ⟨cd, hcd⟩ : ∃ cd, codeM n es = cd := ⟨_, rfl⟩
      rw [hcd] at hne ⊢
      clear hcd
      have n1 : (cd == 0) = false := beq_eq_false_iff_ne.2 hne
      have n2 : (cd != 0) = true := bne_iff_ne.2 hne
      go_wp2
      go_ret
      exact ⟨by first | rfl | simp [n1, n2] | simp [hne], B4.out⟩
    · have T3 := Aside0.mk T
      clear T
      go_wp2_with fail
      refine (refNew_any n A cE es w3 (Kd.C_below HC.out B3.out) (by omega)).mono ?_
      rintro e w4 ⟨b4, ⟨h, _⟩ | ⟨_, A4, c4, bs, rfl, Q, hbl⟩⟩
      · exact absurd h0 h
      obtain ⟨m, rfl, hm0, hm8, hbad, hR⟩ := code_zero h0
      rw [Int.toNat_natCast] at T3 Q hbl ⊢
      obtain ⟨h1, h2⟩ := clos_Mk hm8 hbad
      have hL := lat_clos hm8 hbad hR
      obtain ⟨k1, e1⟩ := join_ex hm8 (M := rch m (natE es)) (list := ws) (by omega)
      obtain ⟨k2, e2⟩ := meet_ex hm8 (M := rch m (natE es)) (list := ws) (by omega)
      rw [joinG_is hm8 hm0 h1 hL] at e1
      rw [joinG_is hm8 hm0 h2 hL.flip] at e2
      have E1 := Aside0.mk e1
      have E2 := Aside0.mk e2
      have hl4 := (Kd.R_reads' Q.row).2.1
      have B4 := Aside0.mk (below_then B3.out B3.out.size b4)
      have T4 := Aside0.mk (T3.out.below b4)
      have C4 := Aside0.mk (Q.C hbl hm8)
      have b5 := below_alloc (Below.refl w4.heap.size w4) (.cells #[.slice A4 m c4] 32)
      clear h1 h2 hL e1 e2 Q hbl b4 hbad hR h0 T3 B3
      obtain ⟨us, hus⟩ : ∃ us, (closE m es).1 = us := ⟨_, rfl⟩
      obtain ⟨ds, hds⟩ : ∃ ds, (closE m es).2 = ds := ⟨_, rfl⟩
      rw [hus, hds] at T4
      rw [hus] at E1
      rw [hds] at E2
      clear hus hds
      obtain ⟨M, hM⟩ : ∃ M, rch m (natE es) = M := ⟨_, rfl⟩
      rw [hM] at E1 E2 C4
      clear hM
      go_wp2_with fail
      have B5 := Aside0.mk (below_then B4.out B4.out.size b5)
      refine (copyInts_any A0 c0 ws _ (Kd.C_below HCW.out B5.out) (by omega)).mono ?_
      rintro e w6 ⟨v6, rfl, r6, b6⟩
      obtain ⟨A6, c6, hv6, hl6, hC6⟩ := Kd.R_reads r6
      subst hv6
      have T6 := Aside0.mk (T4.out.below (below_then b5 b5.size b6))
      have C6 := Aside0.mk (Kd.C_below C4.out (below_then b5 b5.size b6))
      have B6 := Aside0.mk (below_then B5.out B5.out.size b6)
      have OB := Aside0.mk (blk_below (blk_new w4 (.cells #[.slice A4 m c4] 32)) b6)
      have CO := Aside0.mk hC6
      have CW := Aside0.mk (Kd.C_below HCW.out B6.out)
      obtain ⟨ob, hob⟩ : ∃ ob, w4.heap.size = ob := ⟨_, rfl⟩
      rw [hob] at OB
      try rw [hob]
      clear hob b5 b6 r6 hC6 T4 C4 B4 B5
      have KEEP : Aside0 (∀ W', Aside0 (Below w6.heap.size w6 W') → W'.cell? ⟨ob, 0, none⟩ = some (.slice A4 m c4) ∧ Aside0 (Below w6.heap.size w6 W')) := ⟨fun W' h => ⟨(blk_cell (blk_below OB.out h.out) 0).trans rfl, h⟩⟩
      have BT : Aside0 (∀ W W', Aside0 (Below w6.heap.size w6 W) → Below W.heap.size W W' → Aside0 (Below w6.heap.size w6 W')) := ⟨fun W W' h1 h2 => ⟨below_then h1.out h1.out.size h2⟩⟩
      obtain ⟨z1, hz1⟩ : ∃ z, allM m us ws = z := ⟨_, rfl⟩
      obtain ⟨z2, hz2⟩ : ∃ z, allM m ds ws = z := ⟨_, rfl⟩
      rw [hz1] at E1
      rw [hz2] at E2
      have HH15 : Aside0 (∀ W, Aside0 (Below w6.heap.size w6 W) → Calls Try.prog 15 #[.pointer (some ⟨hb, 0, none⟩), .slice A6 ws.length c6] W fun e w' => e = .returned (.int .i64 z1) ∧ Below W.heap.size W w') := ⟨fun W h => (join_any (T6.out.below h.out) A6 ws c6 hl6 (Kd.C_below CO.out h.out) (by omega)).mono (fun e w' h => ⟨by rw [h.1, hz1], h.2 ▸ Below.refl _ _⟩)⟩
      have HH17 : Aside0 (∀ W, Aside0 (Below w6.heap.size w6 W) → Calls Try.prog 17 #[.pointer (some ⟨hb, 0, none⟩), .slice A6 ws.length c6] W fun e w' => e = .returned (.int .i64 z2) ∧ Below W.heap.size W w') := ⟨fun W h => (meet_any (T6.out.below h.out) A6 ws c6 hl6 (Kd.C_below CO.out h.out) (by omega)).mono (fun e w' h => ⟨by rw [h.1, hz2], h.2 ▸ Below.refl _ _⟩)⟩
      have HH16 : Aside0 (∀ W, Aside0 (Below w6.heap.size w6 W) → Calls Try.prog 16 #[.agg #[.slice A4 m c4], .slice A0 ws.length c0] W fun e w' => e = .returned (.int .i64 z1) ∧ Below W.heap.size W w') := ⟨fun W h => by
        have := portcullisref01_Order_Join.calls k1 A4 c4 (LL m M) A0 c0 ws z1 W (Kd.C_below C6.out h.out) (by rw [LL_len]; exact hl4) (Kd.C_below CW.out h.out) hcap E1.out
        rw [LL_len] at this
        exact this⟩
      have HH18 : Aside0 (∀ W, Aside0 (Below w6.heap.size w6 W) → Calls Try.prog 18 #[.agg #[.slice A4 m c4], .slice A0 ws.length c0] W fun e w' => e = .returned (.int .i64 z2) ∧ Below W.heap.size W w') := ⟨fun W h => by
        have := portcullisref01_Order_Meet.calls k2 A4 c4 (LL m M) A0 c0 ws z2 W (Kd.C_below C6.out h.out) (by rw [LL_len]; exact hl4) (Kd.C_below CW.out h.out) hcap E2.out
        rw [LL_len] at this
        exact this⟩
      have HH19 : Aside0 (∀ W, Aside0 (Below w6.heap.size w6 W) → Calls Try.prog 19 #[.slice A6 ws.length c6, .slice A0 ws.length c0] W fun e w' => e = .returned (.bool true) ∧ Below W.heap.size W w') := ⟨fun W h => (sameInts_any ws ws A6 A0 c6 c0 W (Kd.C_below CO.out h.out) hl6 (Kd.C_below CW.out h.out) hcap (by omega)).mono (fun e w' ⟨h1, h2⟩ => ⟨by rw [h1]; simp, h2.below⟩)⟩
      have BD : Aside0 (Below w6.heap.size w6 w6.drew) := ⟨below_drew (Below.refl w6.heap.size w6)⟩
      clear hz1 hz2 E1 E2
      go_wp2_with fail
      first | (go_region_held3 (fun w' => w'.cell? ⟨ob, 0, none⟩ = some (.slice A4 m c4) ∧ Aside0 (Below w6.heap.size w6 w'))
        (exact KEEP.out _ (by assumption))
        (first
          | (go_at_call 15; refine (HH15.out _ (by assumption)).mono ?_; rintro e w' ⟨rfl, b⟩; have z := BT.out _ _ (by assumption) b)
          | (go_at_call 16; refine (HH16.out _ (by assumption)).mono ?_; rintro e w' ⟨rfl, b⟩; have z := BT.out _ _ (by assumption) b)
          | (go_at_call 17; refine (HH17.out _ (by assumption)).mono ?_; rintro e w' ⟨rfl, b⟩; have z := BT.out _ _ (by assumption) b)
          | (go_at_call 18; refine (HH18.out _ (by assumption)).mono ?_; rintro e w' ⟨rfl, b⟩; have z := BT.out _ _ (by assumption) b)
          | (go_at_call 19; refine (HH19.out _ (by assumption)).mono ?_; rintro e w' ⟨rfl, b⟩; have z := BT.out _ _ (by assumption) b))) | fail
      all_goals (
        go_wp2_with fail
        go_ret
        exact ⟨by first | rfl | simp, below_then B6.out B6.out.size (Aside0.out (by assumption))⟩)
end Go.Proofs.Ytnjfiinnidklaaa.Lat
