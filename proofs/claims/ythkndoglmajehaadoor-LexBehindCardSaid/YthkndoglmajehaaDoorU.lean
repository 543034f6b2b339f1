import Derived.Test.YthkndoglmajehaaDoorM
import Derived.Test.YthkndoglmajehaaDoorQ
import Derived.Test.YthkndoglmajehaaDoorPLexTokensx1
import Derived.IntWalk
namespace Go.Proofs.YthkndoglmajehaaDoor.Lex
open Go.RowKit Go.Proofs.YthkndoglmajehaaDoorW.PrintWords Go.Proofs.YthkndoglmajehaaDoorW.PrintLast Go.Proofs.YthkndoglmajehaaDoorW.PrintMore Go.Proofs.YthkndoglmajehaaDoor.PLexTokens
set_option linter.unusedVariables false
set_option linter.unusedSimpArgs false

/-- What the law LexBehind says of three answers. -/
inductive Beh (na : Nat) : (List S31 × Int × Int) → (List S31 × Int × Int) → (List S31 × Int × Int) → Prop where
  | bad1 {p e y} (h : e ≠ 0) : Beh na ([], p, e) y ([], p, e)
  | long {xs ys p e} (h : 4096 < xs.length + ys.length) (he : e ≠ 0) : Beh na (xs, 0, 0) (ys, 0, 0) ([], p, e)
  | bad2 {xs f} (m : Nat) (hm : m ≤ 5000) (h : f ≠ 0) (h4 : xs.length ≤ 4096) : Beh na (xs, 0, 0) ([], (m : Int), f) ([], na + 1 + m, f)
  | bad3 {xs m f p} (h : f ≠ 0) (hx : 0 < xs.length) (h4 : xs.length ≤ 4096) : Beh na (xs, 0, 0) ([], m, f) ([], p, 12)
  | ok {xs ys} (h : xs.length + ys.length ≤ 4096) (hy : ∀ t ∈ ys, 0 ≤ t.f2 ∧ t.f2 ≤ 5000) : Beh na (xs, 0, 0) (ys, 0, 0) (xs ++ ys.map (shiftT (na + 1)), 0, 0)
theorem run_bad_at : ∀ l at_ ahead a e, run l at_ ahead = .bad a e → a ≤ at_ + l.length := by
  refine run_ind (Pr := fun l at_ ahead => ∀ a e, run l at_ ahead = .bad a e → a ≤ at_ + l.length) ?_ ?_ ?_ ?_
  · intro at_ ahead a e h; rw [run_nil] at h; cases h
  · intro c t at_ ahead hs ih a e h
    rw [run_sp c t _ _ hs] at h
    have := ih a e h
    rw [List.length_cons]
    omega
  · intro c t at_ ahead hs he a e h; rw [run_bad c t _ _ hs he] at h; injection h with h _; omega
  · intro c t at_ ahead hs he h1 h2 ih a e h
    rw [run_tok c t _ _ hs he] at h
    have := ih a e (push_bad h)
    rw [List.length_drop, List.length_cons] at this
    rw [List.length_cons]
    omega
/-- No more than 4096 tokens. -/
theorem run_most : ∀ l at_ ahead, ∀ ts, run l at_ ahead = .ok ts → ts = [] ∨ ahead + ts.length ≤ 4096 := by
  refine run_ind (Pr := fun l at_ ahead => ∀ ts, run l at_ ahead = .ok ts → ts = [] ∨ ahead + ts.length ≤ 4096) ?_ ?_ ?_ ?_
  · intro at_ ahead ts h
    rw [run_nil] at h
    injection h with h
    exact .inl h.symm
  · intro c t at_ ahead hs ih ts h
    rw [run_sp c t _ _ hs] at h
    exact ih ts h
  · intro c t at_ ahead hs he ts h; rw [run_bad c t _ _ hs he] at h; cases h
  · intro c t at_ ahead hs he h1 h2 ih ts h
    rw [run_tok c t _ _ hs he] at h
    obtain ⟨vs, hv, rfl⟩ := push_ok h
    right
    rw [List.length_cons]
    have hlt : ahead < 4096 := by
      by_cases h4 : 4096 ≤ ahead
      · exfalso
        unfold errAt wrongM at he
        by_cases k0 : (cutM (c :: t)).1 = 0
        · rw [if_pos k0] at he; cases he
        · rw [if_neg k0, if_pos (.inr h4)] at he
          cases he
      · omega
    rcases ih vs hv with rfl | h
    · simp; omega
    · omega
theorem behind (a b : List UInt8) (ha : a.length ≤ 5000) (hb : b.length ≤ 5000) : Beh a.length (toks a) (toks b) (toks (a ++ 32 :: b)) := by
  have e1 : toks a = (run a 0 0).out := by unfold toks; rw [if_neg (by omega)]
  have e2 : toks b = (run b 0 0).out := by unfold toks; rw [if_neg (by omega)]
  have e3 : toks (a ++ 32 :: b) = (run (a ++ 32 :: b) 0 0).out := by unfold toks; rw [if_neg (by rw [List.length_append, List.length_cons]; omega)]
  rw [e1, e2, e3, run_behind b a 0 0]
  cases ra : run a 0 0 with
  | bad p e => exact .bad1 (run_bad_ne a 0 0 p e ra)
  | ok xs =>
    have hs := run_shift (a.length + 1) xs.length b 0 0
    simp only [Nat.zero_add] at hs ⊢
    have hx : xs.length ≤ 4096 := by
      rcases run_most a 0 0 xs ra with h | h
      · rw [h]; exact Nat.zero_le _
      · omega
    cases rb : run b 0 0 with
    | bad m f =>
      have hf := run_bad_ne b 0 0 m f rb
      rw [rb] at hs
      dsimp only at hs
      rcases hs with hs | ⟨h0, q, hs⟩
      · rw [hs, pre_bad]
        have : ((m + (a.length + 1) : Nat) : Int) = (a.length : Int) + 1 + (m : Int) := by omega
        show Beh a.length (xs, 0, 0) ([], (m : Int), f) ([], ((m + (a.length + 1) : Nat) : Int), f)
        rw [this]
        exact .bad2 m (by have := run_bad_at b 0 0 m f rb; omega) hf hx
      · rw [hs, pre_bad]
        exact .bad3 hf h0 hx
    | ok ys =>
      rw [rb] at hs
      dsimp only at hs
      obtain ⟨s1, s2⟩ := hs
      have hg : ∀ t ∈ ys, 0 ≤ t.f2 ∧ t.f2 ≤ 5000 := fun t ht => by
        have := (run_good b b 0 0 rfl (Nat.zero_le _) ys rb).2 t ht
        exact ⟨this.at0, by have := this.fits; omega⟩
      -- the tokens of a are at most 4096
      by_cases h0 : ys = []
      · rw [s1 (.inr h0), pre_ok]
        subst h0
        exact .ok (by simpa using hx) hg
      · by_cases h4 : xs.length + ys.length ≤ 4096
        · rw [s1 (.inl h4), pre_ok]
          exact .ok h4 hg
        · obtain ⟨q, e, hq⟩ := s2 ⟨by omega, h0⟩
          rw [hq, pre_bad]
          exact .long (by omega) (run_bad_ne b _ _ q e hq)

theorem rdn (ts : List S31) (k : Nat) (h : k < ts.length) : rd_T31 ts (k : Nat) = ts[k] := by
  unfold rd_T31
  rw [Int.toNat_natCast, List.getD_eq_getElem?_getD, List.getElem?_eq_getElem h]
  rfl
set_option maxHeartbeats 20000000 in
set_option maxRecDepth 100000 in
theorem lexBehind_walk (a b : ByteArray) (w : World) (hm : ML w) (ha : a.size ≤ 140737488351232) (hb : b.size ≤ 140737488351232) :
    Calls Tryd.prog 6 #[.string a, .string b] w fun e w' => e = .returned (.bool true) ∧ Below w.heap.size w w' := by
  have HM := Aside0.mk hm
  clear hm
  by_cases hbig : 5000 < a.size
  · go_enter Tryd.func6, Tryd.ntmps6
    go_wp2_with fail
    refine (alive _ HM.out).mono ?_
    rintro e w1 ⟨rfl, b1⟩
    go_wp2_with fail
    go_ret
    exact ⟨rfl, b1⟩
  by_cases hbig2 : 5000 < b.size
  · go_enter Tryd.func6, Tryd.ntmps6
    go_wp2_with fail
    refine (alive _ HM.out).mono ?_
    rintro e w1 ⟨rfl, b1⟩
    go_wp2_with fail
    go_ret
    exact ⟨rfl, b1⟩
  have hbe := behind a.data.toList b.data.toList (by rw [size_list]; omega) (by rw [size_list]; omega)
  rw [size_list] at hbe
  have hl1 := toks_len a.data.toList
  have hl2 := toks_len b.data.toList
  have hl3 := toks_len (a.data.toList ++ 32 :: b.data.toList)
  rw [List.length_append, List.length_cons] at hl3
  simp only [size_list] at hl1 hl2 hl3
  have hab : (a ++ (⟨#[32]⟩ : ByteArray) ++ b).data.toList = a.data.toList ++ 32 :: b.data.toList := by simp
  have habs : (a ++ (⟨#[32]⟩ : ByteArray) ++ b).size ≤ 1000000 := by
    rw [← size_list, hab, List.length_append, List.length_cons, size_list, size_list]; omega
  obtain ⟨r1, h1⟩ : ∃ r, toks a.data.toList = r := ⟨_, rfl⟩
  obtain ⟨r2, h2⟩ : ∃ r, toks b.data.toList = r := ⟨_, rfl⟩
  obtain ⟨r3, h3⟩ : ∃ r, toks (a.data.toList ++ 32 :: b.data.toList) = r := ⟨_, rfl⟩
  rw [h1, h2, h3] at hbe
  rw [h1] at hl1
  rw [h2] at hl2
  rw [h3] at hl3
  rw [← hab] at h3
  have H1 := Aside0.mk h1
  have H2 := Aside0.mk h2
  have H3 := Aside0.mk h3
  have HBE := Aside0.mk hbe
  have HAB := Aside0.mk habs
  obtain ⟨xs, p1, f1⟩ := r1
  obtain ⟨ys, p2, f2⟩ := r2
  obtain ⟨zs, p3, f3⟩ := r3
  dsimp only at hl1 hl2 hl3
  clear hbe h1 h2 h3 hab habs
  go_enter Tryd.func6, Tryd.ntmps6
  go_wp2_with fail
  refine (alive _ HM.out).mono ?_
  rintro e w1 ⟨rfl, b1⟩
  have B1 := Aside0.mk b1
  have HM1 := Aside0.mk (HM.out.next b1)
  clear b1
  go_wp2_with fail
  refine (tok_any a _ HM1.out (by omega)).mono ?_
  rintro e w2 ⟨A2, c2, rfl, _, hC2, b2⟩
  rw [H1.out] at hC2 ⊢
  have B2 := Aside0.mk (below_then B1.out B1.out.size b2)
  have HM2 := Aside0.mk (HM1.out.next b2)
  have C2 := Aside0.mk hC2
  clear b2 hC2 B1 HM1
  go_wp2_with fail
  refine (tok_any b _ HM2.out (by omega)).mono ?_
  rintro e w3 ⟨A3, c3, rfl, _, hC3, b3⟩
  rw [H2.out] at hC3 ⊢
  have B3 := Aside0.mk (below_then B2.out B2.out.size b3)
  have HM3 := Aside0.mk (HM2.out.next b3)
  have C3 := Aside0.mk hC3
  have D3 := Aside0.mk (Kd.C_below C2.out b3)
  clear b3 hC3 B2 HM2 C2
  go_wp2_with fail
  refine (tok_any (a ++ (⟨#[32]⟩ : ByteArray) ++ b) _ HM3.out HAB.out).mono ?_
  rintro e w4 ⟨A4, c4, rfl, _, hC4, b4⟩
  rw [H3.out] at hC4 ⊢
  have B4 := Aside0.mk (below_then B3.out B3.out.size b4)
  have C4 := Aside0.mk hC4
  have D4 := Aside0.mk (Kd.C_below C3.out b4)
  have E4 := Aside0.mk (Kd.C_below D3.out b4)
  clear b4 hC4 B3 HM3 C3 D3 H1 H2 H3
  have hbe := HBE.out
  clear HBE
  cases hbe with
  | bad1 h =>
    have hd := bne_iff_ne.2 h
    clear h
    go_wp2_with fail
    go_ret
    exact ⟨by simp, B4.out⟩
  | long h he =>
    have hd := bne_iff_ne.2 he
    clear he
    go_wp2_with fail
    go_ret
    exact ⟨by simp [hd], B4.out⟩
  | bad2 m hm h h4 =>
    have hd := bne_iff_ne.2 h
    clear h
    go_wp2_with fail
    go_ret
    exact ⟨by simp, B4.out⟩
  | bad3 h hx h4 =>
    have hd := bne_iff_ne.2 h
    have hx0 : (0 : Int) < (xs.length : Int) := by omega
    clear h
    by_cases hf : f2 = 12
    · have g1 : ((12 : Int) == f2) = true := beq_iff_eq.2 hf.symm
      clear hf
      go_wp2_with fail
      all_goals
        go_ret
        exact ⟨by simp [hx0, hx], B4.out⟩
    · have g1 : ((12 : Int) == f2) = false := beq_eq_false_iff_ne.2 (fun h => hf h.symm)
      clear hf
      go_wp2_with fail
      all_goals
        go_ret
        exact ⟨by simp [hx0, hx], B4.out⟩
  | ok h hy =>
    obtain ⟨zs, hz⟩ : ∃ zs, xs ++ ys.map (shiftT (a.size + 1)) = zs := ⟨_, rfl⟩
    rw [hz] at C4 ⊢
    have hzl : zs.length = xs.length + ys.length := by rw [← hz, List.length_append, List.length_map]
    have HZ := Aside0.mk hz
    have HZL := Aside0.mk hzl
    have HY := Aside0.mk hy
    have hlz : ((zs.length : Int) != (xs.length : Int) + (ys.length : Int)) = false := by rw [bne_eq_false_iff_eq]; omega
    have hza : zs.length ≤ 4096 := by omega
    clear hz hzl hy
    go_wp2
    go_loopw [14] (fun i wr => ∃ k : Nat, i = .int .i64 k ∧ k ≤ zs.length ∧ Aside0 (Below w4.heap.size w4 wr)) (fun i _ => zs.length - (intOf i).toNat)
    case atStart => exact ⟨0, rfl, Nat.zero_le _, ⟨Below.refl _ _⟩⟩
    case round =>
      obtain ⟨k, rfl, hk2, HB⟩ := hrel
      obtain ⟨wj, rfl⟩ : ∃ wj : World, wj = wr := ⟨_, rfl⟩
      by_cases hk3 : k < zs.length
      · obtain ⟨ad, e1, x0, x1, x2⟩ := at_T31 (Kd.C_below C4.out HB.out) (k : Nat) (by omega) (by omega)
        cases e1
        rw [rdn zs k hk3, Int.toNat_natCast] at x0 x1 x2
        have hzl := HZL.out
        by_cases hkx : k < xs.length
        · have hzk : zs[k] = xs[k] := by
            have := HZ.out
            subst this
            rw [List.getElem_append_left hkx]
          obtain ⟨ad2, e2, y0, y1, y2⟩ := at_T31 (Kd.C_below E4.out HB.out) (k : Nat) (by omega) (by omega)
          cases e2
          rw [rdn xs k hkx, Int.toNat_natCast] at y0 y1 y2
          rw [hzk] at x0 x1 x2
          obtain ⟨t, ht⟩ : ∃ t, xs[k] = t := ⟨_, rfl⟩
          rw [ht] at x0 x1 x2 y0 y1 y2
          clear ht hzk hzl
          obtain ⟨t0, t1, t2⟩ := t
          dsimp only at x0 x1 x2 y0 y1 y2
          have hi1 : (0 : Int) ≤ (k : Int) := by omega
          have hi2 : (k : Int) < zs.length := by omega
          have hi3 : (k : Int) < xs.length := by omega
          have hne := fun (W : World) (d : Nat) => eqA31 d W t0 t0 t1 t1 t2 t2
          have y0' := fun o => ((below_alloc (Below.refl wj.heap.size wj) o).cell (World.block_lt_of_cell? wj _ y0)).trans y0
          have y1' := fun o => ((below_alloc (Below.refl wj.heap.size wj) o).cell (World.block_lt_of_cell? wj _ y1)).trans y1
          have y2' := fun o => ((below_alloc (Below.refl wj.heap.size wj) o).cell (World.block_lt_of_cell? wj _ y2)).trans y2
          have x0' := fun o => ((below_alloc (Below.refl wj.heap.size wj) o).cell (World.block_lt_of_cell? wj _ x0)).trans x0
          have x1' := fun o => ((below_alloc (Below.refl wj.heap.size wj) o).cell (World.block_lt_of_cell? wj _ x1)).trans x1
          have x2' := fun o => ((below_alloc (Below.refl wj.heap.size wj) o).cell (World.block_lt_of_cell? wj _ x2)).trans x2
          clear x0 x1 x2 y0 y1 y2
          go_wp2
          go_quiet (fail)
          go_wp2
          go_roundw
          case rel => exact ⟨k + 1, by go_num, by omega, ⟨pw_below_drewN (below_alloc' HB.out (Nat.le_refl _) _) _⟩⟩
          case measure => simp [intOf]; omega
        · obtain ⟨j, rfl⟩ : ∃ j, k = xs.length + j := ⟨k - xs.length, by omega⟩
          have hj : j < ys.length := by omega
          have hzk : zs[xs.length + j] = shiftT (a.size + 1) ys[j] := by
            have := HZ.out
            subst this
            rw [List.getElem_append_right (by omega)]
            simp
          obtain ⟨ad2, e2, y0, y1, y2⟩ := at_T31 (Kd.C_below D4.out HB.out) (j : Nat) (by omega) (by omega)
          cases e2
          have hyb := HY.out ys[j] (List.getElem_mem hj)
          rw [rdn ys j hj, Int.toNat_natCast] at y0 y1 y2
          rw [hzk] at x0 x1 x2
          obtain ⟨t, ht⟩ : ∃ t, ys[j] = t := ⟨_, rfl⟩
          rw [ht] at x0 x1 x2 y0 y1 y2 hyb
          clear ht hzk hzl
          obtain ⟨t0, t1, t2⟩ := t
          unfold shiftT at x0 x1 x2
          dsimp only at x0 x1 x2 y0 y1 y2 hyb
          obtain ⟨q, rfl⟩ : ∃ q : Nat, t2 = q := ⟨t2.toNat, by omega⟩
          have hq : q ≤ 5000 := by omega
          obtain ⟨k, hk⟩ : ∃ k, xs.length + j = k := ⟨_, rfl⟩
          rw [hk] at x0 x1 x2 hk2 hk3 hkx ⊢
          have hkj : (k : Int) - (xs.length : Int) = (j : Int) := by omega
          have hc : (((xs.length + j : Nat) : Int)) = (k : Int) := by omega
          have hsum : ((a.size + 1 : Nat) : Int) = (a.size : Int) + 1 := by omega
          rw [hsum] at x2
          have hi1 : (0 : Int) ≤ (k : Int) := by omega
          have hi2 : (k : Int) < zs.length := by omega
          have hi4 : (0 : Int) ≤ (j : Int) := by omega
          have hi5 : (j : Int) < ys.length := by omega
          have hi3 : ¬ (k : Int) < xs.length := by omega
          have hne := fun (W : World) (d : Nat) => eqA31 d W t0 t0 t1 t1 ((q : Int) + ((a.size : Int) + 1)) ((q : Int) + ((a.size : Int) + 1))
          clear hk hyb hsum
          have y0' := fun o => ((below_alloc (Below.refl wj.heap.size wj) o).cell (World.block_lt_of_cell? wj _ y0)).trans y0
          have y1' := fun o => ((below_alloc (Below.refl wj.heap.size wj) o).cell (World.block_lt_of_cell? wj _ y1)).trans y1
          have y2' := fun o => ((below_alloc (Below.refl wj.heap.size wj) o).cell (World.block_lt_of_cell? wj _ y2)).trans y2
          have x0' := fun o => ((below_alloc (Below.refl wj.heap.size wj) o).cell (World.block_lt_of_cell? wj _ x0)).trans x0
          have x1' := fun o => ((below_alloc (Below.refl wj.heap.size wj) o).cell (World.block_lt_of_cell? wj _ x1)).trans x1
          have x2' := fun o => ((below_alloc (Below.refl wj.heap.size wj) o).cell (World.block_lt_of_cell? wj _ x2)).trans x2
          clear x0 x1 x2 y0 y1 y2
          go_wp2
          go_quiet (fail)
          go_wp2
          go_roundw
          case rel => exact ⟨k + 1, by go_num, by omega, ⟨pw_below_drewN (below_alloc' HB.out (Nat.le_refl _) _) _⟩⟩
          case measure => simp [intOf]; omega
      · go_wp2
        go_ret
        exact ⟨rfl, below_then B4.out B4.out.size HB.out⟩
end Go.Proofs.YthkndoglmajehaaDoor.Lex
