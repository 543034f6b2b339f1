import Derived.Test.YtdildjgkjmoihaaK
import Derived.Deep.DeepCutAuto
import Derived.Deep.RegionHeld3
import Derived.Deep.RegionWith
namespace Go.Proofs.Ytdildjgkjmoihaa.Latch
open Go.RowKit Go.Proofs.YtdildjgkjmoihaaW.PrintWords Go.Proofs.YtdildjgkjmoihaaW.PrintLast Go.Proofs.YtdildjgkjmoihaaW.PrintMore Go.Proofs.Ytdildjgkjmoihaa.PLatchSteps
set_option linter.unusedVariables false
set_option linter.unusedSimpArgs false

/-- The table, and the block of the reference's table. -/
structure SR (w1 w : World) (hb ab mb : Nat) (F : Nat → Prop) (v : Value) (xs : List Int) : Prop where
  tr : TR w1 w hb ab xs
  mbk : w.heap[mb]? = some (.cells #[v] 28 (0, 0))
  row : (Kd.int .i64).R 3 w w1.heap.size F v xs
  fb : ∀ k, F k → k < w.heap.size ∧ k ≠ hb ∧ k ≠ ab ∧ k ≠ mb
  ne1 : mb ≠ ab
  ne2 : mb ≠ hb
  mb1 : w1.heap.size ≤ mb
def SRx (w1 w : World) (hb ab mb : Nat) (xs : List Int) : Prop := ∃ F v, SR w1 w hb ab mb F v xs
theorem SR.below {w1 w w' : World} {hb ab mb : Nat} {F : Nat → Prop} {v : Value} {xs : List Int} (h : SR w1 w hb ab mb F v xs) (hb' : Below w.heap.size w w') : SR w1 w' hb ab mb F v xs :=
  ⟨h.tr.below hb', blk_below h.mbk hb', Kd.R_mono (Kd.R_old h.row hb') (fun _ hk => hk.1), fun k hk => ⟨Nat.lt_of_lt_of_le (h.fb k hk).1 hb'.size, (h.fb k hk).2⟩, h.ne1, h.ne2, h.mb1⟩

/-- And the operation's own block. -/
structure SO (w1 w : World) (hb ab mb bo : Nat) (f l t : Int) (xs : List Int) : Prop where
  sr : SRx w1 w hb ab mb xs
  op : w.heap[bo]? = some (.cells #[.int .i64 f, .int .i64 l, .int .i64 t] 31 (0, 0))
theorem SRx.below {w1 w w' : World} {hb ab mb : Nat} {xs : List Int} (h : SRx w1 w hb ab mb xs) (hb' : Below w.heap.size w w') : SRx w1 w' hb ab mb xs := by
  obtain ⟨F, v, h⟩ := h
  exact ⟨F, v, h.below hb'⟩
theorem SO.below {w1 w w' : World} {hb ab mb bo : Nat} {f l t : Int} {xs : List Int} (h : SO w1 w hb ab mb bo f l t xs) (hb' : Below w.heap.size w w') : SO w1 w' hb ab mb bo f l t xs := ⟨h.sr.below hb', blk_below h.op hb'⟩

/-- The value v is a row of xs. -/
structure RV (w : World) (v : Value) (xs : List Int) : Prop where
  ex : ∃ base ok, (Kd.int .i64).R 3 w base ok v xs
  len : xs.length ≤ 1000000
theorem RV.below {w w' : World} {v : Value} {xs : List Int} (h : RV w v xs) (hb : Below w.heap.size w w') : RV w' v xs := by
  obtain ⟨base, ok, hr⟩ := h.ex
  exact ⟨⟨_, _, Kd.R_old hr hb⟩, h.len⟩
theorem sameV (a : List Int) (v u : Value) (w : World) (ha : RV w v a) (hb : RV w u a) :
    Calls Try.prog 17 #[v, u] w fun e w' => e = .returned (.bool true) ∧ Below w.heap.size w w' := by
  obtain ⟨b1, o1, h1⟩ := ha.ex
  obtain ⟨b2, o2, h2⟩ := hb.ex
  refine (sameInts_R a a v u w h1 h2 ha.len).mono ?_
  rintro e w' ⟨rfl, d⟩
  exact ⟨by simp, d.below⟩

theorem SO.put {w1 w3 w4 : World} {hb ab mb bo : Nat} {F : Nat → Prop} {f l t : Int} {ys : List Int} {u v : Value} (tr3 : TR w1 w3 hb ab ys) (mbk3 : w3.heap[mb]? = some (.cells #[u] 28 (0, 0)))
    (op3 : w3.heap[bo]? = some (.cells #[.int .i64 f, .int .i64 l, .int .i64 t] 31 (0, 0))) (fb : ∀ k, F k → k < w3.heap.size ∧ k ≠ hb ∧ k ≠ ab ∧ k ≠ mb ∧ k ≠ bo)
    (ne1 : mb ≠ ab) (ne2 : mb ≠ hb) (nbo : mb ≠ bo) (mb1 : w1.heap.size ≤ mb)
    (r4 : (Kd.int .i64).R 3 w4 w1.heap.size (fun k => F k ∨ w3.heap.size ≤ k) v ys) (b4 : Below w1.heap.size w1 w4) (kp : Kept w3 w4 F) :
    w4.frozen? ⟨mb, 0, none⟩ = false ∧ w4.cell? ⟨mb, 0, none⟩ = some u ∧ w4.cell? ⟨bo, 1, none⟩ = some (.int .i64 l) ∧ SO w1 (w4.setCell ⟨mb, 0, none⟩ v) hb ab mb bo f l t ys := by
  have l1 := blk_lt tr3.tb.hbk
  have l2 := blk_lt tr3.tb.abk
  have l3 := blk_lt mbk3
  have l4 := blk_lt op3
  have k1 := (kp.2 hb l1 (fun h => (fb _ h).2.1 rfl)).trans tr3.tb.hbk
  have k2 := (kp.2 ab l2 (fun h => (fb _ h).2.2.1 rfl)).trans tr3.tb.abk
  have k3 := (kp.2 mb l3 (fun h => (fb _ h).2.2.2.1 rfl)).trans mbk3
  have k4 := (kp.2 bo l4 (fun h => (fb _ h).2.2.2.2 rfl)).trans op3
  have hf := Foot.setCell (Foot.refl (fun k => k = mb) w4) (p := ⟨mb, 0, none⟩) (fun _ => rfl) v
  have hs := hf.size
  refine ⟨blk_frozen k3 _, blk_cell k3 0, blk_cell k4 1, ⟨⟨fun k => (F k ∨ w3.heap.size ≤ k) ∧ k < w4.heap.size, v, ⟨⟨blk_far k1 (p := ⟨mb, 0, none⟩) (Ne.symm ne2) _, blk_far k2 (p := ⟨mb, 0, none⟩) (Ne.symm ne1) _, tr3.tb.le8⟩, tr3.ge, b4.trans (hf.below b4.size (fun b hb => by rw [hb]; exact mb1)), tr3.ab1⟩, ?_, ?_, ?_, ne1, ne2, mb1⟩, blk_far k4 (p := ⟨mb, 0, none⟩) (Ne.symm nbo) _⟩⟩
  · have := blk_set k3 0 v
    exact this
  · exact R_foot (Kd.R_mono (Kd.R_bound r4) (fun k hk => ⟨hk.1, hk.2.2.1⟩)) hf (fun k hk e => by
      rcases hk.1 with h | h
      · exact (fb k h).2.2.2.1 e
      · omega)
  · rintro k ⟨h | h, h2⟩
    · have := fb k h
      exact ⟨by omega, this.2.1, this.2.2.1, this.2.2.2.1⟩
    · exact ⟨by omega, by omega, by omega, by omega⟩

set_option maxHeartbeats 4000000 in
set_option maxRecDepth 100000 in
theorem latchSteps_walk (n : Int) (A : Option Addr) (c : Nat) (ss : List S31) (AW : Option Addr) (cW : Nat) (ws : List Int) (w : World) (_hn : (Lit.int .i64 n).wf = true) (hr : Kd.C k31 w A ss.length ss) (_hw : ∀ x ∈ ss, G31 x) (hr2 : Kd.C (Kd.int .i64) w AW ws.length ws) (_hw2 : ∀ x ∈ ws, (Lit.int .i64 x).wf = true) (hcap : ws.length ≤ cW) :
    Calls Try.prog 3 #[.int .i64 n, .slice A ss.length c, .slice AW ws.length cW] w fun e w' => e = .returned (.bool true) ∧ Below w.heap.size w w' := by
  have hmax := Kd.C_max hr
  have hmax2 := Kd.C_max hr2
  have HC := Aside0.mk hr
  have HW := Aside0.mk hr2
  clear hr _hw hr2 _hw2
  by_cases hl : 300 < ss.length
  · go_enter Try.func3, Try.ntmps3
    go_wp2_with fail
    refine (alive w).mono ?_
    rintro e w1 ⟨rfl, b1⟩
    go_wp2
    go_ret
    exact ⟨rfl, b1⟩
  by_cases hl2 : 100 < ws.length
  · go_enter Try.func3, Try.ntmps3
    go_wp2_with fail
    refine (alive w).mono ?_
    rintro e w1 ⟨rfl, b1⟩
    go_wp2
    go_ret
    exact ⟨rfl, b1⟩
  · go_enter Try.func3, Try.ntmps3
    go_wp2_with fail
    refine (alive w).mono ?_
    rintro e w1 ⟨rfl, b1⟩
    have B1 := Aside0.mk b1
    have s1 := b1.size
    clear b1
    go_wp2_with fail
    refine (new_at n (max 0 (min n 8)).toNat (by omega) w1).mono ?_
    rintro e w2 ⟨hb, ab, rfl, t2, g1, g2, b2⟩
    have T2 : Aside0 (TR w1 w2 hb ab (List.replicate (max 0 (min n 8)).toNat (-1))) := ⟨⟨t2, by intro y hy; rw [(List.mem_replicate.1 hy).2]; exact Int.le_refl _, b2, g2⟩⟩
    clear t2 g1 g2 b2
    go_wp2_with fail
    refine (portcullisref14_New.calls 10 n _ w2 (new_eq n (max 0 (min n 8)).toNat (by omega))).mono ?_
    rintro e w3 ⟨v0, rfl, r3, b3⟩
    obtain ⟨A0, c0, hv0, hl0, hC0⟩ := Kd.R_reads r3
    subst hv0
    have R3 := Aside0.mk r3
    have B3 := Aside0.mk b3
    clear r3 b3 hC0 hl0
    go_wp2_with fail
    have H3 : Aside0 (SRx w1 (w3.alloc (.cells #[.slice A0 (List.replicate (max 0 (min n 8)).toNat (-1 : Int)).length c0] 28)) hb ab w3.heap.size (List.replicate (max 0 (min n 8)).toNat (-1))) := by
      have h1 := blk_lt T2.out.tb.hbk
      have h2 := blk_lt T2.out.tb.abk
      have h3 := B3.out.size
      have h4 := T2.out.bel.size
      have hba := below_alloc (Below.refl w3.heap.size w3) (.cells #[.slice A0 (List.replicate (max 0 (min n 8)).toNat (-1 : Int)).length c0] 28)
      have r1 := Kd.R_mono (ok' := fun k => w2.heap.size ≤ k ∧ k < w3.heap.size) (Kd.R_bound R3.out) (fun k hk => ⟨hk.2.1, hk.2.2.1⟩)
      have r2 := Kd.R_raise (d := Kd.int .i64) (e := 3) (b := w2.heap.size) (b' := w1.heap.size) (fun _ _ _ _ h => h) r1 (fun k hk => by have := r1.1 k hk; omega)
      have hr2 := Kd.R_mono (Kd.R_old r2 hba) (fun _ hk => hk.1)
      exact ⟨⟨fun k => w2.heap.size ≤ k ∧ k < w3.heap.size, _, (T2.out.below B3.out).below hba, blk_new _ _, hr2, fun k hk => by simp; omega, by omega, by omega, by omega⟩⟩
    rw [List.length_replicate] at H3
    obtain ⟨mb, hmb⟩ : ∃ mb, w3.heap.size = mb := ⟨_, rfl⟩
    rw [hmb] at H3
    rw [hmb]
    clear hmb T2 R3 B3
    go_loopw [9] (fun i wr => ∃ (k : Nat) (xs : List Int), i = .int .i64 k ∧ k ≤ ss.length ∧ Aside0 (SRx w1 wr hb ab mb xs)) (fun i _ => ss.length - (intOf i).toNat)
    case atStart => exact ⟨0, _, rfl, Nat.zero_le _, H3⟩
    case round =>
      clear H3
      obtain ⟨k, xs, rfl, hk, HSx⟩ := hrel
      obtain ⟨wo, rfl⟩ : ∃ wo : World, wo = wr := ⟨_, rfl⟩
      obtain ⟨F, v, hS⟩ := HSx.out
      clear HSx
      obtain ⟨AV, cV, rfl, hlV, hCV⟩ := Kd.R_reads hS.row
      have HS := Aside0.mk hS
      clear hS hCV
      have hsz := HS.out.tr.bel.size
      by_cases hlt : k < ss.length
      · obtain ⟨ad, hA, c0, c1, c2⟩ := at_T31 (Kd.C_below HC.out (below_then B1.out s1 HS.out.tr.bel)) k (by omega) (by omega)
        subst hA
        rw [Int.toNat_natCast] at c0 c1 c2
        obtain ⟨x, hx⟩ : ∃ x, rd_T31 ss k = x := ⟨_, rfl⟩
        rw [hx] at c0 c1 c2
        clear hx
        obtain ⟨l, hl1⟩ : ∃ l, x.f1 = l := ⟨_, rfl⟩
        obtain ⟨t, ht1⟩ : ∃ t, x.f2 = t := ⟨_, rfl⟩
        obtain ⟨f, hf1⟩ : ∃ f, x.f0 = f := ⟨_, rfl⟩
        rw [hl1] at c1
        rw [ht1] at c2
        rw [hf1] at c0
        clear hl1 ht1 hf1
        go_upto_region 14 with fail
        first | go_step | go_values | go_upon | go_back
        (refine id ?_)
        first | go_step | go_values | go_upon | go_back
        (refine id ?_)
        first | go_step | go_values | go_upon | go_back
        (refine id ?_)
        first | go_step | go_values | go_upon | go_back
        (refine id ?_)
        first | go_step | go_values | go_upon | go_back
        (refine id ?_)
        first | go_step | go_values | go_upon | go_back
        (refine id ?_)
        first | go_step | go_values | go_upon | go_back
        (refine id ?_)
        refine wp_seq_k ?_
        intro KT hKT
        have HO : Aside0 (SO w1 (wo.alloc (.cells #[.int .i64 f, .int .i64 l, .int .i64 t] 31)) hb ab mb wo.heap.size f l t xs) := ⟨⟨_, _, HS.out.below (below_alloc (Below.refl _ _) _)⟩, blk_new _ _⟩
        go_cut [11, 12] (fun a b wx => ∃ (B : Bool) (ys : List Int), a = .bool B ∧ b = .bool B ∧ ys.length = xs.length ∧ Aside0 (SO w1 wx hb ab mb wo.heap.size f l t ys))
        case first =>
          by_cases h1 : f = 1
          · rw [h1] at HO c0
            have d1 : ((f : Int) == 1) = true := by rw [h1]; decide
            have d2 : ((f : Int) == 2) = false := by rw [h1]; decide
            subst h1
            clear d1 d2
            have HSA := Aside0.mk (HS.out.below (below_alloc (Below.refl _ _) (.cells #[.int .i64 1, .int .i64 l, .int .i64 t] 31)))
            go_wp2_with fail
            refine (take_any HSA.out.tr.tb l t).mono ?_
            rintro e w3 ⟨rfl, t3, f3⟩
            have hle := HS.out.tr.tb.le8
            have T3 := Aside0.mk (HSA.out.tr.foot t3 (mem_ge HS.out.tr.ge _ _) f3)
            have M3 := Aside0.mk (f3.blk HSA.out.mbk HS.out.ne1)
            have O3 := Aside0.mk (f3.blk HO.out.op (by have := blk_lt HS.out.tr.tb.abk; omega))
            have R3 := Aside0.mk (R_foot HSA.out.row f3 (fun k hk e => (HSA.out.fb k hk).2.2.1 e))
            have FB : Aside0 (∀ k, F k → k < w3.heap.size ∧ k ≠ hb ∧ k ≠ ab ∧ k ≠ mb ∧ k ≠ wo.heap.size) := ⟨fun k hk => by
              have h1 := HS.out.fb k hk
              have h2 := f3.size
              simp at h2
              exact ⟨by omega, h1.2.1, h1.2.2.1, h1.2.2.2, by omega⟩⟩
            have mc3 : w3.cell? ⟨mb, 0, none⟩ = some (.slice AV xs.length cV) := blk_cell M3.out 0
            have oc1 : w3.cell? ⟨wo.heap.size, 1, none⟩ = some (.int .i64 l) := blk_cell O3.out 1
            have oc2 : w3.cell? ⟨wo.heap.size, 2, none⟩ = some (.int .i64 t) := blk_cell O3.out 2
            have nbo : mb ≠ wo.heap.size := by have := blk_lt HS.out.mbk; omega
            clear t3 f3
            go_wp2_with fail
            refine (portcullisref14_Table_Take.calls F _ xs l t (take_ xs l t) (takes xs l t) w1 w3 T3.out.bel R3.out (take_eq HS.out.tr.ge (by omega) l t)).mono ?_
            rintro e w4 ⟨v4, rfl, r4, b4, kp⟩
            obtain ⟨A4, c4, hv4, hl4, hC4⟩ := Kd.R_reads r4
            subst hv4
            obtain ⟨fz, mc4, _, so⟩ := SO.put T3.out M3.out O3.out FB.out HS.out.ne1 HS.out.ne2 nbo HS.out.mb1 r4 b4 kp
            have SO4 := Aside0.mk so
            clear r4 b4 kp so hC4
            go_wp2_with fail
            go_meet
            case rel => exact ⟨_, _, rfl, rfl, by rw [take_len], SO4⟩
          by_cases h2 : f = 2
          · rw [h2] at HO c0
            have d1 : ((f : Int) == 1) = false := by rw [h2]; decide
            have d2 : ((f : Int) == 2) = true := by rw [h2]; decide
            subst h2
            clear d1 d2
            have HSA := Aside0.mk (HS.out.below (below_alloc (Below.refl _ _) (.cells #[.int .i64 2, .int .i64 l, .int .i64 t] 31)))
            go_wp2_with fail
            refine (drop_any HSA.out.tr.tb l t).mono ?_
            rintro e w3 ⟨rfl, t3, f3⟩
            have hle := HS.out.tr.tb.le8
            have T3 := Aside0.mk (HSA.out.tr.foot t3 (mem_ge' HS.out.tr.ge _ _) f3)
            have M3 := Aside0.mk (f3.blk HSA.out.mbk HS.out.ne1)
            have O3 := Aside0.mk (f3.blk HO.out.op (by have := blk_lt HS.out.tr.tb.abk; omega))
            have R3 := Aside0.mk (R_foot HSA.out.row f3 (fun k hk e => (HSA.out.fb k hk).2.2.1 e))
            have FB : Aside0 (∀ k, F k → k < w3.heap.size ∧ k ≠ hb ∧ k ≠ ab ∧ k ≠ mb ∧ k ≠ wo.heap.size) := ⟨fun k hk => by
              have h1 := HS.out.fb k hk
              have h2 := f3.size
              simp at h2
              exact ⟨by omega, h1.2.1, h1.2.2.1, h1.2.2.2, by omega⟩⟩
            have mc3 : w3.cell? ⟨mb, 0, none⟩ = some (.slice AV xs.length cV) := blk_cell M3.out 0
            have oc1 : w3.cell? ⟨wo.heap.size, 1, none⟩ = some (.int .i64 l) := blk_cell O3.out 1
            have oc2 : w3.cell? ⟨wo.heap.size, 2, none⟩ = some (.int .i64 t) := blk_cell O3.out 2
            have nbo : mb ≠ wo.heap.size := by have := blk_lt HS.out.mbk; omega
            clear t3 f3
            go_wp2_with fail
            refine (portcullisref14_Table_Drop.calls F _ xs l t (drop_ xs l t) (drops xs l t) w1 w3 T3.out.bel R3.out (drop_eq HS.out.tr.ge (by omega) l t)).mono ?_
            rintro e w4 ⟨v4, rfl, r4, b4, kp⟩
            obtain ⟨A4, c4, hv4, hl4, hC4⟩ := Kd.R_reads r4
            subst hv4
            obtain ⟨fz, mc4, _, so⟩ := SO.put T3.out M3.out O3.out FB.out HS.out.ne1 HS.out.ne2 nbo HS.out.mb1 r4 b4 kp
            have SO4 := Aside0.mk so
            clear r4 b4 kp so hC4
            go_wp2_with fail
            go_meet
            case rel => exact ⟨_, _, rfl, rfl, by rw [drop_len], SO4⟩
          · have d1 : (f == 1) = false := beq_eq_false_iff_ne.2 h1
            have d2 : (f == 2) = false := beq_eq_false_iff_ne.2 h2
            clear h1 h2
            go_wp2_with fail
            go_meet
            case rel => exact ⟨false, xs, rfl, rfl, rfl, HO⟩
        case rest =>
          obtain ⟨B, ys, rfl, rfl, hyl, H5⟩ := hcut
          obtain ⟨F5, v5, h5⟩ := H5.out.sr
          obtain ⟨A5, c5, rfl, hl5, hC5⟩ := Kd.R_reads h5.row
          have HWc := Aside0.mk (Kd.C_below HW.out (below_then B1.out s1 h5.tr.bel))
          have H5r := Aside0.mk h5
          have hle := h5.tr.tb.le8
          have hge := Aside0.mk h5.tr.ge
          have OP5 := Aside0.mk H5.out.op
          clear h5 hC5 H5 HS HO HC hyl
          obtain ⟨bo, hbo⟩ : ∃ b, wo.heap.size = b := ⟨_, rfl⟩
          rw [hbo] at OP5
          rw [hbo]
          clear hbo
          go_wp2_with fail
          refine (portcullisref00_CopyInts.calls AW cW ws ws wc HWc.out hcap (copy_ints ws (by omega))).mono ?_
          rintro e w6 ⟨v6, rfl, r6, b6⟩
          obtain ⟨A6, c6, hv6, hl6, hC6⟩ := Kd.R_reads r6
          subst hv6
          have H6 := Aside0.mk (H5r.out.below b6)
          have OP6 := Aside0.mk (blk_below OP5.out b6)
          have HW6 := Aside0.mk (Kd.C_below HWc.out b6)
          have HO6 := Aside0.mk hC6
          clear r6 b6 hC6 HWc H5r OP5
          have KEEP : Aside0 (∀ W', Aside0 (Below w6.heap.size w6 W') → W'.cell? ⟨bo, 1, none⟩ = some (.int .i64 l) ∧ W'.cell? ⟨bo, 2, none⟩ = some (.int .i64 t) ∧ W'.cell? ⟨mb, 0, none⟩ = some (.slice A5 ys.length c5) ∧ Aside0 (Below w6.heap.size w6 W')) := ⟨fun W' h => by
            have o := blk_below OP6.out h.out
            exact ⟨blk_cell o 1, blk_cell o 2, blk_cell (blk_below H6.out.mbk h.out) 0, h⟩⟩
          have BT : Aside0 (∀ W W', Aside0 (Below w6.heap.size w6 W) → Below W.heap.size W W' → Aside0 (Below w6.heap.size w6 W')) := ⟨fun W W' h1 h2 => ⟨below_then h1.out h1.out.size h2⟩⟩
          have HH15 : Aside0 (∀ W, Aside0 (Below w6.heap.size w6 W) → Calls Try.prog 15 #[.pointer (some ⟨hb, 0, none⟩), .int .i64 l] W fun e w' => e = .returned (.int .i64 (holder ys l)) ∧ Below W.heap.size W w') := ⟨fun W h => (holder_any (H6.out.below h.out).tr.tb l).mono (fun e w' h => ⟨h.1, h.2 ▸ Below.refl _ _⟩)⟩
          have CA : Aside0 (∀ W, Aside0 (Below w6.heap.size w6 W) → Kd.C (Kd.int .i64) W A5 ys.length ys) := ⟨fun W h => by
            obtain ⟨_, _, e, _, hc⟩ := Kd.R_reads (H6.out.below h.out).row
            simp only [Value.slice.injEq] at e
            obtain ⟨rfl, _, _⟩ := e
            exact hc⟩
          have HH16 : Aside0 (∀ W, Aside0 (Below w6.heap.size w6 W) → Calls Try.prog 16 #[.agg #[.slice A5 ys.length c5], .int .i64 l] W fun e w' => e = .returned (.int .i64 (holder ys l)) ∧ Below W.heap.size W w') := ⟨fun W h => portcullisref14_Table_Holder.calls A5 c5 ys l _ W (CA.out W h) hl5 (holder_eq ys l)⟩
          have hld := held_len ys t ys.length
          have hrl := ring_len ys ws
          have HH18 : Aside0 (∀ W, Aside0 (Below w6.heap.size w6 W) → Calls Try.prog 18 #[.pointer (some ⟨hb, 0, none⟩), .int .i64 t] W fun e w' => ∃ v, e = .returned v ∧ RV w' v (held ys t ys.length) ∧ Below W.heap.size W w') := ⟨fun W h => (held_any (H6.out.below h.out).tr.tb t).mono (fun e w' ⟨v, h1, h2, h3⟩ => ⟨v, h1, ⟨⟨_, _, h2⟩, by omega⟩, h3⟩)⟩
          have HH19 : Aside0 (∀ W, Aside0 (Below w6.heap.size w6 W) → Calls Try.prog 19 #[.agg #[.slice A5 ys.length c5], .int .i64 t] W fun e w' => ∃ v, e = .returned v ∧ RV w' v (held ys t ys.length) ∧ Below W.heap.size W w') := ⟨fun W h => (portcullisref14_Table_Held.calls (ys.length + 1) A5 c5 ys t _ W (CA.out W h) hl5 (held_eq hge.out (by omega) t)).mono (fun e w' ⟨v, h1, h2, h3⟩ => ⟨v, h1, ⟨⟨_, _, h2⟩, by omega⟩, h3⟩)⟩
          have HH20 : Aside0 (∀ W, Aside0 (Below w6.heap.size w6 W) → Calls Try.prog 20 #[.pointer (some ⟨hb, 0, none⟩)] W fun e w' => ∃ v, e = .returned v ∧ RV w' v ys ∧ Below W.heap.size W w') := ⟨fun W h => (all_any (H6.out.below h.out).tr.tb).mono (fun e w' ⟨v, h1, h2, h3⟩ => ⟨v, h1, ⟨⟨_, _, h2⟩, by omega⟩, h3⟩)⟩
          have HH21 : Aside0 (∀ W, Aside0 (Below w6.heap.size w6 W) → Calls Try.prog 21 #[.pointer (some ⟨hb, 0, none⟩), .slice A6 ws.length c6] W fun e w' => ∃ v, e = .returned v ∧ RV w' v (ring ys ws) ∧ Below W.heap.size W w') := ⟨fun W h => (ring_any (H6.out.below h.out).tr.tb A6 c6 ws (Kd.C_below HO6.out h.out) (by omega)).mono (fun e w' ⟨v, h1, h2, h3⟩ => ⟨v, h1, ⟨⟨_, _, h2⟩, by omega⟩, h3⟩)⟩
          have HH22 : Aside0 (∀ W, Aside0 (Below w6.heap.size w6 W) → Calls Try.prog 22 #[.agg #[.slice A5 ys.length c5], .slice AW ws.length cW] W fun e w' => ∃ v, e = .returned v ∧ RV w' v (ring ys ws) ∧ Below W.heap.size W w') := ⟨fun W h => (portcullisref14_Table_Ring.calls _ A5 c5 ys AW cW ws _ W (CA.out W h) hl5 (Kd.C_below HW6.out h.out) hcap (ring_eq ys ws (by omega))).mono (fun e w' ⟨v, h1, h2, h3⟩ => ⟨v, h1, ⟨⟨_, _, h2⟩, by omega⟩, h3⟩)⟩
          have HROW : Aside0 (∀ W, Aside0 (Below w6.heap.size w6 W) → RV W (.slice A5 ys.length c5) ys) := ⟨fun W h => ⟨⟨_, _, (H6.out.below h.out).row⟩, by omega⟩⟩
          have HS5 : Aside0 (∀ W, Aside0 (Below w6.heap.size w6 W) → Calls Try.prog 17 #[.slice A6 ws.length c6, .slice AW ws.length cW] W fun e w' => e = .returned (.bool true) ∧ Below W.heap.size W w' ∧ Aside0 (Below w6.heap.size w6 w')) := ⟨fun W h => (sameInts_any ws ws A6 AW c6 cW W (Kd.C_below HO6.out h.out) hl6 (Kd.C_below HW6.out h.out) hcap (by omega)).mono (fun e w' ⟨h1, h2⟩ => ⟨by rw [h1]; simp, h2.below, ⟨below_then h.out h.out.size h2.below⟩⟩)⟩
          have BD : Aside0 (Below w6.heap.size w6 w6.drew) := ⟨below_drew (Below.refl w6.heap.size w6)⟩
          go_wp2_with fail
          (go_region_held3 (fun w' => w'.cell? ⟨bo, 1, none⟩ = some (.int .i64 l) ∧ w'.cell? ⟨bo, 2, none⟩ = some (.int .i64 t) ∧ w'.cell? ⟨mb, 0, none⟩ = some (.slice A5 ys.length c5) ∧ Aside0 (Below w6.heap.size w6 w'))
            (exact KEEP.out _ (by assumption))
            (first
              | (go_at_call 15; refine (HH15.out _ (by assumption)).mono ?_; rintro e w' ⟨rfl, b⟩; have z := BT.out _ _ (by assumption) b)
              | (go_at_call 16; refine (HH16.out _ (by assumption)).mono ?_; rintro e w' ⟨rfl, b⟩; have z := BT.out _ _ (by assumption) b)
              | (go_at_call 18; refine (HH18.out _ (by assumption)).mono ?_; rintro e w' ⟨v, rfl, r, b⟩; have z := BT.out _ _ (by assumption) b)
              | (go_at_call 19; refine (HH19.out _ (by assumption)).mono ?_; rintro e w' ⟨v, rfl, r, b⟩; have z := BT.out _ _ (by assumption) b)
              | (go_at_call 20; refine (HH20.out _ (by assumption)).mono ?_; rintro e w' ⟨v, rfl, r, b⟩; have z := BT.out _ _ (by assumption) b)
              | (go_at_call 21; refine (HH21.out _ (by assumption)).mono ?_; rintro e w' ⟨v, rfl, r, b⟩; have z := BT.out _ _ (by assumption) b)
              | (go_at_call 22; refine (HH22.out _ (by assumption)).mono ?_; rintro e w' ⟨v, rfl, r, b⟩; have z := BT.out _ _ (by assumption) b)
              | (go_at_call_of 17 (Value.slice A6 ws.length c6); refine (HS5.out _ (by assumption)).mono ?_; rintro e w' ⟨rfl, b, z⟩)
              | (go_at_call_of 17 (Value.slice A5 ys.length c5); refine (sameV _ _ _ _ (by assumption) (HROW.out _ (by assumption))).mono ?_; rintro e w' ⟨rfl, b⟩; have z := BT.out _ _ (by assumption) b)
              | (go_at_call 17; refine (sameV _ _ _ _ (by first | assumption | exact RV.below (by assumption) (by assumption)) (by first | assumption | exact RV.below (by assumption) (by assumption))).mono ?_; rintro e w' ⟨rfl, b⟩; have z := BT.out _ _ (by assumption) b)))
          all_goals (
            go_wp2_with fail
            go_roundw
            case rel => exact ⟨k + 1, ys, by go_num, by omega, ⟨⟨F5, _, H6.out.below (Aside0.out (by assumption))⟩⟩⟩
            case measure => simp [intOf]; omega)
      · go_wp2
        go_ret
        exact ⟨rfl, below_then B1.out s1 HS.out.tr.bel⟩
end Go.Proofs.Ytdildjgkjmoihaa.Latch
