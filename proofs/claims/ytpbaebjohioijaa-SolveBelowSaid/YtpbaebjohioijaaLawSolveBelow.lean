/- The law SolveBelow: for every input it returns true, and the input reads as it did: the given row, out of the walk. No condition. -/
import Derived.Test.YtpbaebjohioijaaRows
import Derived.Test.YtpbaebjohioijaaOpen
import Derived.Test.YtpbaebjohioijaaRU
import Derived.WalkKit
import Derived.ProofKit
import Derived.OpenShut
import Derived.ShutString
import Derived.ChangeOld
import Derived.Below
import Derived.SizedLaws
namespace Go.Proofs.Ytpbaebjohioijaa.Lat
open Go.RowKit Go.Proofs.YtpbaebjohioijaaW.PrintWords Go.Proofs.YtpbaebjohioijaaW.PrintLast Go.Proofs.YtpbaebjohioijaaW.PrintMore Go.Proofs.Ytpbaebjohioijaa.PSolveLeast
set_option linter.unusedVariables false
set_option linter.unusedSimpArgs false

set_option maxHeartbeats 8000000 in
set_option maxRecDepth 100000 in
theorem below3 (n nv : Int) (A B L : Option Addr) (c cB cL : Nat) (es : List (Int × Int)) (cs : List S43) (xs : List Int) (w : World) (hE : Kd.C KE w A es.length es) (hC : Kd.C k43 w B cs.length cs) (hL : Kd.C (Kd.int .i64) w L xs.length xs) :
    Calls Try.prog 3 #[.agg #[.int .i64 n, .slice A es.length c, .int .i64 nv, .slice B cs.length cB], .slice L xs.length cL] w fun e w' => e = .returned (.bool true) ∧ Below w.heap.size w w' := by
  have hcl : cs.length ≤ 9223372036854775807 := Kd.C_max hC
  have HE := Aside0.mk hE
  have HC := Aside0.mk hC
  have HL := Aside0.mk hL
  clear hE hC hL
  obtain ⟨wa, hwa⟩ : ∃ wa, w.alloc (.cells #[.int .i64 n, .slice A es.length c, .int .i64 nv, .slice B cs.length cB] 25) = wa := ⟨_, rfl⟩
  have ba : Below w.heap.size w wa := by rw [← hwa]; exact below_alloc (Below.refl _ _) _
  have na : wa.heap[w.heap.size]? = some (.cells #[.int .i64 n, .slice A es.length c, .int .i64 nv, .slice B cs.length cB] 25 (0, 0)) := by rw [← hwa]; exact blk_new w _
  have BA := Aside0.mk ba
  obtain ⟨pb, hpb⟩ : ∃ pb, w.heap.size = pb := ⟨_, rfl⟩
  have HP := Aside0.mk hpb
  have CA := Aside0.mk (alive7 wa)
  rw [hpb] at na
  have NA := Aside0.mk na
  clear ba na
  go_enter Try.func3, Try.ntmps3
  go_wp2_with fail
  refine CA.out.mono ?_
  rintro e w1 ⟨rfl, b1⟩
  have B1 := Aside0.mk (below_then BA.out BA.out.size b1)
  have N1 := Aside0.mk (blk_below NA.out b1)
  clear b1 CA
  have c0 : w1.cell? ⟨pb, 0, none⟩ = some (.int .i64 n) := by rw [blk_cell N1.out]; rfl
  have c1 : w1.cell? ⟨pb, 1, none⟩ = some (.slice A es.length c) := by rw [blk_cell N1.out]; rfl
  have c2 : w1.cell? ⟨pb, 2, none⟩ = some (.int .i64 nv) := by rw [blk_cell N1.out]; rfl
  have c3 : w1.cell? ⟨pb, 3, none⟩ = some (.slice B cs.length cB) := by rw [blk_cell N1.out]; rfl
  have CO := Aside0.mk (order8 n nv A B c cB es cs.length w1 (Kd.C_below HE.out B1.out) hcl)
  go_wp2_with fail
  refine CO.out.mono ?_
  rintro e w2 ⟨b2, ⟨o, A0, m0, q0, rfl⟩ | ⟨_, hc3, hnv, hK, hb, ub, db, A', c', bs, rfl, hT, _, _⟩⟩
  · have B2 := Aside0.mk (below_then B1.out B1.out.size b2)
    clear b2 CO c0 c1 c2 c3
    go_wp2_with fail
    go_ret
    exact ⟨rfl, B2.out.alloc (by first | exact B2.out.size | (rw [HP.out]; exact B2.out.size) | (rw [← HP.out]; exact B2.out.size)) _⟩
  have hc5 : cs.length ≤ 1000000 := by omega
  have B2 := Aside0.mk (below_then B1.out B1.out.size b2)
  have N2 := Aside0.mk (blk_below N1.out b2)
  have T2 := Aside0.mk hT
  obtain ⟨rk, H, hF, hH⟩ := order_lf hK
  have HF := Aside0.mk hF
  have HH := Aside0.mk hH
  obtain ⟨m, hm⟩ : ∃ m, n.toNat = m := ⟨_, rfl⟩
  obtain ⟨us, hus⟩ : ∃ us, (closE n.toNat es).1 = us := ⟨_, rfl⟩
  obtain ⟨ds, hds⟩ : ∃ ds, (closE n.toNat es).2 = ds := ⟨_, rfl⟩
  rw [hus, hds, hm] at T2
  rw [hus, hm] at HF
  clear b2 CO c0 c1 c2 c3 hT hK hF hH hus hds
  rw [hm]
  clear hm
  obtain ⟨w3, hw3⟩ : ∃ w3, w2.alloc (.cells #[.slice A' m c'] 31) = w3 := ⟨_, rfl⟩
  have b3 : Below w2.heap.size w2 w3 := by rw [← hw3]; exact below_alloc (Below.refl _ _) _
  have B3 := Aside0.mk (below_then B2.out B2.out.size b3)
  have N3 := Aside0.mk (blk_below N2.out b3)
  have T3 := Aside0.mk (T2.out.below b3)
  have C3 := Aside0.mk (Kd.C_below HC.out B3.out)
  have L3 := Aside0.mk (Kd.C_below HL.out B3.out)
  clear b3
  by_cases h5 : (5000 : Int) < (xs.length : Int)
  · go_wp2_with fail
    go_ret
    exact ⟨rfl, by first | exact B3.out | (rw [HP.out]; exact B3.out) | (rw [← HP.out]; exact B3.out)⟩
  have KEEP : Aside0 (∀ W', Aside0 (Below w3.heap.size w3 W') → W'.cell? ⟨pb, 2, none⟩ = some (.int .i64 nv) ∧ W'.cell? ⟨pb, 3, none⟩ = some (.slice B cs.length cB) ∧ Aside0 (Below w3.heap.size w3 W')) := ⟨fun W' h => ⟨(blk_cell (blk_below N3.out h.out) 2).trans rfl, (blk_cell (blk_below N3.out h.out) 3).trans rfl, h⟩⟩
  have BT : Aside0 (∀ W W', Aside0 (Below w3.heap.size w3 W) → Below W.heap.size W W' → Aside0 (Below w3.heap.size w3 W')) := ⟨fun W W' h1 h2 => ⟨below_then h1.out h1.out.size h2⟩⟩
  have BD : Aside0 (Below w3.heap.size w3 w3.drew) := ⟨below_drew (Below.refl w3.heap.size w3)⟩
  have H10 : Aside0 (∀ W, Aside0 (Below w3.heap.size w3 W) → Calls Try.prog 10 #[.slice B cs.length cB] W fun e w' => ∃ D cD, e = .returned (.slice D cs.length cD) ∧ Aside0 (Kd.C k43 w' D cs.length cs) ∧ Below W.heap.size W w') := ⟨fun W h => (copyCons10 B cB cs W (Kd.C_below C3.out h.out) hc5).mono (fun e w' ⟨D, cD, h1, h2, h3⟩ => ⟨D, cD, h1, ⟨h2⟩, h3⟩)⟩
  by_cases hR : rightS m nv cs = true
  · obtain ⟨k, rfl⟩ := right_nat hR
    have HR := Aside0.mk hR
    have H9 : Aside0 (∀ W D cD, Aside0 (Below w3.heap.size w3 W) → Aside0 (Kd.C k43 W D cs.length cs) → Calls Try.prog 9 #[.pointer (some ⟨hb, 0, none⟩), .int .i64 (k : Nat), .slice D cs.length cD] W fun e w' => ∃ lb lv work, e = .returned (.tuple #[.slice (some ⟨lb, 0, none⟩) k k, .int .i64 work, .int .i64 0]) ∧ Aside0 (w'.heap[lb]? = some (.cells (nums .i64 lv).toArray 3 (0, 0)) ∧ LeastP m us H k cs lv work) ∧ Below W.heap.size W w') := ⟨fun W D cD h hD => (least_yes (T3.out.below h.out) (k : Nat) D cD cs hD.out hc5 HF.out HH.out HR.out).mono (fun e w' ⟨lb, lv, work, h1, h2, h3, h4⟩ => ⟨lb, lv, work, by rw [h1, Int.toNat_natCast], ⟨h2, by rw [Int.toNat_natCast] at h3; exact h3⟩, h4⟩)⟩
    clear hR
    go_wp2_with fail
    try rw [hw3]
    first | (go_region_held3 (fun w' => w'.cell? ⟨pb, 2, none⟩ = some (.int .i64 (k : Nat)) ∧ w'.cell? ⟨pb, 3, none⟩ = some (.slice B cs.length cB) ∧ Aside0 (Below w3.heap.size w3 w'))
        (exact KEEP.out _ (by assumption))
        (first
          | (go_at_call 10; refine (H10.out _ (by assumption)).mono ?_; rintro e w' ⟨D, cD, rfl, hD, b⟩; have z := BT.out _ _ (by assumption) b)
          | (go_at_call 9; refine (H9.out _ _ _ (by assumption) (by assumption)).mono ?_; rintro e w' ⟨lb, lv, work, rfl, hP, b⟩; have z := BT.out _ _ (by assumption) b))) | fail
    obtain ⟨w4, rfl⟩ : ∃ w4, w4 = w' := ⟨_, rfl⟩
    have Z4 := Aside0.mk z.out
    have L4 := Aside0.mk hP.out.1
    have P4 := Aside0.mk hP.out.2
    clear hP b z hD
    have hln : Aside0 (lv.length = k) := ⟨P4.out.1.1⟩
    have F4 : Aside0 (fitsM m us (k : Nat) cs lv = true) := ⟨(fitsM_is HR.out).2 P4.out.1⟩
    have UP : Aside0 (∀ W, Aside0 (Below w4.heap.size w4 W) → Aside0 (Below w3.heap.size w3 W)) := ⟨fun W h => ⟨below_then Z4.out Z4.out.size h.out⟩⟩
    have KEEP4 : Aside0 (∀ W', Aside0 (Below w4.heap.size w4 W') → W'.cell? ⟨pb, 2, none⟩ = some (.int .i64 (k : Nat)) ∧ W'.cell? ⟨pb, 3, none⟩ = some (.slice B cs.length cB) ∧ Aside0 (Below w4.heap.size w4 W')) := ⟨fun W' h => ⟨(KEEP.out W' (UP.out W' h)).1, (KEEP.out W' (UP.out W' h)).2.1, h⟩⟩
    have BT4 : Aside0 (∀ W W', Aside0 (Below w4.heap.size w4 W) → Below W.heap.size W W' → Aside0 (Below w4.heap.size w4 W')) := ⟨fun W W' h1 h2 => ⟨below_then h1.out h1.out.size h2⟩⟩
    have BD4 : Aside0 (Below w4.heap.size w4 w4.drew) := ⟨below_drew (Below.refl w4.heap.size w4)⟩
    have H11 : Aside0 (∀ W D cD, Aside0 (Below w4.heap.size w4 W) → Aside0 (Kd.C k43 W D cs.length cs) → Calls Try.prog 11 #[.pointer (some ⟨hb, 0, none⟩), .int .i64 (k : Nat), .slice D cs.length cD, .slice (some ⟨lb, 0, none⟩) k k] W fun e w' => e = .returned (.bool true) ∧ Below W.heap.size W w') := ⟨fun W D cD h hD => by
      have := fits11 (T3.out.below (UP.out W h).out) (k : Nat) D cD cs hD.out hc5 (some ⟨lb, 0, none⟩) k lv (C_ints W lb lv (blk_below L4.out h.out) (by rw [hln.out]; have := hnv; omega)) (by rw [hln.out]; have := hnv; omega)
      rw [F4.out, hln.out] at this
      exact this⟩
    go_wp2_with fail
    first | (go_region_held3 (fun w' => w'.cell? ⟨pb, 2, none⟩ = some (.int .i64 (k : Nat)) ∧ w'.cell? ⟨pb, 3, none⟩ = some (.slice B cs.length cB) ∧ Aside0 (Below w4.heap.size w4 w'))
        (exact KEEP4.out _ (by assumption))
        (first
          | (go_at_call 10; refine (H10.out _ (UP.out _ (by assumption))).mono ?_; rintro e w' ⟨D, cD, rfl, hD, b⟩; have z := BT4.out _ _ (by assumption) b)
          | (go_at_call 11; refine (H11.out _ _ _ (by assumption) (by assumption)).mono ?_; rintro e w' ⟨rfl, b⟩; have z := BT4.out _ _ (by assumption) b))) | fail
    obtain ⟨w5, rfl⟩ : ∃ w5, w5 = w' := ⟨_, rfl⟩
    have Z5 := Aside0.mk z.out
    clear b z hD
    have UP5 : Aside0 (∀ W, Aside0 (Below w5.heap.size w5 W) → Aside0 (Below w4.heap.size w4 W)) := ⟨fun W h => ⟨below_then Z5.out Z5.out.size h.out⟩⟩
    have KEEP5 : Aside0 (∀ W', Aside0 (Below w5.heap.size w5 W') → W'.cell? ⟨pb, 2, none⟩ = some (.int .i64 (k : Nat)) ∧ W'.cell? ⟨pb, 3, none⟩ = some (.slice B cs.length cB) ∧ Aside0 (Below w5.heap.size w5 W')) := ⟨fun W' h => ⟨(KEEP4.out W' (UP5.out W' h)).1, (KEEP4.out W' (UP5.out W' h)).2.1, h⟩⟩
    have BT5 : Aside0 (∀ W W', Aside0 (Below w5.heap.size w5 W) → Below W.heap.size W W' → Aside0 (Below w5.heap.size w5 W')) := ⟨fun W W' h1 h2 => ⟨below_then h1.out h1.out.size h2⟩⟩
    have BD5 : Aside0 (Below w5.heap.size w5 w5.drew) := ⟨below_drew (Below.refl w5.heap.size w5)⟩
    have H12 : Aside0 (∀ W, Aside0 (Below w5.heap.size w5 W) → Calls Try.prog 12 #[.slice L xs.length cL] W fun e w' => ∃ D cD, e = .returned (.slice D xs.length cD) ∧ Aside0 (Kd.C (Kd.int .i64) w' D xs.length xs) ∧ Below W.heap.size W w') := ⟨fun W h => (copyInts12 L cL xs W (Kd.C_below L3.out (UP.out W (UP5.out W h)).out) (by omega)).mono (fun e w' ⟨D, cD, h1, h2, h3⟩ => ⟨D, cD, h1, ⟨h2⟩, h3⟩)⟩
    obtain ⟨fb, hfb⟩ : ∃ b, fitsM m us (k : Nat) cs xs = b := ⟨_, rfl⟩
    have FB := Aside0.mk hfb
    have H11b : Aside0 (∀ W D cD E cE, Aside0 (Below w5.heap.size w5 W) → Aside0 (Kd.C k43 W D cs.length cs) → Aside0 (Kd.C (Kd.int .i64) W E xs.length xs) → Calls Try.prog 11 #[.pointer (some ⟨hb, 0, none⟩), .int .i64 (k : Nat), .slice D cs.length cD, .slice E xs.length cE] W fun e w' => e = .returned (.bool fb) ∧ Below W.heap.size W w') := ⟨fun W D cD E cE h hD hE => by
      have := fits11 (T3.out.below (UP.out W (UP5.out W h)).out) (k : Nat) D cD cs hD.out hc5 E cE xs hE.out (by omega)
      rw [FB.out] at this
      exact this⟩
    have LIFT : Aside0 (∀ W W' D, Aside0 (Kd.C k43 W D cs.length cs) → Below W.heap.size W W' → Aside0 (Kd.C k43 W' D cs.length cs)) := ⟨fun W W' D h b => ⟨Kd.C_below h.out b⟩⟩
    have LIFTI : Aside0 (∀ W W' D, Aside0 (Kd.C (Kd.int .i64) W D xs.length xs) → Below W.heap.size W W' → Aside0 (Kd.C (Kd.int .i64) W' D xs.length xs)) := ⟨fun W W' D h b => ⟨Kd.C_below h.out b⟩⟩
    clear hfb
    clear H11 H9 KEEP KEEP4 BT BT4 BD BD4
    cases fb
    all_goals go_wp2_with fail
    all_goals (first | (go_region_held3 (fun w' => w'.cell? ⟨pb, 2, none⟩ = some (.int .i64 (k : Nat)) ∧ w'.cell? ⟨pb, 3, none⟩ = some (.slice B cs.length cB) ∧ Aside0 (Below w5.heap.size w5 w'))
        (exact KEEP5.out _ (by assumption))
        (first
          | (go_at_call 10; refine (H10.out _ (UP.out _ (UP5.out _ (by assumption)))).mono ?_; rintro e w' ⟨D, cD, rfl, hD, b⟩; have z := BT5.out _ _ (by assumption) b; try (have hE := LIFTI.out _ _ _ (by assumption) b))
          | (go_at_call 12; refine (H12.out _ (by assumption)).mono ?_; rintro e w' ⟨E, cE, rfl, hE, b⟩; have z := BT5.out _ _ (by assumption) b; try (have hD := LIFT.out _ _ _ (by assumption) b))
          | (go_at_call 11; refine (H11b.out _ _ _ _ _ (by assumption) (by assumption) (by assumption)).mono ?_; rintro e w' ⟨rfl, b⟩; have z := BT5.out _ _ (by assumption) b))) | fail)
    all_goals have FX : Aside0 (Below w.heap.size w w') := ⟨below_then B3.out B3.out.size (UP.out _ (UP5.out _ z)).out⟩
    · clear b z
      go_wp2_with fail
      go_ret
      exact ⟨rfl, by first | exact FX.out | (rw [HP.out]; exact FX.out) | (rw [← HP.out]; exact FX.out)⟩
    obtain ⟨w6, rfl⟩ : ∃ w6, w6 = w' := ⟨_, rfl⟩
    have S6 := (fitsM_is HR.out).1 FB.out
    have hxl : Aside0 (xs.length = k) := ⟨S6.1⟩
    have hmost : Aside0 (∀ i : Nat, i < k → mostM m us (rd lv i) (rd xs i) = true) := ⟨fun i hi => P4.out.2.1 xs S6 i hi⟩
    have T6 := Aside0.mk (T3.out.below (UP.out _ (UP5.out _ z)).out)
    have L6 := Aside0.mk (blk_below L4.out (UP5.out _ z).out)
    have X6 := Aside0.mk (Kd.C_below L3.out (UP.out _ (UP5.out _ z)).out)
    clear b z S6 hD hE
    clear H12 H11b H10 LIFT LIFTI UP UP5 KEEP5 BT5 BD5 FB F4
    go_wp2_with fail
    go_loopw [11] (fun i wr => ∃ q : Nat, i = .int .i64 q ∧ q ≤ k ∧ Aside0 (Below w6.heap.size w6 wr)) (fun i _ => k - (intOf i).toNat)
    case atStart => exact ⟨0, rfl, Nat.zero_le _, ⟨Below.refl _ _⟩⟩
    case round =>
      obtain ⟨q, rfl, hq, W6⟩ := hrel
      by_cases hlt : q < k
      · obtain ⟨x, hx⟩ : ∃ x, rd xs (q : Nat) = x := ⟨_, rfl⟩
        obtain ⟨y, hy⟩ : ∃ y, rd lv (q : Nat) = y := ⟨_, rfl⟩
        have hmm : Aside0 (mostM m us y x = true) := ⟨by rw [← hx, ← hy]; exact hmost.out q hlt⟩
        obtain ⟨ad, eA, d0⟩ := Kd.at_int (Kd.C_below X6.out (below_drew W6.out)) (q : Int) (by omega) (by rw [hxl.out]; omega)
        subst eA
        rw [Int.toNat_natCast, hx] at d0
        have d1 : wr.drew.cell? ⟨lb, q, none⟩ = some (.int .i64 y) := by rw [← hy]; exact lat_cell (blk_below L6.out (below_drew W6.out)) q (by rw [hln.out]; exact hlt)
        have hxi : (q : Int) < (k : Int) := by omega
        have hxj : (q : Int) < (xs.length : Int) := by rw [hxl.out]; omega
        have Z0 : Aside0 (TO wr.drew hb ub db m us ds) := ⟨T6.out.below (below_drew W6.out)⟩
        have CM : Aside0 (∀ (W : World), Aside0 (TO W hb ub db m us ds) → Calls Try.prog 13 #[.pointer (some ⟨hb, 0, none⟩), .int .i64 y, .int .i64 x] W fun e w' => e = .returned (.bool true) ∧ W = w') := ⟨fun W h => by have := most_any h.out y x; rw [hmm.out] at this; exact this⟩
        clear hx hy
        go_wp2_with fail
        first | (go_region_held3 (fun w' : World => w'.cell? ⟨lb, q, none⟩ = some (.int .i64 y) ∧ w'.cell? (ad.add q) = some (.int .i64 x))
          (first | exact ⟨d1, d0⟩)
          (first | (go_at_call 13; with_reducible refine (CM.out _ (by assumption)).mono ?_; rintro e w' ⟨rfl, rfl⟩))) | fail
        go_wp2_with fail
        go_roundw
        case rel => exact ⟨q + 1, by go_num, hlt, ⟨below_drew W6.out⟩⟩
        case measure => simp [intOf]; omega
      · have hke : q = k := by omega
        subst hke
        have FY := Aside0.mk (below_then FX.out FX.out.size W6.out)
        clear FX
        have FX := FY
        go_wp2_with fail
        go_ret
        exact ⟨rfl, by first | exact FX.out | (rw [HP.out]; exact FX.out) | (rw [← HP.out]; exact FX.out)⟩
  · have hR : rightS m nv cs = false := by simpa using hR
    have HR := Aside0.mk hR
    have H9 : Aside0 (∀ W D cD, Aside0 (Below w3.heap.size w3 W) → Aside0 (Kd.C k43 W D cs.length cs) → Calls Try.prog 9 #[.pointer (some ⟨hb, 0, none⟩), .int .i64 nv, .slice D cs.length cD] W fun e w' => e = .returned (.tuple #[.slice none 0 0, .int .i64 0, .int .i64 72]) ∧ Below W.heap.size W w') := ⟨fun W D cD h hD => least_no (T3.out.below h.out) nv D cD cs hD.out hc5 HF.out HH.out HR.out⟩
    clear hR
    go_wp2_with fail
    try rw [hw3]
    first | (go_region_held3 (fun w' => w'.cell? ⟨pb, 2, none⟩ = some (.int .i64 nv) ∧ w'.cell? ⟨pb, 3, none⟩ = some (.slice B cs.length cB) ∧ Aside0 (Below w3.heap.size w3 w'))
        (exact KEEP.out _ (by assumption))
        (first
          | (go_at_call 10; refine (H10.out _ (by assumption)).mono ?_; rintro e w' ⟨D, cD, rfl, hD, b⟩; have z := BT.out _ _ (by assumption) b)
          | (go_at_call 9; refine (H9.out _ _ _ (by assumption) (by assumption)).mono ?_; rintro e w' ⟨rfl, b⟩; have z := BT.out _ _ (by assumption) b))) | fail
    have FX := Aside0.mk (below_then B3.out B3.out.size z.out)
    clear b z
    go_wp2_with fail
    go_ret
    exact ⟨rfl, by first | exact FX.out | (rw [HP.out]; exact FX.out) | (rw [← HP.out]; exact FX.out)⟩
end Go.Proofs.Ytpbaebjohioijaa.Lat
namespace Go.Proofs.Ytpbaebjohioijaa.Lat
open Go.RowKit Go.Proofs.YtpbaebjohioijaaW.PrintWords Go.Proofs.YtpbaebjohioijaaW.PrintLast Go.Proofs.YtpbaebjohioijaaW.PrintMore Go.Proofs.Ytpbaebjohioijaa.PSolveLeast
theorem below_law (n nv : Int) (A B : Option Addr) (c cB : Nat) (es : List (Int × Int)) (cs : List S43) (L : Option Addr) (cL : Nat) (xs : List Int) (w : World) (hE : Kd.C KE w A es.length es) (hC : Kd.C k43 w B cs.length cs) (hL : Kd.C (Kd.int .i64) w L xs.length xs) (_hg : ∀ x ∈ xs, GI x) :
    Calls Try.prog 3 #[.agg #[.int .i64 n, .slice A es.length c, .int .i64 nv, .slice B cs.length cB], .slice L xs.length cL] w fun e w' => e = .returned (.bool true) ∧ Below w.heap.size w w' := below3 n nv A B L c cB cL es cs xs w hE hC hL
end Go.Proofs.Ytpbaebjohioijaa.Lat

namespace Go.Proofs.Ytpbaebjohioijaa.solveBelow
open Go.ChangeShapes Go.WideShapes Go.ChangeAt Go.RowKit
open Go.ChangeMaps (open_string shut_string)
set_option linter.unusedVariables false
theorem own : ownKnob Try.prog.godebug = none := by kernel_rfl
theorem laidOut : laidOutB Try.prog = true := by kernel_rfl
set_option maxRecDepth 100000 in
theorem lifted (os : Os) (started : os.Started) (H : Type) (enc : TypeId × Value → H) :
    ReturnsInHanded {} Try.checked os 3 .any (Rows.solveBelowSpec.pre6 enc Try.prog Try.f3 Rows.solveBelowRow.domain false) (Rows.solveBelowSpec.post enc Try.prog Try.f3 false true false false) := by
  refine returnsInHanded_of_change_sized (C := Try.checked) own started (by kernel_rfl) Try.func3
    (ChangeSpec.witness6 (enc := enc) (C := Try.checked) false ⟨#[], #[.agg #[.int .i64 0, .slice none 0 0, .int .i64 0, .slice none 0 0], .slice none 0 0], []⟩ 8 (by kernel_rfl) (by kernel_rfl) (by kernel_rfl) (by kernel_rfl)) ?_
  intro W base args ds gs before hval0 hW hcnd hsz0 _
  have hsz : (DataW.weightsEach Try.prog (Try.f3.params.toList ++ Rows.solveBelowSpec.plain.varTypes Try.prog) (ds ++ gs)).all (· ≤ reachBytes) = true := hsz0
  have hval : ∀ (j : Nat) t v, Try.f3.params[j]? = some t → args[j]? = some v → Value.okWide Try.prog W .any base t v := hval0
  have hW' := hW
  obtain ⟨p, q, hA0, hV, rfl, hfz, hnd⟩ := hW
  have hA : DataW.TrodAll enc Try.prog W 0 (fun _ => true) true Try.f3.params.toList args.toList ds p := hA0
  rw [Try.params3] at hA hval hsz
  obtain ⟨v0, vs0, d0, ds0, p0, q0, hargs, rfl, rfl, h0, r0⟩ := trodAll_cons hA
  obtain ⟨v1, vs1, d1, ds1, p1, q1, rfl, rfl, rfl, h1, r1⟩ := trodAll_cons r0
  obtain ⟨rfl, rfl, rfl⟩ := trodAll_nil r1
  obtain rfl : args = #[v0, v1] := by cases args; simp_all
  obtain ⟨rfl, rfl⟩ := trodVars_none hV
  have k0 := h0
  have lt0 : ∀ x ∈ p0, x.block < W.heap.size := by obtain ⟨m, hm⟩ := k0; exact DataW.trod_lt m _ _ _ hm
  obtain ⟨n0, nv0, A0, B0, c0, b0, es0, cs0, rfl, E0, C0⟩ := Lat.arg_rules (hval 0 25 v0 rfl rfl) h0
  have k1 := h1
  have lt1 : ∀ x ∈ p1, x.block < W.heap.size := by obtain ⟨m, hm⟩ := k1; exact DataW.trod_lt m _ _ _ hm
  obtain ⟨A1, c1, z1, rfl, l1, rr1, g1⟩ := arg_slice Try.underlying26 Lat.o_ints (hval 1 26 v1 rfl rfl) h1
  clear hA0 hval0 hsz0 hsz
  refine (Lat.below_law n0 nv0 A0 B0 c0 b0 es0 cs0 A1 c1 z1 W E0 C0 rr1 g1).mono fun e W' ⟨he, bel⟩ => ?_
  subst he
  exact ⟨_, rfl, _, _, _, [], _, [], hW', trodAll_mk1 (shut_bool Try.underlying4 _), (trodAll_cons_mk (Below.trod laidOut (by kernel_rfl) (of_decide_eq_true (by kernel_rfl)) k0 bel lt0) (trodAll_cons_mk (Below.trod laidOut (by kernel_rfl) (of_decide_eq_true (by kernel_rfl)) k1 bel lt1) trodAll_mk0)), rfl, bel.frame _, fun h => by cases h⟩
theorem over : Rows.solveBelowRow.holds Try.pinned (OpenSpec.ofChange Rows.solveBelowSpec) :=
  OpenClaim.holds_of_wide 3 Try.f3 rfl rfl rfl rfl rfl rfl rfl ⟨rfl, rfl, rfl, rfl, rfl⟩ rfl rfl rfl rfl rfl (by kernel_rfl) Try.func3 (by kernel_rfl)
    (of_decide_eq_true (by kernel_rfl)) (by unfold Func.isWrapper; first | (rw [if_pos (by decide +kernel)]; kernel_rfl) | (rw [if_neg (by decide +kernel)]; exact ⟨rfl, rfl⟩))
    (fun os started H enc _ => lifted os started H enc)
theorem proved : Rows.SolveBelowSaid := over
#print axioms proved
end Go.Proofs.Ytpbaebjohioijaa.solveBelow
namespace Go.Proofs.Ytpbaebjohioijaa
theorem solveBelow_holds : Rows.SolveBelowSaid := solveBelow.proved
end Go.Proofs.Ytpbaebjohioijaa

