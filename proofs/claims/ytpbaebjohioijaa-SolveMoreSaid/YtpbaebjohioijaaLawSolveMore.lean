/- The law SolveMore: for every input it returns true, and the input reads as it did: the given row, out of the walk. No condition. -/
import Derived.Test.YtpbaebjohioijaaRows
import Derived.Test.YtpbaebjohioijaaOpen
import Derived.Test.YtpbaebjohioijaaRX
import Derived.WalkKit
import Derived.ProofKit
import Derived.OpenShut
import Derived.ShutString
import Derived.ChangeOld
import Derived.Below
import Derived.SizedLaws
namespace Go.Proofs.Ytpbaebjohioijaa.Lat
open Go.RowKit Go.Proofs.YtpbaebjohioijaaW.PrintWords Go.Proofs.YtpbaebjohioijaaW.PrintLast Go.Proofs.YtpbaebjohioijaaW.PrintMore Go.Proofs.Ytpbaebjohioijaa.PSolveLeast
set_option linter.unusedVariables false
set_option linter.unusedSimpArgs false
set_option maxHeartbeats 16000000 in
set_option maxRecDepth 100000 in
theorem more4 (n nv kk : Int) (A B M : Option Addr) (c cB cM : Nat) (es : List (Int × Int)) (cs ms : List S43) (w : World) (hE : Kd.C KE w A es.length es) (hC : Kd.C k43 w B cs.length cs) (hM : Kd.C k43 w M ms.length ms) :
    Calls Try.prog 4 #[.agg #[.int .i64 n, .slice A es.length c, .int .i64 nv, .slice B cs.length cB], .slice M ms.length cM, .int .i64 kk] w fun e w' => e = .returned (.bool true) ∧ Below w.heap.size w w' := by
  have hcl : cs.length ≤ 9223372036854775807 := Kd.C_max hC
  have HE := Aside0.mk hE
  have HC := Aside0.mk hC
  have HM := Aside0.mk hM
  clear hE hC hM
  obtain ⟨wa, hwa⟩ : ∃ wa, w.alloc (.cells #[.int .i64 n, .slice A es.length c, .int .i64 nv, .slice B cs.length cB] 25) = wa := ⟨_, rfl⟩
  have ba : Below w.heap.size w wa := by rw [← hwa]; exact below_alloc (Below.refl _ _) _
  have na : wa.heap[w.heap.size]? = some (.cells #[.int .i64 n, .slice A es.length c, .int .i64 nv, .slice B cs.length cB] 25 (0, 0)) := by rw [← hwa]; exact blk_new w _
  have BA := Aside0.mk ba
  obtain ⟨pb, hpb⟩ : ∃ pb, w.heap.size = pb := ⟨_, rfl⟩
  have HP := Aside0.mk hpb
  have CA := Aside0.mk (alive7 wa)
  rw [hpb] at na
  have NA := Aside0.mk na
  clear ba na
  go_enter Try.func4, Try.ntmps4
  go_wp2_with fail
  refine CA.out.mono ?_
  rintro e w1 ⟨rfl, b1⟩
  have B1 := Aside0.mk (below_then BA.out BA.out.size b1)
  have N1 := Aside0.mk (blk_below NA.out b1)
  clear b1 CA
  have c0 : w1.cell? ⟨pb, 0, none⟩ = some (.int .i64 n) := by rw [blk_cell N1.out]; rfl
  have c1 : w1.cell? ⟨pb, 1, none⟩ = some (.slice A es.length c) := by rw [blk_cell N1.out]; rfl
  have c2 : w1.cell? ⟨pb, 2, none⟩ = some (.int .i64 nv) := by rw [blk_cell N1.out]; rfl
  have c3 : w1.cell? ⟨pb, 3, none⟩ = some (.slice B cs.length cB) := by rw [blk_cell N1.out]; rfl
  have CO := Aside0.mk (order8 n nv A B c cB es cs.length w1 (Kd.C_below HE.out B1.out) hcl)
  go_wp2_with fail
  refine CO.out.mono ?_
  rintro e w2 ⟨b2, ⟨o, A0, m0, q0, rfl⟩ | ⟨_, hc3, hnv, hK, hb, ub, db, A', c', bs, rfl, hT, _, _⟩⟩
  · have B2 := Aside0.mk (below_then B1.out B1.out.size b2)
    clear b2 CO c0 c1 c2 c3
    go_wp2_with fail
    go_ret
    exact ⟨rfl, B2.out.alloc (by first | exact B2.out.size | (rw [HP.out]; exact B2.out.size) | (rw [← HP.out]; exact B2.out.size)) _⟩
  have hc5 : cs.length ≤ 3000 := hc3
  have B2 := Aside0.mk (below_then B1.out B1.out.size b2)
  have N2 := Aside0.mk (blk_below N1.out b2)
  have T2 := Aside0.mk hT
  obtain ⟨rk, H, hF, hH⟩ := order_lf hK
  have HF := Aside0.mk hF
  have HH := Aside0.mk hH
  obtain ⟨m, hm⟩ : ∃ m, n.toNat = m := ⟨_, rfl⟩
  obtain ⟨us, hus⟩ : ∃ us, (closE n.toNat es).1 = us := ⟨_, rfl⟩
  obtain ⟨ds, hds⟩ : ∃ ds, (closE n.toNat es).2 = ds := ⟨_, rfl⟩
  rw [hus, hds, hm] at T2
  rw [hus, hm] at HF
  clear b2 CO c0 c1 c2 c3 hT hK hF hH hus hds
  rw [hm]
  clear hm
  obtain ⟨w3, hw3⟩ : ∃ w3, w2.alloc (.cells #[.slice A' m c'] 31) = w3 := ⟨_, rfl⟩
  have b3 : Below w2.heap.size w2 w3 := by rw [← hw3]; exact below_alloc (Below.refl _ _) _
  have B3 := Aside0.mk (below_then B2.out B2.out.size b3)
  have N3 := Aside0.mk (blk_below N2.out b3)
  have T3 := Aside0.mk (T2.out.below b3)
  have C3 := Aside0.mk (Kd.C_below HC.out B3.out)
  have M3 := Aside0.mk (Kd.C_below HM.out B3.out)
  clear b3
  by_cases h5 : (500 : Int) < (ms.length : Int)
  · go_wp2_with fail
    go_ret
    exact ⟨rfl, by first | exact B3.out | (rw [HP.out]; exact B3.out) | (rw [← HP.out]; exact B3.out)⟩
  have hms : ms.length ≤ 500 := by omega
  have KEEP : Aside0 (∀ W', Aside0 (Below w3.heap.size w3 W') → W'.cell? ⟨pb, 2, none⟩ = some (.int .i64 nv) ∧ W'.cell? ⟨pb, 3, none⟩ = some (.slice B cs.length cB) ∧ Aside0 (Below w3.heap.size w3 W')) := ⟨fun W' h => ⟨(blk_cell (blk_below N3.out h.out) 2).trans rfl, (blk_cell (blk_below N3.out h.out) 3).trans rfl, h⟩⟩
  have BT : Aside0 (∀ W W', Aside0 (Below w3.heap.size w3 W) → Below W.heap.size W W' → Aside0 (Below w3.heap.size w3 W')) := ⟨fun W W' h1 h2 => ⟨below_then h1.out h1.out.size h2⟩⟩
  have BTB : Aside0 (∀ W W', Aside0 (Below w3.heap.size w3 W) → Below W.heap.size W W' → Aside0 (Below w3.heap.size w3 W')) := ⟨fun W W' h1 h2 => ⟨below_then h1.out h1.out.size h2⟩⟩
  have BD : Aside0 (Below w3.heap.size w3 w3.drew) := ⟨below_drew (Below.refl w3.heap.size w3)⟩
  have H10 : Aside0 (∀ W, Aside0 (Below w3.heap.size w3 W) → Calls Try.prog 10 #[.slice B cs.length cB] W fun e w' => ∃ D cD, e = .returned (.slice D cs.length cD) ∧ Aside0 (Kd.C k43 w' D cs.length cs) ∧ Below W.heap.size W w') := ⟨fun W h => (copyCons10 B cB cs W (Kd.C_below C3.out h.out) (by omega)).mono (fun e w' ⟨D, cD, h1, h2, h3⟩ => ⟨D, cD, h1, ⟨h2⟩, h3⟩)⟩
  have H10R : Aside0 (∀ W, Aside0 (Below w3.heap.size w3 W) → Calls Try.prog 10 #[.slice B cs.length cB] W fun e w' => ∃ v, e = .returned v ∧ Aside0 (k43.R 43 w' w3.heap.size (fun _ => True) v cs) ∧ Below W.heap.size W w') := ⟨fun W h => (copyCons10R B cB cs W (Kd.C_below C3.out h.out) (by omega)).mono (fun e w' ⟨v, h1, h2, h3⟩ => ⟨v, h1, ⟨Kd.R_lower h2 h.out.size⟩, h3⟩)⟩
  have MC : Aside0 (∀ W, Aside0 (Below w3.heap.size w3 W) → Kd.C k43 W M ms.length ms) := ⟨fun W h => Kd.C_below M3.out h.out⟩
  obtain ⟨xs, hxs⟩ : ∃ xs, cs ++ ms = xs := ⟨_, rfl⟩
  have HX := Aside0.mk hxs
  have HXL : Aside0 (xs.length ≤ 3500) := ⟨by rw [← hxs, List.length_append]; omega⟩
  by_cases hR : rightS m nv cs = true
  case neg =>
    have hR : rightS m nv cs = false := by simpa using hR
    have HR := Aside0.mk hR
    have HR2 : Aside0 (rightS m nv xs = false) := ⟨by rw [← hxs]; exact right_app hR⟩
    clear hxs
    clear hR
    have H9 : Aside0 (∀ W D cD, Aside0 (Below w3.heap.size w3 W) → Aside0 (Kd.C k43 W D cs.length cs) → Calls Try.prog 9 #[.pointer (some ⟨hb, 0, none⟩), .int .i64 nv, .slice D cs.length cD] W fun e w' => e = .returned (.tuple #[.slice none 0 0, .int .i64 0, .int .i64 72]) ∧ Below W.heap.size W w') := ⟨fun W D cD h hD => least_no (T3.out.below h.out) nv D cD cs hD.out (by have := HXL.out; omega) HF.out HH.out HR.out⟩
    have H9b : Aside0 (∀ W D cD, Aside0 (Below w3.heap.size w3 W) → Aside0 (Kd.C k43 W D xs.length xs) → Calls Try.prog 9 #[.pointer (some ⟨hb, 0, none⟩), .int .i64 nv, .slice D xs.length cD] W fun e w' => e = .returned (.tuple #[.slice none 0 0, .int .i64 0, .int .i64 72]) ∧ Below W.heap.size W w') := ⟨fun W D cD h hD => least_no (T3.out.below h.out) nv D cD xs hD.out (by have := HXL.out; omega) HF.out HH.out HR2.out⟩
    go_wp2_with fail
    try rw [hw3]
    first | (go_region_held3 (fun w' => w'.cell? ⟨pb, 2, none⟩ = some (.int .i64 nv) ∧ w'.cell? ⟨pb, 3, none⟩ = some (.slice B cs.length cB) ∧ Aside0 (Below w3.heap.size w3 w'))
        (exact KEEP.out _ (by assumption))
        (first
          | (go_at_call 10; refine (H10.out _ (by assumption)).mono ?_; rintro e w' ⟨D, cD, rfl, hD, b⟩; have z := BT.out _ _ (by assumption) b)
          | (go_at_call 9; refine (H9.out _ _ _ (by assumption) (by assumption)).mono ?_; rintro e w' ⟨rfl, b⟩; have z := BT.out _ _ (by assumption) b))) | fail
    have BD4 := Aside0.mk (BT.out _ _ z (below_drew (Below.refl _ _))).out
    clear b hD
    go_wp2_with fail
    first | (go_region_held3 (fun w' => w'.cell? ⟨pb, 2, none⟩ = some (.int .i64 nv) ∧ w'.cell? ⟨pb, 3, none⟩ = some (.slice B cs.length cB) ∧ Aside0 (Below w3.heap.size w3 w'))
        (exact KEEP.out _ (by assumption))
        (first
          | (go_at_call 10; refine (H10R.out _ (by assumption)).mono ?_; rintro e w' ⟨va, rfl, hVa, b⟩; have z := BT.out _ _ (by assumption) b)
          | (go_at_call 9; refine (H9b.out _ _ _ (by assumption) (by assumption)).mono ?_; rintro e w' ⟨rfl, b⟩; have z := BT.out _ _ (by assumption) b)
          | (refine Kd.R_append_rows_step k43 (w0 := w3) w3.heap.size rfl (.tmp 54) (.tmp 55) 23 43 (.agg #[.int .i64 0, .int .i64 0, .int .i64 0]) 24 rfl Try.underlying23 info43 rfl (by decide) (by decide) va cs ms M ms.length cM (fun _ => True) (fun _ => False) rfl rfl (Aside0.out (by assumption)) (MC.out _ (by assumption)) (fun x cs h => by have e := k43_open h; subst e; exact k43_mkM _ _ _ x) (fun _ h => h.elim) (fun _ _ => trivial) (Aside0.out (by assumption)) (Below.size (Aside0.out (by assumption))) (by omega) ?_; intro v1 w' hv1 hb1 hg1 hat1; obtain ⟨D, cD, ev, _, hDD⟩ := Kd.R_reads hv1; rw [HX.out] at ev hDD; subst ev; have hDC := Aside0.mk hDD; have z := Aside0.mk hb1; clear hv1 hDD hg1 hat1))) | fail
    have FX := Aside0.mk (below_then B3.out B3.out.size z.out)
    clear b z
    go_wp2_with fail
    go_ret
    exact ⟨rfl, by first | exact FX.out | (rw [HP.out]; exact FX.out) | (rw [← HP.out]; exact FX.out)⟩
  case pos =>
    obtain ⟨k, rfl⟩ := right_nat hR
    have HR := Aside0.mk hR
    clear hR
    have H9 : Aside0 (∀ W D cD, Aside0 (Below w3.heap.size w3 W) → Aside0 (Kd.C k43 W D cs.length cs) → Calls Try.prog 9 #[.pointer (some ⟨hb, 0, none⟩), .int .i64 (k : Nat), .slice D cs.length cD] W fun e w' => ∃ lb lv work, e = .returned (.tuple #[.slice (some ⟨lb, 0, none⟩) k k, .int .i64 work, .int .i64 0]) ∧ Aside0 (w'.heap[lb]? = some (.cells (nums .i64 lv).toArray 3 (0, 0)) ∧ LeastP m us H k cs lv work) ∧ Below W.heap.size W w') := ⟨fun W D cD h hD => (least_yes (T3.out.below h.out) (k : Nat) D cD cs hD.out (by have := HXL.out; omega) HF.out HH.out HR.out).mono (fun e w' ⟨lb, lv, work, h1, h2, h3, h4⟩ => ⟨lb, lv, work, by rw [h1, Int.toNat_natCast], ⟨h2, by rw [Int.toNat_natCast] at h3; exact h3⟩, h4⟩)⟩
    go_wp2_with fail
    try rw [hw3]
    first | (go_region_held3 (fun w' => w'.cell? ⟨pb, 2, none⟩ = some (.int .i64 (k : Nat)) ∧ w'.cell? ⟨pb, 3, none⟩ = some (.slice B cs.length cB) ∧ Aside0 (Below w3.heap.size w3 w'))
        (exact KEEP.out _ (by assumption))
        (first
          | (go_at_call 10; refine (H10.out _ (by assumption)).mono ?_; rintro e w' ⟨D, cD, rfl, hD, b⟩; have z := BT.out _ _ (by assumption) b)
          | (go_at_call 9; refine (H9.out _ _ _ (by assumption) (by assumption)).mono ?_; rintro e w' ⟨lb, lv, work, rfl, hP, b⟩; have z := BT.out _ _ (by assumption) b))) | fail
    obtain ⟨w4, rfl⟩ : ∃ w4, w4 = w' := ⟨_, rfl⟩
    have Z4 := Aside0.mk z.out
    have L4 := Aside0.mk hP.out.1
    have P4 := Aside0.mk hP.out.2
    clear hP b z hD
    have hln : Aside0 (lv.length = k) := ⟨P4.out.1.1⟩
    have UP : Aside0 (∀ W, Aside0 (Below w4.heap.size w4 W) → Aside0 (Below w3.heap.size w3 W)) := ⟨fun W h => ⟨below_then Z4.out Z4.out.size h.out⟩⟩
    have KEEP4 : Aside0 (∀ W', Aside0 (Below w4.heap.size w4 W') → W'.cell? ⟨pb, 2, none⟩ = some (.int .i64 (k : Nat)) ∧ W'.cell? ⟨pb, 3, none⟩ = some (.slice B cs.length cB) ∧ Aside0 (Below w4.heap.size w4 W')) := ⟨fun W' h => ⟨(KEEP.out W' (UP.out W' h)).1, (KEEP.out W' (UP.out W' h)).2.1, h⟩⟩
    have BT4 : Aside0 (∀ W W', Aside0 (Below w4.heap.size w4 W) → Below W.heap.size W W' → Aside0 (Below w4.heap.size w4 W')) := ⟨fun W W' h1 h2 => ⟨below_then h1.out h1.out.size h2⟩⟩
    have BD4 : Aside0 (Below w4.heap.size w4 w4.drew) := ⟨below_drew (Below.refl w4.heap.size w4)⟩
    have H10R4 : Aside0 (∀ W, Aside0 (Below w4.heap.size w4 W) → Calls Try.prog 10 #[.slice B cs.length cB] W fun e w' => ∃ v, e = .returned v ∧ Aside0 (k43.R 43 w' w4.heap.size (fun _ => True) v cs) ∧ Below W.heap.size W w') := ⟨fun W h => (copyCons10R B cB cs W (Kd.C_below C3.out (UP.out W h).out) (by omega)).mono (fun e w' ⟨v, h1, h2, h3⟩ => ⟨v, h1, ⟨Kd.R_lower h2 h.out.size⟩, h3⟩)⟩
    have MC4 : Aside0 (∀ W, Aside0 (Below w4.heap.size w4 W) → Kd.C k43 W M ms.length ms) := ⟨fun W h => Kd.C_below M3.out (UP.out W h).out⟩
    obtain ⟨zk, hz⟩ : ∃ z : Nat, kk % 4096 = z := ⟨(kk % 4096).toNat, by omega⟩
    have hz4 : zk < 4096 := by omega
    have HK : Aside0 (bits .and .i64 kk 4095 = (zk : Int)) := ⟨by rw [i64_and4095, hz]⟩
    clear hz H9 H10 H10R MC KEEP BT BTB BD
    by_cases hR2 : rightS m (k : Nat) xs = true
    case neg =>
      have hR2 : rightS m (k : Nat) xs = false := by simpa using hR2
      have HR2 := Aside0.mk hR2
      clear hR2 hxs
      have H9b : Aside0 (∀ W D cD, Aside0 (Below w4.heap.size w4 W) → Aside0 (Kd.C k43 W D xs.length xs) → Calls Try.prog 9 #[.pointer (some ⟨hb, 0, none⟩), .int .i64 (k : Nat), .slice D xs.length cD] W fun e w' => e = .returned (.tuple #[.slice none 0 0, .int .i64 0, .int .i64 72]) ∧ Below W.heap.size W w') := ⟨fun W D cD h hD => least_no (T3.out.below (UP.out W h).out) (k : Nat) D cD xs hD.out (by have := HXL.out; omega) HF.out HH.out HR2.out⟩
      go_wp2_with fail
      first | (go_region_held3 (fun w' => w'.cell? ⟨pb, 2, none⟩ = some (.int .i64 (k : Nat)) ∧ w'.cell? ⟨pb, 3, none⟩ = some (.slice B cs.length cB) ∧ Aside0 (Below w4.heap.size w4 w'))
          (exact KEEP4.out _ (by assumption))
          (first
            | (go_at_call 10; refine (H10R4.out _ (by assumption)).mono ?_; rintro e w' ⟨va, rfl, hVa, b⟩; have z := BT4.out _ _ (by assumption) b)
            | (go_at_call 9; refine (H9b.out _ _ _ (by assumption) (by assumption)).mono ?_; rintro e w' ⟨rfl, b⟩; have z := BT4.out _ _ (by assumption) b)
            | (refine Kd.R_append_rows_step k43 (w0 := w4) w4.heap.size rfl (.tmp 54) (.tmp 55) 23 43 (.agg #[.int .i64 0, .int .i64 0, .int .i64 0]) 24 rfl Try.underlying23 info43 rfl (by decide) (by decide) va cs ms M ms.length cM (fun _ => True) (fun _ => False) rfl rfl (Aside0.out (by assumption)) (MC4.out _ (by assumption)) (fun x cs h => by have e := k43_open h; subst e; exact k43_mkM _ _ _ x) (fun _ h => h.elim) (fun _ _ => trivial) (Aside0.out (by assumption)) (Below.size (Aside0.out (by assumption))) (by omega) ?_; intro v1 w' hv1 hb1 hg1 hat1; obtain ⟨D, cD, ev, _, hDD⟩ := Kd.R_reads hv1; rw [HX.out] at ev hDD; subst ev; have hDC := Aside0.mk hDD; have z := Aside0.mk hb1; clear hv1 hDD hg1 hat1))) | fail
      obtain ⟨w5, rfl⟩ : ∃ w5, w5 = w' := ⟨_, rfl⟩
      have ZT := Aside0.mk z.out
      clear b z hVa hDC hb1
      by_cases hk0 : (0 : Int) < (k : Int)
      · go_wp2_with fail
        go_loopw [16] (fun i wr => i = .int .i64 0 ∧ wr = w5) (fun i _ => 0)
        case atStart => exact ⟨rfl, rfl⟩
        case round =>
          obtain ⟨rfl, rfl⟩ := hrel
          obtain ⟨wt, hwt⟩ : ∃ wt, wt = wr := ⟨_, rfl⟩
          rw [← hwt] at ZT ⊢
          clear hwt
          have t3 : (wt.alloc (.cells #[] 43)).cell? ⟨pb, 3, none⟩ = some (.slice B cs.length cB) := (KEEP4.out _ ⟨ZT.out.alloc ZT.out.size _⟩).2.1
          go_wp2_with fail
          clear t3
          go_loopw [17, 19] (fun v i wr => ∃ q : Nat, i = .int .i64 q ∧ q ≤ cs.length ∧ Aside0 (k43.R 43 wr wt.heap.size (fun _ => True) v (turnC cs zk q)) ∧ Aside0 (Below wt.heap.size wt wr)) (fun _ i _ => cs.length - (intOf i).toNat)
          case atStart => exact ⟨0, rfl, Nat.zero_le _, ⟨lit_nil k43 43 wt wt.heap.size (Nat.le_refl _)⟩, ⟨below_alloc (Below.refl _ _) _⟩⟩
          case round =>
            obtain ⟨q, rfl, hq, HV, HB⟩ := hrel
            obtain ⟨wq, rfl⟩ : ∃ wq, wq = wr := ⟨_, rfl⟩
            have ZQ := Aside0.mk (below_then ZT.out ZT.out.size HB.out)
            by_cases hlt : q < cs.length
            · have hp : (q + zk) % cs.length < cs.length := Nat.mod_lt _ (by omega)
              obtain ⟨p, hpp⟩ : ∃ p, (q + zk) % cs.length = p := ⟨_, rfl⟩
              rw [hpp] at hp
              have HPP := Aside0.mk hpp
              have hk1 : IntKind.i64.wrap ((q : Int) + (zk : Int)) = ((q + zk : Nat) : Int) := by rw [IntKind.wrap_i64]; omega
              have hk2 : ((q + zk : Nat) : Int).tmod (cs.length : Int) = (p : Int) := by rw [← hpp]; rfl
              have hk3 : bits .and .i64 kk 4095 = (zk : Int) := HK.out
              have hk4 : ((q : Int) + (zk : Int)).tmod (cs.length : Int) = (p : Int) := by rw [← hk2]; congr 1
              have hnz : ¬ ((cs.length : Nat) : Int) = 0 := by omega
              have hnz2 : (((cs.length : Nat) : Int) == 0) = false := beq_eq_false_iff_ne.2 (by omega)
              have hnz3 : ¬ cs.length = 0 := by omega
              have hnz4 : ¬ cs = [] := by intro h; rw [h] at hnz3; exact hnz3 rfl
              have hp1 : (0 : Int) ≤ (p : Int) := by omega
              have hp2 : (p : Int) < (cs.length : Int) := by omega
              clear hpp
              obtain ⟨ad, eA, d0, d1, d2⟩ := at_T43 (Kd.C_below C3.out (UP.out _ ZQ).out) (p : Int) (by omega) (by omega)
              subst eA
              rw [Int.toNat_natCast] at d0 d1 d2
              obtain ⟨s, hs⟩ : ∃ s, rd_T43 cs (p : Int) = s := ⟨_, rfl⟩
              rw [hs] at d0 d1 d2
              have HS : Aside0 (cA cs ((q + zk) % cs.length) = s) := ⟨by rw [HPP.out]; exact hs⟩
              have HS2 := Aside0.mk hs
              clear hs
              have k3 := (KEEP4.out _ ZQ).2.1
              go_wp2_with fail
              have KQ : Aside0 (∀ W', Aside0 (Below wt.heap.size wt W') → W'.cell? ⟨pb, 3, none⟩ = some (.slice (some ad) cs.length cB) ∧ W'.cell? (ad.add (p * 3)) = some (.int .i64 s.f0) ∧ W'.cell? ⟨(ad.add (p * 3)).block, (ad.add (p * 3)).off + 1, none⟩ = some (.int .i64 s.f1) ∧ W'.cell? ⟨(ad.add (p * 3)).block, (ad.add (p * 3)).off + 2, none⟩ = some (.int .i64 s.f2)) := ⟨fun W' h => by
                have hh : Aside0 (Below w4.heap.size w4 W') := ⟨below_then ZT.out ZT.out.size h.out⟩
                obtain ⟨ad2, eA2, g0, g1, g2⟩ := at_T43 (Kd.C_below C3.out (UP.out _ hh).out) (p : Int) (by omega) (by omega)
                obtain rfl : ad = ad2 := Option.some.inj eA2
                rw [Int.toNat_natCast, HS2.out] at g0 g1 g2
                exact ⟨(KEEP4.out _ hh).2.1, g0, g1, g2⟩⟩
              have BQD : Aside0 (Below wt.heap.size wt wq.drew) := ⟨below_drew HB.out⟩
              have BQA : Aside0 (∀ o, Aside0 (Below wt.heap.size wt (wq.drew.alloc o))) := ⟨fun o => ⟨BQD.out.alloc BQD.out.size o⟩⟩
              have HVD : Aside0 (k43.R 43 wq.drew wt.heap.size (fun _ => True) u17 (turnC cs zk q)) := ⟨Kd.R_mono (Kd.R_old HV.out (below_drew (Below.refl _ _))) (fun _ hk => hk.1)⟩
              have HLQ : Aside0 ((turnC cs zk q).length + 1 ≤ 3001) := ⟨by rw [turn_len]; omega⟩
              first | (go_region_held3 (fun w' => w'.cell? ⟨pb, 3, none⟩ = some (.slice (some ad) cs.length cB) ∧ w'.cell? (ad.add (p * 3)) = some (.int .i64 s.f0) ∧ w'.cell? ⟨(ad.add (p * 3)).block, (ad.add (p * 3)).off + 1, none⟩ = some (.int .i64 s.f1) ∧ w'.cell? ⟨(ad.add (p * 3)).block, (ad.add (p * 3)).off + 2, none⟩ = some (.int .i64 s.f2))
                (first | exact ⟨k3, d0, d1, d2⟩ | exact KQ.out _ (BQA.out _) | exact KQ.out _ (by assumption))
                (first
                  | (refine Kd.R_append_step k43 (w0 := wt) wt.heap.size rfl (.tmp 101) (.tmp 112) 23 43 (.agg #[.int .i64 0, .int .i64 0, .int .i64 0]) 24 rfl Try.underlying23 info43 rfl (by decide) (by decide) u17 (turnC cs zk q) s [.int .i64 s.f0, .int .i64 s.f1, .int .i64 s.f2] (fun _ => True) (fun _ => False) rfl rfl (k43_mkM _ _ _ s) (fun _ h => h.elim) (fun _ _ => trivial) HVD.out BQD.out BQD.out.size (by have := HLQ.out; omega) ?_; intro v1 w' hv1 hb1 hg1 hat1; have hv2 := Aside0.mk hv1; have z := Aside0.mk hb1; clear hv1 hb1 hg1 hat1))) | fail
              go_wp2_with fail
              go_roundw
              case rel => exact ⟨q + 1, by go_num, hlt, ⟨by rw [turn_succ, HS.out]; exact hv2.out⟩, z⟩
              case measure => simp [intOf]; omega
            · have hqe : q = cs.length := by omega
              subst hqe
              obtain ⟨ys, hys⟩ : ∃ ys, turnC cs zk cs.length ++ cs = ys := ⟨_, rfl⟩
              have HYS := Aside0.mk hys
              have HYL : Aside0 (ys.length ≤ 6000) := ⟨by rw [← hys, List.length_append, turn_len]; omega⟩
              have HY1 : Aside0 (∀ c ∈ ys, c ∈ cs) := ⟨fun c hc => by rw [← hys] at hc; exact (turn_all c).1 hc⟩
              have HY2 : Aside0 (∀ c ∈ cs, c ∈ ys) := ⟨fun c hc => by rw [← hys]; exact (turn_all c).2 hc⟩
              clear hys
              have HLQ : Aside0 ((turnC cs zk cs.length).length = cs.length) := ⟨turn_len _ _ _⟩
              have k3 := (KEEP4.out _ ZQ).2.1
              have CQ := Aside0.mk (Kd.C_below C3.out (UP.out _ ZQ).out)
              go_wp2_with (at_builtin
                           refine Kd.R_append_rows k43 (w0 := wt) wt.heap.size rfl (.tmp 114) (.tmp 116) 23 43 (.agg #[.int .i64 0, .int .i64 0, .int .i64 0]) 24 rfl Try.underlying23 info43 rfl (by decide) (by decide) u17 (turnC cs zk cs.length) cs B cs.length cB (fun _ => True) (fun _ => False) rfl rfl HV.out CQ.out (fun x cs h => by have e := k43_open h; subst e; exact k43_mkM _ _ _ x) (fun _ h => h.elim) (fun _ _ => trivial) HB.out HB.out.size (by rw [HLQ.out]; omega) ?_
                           intro v1 w' hv1 hb1 hg1 hat1
                           obtain ⟨E, cE, ev, _, hEE⟩ := Kd.R_reads hv1
                           rw [HYS.out] at ev hEE
                           subst ev
                           have HEC := Aside0.mk hEE
                           have ZE := Aside0.mk (below_then ZT.out ZT.out.size hb1)
                           clear hv1 hEE hb1 hg1 hat1 k3
                           have k2 := (KEEP4.out _ ZE).1)
              have HRY : Aside0 (rightS m (k : Nat) ys = true) := ⟨right_sub HR.out HY1.out⟩
              refine (least_yes (T3.out.below (UP.out _ ZE).out) (k : Nat) E cE ys HEC.out (by have := HYL.out; omega) HF.out HH.out HRY.out).mono ?_
              rintro e w8 ⟨lb3, lv3, work3, rfl, hl3, hP3, b8⟩
              rw [Int.toNat_natCast] at hP3 ⊢
              have Z8 := Aside0.mk (below_then ZE.out ZE.out.size b8)
              have SAME : Aside0 (lv = lv3) := ⟨least_same HF.out P4.out hP3 HY2.out HY1.out⟩
              have L8 := Aside0.mk (blk_below L4.out Z8.out)
              have L9 := Aside0.mk hl3
              have HS14 : Aside0 (∀ W, Aside0 (Below w8.heap.size w8 W) → Calls Try.prog 14 #[.slice (some ⟨lb, 0, none⟩) k k, .slice (some ⟨lb3, 0, none⟩) k k] W fun e w' => e = .returned (.bool true) ∧ Below W.heap.size W w') := ⟨fun W h => by
                have e3 : lv3.length = k := by rw [← SAME.out]; exact hln.out
                have g1 := C_ints W lb lv (blk_below L8.out h.out) (by rw [hln.out]; have := hnv; omega)
                have g2 := C_ints W lb3 lv3 (blk_below L9.out h.out) (by rw [e3]; have := hnv; omega)
                have := sameInts14 lv lv3 (some ⟨lb, 0, none⟩) (some ⟨lb3, 0, none⟩) k k W g1 (by rw [hln.out]; exact Nat.le_refl _) g2 (by rw [e3]; exact Nat.le_refl _) (by rw [hln.out]; have := hnv; omega)
                rw [e3, hln.out] at this
                exact this.mono (fun e w' ⟨h1, h2⟩ => ⟨by rw [h1, decide_eq_true SAME.out], h2.below⟩)⟩
              clear hl3 hP3 b8
              go_wp2_with fail
              refine (HS14.out w8 ⟨Below.refl _ _⟩).mono ?_
              rintro e w' ⟨rfl, b⟩
              have FX : Aside0 (Below w.heap.size w w') := ⟨below_then B3.out B3.out.size (below_then Z4.out Z4.out.size (below_then Z8.out Z8.out.size b))⟩
              go_wp2_with fail
              go_ret
              exact ⟨rfl, by first | exact FX.out | (rw [HP.out]; exact FX.out) | (rw [← HP.out]; exact FX.out)⟩
      · go_wp2_with fail
        go_loopw [16] (fun i wr => i = .int .i64 0 ∧ wr = w5) (fun i _ => 0)
        case atStart => exact ⟨rfl, rfl⟩
        case round =>
          obtain ⟨rfl, rfl⟩ := hrel
          obtain ⟨wt, hwt⟩ : ∃ wt, wt = wr := ⟨_, rfl⟩
          rw [← hwt] at ZT ⊢
          clear hwt
          have t3 : (wt.alloc (.cells #[] 43)).cell? ⟨pb, 3, none⟩ = some (.slice B cs.length cB) := (KEEP4.out _ ⟨ZT.out.alloc ZT.out.size _⟩).2.1
          go_wp2_with fail
          clear t3
          go_loopw [17, 19] (fun v i wr => ∃ q : Nat, i = .int .i64 q ∧ q ≤ cs.length ∧ Aside0 (k43.R 43 wr wt.heap.size (fun _ => True) v (turnC cs zk q)) ∧ Aside0 (Below wt.heap.size wt wr)) (fun _ i _ => cs.length - (intOf i).toNat)
          case atStart => exact ⟨0, rfl, Nat.zero_le _, ⟨lit_nil k43 43 wt wt.heap.size (Nat.le_refl _)⟩, ⟨below_alloc (Below.refl _ _) _⟩⟩
          case round =>
            obtain ⟨q, rfl, hq, HV, HB⟩ := hrel
            obtain ⟨wq, rfl⟩ : ∃ wq, wq = wr := ⟨_, rfl⟩
            have ZQ := Aside0.mk (below_then ZT.out ZT.out.size HB.out)
            by_cases hlt : q < cs.length
            · have hp : (q + zk) % cs.length < cs.length := Nat.mod_lt _ (by omega)
              obtain ⟨p, hpp⟩ : ∃ p, (q + zk) % cs.length = p := ⟨_, rfl⟩
              rw [hpp] at hp
              have HPP := Aside0.mk hpp
              have hk1 : IntKind.i64.wrap ((q : Int) + (zk : Int)) = ((q + zk : Nat) : Int) := by rw [IntKind.wrap_i64]; omega
              have hk2 : ((q + zk : Nat) : Int).tmod (cs.length : Int) = (p : Int) := by rw [← hpp]; rfl
              have hk3 : bits .and .i64 kk 4095 = (zk : Int) := HK.out
              have hk4 : ((q : Int) + (zk : Int)).tmod (cs.length : Int) = (p : Int) := by rw [← hk2]; congr 1
              have hnz : ¬ ((cs.length : Nat) : Int) = 0 := by omega
              have hnz2 : (((cs.length : Nat) : Int) == 0) = false := beq_eq_false_iff_ne.2 (by omega)
              have hnz3 : ¬ cs.length = 0 := by omega
              have hnz4 : ¬ cs = [] := by intro h; rw [h] at hnz3; exact hnz3 rfl
              have hp1 : (0 : Int) ≤ (p : Int) := by omega
              have hp2 : (p : Int) < (cs.length : Int) := by omega
              clear hpp
              obtain ⟨ad, eA, d0, d1, d2⟩ := at_T43 (Kd.C_below C3.out (UP.out _ ZQ).out) (p : Int) (by omega) (by omega)
              subst eA
              rw [Int.toNat_natCast] at d0 d1 d2
              obtain ⟨s, hs⟩ : ∃ s, rd_T43 cs (p : Int) = s := ⟨_, rfl⟩
              rw [hs] at d0 d1 d2
              have HS : Aside0 (cA cs ((q + zk) % cs.length) = s) := ⟨by rw [HPP.out]; exact hs⟩
              have HS2 := Aside0.mk hs
              clear hs
              have k3 := (KEEP4.out _ ZQ).2.1
              go_wp2_with fail
              have KQ : Aside0 (∀ W', Aside0 (Below wt.heap.size wt W') → W'.cell? ⟨pb, 3, none⟩ = some (.slice (some ad) cs.length cB) ∧ W'.cell? (ad.add (p * 3)) = some (.int .i64 s.f0) ∧ W'.cell? ⟨(ad.add (p * 3)).block, (ad.add (p * 3)).off + 1, none⟩ = some (.int .i64 s.f1) ∧ W'.cell? ⟨(ad.add (p * 3)).block, (ad.add (p * 3)).off + 2, none⟩ = some (.int .i64 s.f2)) := ⟨fun W' h => by
                have hh : Aside0 (Below w4.heap.size w4 W') := ⟨below_then ZT.out ZT.out.size h.out⟩
                obtain ⟨ad2, eA2, g0, g1, g2⟩ := at_T43 (Kd.C_below C3.out (UP.out _ hh).out) (p : Int) (by omega) (by omega)
                obtain rfl : ad = ad2 := Option.some.inj eA2
                rw [Int.toNat_natCast, HS2.out] at g0 g1 g2
                exact ⟨(KEEP4.out _ hh).2.1, g0, g1, g2⟩⟩
              have BQD : Aside0 (Below wt.heap.size wt wq.drew) := ⟨below_drew HB.out⟩
              have BQA : Aside0 (∀ o, Aside0 (Below wt.heap.size wt (wq.drew.alloc o))) := ⟨fun o => ⟨BQD.out.alloc BQD.out.size o⟩⟩
              have HVD : Aside0 (k43.R 43 wq.drew wt.heap.size (fun _ => True) u17 (turnC cs zk q)) := ⟨Kd.R_mono (Kd.R_old HV.out (below_drew (Below.refl _ _))) (fun _ hk => hk.1)⟩
              have HLQ : Aside0 ((turnC cs zk q).length + 1 ≤ 3001) := ⟨by rw [turn_len]; omega⟩
              first | (go_region_held3 (fun w' => w'.cell? ⟨pb, 3, none⟩ = some (.slice (some ad) cs.length cB) ∧ w'.cell? (ad.add (p * 3)) = some (.int .i64 s.f0) ∧ w'.cell? ⟨(ad.add (p * 3)).block, (ad.add (p * 3)).off + 1, none⟩ = some (.int .i64 s.f1) ∧ w'.cell? ⟨(ad.add (p * 3)).block, (ad.add (p * 3)).off + 2, none⟩ = some (.int .i64 s.f2))
                (first | exact ⟨k3, d0, d1, d2⟩ | exact KQ.out _ (BQA.out _) | exact KQ.out _ (by assumption))
                (first
                  | (refine Kd.R_append_step k43 (w0 := wt) wt.heap.size rfl (.tmp 101) (.tmp 112) 23 43 (.agg #[.int .i64 0, .int .i64 0, .int .i64 0]) 24 rfl Try.underlying23 info43 rfl (by decide) (by decide) u17 (turnC cs zk q) s [.int .i64 s.f0, .int .i64 s.f1, .int .i64 s.f2] (fun _ => True) (fun _ => False) rfl rfl (k43_mkM _ _ _ s) (fun _ h => h.elim) (fun _ _ => trivial) HVD.out BQD.out BQD.out.size (by have := HLQ.out; omega) ?_; intro v1 w' hv1 hb1 hg1 hat1; have hv2 := Aside0.mk hv1; have z := Aside0.mk hb1; clear hv1 hb1 hg1 hat1))) | fail
              go_wp2_with fail
              go_roundw
              case rel => exact ⟨q + 1, by go_num, hlt, ⟨by rw [turn_succ, HS.out]; exact hv2.out⟩, z⟩
              case measure => simp [intOf]; omega
            · have hqe : q = cs.length := by omega
              subst hqe
              obtain ⟨ys, hys⟩ : ∃ ys, turnC cs zk cs.length ++ cs = ys := ⟨_, rfl⟩
              have HYS := Aside0.mk hys
              have HYL : Aside0 (ys.length ≤ 6000) := ⟨by rw [← hys, List.length_append, turn_len]; omega⟩
              have HY1 : Aside0 (∀ c ∈ ys, c ∈ cs) := ⟨fun c hc => by rw [← hys] at hc; exact (turn_all c).1 hc⟩
              have HY2 : Aside0 (∀ c ∈ cs, c ∈ ys) := ⟨fun c hc => by rw [← hys]; exact (turn_all c).2 hc⟩
              clear hys
              have HLQ : Aside0 ((turnC cs zk cs.length).length = cs.length) := ⟨turn_len _ _ _⟩
              have k3 := (KEEP4.out _ ZQ).2.1
              have CQ := Aside0.mk (Kd.C_below C3.out (UP.out _ ZQ).out)
              go_wp2_with (at_builtin
                           refine Kd.R_append_rows k43 (w0 := wt) wt.heap.size rfl (.tmp 114) (.tmp 116) 23 43 (.agg #[.int .i64 0, .int .i64 0, .int .i64 0]) 24 rfl Try.underlying23 info43 rfl (by decide) (by decide) u17 (turnC cs zk cs.length) cs B cs.length cB (fun _ => True) (fun _ => False) rfl rfl HV.out CQ.out (fun x cs h => by have e := k43_open h; subst e; exact k43_mkM _ _ _ x) (fun _ h => h.elim) (fun _ _ => trivial) HB.out HB.out.size (by rw [HLQ.out]; omega) ?_
                           intro v1 w' hv1 hb1 hg1 hat1
                           obtain ⟨E, cE, ev, _, hEE⟩ := Kd.R_reads hv1
                           rw [HYS.out] at ev hEE
                           subst ev
                           have HEC := Aside0.mk hEE
                           have ZE := Aside0.mk (below_then ZT.out ZT.out.size hb1)
                           clear hv1 hEE hb1 hg1 hat1 k3
                           have k2 := (KEEP4.out _ ZE).1)
              have HRY : Aside0 (rightS m (k : Nat) ys = true) := ⟨right_sub HR.out HY1.out⟩
              refine (least_yes (T3.out.below (UP.out _ ZE).out) (k : Nat) E cE ys HEC.out (by have := HYL.out; omega) HF.out HH.out HRY.out).mono ?_
              rintro e w8 ⟨lb3, lv3, work3, rfl, hl3, hP3, b8⟩
              rw [Int.toNat_natCast] at hP3 ⊢
              have Z8 := Aside0.mk (below_then ZE.out ZE.out.size b8)
              have SAME : Aside0 (lv = lv3) := ⟨least_same HF.out P4.out hP3 HY2.out HY1.out⟩
              have L8 := Aside0.mk (blk_below L4.out Z8.out)
              have L9 := Aside0.mk hl3
              have HS14 : Aside0 (∀ W, Aside0 (Below w8.heap.size w8 W) → Calls Try.prog 14 #[.slice (some ⟨lb, 0, none⟩) k k, .slice (some ⟨lb3, 0, none⟩) k k] W fun e w' => e = .returned (.bool true) ∧ Below W.heap.size W w') := ⟨fun W h => by
                have e3 : lv3.length = k := by rw [← SAME.out]; exact hln.out
                have g1 := C_ints W lb lv (blk_below L8.out h.out) (by rw [hln.out]; have := hnv; omega)
                have g2 := C_ints W lb3 lv3 (blk_below L9.out h.out) (by rw [e3]; have := hnv; omega)
                have := sameInts14 lv lv3 (some ⟨lb, 0, none⟩) (some ⟨lb3, 0, none⟩) k k W g1 (by rw [hln.out]; exact Nat.le_refl _) g2 (by rw [e3]; exact Nat.le_refl _) (by rw [hln.out]; have := hnv; omega)
                rw [e3, hln.out] at this
                exact this.mono (fun e w' ⟨h1, h2⟩ => ⟨by rw [h1, decide_eq_true SAME.out], h2.below⟩)⟩
              clear hl3 hP3 b8
              go_wp2_with fail
              refine (HS14.out w8 ⟨Below.refl _ _⟩).mono ?_
              rintro e w' ⟨rfl, b⟩
              have FX : Aside0 (Below w.heap.size w w') := ⟨below_then B3.out B3.out.size (below_then Z4.out Z4.out.size (below_then Z8.out Z8.out.size b))⟩
              go_wp2_with fail
              go_ret
              exact ⟨rfl, by first | exact FX.out | (rw [HP.out]; exact FX.out) | (rw [← HP.out]; exact FX.out)⟩
    case pos =>
      have HR2 := Aside0.mk hR2
      clear hR2 hxs
      have H9b : Aside0 (∀ W D cD, Aside0 (Below w4.heap.size w4 W) → Aside0 (Kd.C k43 W D xs.length xs) → Calls Try.prog 9 #[.pointer (some ⟨hb, 0, none⟩), .int .i64 (k : Nat), .slice D xs.length cD] W fun e w' => ∃ lb lv work, e = .returned (.tuple #[.slice (some ⟨lb, 0, none⟩) k k, .int .i64 work, .int .i64 0]) ∧ Aside0 (w'.heap[lb]? = some (.cells (nums .i64 lv).toArray 3 (0, 0)) ∧ LeastP m us H k xs lv work) ∧ Below W.heap.size W w') := ⟨fun W D cD h hD => (least_yes (T3.out.below (UP.out W h).out) (k : Nat) D cD xs hD.out (by have := HXL.out; omega) HF.out HH.out HR2.out).mono (fun e w' ⟨lb, lv, work, h1, h2, h3, h4⟩ => ⟨lb, lv, work, by rw [h1, Int.toNat_natCast], ⟨h2, by rw [Int.toNat_natCast] at h3; exact h3⟩, h4⟩)⟩
      go_wp2_with fail
      first | (go_region_held3 (fun w' => w'.cell? ⟨pb, 2, none⟩ = some (.int .i64 (k : Nat)) ∧ w'.cell? ⟨pb, 3, none⟩ = some (.slice B cs.length cB) ∧ Aside0 (Below w4.heap.size w4 w'))
          (exact KEEP4.out _ (by assumption))
          (first
            | (go_at_call 10; refine (H10R4.out _ (by assumption)).mono ?_; rintro e w' ⟨va, rfl, hVa, b⟩; have z := BT4.out _ _ (by assumption) b)
            | (go_at_call 9; refine (H9b.out _ _ _ (by assumption) (by assumption)).mono ?_; rintro e w' ⟨lb2, lw, work2, rfl, hP2, b⟩; have z := BT4.out _ _ (by assumption) b)
            | (refine Kd.R_append_rows_step k43 (w0 := w4) w4.heap.size rfl (.tmp 54) (.tmp 55) 23 43 (.agg #[.int .i64 0, .int .i64 0, .int .i64 0]) 24 rfl Try.underlying23 info43 rfl (by decide) (by decide) va cs ms M ms.length cM (fun _ => True) (fun _ => False) rfl rfl (Aside0.out (by assumption)) (MC4.out _ (by assumption)) (fun x cs h => by have e := k43_open h; subst e; exact k43_mkM _ _ _ x) (fun _ h => h.elim) (fun _ _ => trivial) (Aside0.out (by assumption)) (Below.size (Aside0.out (by assumption))) (by omega) ?_; intro v1 w' hv1 hb1 hg1 hat1; obtain ⟨D, cD, ev, _, hDD⟩ := Kd.R_reads hv1; rw [HX.out] at ev hDD; subst ev; have hDC := Aside0.mk hDD; have z := Aside0.mk hb1; clear hv1 hDD hg1 hat1))) | fail
      obtain ⟨w5, rfl⟩ : ∃ w5, w5 = w' := ⟨_, rfl⟩
      have Z5 := Aside0.mk z.out
      have L5 := Aside0.mk hP2.out.1
      have Q5 := Aside0.mk hP2.out.2
      clear b z hVa hDC hb1 hP2
      have hln2 : Aside0 (lw.length = k) := ⟨Q5.out.1.1⟩
      have L45 := Aside0.mk (blk_below L4.out Z5.out)
      have hmost : Aside0 (∀ i : Nat, i < k → mostM m us (rd lv i) (rd lw i) = true) := ⟨least_below P4.out Q5.out (fun c hc => by rw [← HX.out]; exact List.mem_append_left _ hc)⟩
      go_wp2_with fail
      go_loopw [16] (fun i wr => ∃ q : Nat, i = .int .i64 q ∧ q ≤ k ∧ Aside0 (Below w5.heap.size w5 wr)) (fun i _ => k - (intOf i).toNat)
      case atStart => exact ⟨0, rfl, Nat.zero_le _, ⟨Below.refl _ _⟩⟩
      case round =>
        obtain ⟨q, rfl, hq, W6⟩ := hrel
        by_cases hlt : q < k
        · obtain ⟨x, hx⟩ : ∃ x, rd lw (q : Nat) = x := ⟨_, rfl⟩
          obtain ⟨y, hy⟩ : ∃ y, rd lv (q : Nat) = y := ⟨_, rfl⟩
          have hmm : Aside0 (mostM m us y x = true) := ⟨by rw [← hx, ← hy]; exact hmost.out q hlt⟩
          have d1 : wr.drew.cell? ⟨lb, q, none⟩ = some (.int .i64 y) := by rw [← hy]; exact lat_cell (blk_below L45.out (below_drew W6.out)) q (by rw [hln.out]; exact hlt)
          have d0 : wr.drew.cell? ⟨lb2, q, none⟩ = some (.int .i64 x) := by rw [← hx]; exact lat_cell (blk_below L5.out (below_drew W6.out)) q (by rw [hln2.out]; exact hlt)
          have hxi : (q : Int) < (k : Int) := by omega
          have hdi : decide ((k : Int) ≤ (q : Int)) = false := decide_eq_false (by omega)
          have Z0 : Aside0 (TO wr.drew hb ub db m us ds) := ⟨T3.out.below (UP.out _ ⟨below_then Z5.out Z5.out.size (below_drew W6.out)⟩).out⟩
          have CM : Aside0 (∀ (W : World), Aside0 (TO W hb ub db m us ds) → Calls Try.prog 13 #[.pointer (some ⟨hb, 0, none⟩), .int .i64 y, .int .i64 x] W fun e w' => e = .returned (.bool true) ∧ W = w') := ⟨fun W h => by have := most_any h.out y x; rw [hmm.out] at this; exact this⟩
          clear hx hy
          go_wp2_with fail
          refine wp_region_held_drew (S := fun w' : World => w'.cell? ⟨lb, q, none⟩ = some (.int .i64 y) ∧ w'.cell? ⟨lb2, q, none⟩ = some (.int .i64 x)) (by kernel_rfl) (⟨d1, d0⟩) (fun hHeld => ?_)
          refine wpAnyH_take (i := 0) (oi := { dst := some 75, op := Op.move (Operand.tmp 16), type := 3, pos := "law.go:139", after := #[], guard := none }) (v := ?_) rfl (by kernel_rfl) (by kernel_rfl) (by kernel_rfl) (fun _ _ _ h => h) (Or.inl ⟨by rfl, ?_⟩) (by first | assumption | trivial) ?_
          rotate_left
          · first | (intro w hSw; (try dsimp only at hSw); go_simp; done) | (intro w hSw; (try dsimp only at hSw); go_simp; with_reducible rfl)
          try simp only [Act.put, List.setIfInBounds_toArray, List.set_cons_zero, List.set_cons_succ]
          refine wpAnyH_take (i := 1) (oi := { dst := some 76, op := Op.move (Operand.tmp 13), type := 26, pos := "law.go:139", after := #[], guard := none }) (v := ?_) rfl (by kernel_rfl) (by kernel_rfl) (by kernel_rfl) (fun _ _ _ h => h) (Or.inl ⟨by rfl, ?_⟩) (by first | assumption | trivial) ?_
          rotate_left
          · first | (intro w hSw; (try dsimp only at hSw); go_simp; done) | (intro w hSw; (try dsimp only at hSw); go_simp; with_reducible rfl)
          try simp only [Act.put, List.setIfInBounds_toArray, List.set_cons_zero, List.set_cons_succ]
          refine wpAnyH_take (i := 2) (oi := { dst := some 77, op := Op.call { callee := Callee.builtin Builtin.len, args := #[Operand.tmp 76], argTypes := #[26] }, type := 3, pos := "law.go:139", after := #[{ on := 1, ground := Ground.data }], guard := none }) (v := ?_) rfl (by kernel_rfl) (by kernel_rfl) (by kernel_rfl) (fun _ _ _ h => h) (Or.inl ⟨by rfl, ?_⟩) (by first | assumption | trivial) ?_
          rotate_left
          · first | (intro w hSw; (try dsimp only at hSw); go_simp; done) | (intro w hSw; (try dsimp only at hSw); go_simp; with_reducible rfl)
          try simp only [Act.put, List.setIfInBounds_toArray, List.set_cons_zero, List.set_cons_succ]
          refine wpAnyH_take (i := 3) (oi := { dst := some 78, op := Op.binOp BinOp.geq 3 (Operand.tmp 75) (Operand.tmp 77) 3, type := 4, pos := "law.go:139", after := #[{ on := 0, ground := Ground.data }, { on := 2, ground := Ground.data }], guard := none }) (v := .bool false) rfl (by kernel_rfl) (by kernel_rfl) (by kernel_rfl) (fun _ _ _ h => h) (Or.inl ⟨by rfl, ?_⟩) (by first | assumption | trivial) ?_
          · (intro w hSw; (try dsimp only at hSw); go_simp)
          try simp only [Act.put, List.setIfInBounds_toArray, List.set_cons_zero, List.set_cons_succ]
          refine wpAnyH_take (i := 4) (oi := { dst := some 79, op := Op.move (Operand.tmp 78), type := 4, pos := "law.go:139", after := #[{ on := 3, ground := Ground.data }], guard := none }) (v := ?_) rfl (by kernel_rfl) (by kernel_rfl) (by kernel_rfl) (fun _ _ _ h => h) (Or.inl ⟨by rfl, ?_⟩) (by first | assumption | trivial) ?_
          rotate_left
          · first | (intro w hSw; (try dsimp only at hSw); go_simp; done) | (intro w hSw; (try dsimp only at hSw); go_simp; with_reducible rfl)
          try simp only [Act.put, List.setIfInBounds_toArray, List.set_cons_zero, List.set_cons_succ]
          refine wpAnyH_take (i := 5) (oi := { dst := some 80, op := Op.move (Operand.tmp 7), type := 28, pos := "law.go:139", after := #[{ on := 4, ground := Ground.guard }], guard := some (4, false) }) (v := ?_) rfl (by kernel_rfl) (by kernel_rfl) (by kernel_rfl) (fun _ _ _ h => h) (Or.inl ⟨by rfl, ?_⟩) (by first | assumption | trivial) ?_
          rotate_left
          · first | (intro w hSw; (try dsimp only at hSw); go_simp; done) | (intro w hSw; (try dsimp only at hSw); go_simp; with_reducible rfl)
          try simp only [Act.put, List.setIfInBounds_toArray, List.set_cons_zero, List.set_cons_succ]
          refine wpAnyH_take (i := 6) (oi := { dst := some 81, op := Op.move (Operand.tmp 10), type := 26, pos := "law.go:139", after := #[{ on := 4, ground := Ground.guard }], guard := some (4, false) }) (v := ?_) rfl (by kernel_rfl) (by kernel_rfl) (by kernel_rfl) (fun _ _ _ h => h) (Or.inl ⟨by rfl, ?_⟩) (by first | assumption | trivial) ?_
          rotate_left
          · first | (intro w hSw; (try dsimp only at hSw); go_simp; done) | (intro w hSw; (try dsimp only at hSw); go_simp; with_reducible rfl)
          try simp only [Act.put, List.setIfInBounds_toArray, List.set_cons_zero, List.set_cons_succ]
          refine wpAnyH_take (i := 7) (oi := { dst := some 82, op := Op.move (Operand.tmp 16), type := 3, pos := "law.go:139", after := #[{ on := 4, ground := Ground.guard }], guard := some (4, false) }) (v := ?_) rfl (by kernel_rfl) (by kernel_rfl) (by kernel_rfl) (fun _ _ _ h => h) (Or.inl ⟨by rfl, ?_⟩) (by first | assumption | trivial) ?_
          rotate_left
          · first | (intro w hSw; (try dsimp only at hSw); go_simp; done) | (intro w hSw; (try dsimp only at hSw); go_simp; with_reducible rfl)
          try simp only [Act.put, List.setIfInBounds_toArray, List.set_cons_zero, List.set_cons_succ]
          refine wpAnyH_take (i := 8) (oi := { dst := some 83, op := Op.indexAddr 26 (Operand.tmp 81) (Operand.tmp 82), type := 0, pos := "law.go:139", after := #[{ on := 6, ground := Ground.data }, { on := 7, ground := Ground.data }, { on := 4, ground := Ground.guard }], guard := some (4, false) }) (v := ?_) rfl (by kernel_rfl) (by kernel_rfl) (by kernel_rfl) (fun _ _ _ h => h) (Or.inl ⟨by rfl, ?_⟩) (by first | assumption | trivial) ?_
          rotate_left
          · first | (intro w hSw; (try dsimp only at hSw); go_simp; done) | (intro w hSw; (try dsimp only at hSw); go_simp; with_reducible rfl)
          try simp only [Act.put, List.setIfInBounds_toArray, List.set_cons_zero, List.set_cons_succ]
          refine wpAnyH_take (i := 9) (oi := { dst := some 84, op := Op.load 3 (Operand.tmp 83), type := 3, pos := "law.go:139", after := #[{ on := 8, ground := Ground.data }, { on := 4, ground := Ground.guard }], guard := some (4, false) }) (v := ?_) rfl (by kernel_rfl) (by kernel_rfl) (by kernel_rfl) (fun _ _ _ h => h) (Or.inl ⟨by rfl, ?_⟩) (by first | assumption | trivial) ?_
          rotate_left
          · first | (intro w hSw; (try dsimp only at hSw); go_simp; done) | (intro w hSw; (try dsimp only at hSw); go_simp; with_reducible rfl)
          try simp only [Act.put, List.setIfInBounds_toArray, List.set_cons_zero, List.set_cons_succ]
          refine wpAnyH_take (i := 10) (oi := { dst := some 85, op := Op.move (Operand.tmp 13), type := 26, pos := "law.go:139", after := #[{ on := 4, ground := Ground.guard }], guard := some (4, false) }) (v := ?_) rfl (by kernel_rfl) (by kernel_rfl) (by kernel_rfl) (fun _ _ _ h => h) (Or.inl ⟨by rfl, ?_⟩) (by first | assumption | trivial) ?_
          rotate_left
          · first | (intro w hSw; (try dsimp only at hSw); go_simp; done) | (intro w hSw; (try dsimp only at hSw); go_simp; with_reducible rfl)
          try simp only [Act.put, List.setIfInBounds_toArray, List.set_cons_zero, List.set_cons_succ]
          refine wpAnyH_take (i := 11) (oi := { dst := some 86, op := Op.move (Operand.tmp 16), type := 3, pos := "law.go:139", after := #[{ on := 4, ground := Ground.guard }], guard := some (4, false) }) (v := ?_) rfl (by kernel_rfl) (by kernel_rfl) (by kernel_rfl) (fun _ _ _ h => h) (Or.inl ⟨by rfl, ?_⟩) (by first | assumption | trivial) ?_
          rotate_left
          · first | (intro w hSw; (try dsimp only at hSw); go_simp; done) | (intro w hSw; (try dsimp only at hSw); go_simp; with_reducible rfl)
          try simp only [Act.put, List.setIfInBounds_toArray, List.set_cons_zero, List.set_cons_succ]
          refine wpAnyH_take (i := 12) (oi := { dst := some 87, op := Op.indexAddr 26 (Operand.tmp 85) (Operand.tmp 86), type := 0, pos := "law.go:139", after := #[{ on := 10, ground := Ground.data }, { on := 11, ground := Ground.data }, { on := 4, ground := Ground.guard }], guard := some (4, false) }) (v := ?_) rfl (by kernel_rfl) (by kernel_rfl) (by kernel_rfl) (fun _ _ _ h => h) (Or.inl ⟨by rfl, ?_⟩) (by first | assumption | trivial) ?_
          rotate_left
          · first | (intro w hSw; (try dsimp only at hSw); go_simp; done) | (intro w hSw; (try dsimp only at hSw); go_simp; with_reducible rfl)
          try simp only [Act.put, List.setIfInBounds_toArray, List.set_cons_zero, List.set_cons_succ]
          refine wpAnyH_take (i := 13) (oi := { dst := some 88, op := Op.load 3 (Operand.tmp 87), type := 3, pos := "law.go:139", after := #[{ on := 12, ground := Ground.data }, { on := 4, ground := Ground.guard }], guard := some (4, false) }) (v := ?_) rfl (by kernel_rfl) (by kernel_rfl) (by kernel_rfl) (fun _ _ _ h => h) (Or.inl ⟨by rfl, ?_⟩) (by first | assumption | trivial) ?_
          rotate_left
          · first | (intro w hSw; (try dsimp only at hSw); go_simp; done) | (intro w hSw; (try dsimp only at hSw); go_simp; with_reducible rfl)
          try simp only [Act.put, List.setIfInBounds_toArray, List.set_cons_zero, List.set_cons_succ]
          refine wpAnyH_ready (rs := [14]) (by kernel_rfl) (by simp) ?_
          refine AllReadyH.cons (o := { dst := some 89, op := Op.call { callee := Callee.value (Operand.func 13), args := #[Operand.tmp 80, Operand.tmp 84, Operand.tmp 88], argTypes := #[28, 3, 3] }, type := 4, pos := "law.go:139", after := #[{ on := 5, ground := Ground.data }, { on := 9, ground := Ground.data }, { on := 13, ground := Ground.data }, { on := 4, ground := Ground.chain }, { on := 4, ground := Ground.guard }], guard := some (4, false) }) rfl (fun K hK => ?_) AllReadyH.nil
          go_simp
          go_at_call 13
          with_reducible refine (CM.out _ (by assumption)).mono ?_
          rintro e w' ⟨rfl, rfl⟩
          try go_wp2_with fail
          refine hK.out _ _ ?_ (fun hHeld => ?_)
          · exact ⟨d1, d0⟩
          clear hK K
          try simp only [Act.put, List.setIfInBounds_toArray, List.set_cons_zero, List.set_cons_succ]
          refine wpAnyH_take (i := 15) (oi := { dst := some 90, op := Op.unOp UnOp.not 4 (Operand.tmp 89), type := 4, pos := "law.go:139", after := #[{ on := 14, ground := Ground.data }, { on := 4, ground := Ground.guard }], guard := some (4, false) }) (v := ?_) rfl (by kernel_rfl) (by kernel_rfl) (by kernel_rfl) (fun _ _ _ h => h) (Or.inl ⟨by rfl, ?_⟩) (by first | assumption | trivial) ?_
          rotate_left
          · first | (intro w hSw; (try dsimp only at hSw); go_simp; done) | (intro w hSw; (try dsimp only at hSw); go_simp; with_reducible rfl)
          try simp only [Act.put, List.setIfInBounds_toArray, List.set_cons_zero, List.set_cons_succ]
          refine wpAnyH_take (i := 16) (oi := { dst := some 91, op := Op.pick (Operand.tmp 79) (Operand.const (Value.bool true)) (Operand.tmp 90), type := 4, pos := "law.go:139", after := #[{ on := 4, ground := Ground.data }, { on := 15, ground := Ground.data }], guard := none }) (v := ?_) rfl (by kernel_rfl) (by kernel_rfl) (by kernel_rfl) (fun _ _ _ h => h) (Or.inl ⟨by rfl, ?_⟩) (by first | assumption | trivial) ?_
          rotate_left
          · first | (intro w hSw; (try dsimp only at hSw); go_simp; done) | (intro w hSw; (try dsimp only at hSw); go_simp; with_reducible rfl)
          try simp only [Act.put, List.setIfInBounds_toArray, List.set_cons_zero, List.set_cons_succ]
          refine wpAnyH_done (by kernel_rfl) ?_ _
          go_wp2_with fail
          go_roundw
          case rel => exact ⟨q + 1, by go_num, hlt, ⟨below_drew W6.out⟩⟩
          case measure => simp [intOf]; omega
        · have hke : k = q := by omega
          subst hke
          have ZT := Aside0.mk (below_then Z5.out Z5.out.size W6.out)
          obtain ⟨wt, hwt⟩ : ∃ wt, wt = wr := ⟨_, rfl⟩
          rw [← hwt] at ZT ⊢
          clear hwt
          have t3 : (wt.alloc (.cells #[] 43)).cell? ⟨pb, 3, none⟩ = some (.slice B cs.length cB) := (KEEP4.out _ ⟨ZT.out.alloc ZT.out.size _⟩).2.1
          go_wp2_with fail
          clear t3
          go_loopw [17, 19] (fun v i wr => ∃ q : Nat, i = .int .i64 q ∧ q ≤ cs.length ∧ Aside0 (k43.R 43 wr wt.heap.size (fun _ => True) v (turnC cs zk q)) ∧ Aside0 (Below wt.heap.size wt wr)) (fun _ i _ => cs.length - (intOf i).toNat)
          case atStart => exact ⟨0, rfl, Nat.zero_le _, ⟨lit_nil k43 43 wt wt.heap.size (Nat.le_refl _)⟩, ⟨below_alloc (Below.refl _ _) _⟩⟩
          case round =>
            obtain ⟨q, rfl, hq, HV, HB⟩ := hrel
            obtain ⟨wq, rfl⟩ : ∃ wq, wq = wr := ⟨_, rfl⟩
            have ZQ := Aside0.mk (below_then ZT.out ZT.out.size HB.out)
            by_cases hlt : q < cs.length
            · have hp : (q + zk) % cs.length < cs.length := Nat.mod_lt _ (by omega)
              obtain ⟨p, hpp⟩ : ∃ p, (q + zk) % cs.length = p := ⟨_, rfl⟩
              rw [hpp] at hp
              have HPP := Aside0.mk hpp
              have hk1 : IntKind.i64.wrap ((q : Int) + (zk : Int)) = ((q + zk : Nat) : Int) := by rw [IntKind.wrap_i64]; omega
              have hk2 : ((q + zk : Nat) : Int).tmod (cs.length : Int) = (p : Int) := by rw [← hpp]; rfl
              have hk3 : bits .and .i64 kk 4095 = (zk : Int) := HK.out
              have hk4 : ((q : Int) + (zk : Int)).tmod (cs.length : Int) = (p : Int) := by rw [← hk2]; congr 1
              have hnz : ¬ ((cs.length : Nat) : Int) = 0 := by omega
              have hnz2 : (((cs.length : Nat) : Int) == 0) = false := beq_eq_false_iff_ne.2 (by omega)
              have hnz3 : ¬ cs.length = 0 := by omega
              have hnz4 : ¬ cs = [] := by intro h; rw [h] at hnz3; exact hnz3 rfl
              have hp1 : (0 : Int) ≤ (p : Int) := by omega
              have hp2 : (p : Int) < (cs.length : Int) := by omega
              clear hpp
              obtain ⟨ad, eA, d0, d1, d2⟩ := at_T43 (Kd.C_below C3.out (UP.out _ ZQ).out) (p : Int) (by omega) (by omega)
              subst eA
              rw [Int.toNat_natCast] at d0 d1 d2
              obtain ⟨s, hs⟩ : ∃ s, rd_T43 cs (p : Int) = s := ⟨_, rfl⟩
              rw [hs] at d0 d1 d2
              have HS : Aside0 (cA cs ((q + zk) % cs.length) = s) := ⟨by rw [HPP.out]; exact hs⟩
              have HS2 := Aside0.mk hs
              clear hs
              have k3 := (KEEP4.out _ ZQ).2.1
              go_wp2_with fail
              have KQ : Aside0 (∀ W', Aside0 (Below wt.heap.size wt W') → W'.cell? ⟨pb, 3, none⟩ = some (.slice (some ad) cs.length cB) ∧ W'.cell? (ad.add (p * 3)) = some (.int .i64 s.f0) ∧ W'.cell? ⟨(ad.add (p * 3)).block, (ad.add (p * 3)).off + 1, none⟩ = some (.int .i64 s.f1) ∧ W'.cell? ⟨(ad.add (p * 3)).block, (ad.add (p * 3)).off + 2, none⟩ = some (.int .i64 s.f2)) := ⟨fun W' h => by
                have hh : Aside0 (Below w4.heap.size w4 W') := ⟨below_then ZT.out ZT.out.size h.out⟩
                obtain ⟨ad2, eA2, g0, g1, g2⟩ := at_T43 (Kd.C_below C3.out (UP.out _ hh).out) (p : Int) (by omega) (by omega)
                obtain rfl : ad = ad2 := Option.some.inj eA2
                rw [Int.toNat_natCast, HS2.out] at g0 g1 g2
                exact ⟨(KEEP4.out _ hh).2.1, g0, g1, g2⟩⟩
              have BQD : Aside0 (Below wt.heap.size wt wq.drew) := ⟨below_drew HB.out⟩
              have BQA : Aside0 (∀ o, Aside0 (Below wt.heap.size wt (wq.drew.alloc o))) := ⟨fun o => ⟨BQD.out.alloc BQD.out.size o⟩⟩
              have HVD : Aside0 (k43.R 43 wq.drew wt.heap.size (fun _ => True) u17 (turnC cs zk q)) := ⟨Kd.R_mono (Kd.R_old HV.out (below_drew (Below.refl _ _))) (fun _ hk => hk.1)⟩
              have HLQ : Aside0 ((turnC cs zk q).length + 1 ≤ 3001) := ⟨by rw [turn_len]; omega⟩
              first | (go_region_held3 (fun w' => w'.cell? ⟨pb, 3, none⟩ = some (.slice (some ad) cs.length cB) ∧ w'.cell? (ad.add (p * 3)) = some (.int .i64 s.f0) ∧ w'.cell? ⟨(ad.add (p * 3)).block, (ad.add (p * 3)).off + 1, none⟩ = some (.int .i64 s.f1) ∧ w'.cell? ⟨(ad.add (p * 3)).block, (ad.add (p * 3)).off + 2, none⟩ = some (.int .i64 s.f2))
                (first | exact ⟨k3, d0, d1, d2⟩ | exact KQ.out _ (BQA.out _) | exact KQ.out _ (by assumption))
                (first
                  | (refine Kd.R_append_step k43 (w0 := wt) wt.heap.size rfl (.tmp 101) (.tmp 112) 23 43 (.agg #[.int .i64 0, .int .i64 0, .int .i64 0]) 24 rfl Try.underlying23 info43 rfl (by decide) (by decide) u17 (turnC cs zk q) s [.int .i64 s.f0, .int .i64 s.f1, .int .i64 s.f2] (fun _ => True) (fun _ => False) rfl rfl (k43_mkM _ _ _ s) (fun _ h => h.elim) (fun _ _ => trivial) HVD.out BQD.out BQD.out.size (by have := HLQ.out; omega) ?_; intro v1 w' hv1 hb1 hg1 hat1; have hv2 := Aside0.mk hv1; have z := Aside0.mk hb1; clear hv1 hb1 hg1 hat1))) | fail
              go_wp2_with fail
              go_roundw
              case rel => exact ⟨q + 1, by go_num, hlt, ⟨by rw [turn_succ, HS.out]; exact hv2.out⟩, z⟩
              case measure => simp [intOf]; omega
            · have hqe : q = cs.length := by omega
              subst hqe
              obtain ⟨ys, hys⟩ : ∃ ys, turnC cs zk cs.length ++ cs = ys := ⟨_, rfl⟩
              have HYS := Aside0.mk hys
              have HYL : Aside0 (ys.length ≤ 6000) := ⟨by rw [← hys, List.length_append, turn_len]; omega⟩
              have HY1 : Aside0 (∀ c ∈ ys, c ∈ cs) := ⟨fun c hc => by rw [← hys] at hc; exact (turn_all c).1 hc⟩
              have HY2 : Aside0 (∀ c ∈ cs, c ∈ ys) := ⟨fun c hc => by rw [← hys]; exact (turn_all c).2 hc⟩
              clear hys
              have HLQ : Aside0 ((turnC cs zk cs.length).length = cs.length) := ⟨turn_len _ _ _⟩
              have k3 := (KEEP4.out _ ZQ).2.1
              have CQ := Aside0.mk (Kd.C_below C3.out (UP.out _ ZQ).out)
              go_wp2_with (at_builtin
                           refine Kd.R_append_rows k43 (w0 := wt) wt.heap.size rfl (.tmp 114) (.tmp 116) 23 43 (.agg #[.int .i64 0, .int .i64 0, .int .i64 0]) 24 rfl Try.underlying23 info43 rfl (by decide) (by decide) u17 (turnC cs zk cs.length) cs B cs.length cB (fun _ => True) (fun _ => False) rfl rfl HV.out CQ.out (fun x cs h => by have e := k43_open h; subst e; exact k43_mkM _ _ _ x) (fun _ h => h.elim) (fun _ _ => trivial) HB.out HB.out.size (by rw [HLQ.out]; omega) ?_
                           intro v1 w' hv1 hb1 hg1 hat1
                           obtain ⟨E, cE, ev, _, hEE⟩ := Kd.R_reads hv1
                           rw [HYS.out] at ev hEE
                           subst ev
                           have HEC := Aside0.mk hEE
                           have ZE := Aside0.mk (below_then ZT.out ZT.out.size hb1)
                           clear hv1 hEE hb1 hg1 hat1 k3
                           have k2 := (KEEP4.out _ ZE).1)
              have HRY : Aside0 (rightS m (k : Nat) ys = true) := ⟨right_sub HR.out HY1.out⟩
              refine (least_yes (T3.out.below (UP.out _ ZE).out) (k : Nat) E cE ys HEC.out (by have := HYL.out; omega) HF.out HH.out HRY.out).mono ?_
              rintro e w8 ⟨lb3, lv3, work3, rfl, hl3, hP3, b8⟩
              rw [Int.toNat_natCast] at hP3 ⊢
              have Z8 := Aside0.mk (below_then ZE.out ZE.out.size b8)
              have SAME : Aside0 (lv = lv3) := ⟨least_same HF.out P4.out hP3 HY2.out HY1.out⟩
              have L8 := Aside0.mk (blk_below L4.out Z8.out)
              have L9 := Aside0.mk hl3
              have HS14 : Aside0 (∀ W, Aside0 (Below w8.heap.size w8 W) → Calls Try.prog 14 #[.slice (some ⟨lb, 0, none⟩) k k, .slice (some ⟨lb3, 0, none⟩) k k] W fun e w' => e = .returned (.bool true) ∧ Below W.heap.size W w') := ⟨fun W h => by
                have e3 : lv3.length = k := by rw [← SAME.out]; exact hln.out
                have g1 := C_ints W lb lv (blk_below L8.out h.out) (by rw [hln.out]; have := hnv; omega)
                have g2 := C_ints W lb3 lv3 (blk_below L9.out h.out) (by rw [e3]; have := hnv; omega)
                have := sameInts14 lv lv3 (some ⟨lb, 0, none⟩) (some ⟨lb3, 0, none⟩) k k W g1 (by rw [hln.out]; exact Nat.le_refl _) g2 (by rw [e3]; exact Nat.le_refl _) (by rw [hln.out]; have := hnv; omega)
                rw [e3, hln.out] at this
                exact this.mono (fun e w' ⟨h1, h2⟩ => ⟨by rw [h1, decide_eq_true SAME.out], h2.below⟩)⟩
              clear hl3 hP3 b8
              go_wp2_with fail
              refine (HS14.out w8 ⟨Below.refl _ _⟩).mono ?_
              rintro e w' ⟨rfl, b⟩
              have FX : Aside0 (Below w.heap.size w w') := ⟨below_then B3.out B3.out.size (below_then Z4.out Z4.out.size (below_then Z8.out Z8.out.size b))⟩
              go_wp2_with fail
              go_ret
              exact ⟨rfl, by first | exact FX.out | (rw [HP.out]; exact FX.out) | (rw [← HP.out]; exact FX.out)⟩
end Go.Proofs.Ytpbaebjohioijaa.Lat

namespace Go.Proofs.Ytpbaebjohioijaa.Lat
open Go.RowKit Go.Proofs.YtpbaebjohioijaaW.PrintWords Go.Proofs.YtpbaebjohioijaaW.PrintLast Go.Proofs.YtpbaebjohioijaaW.PrintMore Go.Proofs.Ytpbaebjohioijaa.PSolveLeast
set_option linter.unusedVariables false
theorem more_law (n nv : Int) (A B : Option Addr) (c cB : Nat) (es : List (Int × Int)) (cs : List S43) (M : Option Addr) (cM : Nat) (ms : List S43) (kk : Int) (w : World) (hE : Kd.C KE w A es.length es) (hC : Kd.C k43 w B cs.length cs) (hM : Kd.C k43 w M ms.length ms) (_hg : ∀ x ∈ ms, G43 x) (_wf : (Lit.int .i64 kk).wf = true) :
    Calls Try.prog 4 #[.agg #[.int .i64 n, .slice A es.length c, .int .i64 nv, .slice B cs.length cB], .slice M ms.length cM, .int .i64 kk] w fun e w' => e = .returned (.bool true) ∧ Below w.heap.size w w' := more4 n nv kk A B M c cB cM es cs ms w hE hC hM
end Go.Proofs.Ytpbaebjohioijaa.Lat

namespace Go.Proofs.Ytpbaebjohioijaa.solveMore
open Go.ChangeShapes Go.WideShapes Go.ChangeAt Go.RowKit
open Go.ChangeMaps (open_string shut_string)
set_option linter.unusedVariables false
theorem own : ownKnob Try.prog.godebug = none := by kernel_rfl
theorem laidOut : laidOutB Try.prog = true := by kernel_rfl
set_option maxRecDepth 100000 in
theorem lifted (os : Os) (started : os.Started) (H : Type) (enc : TypeId × Value → H) :
    ReturnsInHanded {} Try.checked os 4 .any (Rows.solveMoreSpec.pre6 enc Try.prog Try.f4 Rows.solveMoreRow.domain false) (Rows.solveMoreSpec.post enc Try.prog Try.f4 false true false false) := by
  refine returnsInHanded_of_change_sized (C := Try.checked) own started (by kernel_rfl) Try.func4
    (ChangeSpec.witness6 (enc := enc) (C := Try.checked) false ⟨#[], #[.agg #[.int .i64 0, .slice none 0 0, .int .i64 0, .slice none 0 0], .slice none 0 0, .int .i64 0], []⟩ 8 (by kernel_rfl) (by kernel_rfl) (by kernel_rfl) (by kernel_rfl)) ?_
  intro W base args ds gs before hval0 hW hcnd hsz0 _
  have hsz : (DataW.weightsEach Try.prog (Try.f4.params.toList ++ Rows.solveMoreSpec.plain.varTypes Try.prog) (ds ++ gs)).all (· ≤ reachBytes) = true := hsz0
  have hval : ∀ (j : Nat) t v, Try.f4.params[j]? = some t → args[j]? = some v → Value.okWide Try.prog W .any base t v := hval0
  have hW' := hW
  obtain ⟨p, q, hA0, hV, rfl, hfz, hnd⟩ := hW
  have hA : DataW.TrodAll enc Try.prog W 0 (fun _ => true) true Try.f4.params.toList args.toList ds p := hA0
  rw [Try.params4] at hA hval hsz
  obtain ⟨v0, vs0, d0, ds0, p0, q0, hargs, rfl, rfl, h0, r0⟩ := trodAll_cons hA
  obtain ⟨v1, vs1, d1, ds1, p1, q1, rfl, rfl, rfl, h1, r1⟩ := trodAll_cons r0
  obtain ⟨v2, vs2, d2, ds2, p2, q2, rfl, rfl, rfl, h2, r2⟩ := trodAll_cons r1
  obtain ⟨rfl, rfl, rfl⟩ := trodAll_nil r2
  obtain rfl : args = #[v0, v1, v2] := by cases args; simp_all
  obtain ⟨rfl, rfl⟩ := trodVars_none hV
  have k0 := h0
  have lt0 : ∀ x ∈ p0, x.block < W.heap.size := by obtain ⟨m, hm⟩ := k0; exact DataW.trod_lt m _ _ _ hm
  obtain ⟨n0, nv0, A0, B0, c0, b0, es0, cs0, rfl, E0, C0⟩ := Lat.arg_rules (hval 0 25 v0 rfl rfl) h0
  have k1 := h1
  have lt1 : ∀ x ∈ p1, x.block < W.heap.size := by obtain ⟨m, hm⟩ := k1; exact DataW.trod_lt m _ _ _ hm
  obtain ⟨A1, c1, z1, rfl, l1, rr1, g1⟩ := arg_slice Try.underlying23 Lat.o_cons (hval 1 23 v1 rfl rfl) h1
  obtain ⟨a2, rfl, rfl, rfl, w2⟩ := open_int Try.underlying3 (hval 2 3 v2 rfl rfl) h2
  clear hA0 hval0 hsz0 hsz
  refine (Lat.more_law n0 nv0 A0 B0 c0 b0 es0 cs0 A1 c1 z1 a2 W E0 C0 rr1 g1 w2).mono fun e W' ⟨he, bel⟩ => ?_
  subst he
  exact ⟨_, rfl, _, _, _, [], _, [], hW', trodAll_mk1 (shut_bool Try.underlying4 _), (trodAll_cons_mk (Below.trod laidOut (by kernel_rfl) (of_decide_eq_true (by kernel_rfl)) k0 bel lt0) (trodAll_cons_mk (Below.trod laidOut (by kernel_rfl) (of_decide_eq_true (by kernel_rfl)) k1 bel lt1) (trodAll_cons_mk (shut_int Try.underlying3 w2) trodAll_mk0))), rfl, bel.frame _, fun h => by cases h⟩
theorem over : Rows.solveMoreRow.holds Try.pinned (OpenSpec.ofChange Rows.solveMoreSpec) :=
  OpenClaim.holds_of_wide 4 Try.f4 rfl rfl rfl rfl rfl rfl rfl ⟨rfl, rfl, rfl, rfl, rfl⟩ rfl rfl rfl rfl rfl (by kernel_rfl) Try.func4 (by kernel_rfl)
    (of_decide_eq_true (by kernel_rfl)) (by unfold Func.isWrapper; first | (rw [if_pos (by decide +kernel)]; kernel_rfl) | (rw [if_neg (by decide +kernel)]; exact ⟨rfl, rfl⟩))
    (fun os started H enc _ => lifted os started H enc)
theorem proved : Rows.SolveMoreSaid := over
#print axioms proved
end Go.Proofs.Ytpbaebjohioijaa.solveMore
namespace Go.Proofs.Ytpbaebjohioijaa
theorem solveMore_holds : Rows.SolveMoreSaid := solveMore.proved
end Go.Proofs.Ytpbaebjohioijaa

