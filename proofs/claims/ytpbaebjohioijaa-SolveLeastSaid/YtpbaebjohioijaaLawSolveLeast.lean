/- The law SolveLeast: for every input it returns true, and the input reads as it did: the given row, out of the walk. No condition. -/
import Derived.Test.YtpbaebjohioijaaRows
import Derived.Test.YtpbaebjohioijaaOpen
import Derived.Test.YtpbaebjohioijaaRZ
import Derived.WalkKit
import Derived.ProofKit
import Derived.OpenShut
import Derived.ShutString
import Derived.ChangeOld
import Derived.Below
import Derived.SizedLaws
import Derived.Test.YtpbaebjohioijaaY7
namespace Go.Proofs.Ytpbaebjohioijaa.Lat
open Go.RowKit Go.Proofs.YtpbaebjohioijaaW.PrintWords Go.Proofs.YtpbaebjohioijaaW.PrintLast Go.Proofs.YtpbaebjohioijaaW.PrintMore Go.Proofs.Ytpbaebjohioijaa.PSolveLeast
set_option linter.unusedVariables false
set_option linter.unusedSimpArgs false
theorem order_all {n : Int} {es : List (Int × Int)} (h : codeM n es = 0) : ∃ (m : Nat) (rk : Int → Int) (K : Nat) (ys : List Int), n = m ∧ 0 < m ∧ m ≤ 8 ∧ Mk m (closE m es).1 (rch m (natE es)) ∧ Lat m (rch m (natE es)) ∧ chainF m (closE m es).2 m 0 = some ys ∧ heightM m (closE m es).2 ys = ((K : Nat) : Int) ∧ LF m (closE m es).1 rk (K : Nat) ∧ K ≤ 8 := by
  obtain ⟨m, rfl, h0, hm, hb, hR⟩ := code_zero h
  obtain ⟨k1, k2⟩ := clos_Mk hm hb
  have hL := lat_clos hm hb hR
  obtain ⟨ys, rk, K, hy, hK, hF⟩ := lf_of hm h0 k1 k2 hL
  refine ⟨m, rk, K, ys, rfl, h0, hm, k1, hL, hy, hK, hF, ?_⟩
  have := (height_bd (ds := (closE m es).2) h0 (chainF_lt hy) (chainF_len hy)).2
  omega
theorem same_cons_l {cs : List S43} (hl : cs.length ≤ 1000000) : ∀ (d i : Nat), i + d = cs.length → ∃ k, portcullislaw21_sameCons.l0 k cs cs (i : Nat) = some true := by
  intro d
  induction d with
  | zero => intro i hi; exact ⟨1, by rw [portcullislaw21_sameCons.l0, if_neg (by omega)]⟩
  | succ d ih =>
    intro i hi
    obtain ⟨k, hk⟩ := ih (i + 1) (by omega)
    refine ⟨k + 1, ?_⟩
    rw [portcullislaw21_sameCons.l0, if_pos (by omega), if_pos (by omega), if_pos (by omega), if_neg (by simp), wrap1 (by omega)]
    exact hk
theorem sameCons17 {w : World} {D E : Option Addr} {cD cE : Nat} {cs : List S43} (hD : Kd.C k43 w D cs.length cs) (h1 : cs.length ≤ cD) (hE : Kd.C k43 w E cs.length cs) (h2 : cs.length ≤ cE) (hl : cs.length ≤ 1000000) :
    Calls Try.prog 17 #[.slice D cs.length cD, .slice E cs.length cE] w fun e w' => e = .returned (.bool true) ∧ Below w.heap.size w w' := by
  obtain ⟨k, hk⟩ := same_cons_l hl cs.length 0 (by omega)
  exact (portcullislaw21_sameCons.calls k D cD cs E cE cs true w hD h1 hE h2 (by rw [portcullislaw21_sameCons.f, if_pos rfl]; exact hk)).mono fun e w' ⟨h1, h2⟩ => ⟨h1, h2.below⟩
set_option maxHeartbeats 16000000 in
set_option maxRecDepth 100000 in
theorem least6 (n nv : Int) (A B : Option Addr) (c cB : Nat) (es : List (Int × Int)) (cs : List S43) (w : World) (hE : Kd.C KE w A es.length es) (hC : Kd.C k43 w B cs.length cs) (hcB : cs.length ≤ cB) :
    Calls Try.prog 6 #[.agg #[.int .i64 n, .slice A es.length c, .int .i64 nv, .slice B cs.length cB]] w fun e w' => e = .returned (.bool true) ∧ Below w.heap.size w w' := by
  have HCB := Aside0.mk hcB
  have hcl : cs.length ≤ 9223372036854775807 := Kd.C_max hC
  have HE := Aside0.mk hE
  have HC := Aside0.mk hC
  clear hE hC hcB
  obtain ⟨wa, hwa⟩ : ∃ wa, w.alloc (.cells #[.int .i64 n, .slice A es.length c, .int .i64 nv, .slice B cs.length cB] 25) = wa := ⟨_, rfl⟩
  have ba : Below w.heap.size w wa := by rw [← hwa]; exact below_alloc (Below.refl _ _) _
  have na : wa.heap[w.heap.size]? = some (.cells #[.int .i64 n, .slice A es.length c, .int .i64 nv, .slice B cs.length cB] 25 (0, 0)) := by rw [← hwa]; exact blk_new w _
  have BA := Aside0.mk ba
  obtain ⟨pb, hpb⟩ : ∃ pb, w.heap.size = pb := ⟨_, rfl⟩
  have HP := Aside0.mk hpb
  have CA := Aside0.mk (alive7 wa)
  rw [hpb] at na
  have NA := Aside0.mk na
  clear ba na
  go_enter Try.func6, Try.ntmps6
  go_wp2_with fail
  refine CA.out.mono ?_
  rintro e w1 ⟨rfl, b1⟩
  have B1 := Aside0.mk (below_then BA.out BA.out.size b1)
  have N1 := Aside0.mk (blk_below NA.out b1)
  clear b1 CA
  have c0 : w1.cell? ⟨pb, 0, none⟩ = some (.int .i64 n) := by rw [blk_cell N1.out]; rfl
  have c1 : w1.cell? ⟨pb, 1, none⟩ = some (.slice A es.length c) := by rw [blk_cell N1.out]; rfl
  have c2 : w1.cell? ⟨pb, 2, none⟩ = some (.int .i64 nv) := by rw [blk_cell N1.out]; rfl
  have c3 : w1.cell? ⟨pb, 3, none⟩ = some (.slice B cs.length cB) := by rw [blk_cell N1.out]; rfl
  have CO := Aside0.mk (order8 n nv A B c cB es cs.length w1 (Kd.C_below HE.out B1.out) hcl)
  go_wp2_with fail
  refine CO.out.mono ?_
  rintro e w2 ⟨b2, ⟨o, A0, m0, q0, rfl⟩ | ⟨_, hc3, hnv, hK, hb, ub, db, A', c', bs, rfl, hT, hQ, hbl⟩⟩
  · have B2 := Aside0.mk (below_then B1.out B1.out.size b2)
    clear b2 CO c0 c1 c2 c3
    go_wp2_with fail
    go_ret
    exact ⟨rfl, B2.out.alloc (by first | exact B2.out.size | (rw [HP.out]; exact B2.out.size) | (rw [← HP.out]; exact B2.out.size)) _⟩
  have hc5 : cs.length ≤ 3000 := hc3
  have B2 := Aside0.mk (below_then B1.out B1.out.size b2)
  have N2 := Aside0.mk (blk_below N1.out b2)
  obtain ⟨m, rk, K, ys, hn, h0, hm8, hMk, hL, hy, hHt, hF, hK8⟩ := order_all hK
  have hm : n.toNat = m := by omega
  rw [hm] at hT hQ hbl
  obtain ⟨us, hus⟩ : ∃ us, (closE m es).1 = us := ⟨_, rfl⟩
  obtain ⟨ds, hds⟩ : ∃ ds, (closE m es).2 = ds := ⟨_, rfl⟩
  obtain ⟨le, hle⟩ : ∃ le, rch m (natE es) = le := ⟨_, rfl⟩
  rw [hus, hds] at hT
  rw [hus] at hMk hF
  rw [hle] at hMk hL hQ
  rw [hds] at hy hHt
  have T2 := Aside0.mk hT
  have Q2 := Aside0.mk hQ
  have HF := Aside0.mk hF
  have HMk := Aside0.mk hMk
  have HL := Aside0.mk hL
  have HY := Aside0.mk hy
  have HHt := Aside0.mk hHt
  have HBL := Aside0.mk hbl
  have HM8 := Aside0.mk hm8
  have H0 := Aside0.mk h0
  have HK8 := Aside0.mk hK8
  clear b2 CO c0 c1 c2 c3 hT hK hF hus hds hle hMk hL hQ hy hHt hbl
  rw [hm]
  clear hm hn hm8 h0 hK8
  obtain ⟨w3, hw3⟩ : ∃ w3, w2.alloc (.cells #[.slice A' m c'] 31) = w3 := ⟨_, rfl⟩
  have b3 : Below w2.heap.size w2 w3 := by rw [← hw3]; exact below_alloc (Below.refl _ _) _
  have B3 := Aside0.mk (below_then B2.out B2.out.size b3)
  have N3 := Aside0.mk (blk_below N2.out b3)
  obtain ⟨mb, hmb⟩ : ∃ mb, w2.heap.size = mb := ⟨_, rfl⟩
  have M3 : Aside0 (w3.heap[mb]? = some (.cells #[.slice A' m c'] 31 (0, 0))) := ⟨by rw [← hw3, ← hmb]; exact blk_new w2 _⟩
  have T3 := Aside0.mk (T2.out.below b3)
  have Q3 := Aside0.mk (Q2.out.below b3)
  have C3 := Aside0.mk (Kd.C_below HC.out B3.out)
  have k3 : w3.cell? ⟨pb, 3, none⟩ = some (.slice B cs.length cB) := by rw [blk_cell N3.out]; rfl
  clear b3
  go_wp2_with fail
  refine (copyCons10R B cB cs w3 C3.out (by omega)).mono ?_
  rintro e w4 ⟨v4, rfl, hV, b4⟩
  obtain ⟨E, cE, ev, hlE, hEE⟩ := Kd.R_reads hV
  subst ev
  have HLE := Aside0.mk hlE
  have B34 := Aside0.mk b4
  have E4 := Aside0.mk hEE
  have N4 := Aside0.mk (blk_below N3.out b4)
  have k2 : w4.cell? ⟨pb, 2, none⟩ = some (.int .i64 nv) := by rw [blk_cell N4.out]; rfl
  clear hV hEE b4 k3 hlE
  go_wp2_with fail
  cases hR : rightS m nv cs
  case false =>
    have HR := Aside0.mk hR
    clear hR
    refine (least_no (T3.out.below B34.out) nv E cE cs E4.out (by omega) HF.out (by have := HK8.out; omega) HR.out).mono ?_
    rintro e w5 ⟨rfl, b5⟩
    have B35 := Aside0.mk (below_then B34.out B34.out.size b5)
    have E5 := Aside0.mk (Kd.C_below E4.out b5)
    have N5 := Aside0.mk (blk_below N3.out B35.out)
    have M5 := Aside0.mk (blk_below M3.out B35.out)
    have Q5 := Aside0.mk (Q3.out.below B35.out)
    have C5 := Aside0.mk (Kd.C_below C3.out B35.out)
    have q2 : w5.cell? ⟨pb, 2, none⟩ = some (.int .i64 nv) := by rw [blk_cell N5.out]; rfl
    have q3 : w5.cell? ⟨pb, 3, none⟩ = some (.slice B cs.length cB) := by rw [blk_cell N5.out]; rfl
    have q4 : w5.cell? ⟨mb, 0, none⟩ = some (.slice A' m c') := by rw [blk_cell M5.out]; rfl
    clear b5 k2
    go_wp2_with fail
    refine (least16 Q5.out HBL.out HM8.out H0.out HMk.out HL.out HF.out nv B cB C5.out HCB.out (by omega)).mono ?_
    rintro e w8 ⟨b8, D, cD, lv, f, rfl, hd, hD, ⟨_, rfl, rfl⟩ | ⟨h, _⟩⟩
    case inr => exact absurd (HR.out.symm.trans h) (by decide)
    have B38 := Aside0.mk (below_then B35.out B35.out.size b8)
    have HDD := Aside0.mk hD
    have E8 := Aside0.mk (Kd.C_below E5.out b8)
    have N8 := Aside0.mk (blk_below N3.out B38.out)
    have C8 := Aside0.mk (Kd.C_below C3.out B38.out)
    have T8 := Aside0.mk (T3.out.below B38.out)
    have KEEP : Aside0 (∀ W', Aside0 (Below w8.heap.size w8 W') → W'.cell? ⟨pb, 3, none⟩ = some (.slice B cs.length cB)) := ⟨fun W' h => (blk_cell (blk_below N8.out h.out) 3).trans rfl⟩
    have BT : Aside0 (∀ W W', Aside0 (Below w8.heap.size w8 W) → Below W.heap.size W W' → Aside0 (Below w8.heap.size w8 W')) := ⟨fun W W' h1 h2 => ⟨below_then h1.out h1.out.size h2⟩⟩
    have Z8 : Aside0 (Below w8.heap.size w8 w8.drew) := ⟨below_drew (Below.refl w8.heap.size w8)⟩
    have H17 : Aside0 (∀ W, Aside0 (Below w8.heap.size w8 W) → Calls Try.prog 17 #[.slice E cs.length cE, .slice B cs.length cB] W fun e w' => e = .returned (.bool true) ∧ Below W.heap.size W w') := ⟨fun W h => sameCons17 (Kd.C_below E8.out h.out) HLE.out (Kd.C_below C8.out h.out) HCB.out (by omega)⟩
    have H18 : Aside0 (∀ W, Aside0 (Below w8.heap.size w8 W) → Calls Try.prog 18 #[.pointer (some ⟨hb, 0, none⟩)] W fun e w' => e = .returned (.int .i64 (K : Nat)) ∧ Below W.heap.size W w') := ⟨fun W h => by
      have := height_any (T8.out.below h.out) H0.out HY.out
      rw [HHt.out] at this
      exact this⟩
    obtain ⟨P, hPP⟩ : ∃ P : Int, (cs.length : Int) * (K : Int) = P := ⟨_, rfl⟩
    have HPP := Aside0.mk hPP
    have hmul : IntKind.i64.wrap ((cs.length : Int) * (K : Int)) = P := by
      have h1 : (cs.length : Int) * (K : Int) ≤ 3000 * 8 := Int.mul_le_mul (by omega) (by have := HK8.out; omega) (by omega) (by omega)
      have h2 : 0 ≤ (cs.length : Int) * (K : Int) := Int.mul_nonneg (Int.natCast_nonneg _) (Int.natCast_nonneg _)
      rw [IntKind.wrap_i64]
      omega
    clear hPP
    have H14 : Aside0 (∀ W, Aside0 (Below w8.heap.size w8 W) → Calls Try.prog 14 #[.slice none 0 0, .slice D 0 cD] W fun e w' => e = .returned (.bool true) ∧ Below W.heap.size W w') := ⟨fun W h => (sameInts14 [] [] none D 0 cD W (Kd.C_nil _ _) (Nat.le_refl _) (Kd.C_below HDD.out h.out) (Nat.zero_le _) (by decide)).mono (fun e w' ⟨h1, h2⟩ => ⟨h1, h2.below⟩)⟩
    have hle0 : 0 ≤ P := by rw [← HPP.out]; exact Int.mul_nonneg (Int.natCast_nonneg _) (Int.natCast_nonneg _)
    have hle0d : decide (0 ≤ P) = true := decide_eq_true hle0
    clear hD b8 hd
    go_wp2_with fail
    refine wp_region_held_drew (S := fun w' : World => w'.cell? ⟨pb, 3, none⟩ = some (.slice B cs.length cB)) (by kernel_rfl) (KEEP.out _ Z8) (fun hHeld => ?_)
    refine wpAnyH_take (i := 0) (oi := { dst := some 43, op := Op.move (Operand.tmp 9), type := 34, pos := "law.go:68", after := #[], guard := none }) (v := ?_) rfl (by kernel_rfl) (by kernel_rfl) (by kernel_rfl) (fun _ _ _ h => h) (Or.inl ⟨by rfl, ?_⟩) (by first | assumption | trivial) ?_
    rotate_left
    · first | (intro w hSw; (try dsimp only at hSw); go_simp; done) | (intro w hSw; (try dsimp only at hSw); go_simp; with_reducible rfl)
    try simp only [Act.put, List.setIfInBounds_toArray, List.set_cons_zero, List.set_cons_succ]
    refine wpAnyH_take (i := 1) (oi := { dst := some 44, op := Op.move (Operand.tmp 11), type := 34, pos := "law.go:68", after := #[], guard := none }) (v := ?_) rfl (by kernel_rfl) (by kernel_rfl) (by kernel_rfl) (fun _ _ _ h => h) (Or.inl ⟨by rfl, ?_⟩) (by first | assumption | trivial) ?_
    rotate_left
    · first | (intro w hSw; (try dsimp only at hSw); go_simp; done) | (intro w hSw; (try dsimp only at hSw); go_simp; with_reducible rfl)
    try simp only [Act.put, List.setIfInBounds_toArray, List.set_cons_zero, List.set_cons_succ]
    refine wpAnyH_take (i := 2) (oi := { dst := some 45, op := Op.binOp BinOp.eql 34 (Operand.tmp 43) (Operand.tmp 44) 34, type := 4, pos := "law.go:68", after := #[{ on := 0, ground := Ground.data }, { on := 1, ground := Ground.data }], guard := none }) (v := .bool true) rfl (by kernel_rfl) (by kernel_rfl) (by kernel_rfl) (fun _ _ _ h => h) (Or.inl ⟨by rfl, ?_⟩) (by first | assumption | trivial) ?_
    · (intro w hSw; (try dsimp only at hSw); go_simp)
    try simp only [Act.put, List.setIfInBounds_toArray, List.set_cons_zero, List.set_cons_succ]
    refine wpAnyH_take (i := 3) (oi := { dst := some 46, op := Op.move (Operand.tmp 45), type := 4, pos := "law.go:68", after := #[{ on := 2, ground := Ground.data }], guard := none }) (v := .bool true) rfl (by kernel_rfl) (by kernel_rfl) (by kernel_rfl) (fun _ _ _ h => h) (Or.inl ⟨by rfl, ?_⟩) (by first | assumption | trivial) ?_
    · (intro w hSw; (try dsimp only at hSw); go_simp)
    try simp only [Act.put, List.setIfInBounds_toArray, List.set_cons_zero, List.set_cons_succ]
    refine wpAnyH_take (i := 4) (oi := { dst := some 47, op := Op.move (Operand.tmp 7), type := 26, pos := "law.go:68", after := #[{ on := 3, ground := Ground.guard }], guard := some (3, true) }) (v := ?_) rfl (by kernel_rfl) (by kernel_rfl) (by kernel_rfl) (fun _ _ _ h => h) (Or.inl ⟨by rfl, ?_⟩) (by first | assumption | trivial) ?_
    rotate_left
    · first | (intro w hSw; (try dsimp only at hSw); go_simp; done) | (intro w hSw; (try dsimp only at hSw); go_simp; with_reducible rfl)
    try simp only [Act.put, List.setIfInBounds_toArray, List.set_cons_zero, List.set_cons_succ]
    refine wpAnyH_take (i := 5) (oi := { dst := some 48, op := Op.move (Operand.tmp 10), type := 26, pos := "law.go:68", after := #[{ on := 3, ground := Ground.guard }], guard := some (3, true) }) (v := ?_) rfl (by kernel_rfl) (by kernel_rfl) (by kernel_rfl) (fun _ _ _ h => h) (Or.inl ⟨by rfl, ?_⟩) (by first | assumption | trivial) ?_
    rotate_left
    · first | (intro w hSw; (try dsimp only at hSw); go_simp; done) | (intro w hSw; (try dsimp only at hSw); go_simp; with_reducible rfl)
    try simp only [Act.put, List.setIfInBounds_toArray, List.set_cons_zero, List.set_cons_succ]
    refine wpAnyH_ready (rs := [6]) (by kernel_rfl) (by simp) ?_
    refine AllReadyH.cons (o := { dst := some 49, op := Op.call { callee := Callee.value (Operand.func 14), args := #[Operand.tmp 47, Operand.tmp 48], argTypes := #[26, 26] }, type := 4, pos := "law.go:68", after := #[{ on := 4, ground := Ground.data }, { on := 5, ground := Ground.data }, { on := 3, ground := Ground.chain }, { on := 3, ground := Ground.guard }], guard := some (3, true) }) rfl (fun K hK => ?_) AllReadyH.nil
    go_simp
    go_at_call 14
    refine (H14.out _ Z8).mono ?_
    rintro e w9 ⟨rfl, b9⟩
    have Z9 := BT.out _ _ Z8 b9
    try go_wp2_with fail
    refine hK.out _ _ ?_ (fun hHeld => ?_)
    · exact KEEP.out _ Z9
    clear hK K
    try simp only [Act.put, List.setIfInBounds_toArray, List.set_cons_zero, List.set_cons_succ]
    refine wpAnyH_take (i := 7) (oi := { dst := some 50, op := Op.pick (Operand.tmp 46) (Operand.tmp 49) (Operand.const (Value.bool false)), type := 4, pos := "law.go:68", after := #[{ on := 3, ground := Ground.data }, { on := 6, ground := Ground.data }], guard := none }) (v := .bool true) rfl (by kernel_rfl) (by kernel_rfl) (by kernel_rfl) (fun _ _ _ h => h) (Or.inl ⟨by rfl, ?_⟩) (by first | assumption | trivial) ?_
    · (intro w hSw; (try dsimp only at hSw); go_simp)
    try simp only [Act.put, List.setIfInBounds_toArray, List.set_cons_zero, List.set_cons_succ]
    refine wpAnyH_take (i := 8) (oi := { dst := some 51, op := Op.move (Operand.tmp 50), type := 4, pos := "law.go:68", after := #[{ on := 7, ground := Ground.data }, { on := 6, ground := Ground.chain }], guard := none }) (v := .bool true) rfl (by kernel_rfl) (by kernel_rfl) (by kernel_rfl) (fun _ _ _ h => h) (Or.inl ⟨by rfl, ?_⟩) (by first | assumption | trivial) ?_
    · (intro w hSw; (try dsimp only at hSw); go_simp)
    try simp only [Act.put, List.setIfInBounds_toArray, List.set_cons_zero, List.set_cons_succ]
    refine wpAnyH_take (i := 9) (oi := { dst := some 52, op := Op.move (Operand.tmp 6), type := 23, pos := "law.go:68", after := #[{ on := 8, ground := Ground.guard }], guard := some (8, true) }) (v := ?_) rfl (by kernel_rfl) (by kernel_rfl) (by kernel_rfl) (fun _ _ _ h => h) (Or.inl ⟨by rfl, ?_⟩) (by first | assumption | trivial) ?_
    rotate_left
    · first | (intro w hSw; (try dsimp only at hSw); go_simp; done) | (intro w hSw; (try dsimp only at hSw); go_simp; with_reducible rfl)
    try simp only [Act.put, List.setIfInBounds_toArray, List.set_cons_zero, List.set_cons_succ]
    refine wpAnyH_take (i := 10) (oi := { dst := some 53, op := Op.fieldAddr 25 (Operand.tmp 1) 3, type := 0, pos := "law.go:68", after := #[{ on := 8, ground := Ground.guard }], guard := some (8, true) }) (v := ?_) rfl (by kernel_rfl) (by kernel_rfl) (by kernel_rfl) (fun _ _ _ h => h) (Or.inl ⟨by rfl, ?_⟩) (by first | assumption | trivial) ?_
    rotate_left
    · first | (intro w hSw; (try dsimp only at hSw); go_simp; done) | (intro w hSw; (try dsimp only at hSw); go_simp; with_reducible rfl)
    try simp only [Act.put, List.setIfInBounds_toArray, List.set_cons_zero, List.set_cons_succ]
    refine wpAnyH_take (i := 11) (oi := { dst := some 54, op := Op.load 23 (Operand.tmp 53), type := 23, pos := "law.go:68", after := #[{ on := 10, ground := Ground.data }, { on := 8, ground := Ground.guard }], guard := some (8, true) }) (v := ?_) rfl (by kernel_rfl) (by kernel_rfl) (by kernel_rfl) (fun _ _ _ h => h) (Or.inl ⟨by rfl, ?_⟩) (by first | assumption | trivial) ?_
    rotate_left
    · first | (intro w hSw; (try dsimp only at hSw); go_simp; done) | (intro w hSw; (try dsimp only at hSw); go_simp; with_reducible rfl)
    try simp only [Act.put, List.setIfInBounds_toArray, List.set_cons_zero, List.set_cons_succ]
    refine wpAnyH_ready (rs := [12]) (by kernel_rfl) (by simp) ?_
    refine AllReadyH.cons (o := { dst := some 55, op := Op.call { callee := Callee.value (Operand.func 17), args := #[Operand.tmp 52, Operand.tmp 54], argTypes := #[23, 23] }, type := 4, pos := "law.go:68", after := #[{ on := 9, ground := Ground.data }, { on := 11, ground := Ground.data }, { on := 8, ground := Ground.chain }, { on := 8, ground := Ground.guard }], guard := some (8, true) }) rfl (fun K hK => ?_) AllReadyH.nil
    go_simp
    go_at_call 17
    refine (H17.out _ Z9).mono ?_
    rintro e w10 ⟨rfl, b10⟩
    have Z10 := BT.out _ _ Z9 b10
    try go_wp2_with fail
    refine hK.out _ _ ?_ (fun hHeld => ?_)
    · exact KEEP.out _ Z10
    clear hK K
    try simp only [Act.put, List.setIfInBounds_toArray, List.set_cons_zero, List.set_cons_succ]
    refine wpAnyH_take (i := 13) (oi := { dst := some 56, op := Op.pick (Operand.tmp 51) (Operand.tmp 55) (Operand.const (Value.bool false)), type := 4, pos := "law.go:68", after := #[{ on := 8, ground := Ground.data }, { on := 12, ground := Ground.data }], guard := none }) (v := .bool true) rfl (by kernel_rfl) (by kernel_rfl) (by kernel_rfl) (fun _ _ _ h => h) (Or.inl ⟨by rfl, ?_⟩) (by first | assumption | trivial) ?_
    · (intro w hSw; (try dsimp only at hSw); go_simp)
    try simp only [Act.put, List.setIfInBounds_toArray, List.set_cons_zero, List.set_cons_succ]
    refine wpAnyH_take (i := 14) (oi := { dst := some 57, op := Op.move (Operand.tmp 56), type := 4, pos := "law.go:68", after := #[{ on := 13, ground := Ground.data }, { on := 12, ground := Ground.chain }], guard := none }) (v := .bool true) rfl (by kernel_rfl) (by kernel_rfl) (by kernel_rfl) (fun _ _ _ h => h) (Or.inl ⟨by rfl, ?_⟩) (by first | assumption | trivial) ?_
    · (intro w hSw; (try dsimp only at hSw); go_simp)
    try simp only [Act.put, List.setIfInBounds_toArray, List.set_cons_zero, List.set_cons_succ]
    refine wpAnyH_take (i := 15) (oi := { dst := some 58, op := Op.move (Operand.tmp 8), type := 3, pos := "law.go:68", after := #[{ on := 14, ground := Ground.guard }], guard := some (14, true) }) (v := ?_) rfl (by kernel_rfl) (by kernel_rfl) (by kernel_rfl) (fun _ _ _ h => h) (Or.inl ⟨by rfl, ?_⟩) (by first | assumption | trivial) ?_
    rotate_left
    · first | (intro w hSw; (try dsimp only at hSw); go_simp; done) | (intro w hSw; (try dsimp only at hSw); go_simp; with_reducible rfl)
    try simp only [Act.put, List.setIfInBounds_toArray, List.set_cons_zero, List.set_cons_succ]
    refine wpAnyH_take (i := 16) (oi := { dst := some 59, op := Op.binOp BinOp.geq 3 (Operand.tmp 58) (Operand.const (Value.int IntKind.i64 0)) 3, type := 4, pos := "law.go:68", after := #[{ on := 15, ground := Ground.data }, { on := 14, ground := Ground.guard }], guard := some (14, true) }) (v := .bool true) rfl (by kernel_rfl) (by kernel_rfl) (by kernel_rfl) (fun _ _ _ h => h) (Or.inl ⟨by rfl, ?_⟩) (by first | assumption | trivial) ?_
    · (intro w hSw; (try dsimp only at hSw); go_simp)
    try simp only [Act.put, List.setIfInBounds_toArray, List.set_cons_zero, List.set_cons_succ]
    refine wpAnyH_take (i := 17) (oi := { dst := some 60, op := Op.pick (Operand.tmp 57) (Operand.tmp 59) (Operand.const (Value.bool false)), type := 4, pos := "law.go:68", after := #[{ on := 14, ground := Ground.data }, { on := 16, ground := Ground.data }], guard := none }) (v := .bool true) rfl (by kernel_rfl) (by kernel_rfl) (by kernel_rfl) (fun _ _ _ h => h) (Or.inl ⟨by rfl, ?_⟩) (by first | assumption | trivial) ?_
    · (intro w hSw; (try dsimp only at hSw); go_simp)
    try simp only [Act.put, List.setIfInBounds_toArray, List.set_cons_zero, List.set_cons_succ]
    refine wpAnyH_take (i := 18) (oi := { dst := some 61, op := Op.move (Operand.tmp 60), type := 4, pos := "law.go:68", after := #[{ on := 17, ground := Ground.data }, { on := 14, ground := Ground.chain }], guard := none }) (v := .bool true) rfl (by kernel_rfl) (by kernel_rfl) (by kernel_rfl) (fun _ _ _ h => h) (Or.inl ⟨by rfl, ?_⟩) (by first | assumption | trivial) ?_
    · (intro w hSw; (try dsimp only at hSw); go_simp)
    try simp only [Act.put, List.setIfInBounds_toArray, List.set_cons_zero, List.set_cons_succ]
    refine wpAnyH_take (i := 19) (oi := { dst := some 62, op := Op.move (Operand.tmp 8), type := 3, pos := "law.go:68", after := #[{ on := 18, ground := Ground.guard }], guard := some (18, true) }) (v := ?_) rfl (by kernel_rfl) (by kernel_rfl) (by kernel_rfl) (fun _ _ _ h => h) (Or.inl ⟨by rfl, ?_⟩) (by first | assumption | trivial) ?_
    rotate_left
    · first | (intro w hSw; (try dsimp only at hSw); go_simp; done) | (intro w hSw; (try dsimp only at hSw); go_simp; with_reducible rfl)
    try simp only [Act.put, List.setIfInBounds_toArray, List.set_cons_zero, List.set_cons_succ]
    refine wpAnyH_take (i := 20) (oi := { dst := some 63, op := Op.fieldAddr 25 (Operand.tmp 1) 3, type := 0, pos := "law.go:68", after := #[{ on := 18, ground := Ground.guard }], guard := some (18, true) }) (v := ?_) rfl (by kernel_rfl) (by kernel_rfl) (by kernel_rfl) (fun _ _ _ h => h) (Or.inl ⟨by rfl, ?_⟩) (by first | assumption | trivial) ?_
    rotate_left
    · first | (intro w hSw; (try dsimp only at hSw); go_simp; done) | (intro w hSw; (try dsimp only at hSw); go_simp; with_reducible rfl)
    try simp only [Act.put, List.setIfInBounds_toArray, List.set_cons_zero, List.set_cons_succ]
    refine wpAnyH_take (i := 21) (oi := { dst := some 64, op := Op.load 23 (Operand.tmp 63), type := 23, pos := "law.go:68", after := #[{ on := 20, ground := Ground.data }, { on := 18, ground := Ground.guard }], guard := some (18, true) }) (v := ?_) rfl (by kernel_rfl) (by kernel_rfl) (by kernel_rfl) (fun _ _ _ h => h) (Or.inl ⟨by rfl, ?_⟩) (by first | assumption | trivial) ?_
    rotate_left
    · first | (intro w hSw; (try dsimp only at hSw); go_simp; done) | (intro w hSw; (try dsimp only at hSw); go_simp; with_reducible rfl)
    try simp only [Act.put, List.setIfInBounds_toArray, List.set_cons_zero, List.set_cons_succ]
    refine wpAnyH_take (i := 22) (oi := { dst := some 65, op := Op.call { callee := Callee.builtin Builtin.len, args := #[Operand.tmp 64], argTypes := #[23] }, type := 3, pos := "law.go:68", after := #[{ on := 21, ground := Ground.data }, { on := 18, ground := Ground.guard }], guard := some (18, true) }) (v := ?_) rfl (by kernel_rfl) (by kernel_rfl) (by kernel_rfl) (fun _ _ _ h => h) (Or.inl ⟨by rfl, ?_⟩) (by first | assumption | trivial) ?_
    rotate_left
    · first | (intro w hSw; (try dsimp only at hSw); go_simp; done) | (intro w hSw; (try dsimp only at hSw); go_simp; with_reducible rfl)
    try simp only [Act.put, List.setIfInBounds_toArray, List.set_cons_zero, List.set_cons_succ]
    refine wpAnyH_take (i := 23) (oi := { dst := some 66, op := Op.move (Operand.tmp 3), type := 28, pos := "law.go:68", after := #[{ on := 18, ground := Ground.guard }], guard := some (18, true) }) (v := ?_) rfl (by kernel_rfl) (by kernel_rfl) (by kernel_rfl) (fun _ _ _ h => h) (Or.inl ⟨by rfl, ?_⟩) (by first | assumption | trivial) ?_
    rotate_left
    · first | (intro w hSw; (try dsimp only at hSw); go_simp; done) | (intro w hSw; (try dsimp only at hSw); go_simp; with_reducible rfl)
    try simp only [Act.put, List.setIfInBounds_toArray, List.set_cons_zero, List.set_cons_succ]
    refine wpAnyH_ready (rs := [24]) (by kernel_rfl) (by simp) ?_
    refine AllReadyH.cons (o := { dst := some 67, op := Op.call { callee := Callee.value (Operand.func 18), args := #[Operand.tmp 66], argTypes := #[28] }, type := 3, pos := "law.go:68", after := #[{ on := 23, ground := Ground.data }, { on := 18, ground := Ground.chain }, { on := 18, ground := Ground.guard }], guard := some (18, true) }) rfl (fun K hK => ?_) AllReadyH.nil
    go_simp
    go_at_call 18
    refine (H18.out _ Z10).mono ?_
    rintro e w11 ⟨rfl, b11⟩
    have Z11 := BT.out _ _ Z10 b11
    try go_wp2_with fail
    refine hK.out _ _ ?_ (fun hHeld => ?_)
    · exact KEEP.out _ Z11
    clear hK K
    try simp only [Act.put, List.setIfInBounds_toArray, List.set_cons_zero, List.set_cons_succ]
    refine wpAnyH_take (i := 25) (oi := { dst := some 68, op := Op.binOp BinOp.mul 3 (Operand.tmp 65) (Operand.tmp 67) 3, type := 3, pos := "law.go:68", after := #[{ on := 22, ground := Ground.data }, { on := 24, ground := Ground.data }, { on := 18, ground := Ground.guard }], guard := some (18, true) }) (v := .int .i64 P) rfl (by kernel_rfl) (by kernel_rfl) (by kernel_rfl) (fun _ _ _ h => h) (Or.inl ⟨by rfl, ?_⟩) (by first | assumption | trivial) ?_
    · (intro w hSw; (try dsimp only at hSw); go_simp)
    try simp only [Act.put, List.setIfInBounds_toArray, List.set_cons_zero, List.set_cons_succ]
    refine wpAnyH_take (i := 26) (oi := { dst := some 69, op := Op.binOp BinOp.leq 3 (Operand.tmp 62) (Operand.tmp 68) 3, type := 4, pos := "law.go:68", after := #[{ on := 19, ground := Ground.data }, { on := 25, ground := Ground.data }, { on := 18, ground := Ground.guard }], guard := some (18, true) }) (v := .bool true) rfl (by kernel_rfl) (by kernel_rfl) (by kernel_rfl) (fun _ _ _ h => h) (Or.inl ⟨by rfl, ?_⟩) (by first | assumption | trivial) ?_
    · (intro w hSw; (try dsimp only at hSw); go_simp)
    try simp only [Act.put, List.setIfInBounds_toArray, List.set_cons_zero, List.set_cons_succ]
    refine wpAnyH_take (i := 27) (oi := { dst := some 70, op := Op.pick (Operand.tmp 61) (Operand.tmp 69) (Operand.const (Value.bool false)), type := 4, pos := "law.go:68", after := #[{ on := 18, ground := Ground.data }, { on := 26, ground := Ground.data }], guard := none }) (v := .bool true) rfl (by kernel_rfl) (by kernel_rfl) (by kernel_rfl) (fun _ _ _ h => h) (Or.inl ⟨by rfl, ?_⟩) (by first | assumption | trivial) ?_
    · (intro w hSw; (try dsimp only at hSw); go_simp)
    try simp only [Act.put, List.setIfInBounds_toArray, List.set_cons_zero, List.set_cons_succ]
    refine wpAnyH_take (i := 28) (oi := { dst := some 71, op := Op.move (Operand.tmp 70), type := 4, pos := "law.go:68", after := #[{ on := 27, ground := Ground.data }, { on := 24, ground := Ground.chain }], guard := none }) (v := .bool true) rfl (by kernel_rfl) (by kernel_rfl) (by kernel_rfl) (fun _ _ _ h => h) (Or.inl ⟨by rfl, ?_⟩) (by first | assumption | trivial) ?_
    · (intro w hSw; (try dsimp only at hSw); go_simp)
    try simp only [Act.put, List.setIfInBounds_toArray, List.set_cons_zero, List.set_cons_succ]
    refine wpAnyH_take (i := 29) (oi := { dst := some 72, op := Op.move (Operand.tmp 9), type := 34, pos := "law.go:68", after := #[{ on := 28, ground := Ground.guard }], guard := some (28, true) }) (v := ?_) rfl (by kernel_rfl) (by kernel_rfl) (by kernel_rfl) (fun _ _ _ h => h) (Or.inl ⟨by rfl, ?_⟩) (by first | assumption | trivial) ?_
    rotate_left
    · first | (intro w hSw; (try dsimp only at hSw); go_simp; done) | (intro w hSw; (try dsimp only at hSw); go_simp; with_reducible rfl)
    try simp only [Act.put, List.setIfInBounds_toArray, List.set_cons_zero, List.set_cons_succ]
    refine wpAnyH_take (i := 30) (oi := { dst := some 73, op := Op.binOp BinOp.eql 34 (Operand.tmp 72) (Operand.const (Value.int IntKind.i64 0)) 34, type := 4, pos := "law.go:68", after := #[{ on := 29, ground := Ground.data }, { on := 28, ground := Ground.guard }], guard := some (28, true) }) (v := .bool false) rfl (by kernel_rfl) (by kernel_rfl) (by kernel_rfl) (fun _ _ _ h => h) (Or.inl ⟨by rfl, ?_⟩) (by first | assumption | trivial) ?_
    · (intro w hSw; (try dsimp only at hSw); go_simp)
    try simp only [Act.put, List.setIfInBounds_toArray, List.set_cons_zero, List.set_cons_succ]
    refine wpAnyH_take (i := 31) (oi := { dst := some 74, op := Op.move (Operand.tmp 73), type := 4, pos := "law.go:68", after := #[{ on := 30, ground := Ground.data }, { on := 28, ground := Ground.chain }, { on := 28, ground := Ground.guard }], guard := some (28, true) }) (v := .bool false) rfl (by kernel_rfl) (by kernel_rfl) (by kernel_rfl) (fun _ _ _ h => h) (Or.inl ⟨by rfl, ?_⟩) (by first | assumption | trivial) ?_
    · (intro w hSw; (try dsimp only at hSw); go_simp)
    try simp only [Act.put, List.setIfInBounds_toArray, List.set_cons_zero, List.set_cons_succ]
    refine wpAnyH_take (i := 32) (oi := { dst := some 75, op := Op.move (Operand.tmp 8), type := 3, pos := "law.go:68", after := #[{ on := 31, ground := Ground.guard }], guard := some (31, false) }) (v := ?_) rfl (by kernel_rfl) (by kernel_rfl) (by kernel_rfl) (fun _ _ _ h => h) (Or.inl ⟨by rfl, ?_⟩) (by first | assumption | trivial) ?_
    rotate_left
    · first | (intro w hSw; (try dsimp only at hSw); go_simp; done) | (intro w hSw; (try dsimp only at hSw); go_simp; with_reducible rfl)
    try simp only [Act.put, List.setIfInBounds_toArray, List.set_cons_zero, List.set_cons_succ]
    refine wpAnyH_take (i := 33) (oi := { dst := some 76, op := Op.binOp BinOp.eql 3 (Operand.tmp 75) (Operand.const (Value.int IntKind.i64 0)) 3, type := 4, pos := "law.go:68", after := #[{ on := 32, ground := Ground.data }, { on := 31, ground := Ground.guard }], guard := some (31, false) }) (v := .bool true) rfl (by kernel_rfl) (by kernel_rfl) (by kernel_rfl) (fun _ _ _ h => h) (Or.inl ⟨by rfl, ?_⟩) (by first | assumption | trivial) ?_
    · (intro w hSw; (try dsimp only at hSw); go_simp)
    try simp only [Act.put, List.setIfInBounds_toArray, List.set_cons_zero, List.set_cons_succ]
    refine wpAnyH_take (i := 34) (oi := { dst := some 77, op := Op.pick (Operand.tmp 74) (Operand.const (Value.bool true)) (Operand.tmp 76), type := 4, pos := "law.go:68", after := #[{ on := 31, ground := Ground.data }, { on := 33, ground := Ground.data }, { on := 28, ground := Ground.guard }], guard := some (28, true) }) (v := .bool true) rfl (by kernel_rfl) (by kernel_rfl) (by kernel_rfl) (fun _ _ _ h => h) (Or.inl ⟨by rfl, ?_⟩) (by first | assumption | trivial) ?_
    · (intro w hSw; (try dsimp only at hSw); go_simp)
    try simp only [Act.put, List.setIfInBounds_toArray, List.set_cons_zero, List.set_cons_succ]
    refine wpAnyH_take (i := 35) (oi := { dst := some 78, op := Op.pick (Operand.tmp 71) (Operand.tmp 77) (Operand.const (Value.bool false)), type := 4, pos := "law.go:68", after := #[{ on := 28, ground := Ground.data }, { on := 34, ground := Ground.data }], guard := none }) (v := .bool true) rfl (by kernel_rfl) (by kernel_rfl) (by kernel_rfl) (fun _ _ _ h => h) (Or.inl ⟨by rfl, ?_⟩) (by first | assumption | trivial) ?_
    · (intro w hSw; (try dsimp only at hSw); go_simp)
    try simp only [Act.put, List.setIfInBounds_toArray, List.set_cons_zero, List.set_cons_succ]
    refine wpAnyH_take (i := 36) (oi := { dst := some 2, op := Op.assign (Operand.tmp 78), type := 4, pos := "law.go:68", after := #[{ on := 35, ground := Ground.data }, { on := 31, ground := Ground.chain }, { on := 0, ground := Ground.phase }, { on := 1, ground := Ground.phase }, { on := 2, ground := Ground.phase }, { on := 3, ground := Ground.phase }, { on := 4, ground := Ground.phase }, { on := 5, ground := Ground.phase }, { on := 6, ground := Ground.phase }, { on := 7, ground := Ground.phase }, { on := 8, ground := Ground.phase }, { on := 9, ground := Ground.phase }, { on := 10, ground := Ground.phase }, { on := 11, ground := Ground.phase }, { on := 12, ground := Ground.phase }, { on := 13, ground := Ground.phase }, { on := 14, ground := Ground.phase }, { on := 15, ground := Ground.phase }, { on := 16, ground := Ground.phase }, { on := 17, ground := Ground.phase }, { on := 18, ground := Ground.phase }, { on := 19, ground := Ground.phase }, { on := 20, ground := Ground.phase }, { on := 21, ground := Ground.phase }, { on := 22, ground := Ground.phase }, { on := 23, ground := Ground.phase }, { on := 24, ground := Ground.phase }, { on := 25, ground := Ground.phase }, { on := 26, ground := Ground.phase }, { on := 27, ground := Ground.phase }, { on := 28, ground := Ground.phase }, { on := 29, ground := Ground.phase }, { on := 30, ground := Ground.phase }, { on := 31, ground := Ground.phase }, { on := 32, ground := Ground.phase }, { on := 33, ground := Ground.phase }, { on := 34, ground := Ground.phase }, { on := 35, ground := Ground.phase }], guard := none }) (v := ?_) rfl (by kernel_rfl) (by kernel_rfl) (by kernel_rfl) (fun _ _ _ h => h) (Or.inl ⟨by rfl, ?_⟩) (by first | assumption | trivial) ?_
    rotate_left
    · first | (intro w hSw; (try dsimp only at hSw); go_simp; done) | (intro w hSw; (try dsimp only at hSw); go_simp; with_reducible rfl)
    try simp only [Act.put, List.setIfInBounds_toArray, List.set_cons_zero, List.set_cons_succ]
    refine wpAnyH_done (by kernel_rfl) ?_ _
    have FX : Aside0 (Below w.heap.size w w11) := ⟨below_then B3.out B3.out.size (below_then B38.out B38.out.size Z11.out)⟩
    go_wp2_with fail
    go_ret
    exact ⟨rfl, by first | exact FX.out | (rw [HP.out]; exact FX.out) | (rw [← HP.out]; exact FX.out)⟩
  case true =>
    obtain ⟨k, rfl⟩ := right_nat hR
    have HR := Aside0.mk hR
    clear hR
    refine (least_yes (T3.out.below B34.out) (k : Nat) E cE cs E4.out (by omega) HF.out (by have := HK8.out; omega) HR.out).mono ?_
    rintro e w5 ⟨lb, lv, work, rfl, hl5, hP5, b5⟩
    rw [Int.toNat_natCast] at hP5 ⊢
    have L5 := Aside0.mk hl5
    have P5 := Aside0.mk hP5
    clear hl5 hP5
    have B35 := Aside0.mk (below_then B34.out B34.out.size b5)
    have E5 := Aside0.mk (Kd.C_below E4.out b5)
    have N5 := Aside0.mk (blk_below N3.out B35.out)
    have M5 := Aside0.mk (blk_below M3.out B35.out)
    have Q5 := Aside0.mk (Q3.out.below B35.out)
    have C5 := Aside0.mk (Kd.C_below C3.out B35.out)
    have q2 : w5.cell? ⟨pb, 2, none⟩ = some (.int .i64 (k : Nat)) := by rw [blk_cell N5.out]; rfl
    have q3 : w5.cell? ⟨pb, 3, none⟩ = some (.slice B cs.length cB) := by rw [blk_cell N5.out]; rfl
    have q4 : w5.cell? ⟨mb, 0, none⟩ = some (.slice A' m c') := by rw [blk_cell M5.out]; rfl
    clear b5 k2
    go_wp2_with fail
    refine (least16 Q5.out HBL.out HM8.out H0.out HMk.out HL.out HF.out (k : Nat) B cB C5.out HCB.out (by omega)).mono ?_
    rintro e w8 ⟨b8, D, cD, lw, f, rfl, hd, hD, ⟨h, _, _⟩ | ⟨_, rfl, hfin⟩⟩
    case inl => exact absurd (HR.out.symm.trans h) (by decide)
    rw [Int.toNat_natCast] at hfin
    have B38 := Aside0.mk (below_then B35.out B35.out.size b8)
    have HDD := Aside0.mk hD
    have E8 := Aside0.mk (Kd.C_below E5.out b8)
    have N8 := Aside0.mk (blk_below N3.out B38.out)
    have C8 := Aside0.mk (Kd.C_below C3.out B38.out)
    have T8 := Aside0.mk (T3.out.below B38.out)
    have KEEP : Aside0 (∀ W', Aside0 (Below w8.heap.size w8 W') → W'.cell? ⟨pb, 3, none⟩ = some (.slice B cs.length cB)) := ⟨fun W' h => (blk_cell (blk_below N8.out h.out) 3).trans rfl⟩
    have BT : Aside0 (∀ W W', Aside0 (Below w8.heap.size w8 W) → Below W.heap.size W W' → Aside0 (Below w8.heap.size w8 W')) := ⟨fun W W' h1 h2 => ⟨below_then h1.out h1.out.size h2⟩⟩
    have Z8 : Aside0 (Below w8.heap.size w8 w8.drew) := ⟨below_drew (Below.refl w8.heap.size w8)⟩
    have H17 : Aside0 (∀ W, Aside0 (Below w8.heap.size w8 W) → Calls Try.prog 17 #[.slice E cs.length cE, .slice B cs.length cB] W fun e w' => e = .returned (.bool true) ∧ Below W.heap.size W w') := ⟨fun W h => sameCons17 (Kd.C_below E8.out h.out) HLE.out (Kd.C_below C8.out h.out) HCB.out (by omega)⟩
    have H18 : Aside0 (∀ W, Aside0 (Below w8.heap.size w8 W) → Calls Try.prog 18 #[.pointer (some ⟨hb, 0, none⟩)] W fun e w' => e = .returned (.int .i64 (K : Nat)) ∧ Below W.heap.size W w') := ⟨fun W h => by
      have := height_any (T8.out.below h.out) H0.out HY.out
      rw [HHt.out] at this
      exact this⟩
    obtain ⟨P, hPP⟩ : ∃ P : Int, (cs.length : Int) * (K : Int) = P := ⟨_, rfl⟩
    have HPP := Aside0.mk hPP
    have hmul : IntKind.i64.wrap ((cs.length : Int) * (K : Int)) = P := by
      have h1 : (cs.length : Int) * (K : Int) ≤ 3000 * 8 := Int.mul_le_mul (by omega) (by have := HK8.out; omega) (by omega) (by omega)
      have h2 : 0 ≤ (cs.length : Int) * (K : Int) := Int.mul_nonneg (Int.natCast_nonneg _) (Int.natCast_nonneg _)
      rw [IntKind.wrap_i64]
      omega
    clear hPP
    have SAME : Aside0 (lv = lw) := ⟨fin_same HF.out P5.out hfin⟩
    have L8 := Aside0.mk (blk_below L5.out b8)
    have hln : Aside0 (lv.length = k) := ⟨P5.out.1.1⟩
    have HDL := Aside0.mk hd
    have H14 : Aside0 (∀ W, Aside0 (Below w8.heap.size w8 W) → Calls Try.prog 14 #[.slice (some ⟨lb, 0, none⟩) k k, .slice D lw.length cD] W fun e w' => e = .returned (.bool true) ∧ Below W.heap.size W w') := ⟨fun W h => by
      have g1 := C_ints W lb lv (blk_below L8.out h.out) (by rw [hln.out]; have := hnv; omega)
      have g2 := Kd.C_below HDD.out h.out
      have := sameInts14 lv lw (some ⟨lb, 0, none⟩) D k cD W g1 (by rw [hln.out]; exact Nat.le_refl _) g2 HDL.out (by rw [hln.out]; have := hnv; omega)
      rw [hln.out] at this
      exact this.mono (fun e w' ⟨h1, h2⟩ => ⟨by rw [h1, decide_eq_true SAME.out], h2.below⟩)⟩
    have hw0 : 0 ≤ work := P5.out.2.2.1
    have hw0d : decide (0 ≤ work) = true := decide_eq_true hw0
    have hwP : work ≤ P := by rw [← HPP.out]; exact P5.out.2.2.2.1
    have hwPd : decide (work ≤ P) = true := decide_eq_true hwP
    clear hD b8 hd
    go_wp2_with fail
    refine wp_region_held_drew (S := fun w' : World => w'.cell? ⟨pb, 3, none⟩ = some (.slice B cs.length cB)) (by kernel_rfl) (KEEP.out _ Z8) (fun hHeld => ?_)
    refine wpAnyH_take (i := 0) (oi := { dst := some 43, op := Op.move (Operand.tmp 9), type := 34, pos := "law.go:68", after := #[], guard := none }) (v := ?_) rfl (by kernel_rfl) (by kernel_rfl) (by kernel_rfl) (fun _ _ _ h => h) (Or.inl ⟨by rfl, ?_⟩) (by first | assumption | trivial) ?_
    rotate_left
    · first | (intro w hSw; (try dsimp only at hSw); go_simp; done) | (intro w hSw; (try dsimp only at hSw); go_simp; with_reducible rfl)
    try simp only [Act.put, List.setIfInBounds_toArray, List.set_cons_zero, List.set_cons_succ]
    refine wpAnyH_take (i := 1) (oi := { dst := some 44, op := Op.move (Operand.tmp 11), type := 34, pos := "law.go:68", after := #[], guard := none }) (v := ?_) rfl (by kernel_rfl) (by kernel_rfl) (by kernel_rfl) (fun _ _ _ h => h) (Or.inl ⟨by rfl, ?_⟩) (by first | assumption | trivial) ?_
    rotate_left
    · first | (intro w hSw; (try dsimp only at hSw); go_simp; done) | (intro w hSw; (try dsimp only at hSw); go_simp; with_reducible rfl)
    try simp only [Act.put, List.setIfInBounds_toArray, List.set_cons_zero, List.set_cons_succ]
    refine wpAnyH_take (i := 2) (oi := { dst := some 45, op := Op.binOp BinOp.eql 34 (Operand.tmp 43) (Operand.tmp 44) 34, type := 4, pos := "law.go:68", after := #[{ on := 0, ground := Ground.data }, { on := 1, ground := Ground.data }], guard := none }) (v := .bool true) rfl (by kernel_rfl) (by kernel_rfl) (by kernel_rfl) (fun _ _ _ h => h) (Or.inl ⟨by rfl, ?_⟩) (by first | assumption | trivial) ?_
    · (intro w hSw; (try dsimp only at hSw); go_simp)
    try simp only [Act.put, List.setIfInBounds_toArray, List.set_cons_zero, List.set_cons_succ]
    refine wpAnyH_take (i := 3) (oi := { dst := some 46, op := Op.move (Operand.tmp 45), type := 4, pos := "law.go:68", after := #[{ on := 2, ground := Ground.data }], guard := none }) (v := .bool true) rfl (by kernel_rfl) (by kernel_rfl) (by kernel_rfl) (fun _ _ _ h => h) (Or.inl ⟨by rfl, ?_⟩) (by first | assumption | trivial) ?_
    · (intro w hSw; (try dsimp only at hSw); go_simp)
    try simp only [Act.put, List.setIfInBounds_toArray, List.set_cons_zero, List.set_cons_succ]
    refine wpAnyH_take (i := 4) (oi := { dst := some 47, op := Op.move (Operand.tmp 7), type := 26, pos := "law.go:68", after := #[{ on := 3, ground := Ground.guard }], guard := some (3, true) }) (v := ?_) rfl (by kernel_rfl) (by kernel_rfl) (by kernel_rfl) (fun _ _ _ h => h) (Or.inl ⟨by rfl, ?_⟩) (by first | assumption | trivial) ?_
    rotate_left
    · first | (intro w hSw; (try dsimp only at hSw); go_simp; done) | (intro w hSw; (try dsimp only at hSw); go_simp; with_reducible rfl)
    try simp only [Act.put, List.setIfInBounds_toArray, List.set_cons_zero, List.set_cons_succ]
    refine wpAnyH_take (i := 5) (oi := { dst := some 48, op := Op.move (Operand.tmp 10), type := 26, pos := "law.go:68", after := #[{ on := 3, ground := Ground.guard }], guard := some (3, true) }) (v := ?_) rfl (by kernel_rfl) (by kernel_rfl) (by kernel_rfl) (fun _ _ _ h => h) (Or.inl ⟨by rfl, ?_⟩) (by first | assumption | trivial) ?_
    rotate_left
    · first | (intro w hSw; (try dsimp only at hSw); go_simp; done) | (intro w hSw; (try dsimp only at hSw); go_simp; with_reducible rfl)
    try simp only [Act.put, List.setIfInBounds_toArray, List.set_cons_zero, List.set_cons_succ]
    refine wpAnyH_ready (rs := [6]) (by kernel_rfl) (by simp) ?_
    refine AllReadyH.cons (o := { dst := some 49, op := Op.call { callee := Callee.value (Operand.func 14), args := #[Operand.tmp 47, Operand.tmp 48], argTypes := #[26, 26] }, type := 4, pos := "law.go:68", after := #[{ on := 4, ground := Ground.data }, { on := 5, ground := Ground.data }, { on := 3, ground := Ground.chain }, { on := 3, ground := Ground.guard }], guard := some (3, true) }) rfl (fun K hK => ?_) AllReadyH.nil
    go_simp
    go_at_call 14
    refine (H14.out _ Z8).mono ?_
    rintro e w9 ⟨rfl, b9⟩
    have Z9 := BT.out _ _ Z8 b9
    try go_wp2_with fail
    refine hK.out _ _ ?_ (fun hHeld => ?_)
    · exact KEEP.out _ Z9
    clear hK K
    try simp only [Act.put, List.setIfInBounds_toArray, List.set_cons_zero, List.set_cons_succ]
    refine wpAnyH_take (i := 7) (oi := { dst := some 50, op := Op.pick (Operand.tmp 46) (Operand.tmp 49) (Operand.const (Value.bool false)), type := 4, pos := "law.go:68", after := #[{ on := 3, ground := Ground.data }, { on := 6, ground := Ground.data }], guard := none }) (v := .bool true) rfl (by kernel_rfl) (by kernel_rfl) (by kernel_rfl) (fun _ _ _ h => h) (Or.inl ⟨by rfl, ?_⟩) (by first | assumption | trivial) ?_
    · (intro w hSw; (try dsimp only at hSw); go_simp)
    try simp only [Act.put, List.setIfInBounds_toArray, List.set_cons_zero, List.set_cons_succ]
    refine wpAnyH_take (i := 8) (oi := { dst := some 51, op := Op.move (Operand.tmp 50), type := 4, pos := "law.go:68", after := #[{ on := 7, ground := Ground.data }, { on := 6, ground := Ground.chain }], guard := none }) (v := .bool true) rfl (by kernel_rfl) (by kernel_rfl) (by kernel_rfl) (fun _ _ _ h => h) (Or.inl ⟨by rfl, ?_⟩) (by first | assumption | trivial) ?_
    · (intro w hSw; (try dsimp only at hSw); go_simp)
    try simp only [Act.put, List.setIfInBounds_toArray, List.set_cons_zero, List.set_cons_succ]
    refine wpAnyH_take (i := 9) (oi := { dst := some 52, op := Op.move (Operand.tmp 6), type := 23, pos := "law.go:68", after := #[{ on := 8, ground := Ground.guard }], guard := some (8, true) }) (v := ?_) rfl (by kernel_rfl) (by kernel_rfl) (by kernel_rfl) (fun _ _ _ h => h) (Or.inl ⟨by rfl, ?_⟩) (by first | assumption | trivial) ?_
    rotate_left
    · first | (intro w hSw; (try dsimp only at hSw); go_simp; done) | (intro w hSw; (try dsimp only at hSw); go_simp; with_reducible rfl)
    try simp only [Act.put, List.setIfInBounds_toArray, List.set_cons_zero, List.set_cons_succ]
    refine wpAnyH_take (i := 10) (oi := { dst := some 53, op := Op.fieldAddr 25 (Operand.tmp 1) 3, type := 0, pos := "law.go:68", after := #[{ on := 8, ground := Ground.guard }], guard := some (8, true) }) (v := ?_) rfl (by kernel_rfl) (by kernel_rfl) (by kernel_rfl) (fun _ _ _ h => h) (Or.inl ⟨by rfl, ?_⟩) (by first | assumption | trivial) ?_
    rotate_left
    · first | (intro w hSw; (try dsimp only at hSw); go_simp; done) | (intro w hSw; (try dsimp only at hSw); go_simp; with_reducible rfl)
    try simp only [Act.put, List.setIfInBounds_toArray, List.set_cons_zero, List.set_cons_succ]
    refine wpAnyH_take (i := 11) (oi := { dst := some 54, op := Op.load 23 (Operand.tmp 53), type := 23, pos := "law.go:68", after := #[{ on := 10, ground := Ground.data }, { on := 8, ground := Ground.guard }], guard := some (8, true) }) (v := ?_) rfl (by kernel_rfl) (by kernel_rfl) (by kernel_rfl) (fun _ _ _ h => h) (Or.inl ⟨by rfl, ?_⟩) (by first | assumption | trivial) ?_
    rotate_left
    · first | (intro w hSw; (try dsimp only at hSw); go_simp; done) | (intro w hSw; (try dsimp only at hSw); go_simp; with_reducible rfl)
    try simp only [Act.put, List.setIfInBounds_toArray, List.set_cons_zero, List.set_cons_succ]
    refine wpAnyH_ready (rs := [12]) (by kernel_rfl) (by simp) ?_
    refine AllReadyH.cons (o := { dst := some 55, op := Op.call { callee := Callee.value (Operand.func 17), args := #[Operand.tmp 52, Operand.tmp 54], argTypes := #[23, 23] }, type := 4, pos := "law.go:68", after := #[{ on := 9, ground := Ground.data }, { on := 11, ground := Ground.data }, { on := 8, ground := Ground.chain }, { on := 8, ground := Ground.guard }], guard := some (8, true) }) rfl (fun K hK => ?_) AllReadyH.nil
    go_simp
    go_at_call 17
    refine (H17.out _ Z9).mono ?_
    rintro e w10 ⟨rfl, b10⟩
    have Z10 := BT.out _ _ Z9 b10
    try go_wp2_with fail
    refine hK.out _ _ ?_ (fun hHeld => ?_)
    · exact KEEP.out _ Z10
    clear hK K
    try simp only [Act.put, List.setIfInBounds_toArray, List.set_cons_zero, List.set_cons_succ]
    refine wpAnyH_take (i := 13) (oi := { dst := some 56, op := Op.pick (Operand.tmp 51) (Operand.tmp 55) (Operand.const (Value.bool false)), type := 4, pos := "law.go:68", after := #[{ on := 8, ground := Ground.data }, { on := 12, ground := Ground.data }], guard := none }) (v := .bool true) rfl (by kernel_rfl) (by kernel_rfl) (by kernel_rfl) (fun _ _ _ h => h) (Or.inl ⟨by rfl, ?_⟩) (by first | assumption | trivial) ?_
    · (intro w hSw; (try dsimp only at hSw); go_simp)
    try simp only [Act.put, List.setIfInBounds_toArray, List.set_cons_zero, List.set_cons_succ]
    refine wpAnyH_take (i := 14) (oi := { dst := some 57, op := Op.move (Operand.tmp 56), type := 4, pos := "law.go:68", after := #[{ on := 13, ground := Ground.data }, { on := 12, ground := Ground.chain }], guard := none }) (v := .bool true) rfl (by kernel_rfl) (by kernel_rfl) (by kernel_rfl) (fun _ _ _ h => h) (Or.inl ⟨by rfl, ?_⟩) (by first | assumption | trivial) ?_
    · (intro w hSw; (try dsimp only at hSw); go_simp)
    try simp only [Act.put, List.setIfInBounds_toArray, List.set_cons_zero, List.set_cons_succ]
    refine wpAnyH_take (i := 15) (oi := { dst := some 58, op := Op.move (Operand.tmp 8), type := 3, pos := "law.go:68", after := #[{ on := 14, ground := Ground.guard }], guard := some (14, true) }) (v := ?_) rfl (by kernel_rfl) (by kernel_rfl) (by kernel_rfl) (fun _ _ _ h => h) (Or.inl ⟨by rfl, ?_⟩) (by first | assumption | trivial) ?_
    rotate_left
    · first | (intro w hSw; (try dsimp only at hSw); go_simp; done) | (intro w hSw; (try dsimp only at hSw); go_simp; with_reducible rfl)
    try simp only [Act.put, List.setIfInBounds_toArray, List.set_cons_zero, List.set_cons_succ]
    refine wpAnyH_take (i := 16) (oi := { dst := some 59, op := Op.binOp BinOp.geq 3 (Operand.tmp 58) (Operand.const (Value.int IntKind.i64 0)) 3, type := 4, pos := "law.go:68", after := #[{ on := 15, ground := Ground.data }, { on := 14, ground := Ground.guard }], guard := some (14, true) }) (v := .bool true) rfl (by kernel_rfl) (by kernel_rfl) (by kernel_rfl) (fun _ _ _ h => h) (Or.inl ⟨by rfl, ?_⟩) (by first | assumption | trivial) ?_
    · (intro w hSw; (try dsimp only at hSw); go_simp)
    try simp only [Act.put, List.setIfInBounds_toArray, List.set_cons_zero, List.set_cons_succ]
    refine wpAnyH_take (i := 17) (oi := { dst := some 60, op := Op.pick (Operand.tmp 57) (Operand.tmp 59) (Operand.const (Value.bool false)), type := 4, pos := "law.go:68", after := #[{ on := 14, ground := Ground.data }, { on := 16, ground := Ground.data }], guard := none }) (v := .bool true) rfl (by kernel_rfl) (by kernel_rfl) (by kernel_rfl) (fun _ _ _ h => h) (Or.inl ⟨by rfl, ?_⟩) (by first | assumption | trivial) ?_
    · (intro w hSw; (try dsimp only at hSw); go_simp)
    try simp only [Act.put, List.setIfInBounds_toArray, List.set_cons_zero, List.set_cons_succ]
    refine wpAnyH_take (i := 18) (oi := { dst := some 61, op := Op.move (Operand.tmp 60), type := 4, pos := "law.go:68", after := #[{ on := 17, ground := Ground.data }, { on := 14, ground := Ground.chain }], guard := none }) (v := .bool true) rfl (by kernel_rfl) (by kernel_rfl) (by kernel_rfl) (fun _ _ _ h => h) (Or.inl ⟨by rfl, ?_⟩) (by first | assumption | trivial) ?_
    · (intro w hSw; (try dsimp only at hSw); go_simp)
    try simp only [Act.put, List.setIfInBounds_toArray, List.set_cons_zero, List.set_cons_succ]
    refine wpAnyH_take (i := 19) (oi := { dst := some 62, op := Op.move (Operand.tmp 8), type := 3, pos := "law.go:68", after := #[{ on := 18, ground := Ground.guard }], guard := some (18, true) }) (v := ?_) rfl (by kernel_rfl) (by kernel_rfl) (by kernel_rfl) (fun _ _ _ h => h) (Or.inl ⟨by rfl, ?_⟩) (by first | assumption | trivial) ?_
    rotate_left
    · first | (intro w hSw; (try dsimp only at hSw); go_simp; done) | (intro w hSw; (try dsimp only at hSw); go_simp; with_reducible rfl)
    try simp only [Act.put, List.setIfInBounds_toArray, List.set_cons_zero, List.set_cons_succ]
    refine wpAnyH_take (i := 20) (oi := { dst := some 63, op := Op.fieldAddr 25 (Operand.tmp 1) 3, type := 0, pos := "law.go:68", after := #[{ on := 18, ground := Ground.guard }], guard := some (18, true) }) (v := ?_) rfl (by kernel_rfl) (by kernel_rfl) (by kernel_rfl) (fun _ _ _ h => h) (Or.inl ⟨by rfl, ?_⟩) (by first | assumption | trivial) ?_
    rotate_left
    · first | (intro w hSw; (try dsimp only at hSw); go_simp; done) | (intro w hSw; (try dsimp only at hSw); go_simp; with_reducible rfl)
    try simp only [Act.put, List.setIfInBounds_toArray, List.set_cons_zero, List.set_cons_succ]
    refine wpAnyH_take (i := 21) (oi := { dst := some 64, op := Op.load 23 (Operand.tmp 63), type := 23, pos := "law.go:68", after := #[{ on := 20, ground := Ground.data }, { on := 18, ground := Ground.guard }], guard := some (18, true) }) (v := ?_) rfl (by kernel_rfl) (by kernel_rfl) (by kernel_rfl) (fun _ _ _ h => h) (Or.inl ⟨by rfl, ?_⟩) (by first | assumption | trivial) ?_
    rotate_left
    · first | (intro w hSw; (try dsimp only at hSw); go_simp; done) | (intro w hSw; (try dsimp only at hSw); go_simp; with_reducible rfl)
    try simp only [Act.put, List.setIfInBounds_toArray, List.set_cons_zero, List.set_cons_succ]
    refine wpAnyH_take (i := 22) (oi := { dst := some 65, op := Op.call { callee := Callee.builtin Builtin.len, args := #[Operand.tmp 64], argTypes := #[23] }, type := 3, pos := "law.go:68", after := #[{ on := 21, ground := Ground.data }, { on := 18, ground := Ground.guard }], guard := some (18, true) }) (v := ?_) rfl (by kernel_rfl) (by kernel_rfl) (by kernel_rfl) (fun _ _ _ h => h) (Or.inl ⟨by rfl, ?_⟩) (by first | assumption | trivial) ?_
    rotate_left
    · first | (intro w hSw; (try dsimp only at hSw); go_simp; done) | (intro w hSw; (try dsimp only at hSw); go_simp; with_reducible rfl)
    try simp only [Act.put, List.setIfInBounds_toArray, List.set_cons_zero, List.set_cons_succ]
    refine wpAnyH_take (i := 23) (oi := { dst := some 66, op := Op.move (Operand.tmp 3), type := 28, pos := "law.go:68", after := #[{ on := 18, ground := Ground.guard }], guard := some (18, true) }) (v := ?_) rfl (by kernel_rfl) (by kernel_rfl) (by kernel_rfl) (fun _ _ _ h => h) (Or.inl ⟨by rfl, ?_⟩) (by first | assumption | trivial) ?_
    rotate_left
    · first | (intro w hSw; (try dsimp only at hSw); go_simp; done) | (intro w hSw; (try dsimp only at hSw); go_simp; with_reducible rfl)
    try simp only [Act.put, List.setIfInBounds_toArray, List.set_cons_zero, List.set_cons_succ]
    refine wpAnyH_ready (rs := [24]) (by kernel_rfl) (by simp) ?_
    refine AllReadyH.cons (o := { dst := some 67, op := Op.call { callee := Callee.value (Operand.func 18), args := #[Operand.tmp 66], argTypes := #[28] }, type := 3, pos := "law.go:68", after := #[{ on := 23, ground := Ground.data }, { on := 18, ground := Ground.chain }, { on := 18, ground := Ground.guard }], guard := some (18, true) }) rfl (fun K hK => ?_) AllReadyH.nil
    go_simp
    go_at_call 18
    refine (H18.out _ Z10).mono ?_
    rintro e w11 ⟨rfl, b11⟩
    have Z11 := BT.out _ _ Z10 b11
    try go_wp2_with fail
    refine hK.out _ _ ?_ (fun hHeld => ?_)
    · exact KEEP.out _ Z11
    clear hK K
    try simp only [Act.put, List.setIfInBounds_toArray, List.set_cons_zero, List.set_cons_succ]
    refine wpAnyH_take (i := 25) (oi := { dst := some 68, op := Op.binOp BinOp.mul 3 (Operand.tmp 65) (Operand.tmp 67) 3, type := 3, pos := "law.go:68", after := #[{ on := 22, ground := Ground.data }, { on := 24, ground := Ground.data }, { on := 18, ground := Ground.guard }], guard := some (18, true) }) (v := .int .i64 P) rfl (by kernel_rfl) (by kernel_rfl) (by kernel_rfl) (fun _ _ _ h => h) (Or.inl ⟨by rfl, ?_⟩) (by first | assumption | trivial) ?_
    · (intro w hSw; (try dsimp only at hSw); go_simp)
    try simp only [Act.put, List.setIfInBounds_toArray, List.set_cons_zero, List.set_cons_succ]
    refine wpAnyH_take (i := 26) (oi := { dst := some 69, op := Op.binOp BinOp.leq 3 (Operand.tmp 62) (Operand.tmp 68) 3, type := 4, pos := "law.go:68", after := #[{ on := 19, ground := Ground.data }, { on := 25, ground := Ground.data }, { on := 18, ground := Ground.guard }], guard := some (18, true) }) (v := .bool true) rfl (by kernel_rfl) (by kernel_rfl) (by kernel_rfl) (fun _ _ _ h => h) (Or.inl ⟨by rfl, ?_⟩) (by first | assumption | trivial) ?_
    · (intro w hSw; (try dsimp only at hSw); go_simp)
    try simp only [Act.put, List.setIfInBounds_toArray, List.set_cons_zero, List.set_cons_succ]
    refine wpAnyH_take (i := 27) (oi := { dst := some 70, op := Op.pick (Operand.tmp 61) (Operand.tmp 69) (Operand.const (Value.bool false)), type := 4, pos := "law.go:68", after := #[{ on := 18, ground := Ground.data }, { on := 26, ground := Ground.data }], guard := none }) (v := .bool true) rfl (by kernel_rfl) (by kernel_rfl) (by kernel_rfl) (fun _ _ _ h => h) (Or.inl ⟨by rfl, ?_⟩) (by first | assumption | trivial) ?_
    · (intro w hSw; (try dsimp only at hSw); go_simp)
    try simp only [Act.put, List.setIfInBounds_toArray, List.set_cons_zero, List.set_cons_succ]
    refine wpAnyH_take (i := 28) (oi := { dst := some 71, op := Op.move (Operand.tmp 70), type := 4, pos := "law.go:68", after := #[{ on := 27, ground := Ground.data }, { on := 24, ground := Ground.chain }], guard := none }) (v := .bool true) rfl (by kernel_rfl) (by kernel_rfl) (by kernel_rfl) (fun _ _ _ h => h) (Or.inl ⟨by rfl, ?_⟩) (by first | assumption | trivial) ?_
    · (intro w hSw; (try dsimp only at hSw); go_simp)
    try simp only [Act.put, List.setIfInBounds_toArray, List.set_cons_zero, List.set_cons_succ]
    refine wpAnyH_take (i := 29) (oi := { dst := some 72, op := Op.move (Operand.tmp 9), type := 34, pos := "law.go:68", after := #[{ on := 28, ground := Ground.guard }], guard := some (28, true) }) (v := ?_) rfl (by kernel_rfl) (by kernel_rfl) (by kernel_rfl) (fun _ _ _ h => h) (Or.inl ⟨by rfl, ?_⟩) (by first | assumption | trivial) ?_
    rotate_left
    · first | (intro w hSw; (try dsimp only at hSw); go_simp; done) | (intro w hSw; (try dsimp only at hSw); go_simp; with_reducible rfl)
    try simp only [Act.put, List.setIfInBounds_toArray, List.set_cons_zero, List.set_cons_succ]
    refine wpAnyH_take (i := 30) (oi := { dst := some 73, op := Op.binOp BinOp.eql 34 (Operand.tmp 72) (Operand.const (Value.int IntKind.i64 0)) 34, type := 4, pos := "law.go:68", after := #[{ on := 29, ground := Ground.data }, { on := 28, ground := Ground.guard }], guard := some (28, true) }) (v := .bool true) rfl (by kernel_rfl) (by kernel_rfl) (by kernel_rfl) (fun _ _ _ h => h) (Or.inl ⟨by rfl, ?_⟩) (by first | assumption | trivial) ?_
    · (intro w hSw; (try dsimp only at hSw); go_simp)
    try simp only [Act.put, List.setIfInBounds_toArray, List.set_cons_zero, List.set_cons_succ]
    refine wpAnyH_take (i := 31) (oi := { dst := some 74, op := Op.move (Operand.tmp 73), type := 4, pos := "law.go:68", after := #[{ on := 30, ground := Ground.data }, { on := 28, ground := Ground.chain }, { on := 28, ground := Ground.guard }], guard := some (28, true) }) (v := .bool true) rfl (by kernel_rfl) (by kernel_rfl) (by kernel_rfl) (fun _ _ _ h => h) (Or.inl ⟨by rfl, ?_⟩) (by first | assumption | trivial) ?_
    · (intro w hSw; (try dsimp only at hSw); go_simp)
    try simp only [Act.put, List.setIfInBounds_toArray, List.set_cons_zero, List.set_cons_succ]
    refine wpAnyH_take (i := 32) (oi := { dst := some 75, op := Op.move (Operand.tmp 8), type := 3, pos := "law.go:68", after := #[{ on := 31, ground := Ground.guard }], guard := some (31, false) }) (v := undef) rfl (by kernel_rfl) (by kernel_rfl) (by kernel_rfl) (fun _ _ _ h => h) (Or.inr ⟨by rfl, rfl⟩) (by first | assumption | trivial) ?_
    try simp only [Act.put, List.setIfInBounds_toArray, List.set_cons_zero, List.set_cons_succ]
    refine wpAnyH_take (i := 33) (oi := { dst := some 76, op := Op.binOp BinOp.eql 3 (Operand.tmp 75) (Operand.const (Value.int IntKind.i64 0)) 3, type := 4, pos := "law.go:68", after := #[{ on := 32, ground := Ground.data }, { on := 31, ground := Ground.guard }], guard := some (31, false) }) (v := undef) rfl (by kernel_rfl) (by kernel_rfl) (by kernel_rfl) (fun _ _ _ h => h) (Or.inr ⟨by rfl, rfl⟩) (by first | assumption | trivial) ?_
    try simp only [Act.put, List.setIfInBounds_toArray, List.set_cons_zero, List.set_cons_succ]
    refine wpAnyH_take (i := 34) (oi := { dst := some 77, op := Op.pick (Operand.tmp 74) (Operand.const (Value.bool true)) (Operand.tmp 76), type := 4, pos := "law.go:68", after := #[{ on := 31, ground := Ground.data }, { on := 33, ground := Ground.data }, { on := 28, ground := Ground.guard }], guard := some (28, true) }) (v := .bool true) rfl (by kernel_rfl) (by kernel_rfl) (by kernel_rfl) (fun _ _ _ h => h) (Or.inl ⟨by rfl, ?_⟩) (by first | assumption | trivial) ?_
    · (intro w hSw; (try dsimp only at hSw); go_simp)
    try simp only [Act.put, List.setIfInBounds_toArray, List.set_cons_zero, List.set_cons_succ]
    refine wpAnyH_take (i := 35) (oi := { dst := some 78, op := Op.pick (Operand.tmp 71) (Operand.tmp 77) (Operand.const (Value.bool false)), type := 4, pos := "law.go:68", after := #[{ on := 28, ground := Ground.data }, { on := 34, ground := Ground.data }], guard := none }) (v := .bool true) rfl (by kernel_rfl) (by kernel_rfl) (by kernel_rfl) (fun _ _ _ h => h) (Or.inl ⟨by rfl, ?_⟩) (by first | assumption | trivial) ?_
    · (intro w hSw; (try dsimp only at hSw); go_simp)
    try simp only [Act.put, List.setIfInBounds_toArray, List.set_cons_zero, List.set_cons_succ]
    refine wpAnyH_take (i := 36) (oi := { dst := some 2, op := Op.assign (Operand.tmp 78), type := 4, pos := "law.go:68", after := #[{ on := 35, ground := Ground.data }, { on := 31, ground := Ground.chain }, { on := 0, ground := Ground.phase }, { on := 1, ground := Ground.phase }, { on := 2, ground := Ground.phase }, { on := 3, ground := Ground.phase }, { on := 4, ground := Ground.phase }, { on := 5, ground := Ground.phase }, { on := 6, ground := Ground.phase }, { on := 7, ground := Ground.phase }, { on := 8, ground := Ground.phase }, { on := 9, ground := Ground.phase }, { on := 10, ground := Ground.phase }, { on := 11, ground := Ground.phase }, { on := 12, ground := Ground.phase }, { on := 13, ground := Ground.phase }, { on := 14, ground := Ground.phase }, { on := 15, ground := Ground.phase }, { on := 16, ground := Ground.phase }, { on := 17, ground := Ground.phase }, { on := 18, ground := Ground.phase }, { on := 19, ground := Ground.phase }, { on := 20, ground := Ground.phase }, { on := 21, ground := Ground.phase }, { on := 22, ground := Ground.phase }, { on := 23, ground := Ground.phase }, { on := 24, ground := Ground.phase }, { on := 25, ground := Ground.phase }, { on := 26, ground := Ground.phase }, { on := 27, ground := Ground.phase }, { on := 28, ground := Ground.phase }, { on := 29, ground := Ground.phase }, { on := 30, ground := Ground.phase }, { on := 31, ground := Ground.phase }, { on := 32, ground := Ground.phase }, { on := 33, ground := Ground.phase }, { on := 34, ground := Ground.phase }, { on := 35, ground := Ground.phase }], guard := none }) (v := ?_) rfl (by kernel_rfl) (by kernel_rfl) (by kernel_rfl) (fun _ _ _ h => h) (Or.inl ⟨by rfl, ?_⟩) (by first | assumption | trivial) ?_
    rotate_left
    · first | (intro w hSw; (try dsimp only at hSw); go_simp; done) | (intro w hSw; (try dsimp only at hSw); go_simp; with_reducible rfl)
    try simp only [Act.put, List.setIfInBounds_toArray, List.set_cons_zero, List.set_cons_succ]
    refine wpAnyH_done (by kernel_rfl) ?_ _
    have FX : Aside0 (Below w.heap.size w w11) := ⟨below_then B3.out B3.out.size (below_then B38.out B38.out.size Z11.out)⟩
    go_wp2_with fail
    go_ret
    exact ⟨rfl, by first | exact FX.out | (rw [HP.out]; exact FX.out) | (rw [← HP.out]; exact FX.out)⟩
end Go.Proofs.Ytpbaebjohioijaa.Lat

namespace Go.Proofs.Ytpbaebjohioijaa.Lat
open Go.RowKit Go.Proofs.YtpbaebjohioijaaW.PrintWords Go.Proofs.YtpbaebjohioijaaW.PrintLast Go.Proofs.YtpbaebjohioijaaW.PrintMore Go.Proofs.Ytpbaebjohioijaa.PSolveLeast
open Go.ChangeShapes Go.WideShapes
set_option linter.unusedVariables false
set_option maxRecDepth 100000 in
/-- Rules handed in, opened; the rules' row is no longer than its room. -/
theorem arg_rules2 {H : Type} {enc : TypeId × Value → H} {W : World} {base : Nat} {v : Value} (hv : Value.okWide Try.prog W .any base 25 v)
    {b : Nat} {sp : Nat → Bool} {hd : Bool} {x : DataW H} {p : List MemPlace} (h : DataW.Trod enc Try.prog W b sp hd 25 v x p) :
    ∃ (n nv : Int) (A B : Option Addr) (c cB : Nat) (es : List (Int × Int)) (cs : List S43), v = .agg #[.int .i64 n, .slice A es.length c, .int .i64 nv, .slice B cs.length cB] ∧ Kd.C KE W A es.length es ∧ Kd.C k43 W B cs.length cs ∧ cs.length ≤ cB := by
  obtain ⟨cells, rfl, _⟩ := okWide_struct Try.underlying25 hv
  obtain ⟨fuel, hf⟩ := h
  obtain ⟨⟨n, es, nv, cs⟩, hk, _⟩ := o_rules.out enc W b sp hd fuel _ _ hf
  obtain ⟨c1, r1, e1, k1, k2⟩ := hk
  obtain ⟨c2, r2, e2, ⟨A, c, k3, _, hE⟩, k4⟩ := k2
  obtain ⟨c3, r3, e3, k5, ⟨B, cB, k6, hl, hC⟩⟩ := k4
  have k1 : c1 = [.int .i64 n] := k1
  have k5 : c3 = [.int .i64 nv] := k5
  subst k1 k3 k5 k6 e3 e2
  refine ⟨n, nv, A, B, c, cB, es, cs, ?_, hE, hC, hl⟩
  congr 1
  apply Array.toList_inj.1
  simpa [Value.cells] using e1
theorem least_law (n nv : Int) (A B : Option Addr) (c cB : Nat) (es : List (Int × Int)) (cs : List S43) (w : World) (hE : Kd.C KE w A es.length es) (hC : Kd.C k43 w B cs.length cs ∧ cs.length ≤ cB) :
    Calls Try.prog 6 #[.agg #[.int .i64 n, .slice A es.length c, .int .i64 nv, .slice B cs.length cB]] w fun e w' => e = .returned (.bool true) ∧ Below w.heap.size w w' := least6 n nv A B c cB es cs w hE hC.1 hC.2
end Go.Proofs.Ytpbaebjohioijaa.Lat

namespace Go.Proofs.Ytpbaebjohioijaa.solveLeast
open Go.ChangeShapes Go.WideShapes Go.ChangeAt Go.RowKit
open Go.ChangeMaps (open_string shut_string)
set_option linter.unusedVariables false
theorem own : ownKnob Try.prog.godebug = none := by kernel_rfl
theorem laidOut : laidOutB Try.prog = true := by kernel_rfl
set_option maxRecDepth 100000 in
theorem lifted (os : Os) (started : os.Started) (H : Type) (enc : TypeId × Value → H) :
    ReturnsInHanded {} Try.checked os 6 .any (Rows.solveLeastSpec.pre6 enc Try.prog Try.f6 Rows.solveLeastRow.domain false) (Rows.solveLeastSpec.post enc Try.prog Try.f6 false true false false) := by
  refine returnsInHanded_of_change_sized (C := Try.checked) own started (by kernel_rfl) Try.func6
    (ChangeSpec.witness6 (enc := enc) (C := Try.checked) false ⟨#[], #[.agg #[.int .i64 0, .slice none 0 0, .int .i64 0, .slice none 0 0]], []⟩ 8 (by kernel_rfl) (by kernel_rfl) (by kernel_rfl) (by kernel_rfl)) ?_
  intro W base args ds gs before hval0 hW hcnd hsz0 _
  have hsz : (DataW.weightsEach Try.prog (Try.f6.params.toList ++ Rows.solveLeastSpec.plain.varTypes Try.prog) (ds ++ gs)).all (· ≤ reachBytes) = true := hsz0
  have hval : ∀ (j : Nat) t v, Try.f6.params[j]? = some t → args[j]? = some v → Value.okWide Try.prog W .any base t v := hval0
  have hW' := hW
  obtain ⟨p, q, hA0, hV, rfl, hfz, hnd⟩ := hW
  have hA : DataW.TrodAll enc Try.prog W 0 (fun _ => true) true Try.f6.params.toList args.toList ds p := hA0
  rw [Try.params6] at hA hval hsz
  obtain ⟨v0, vs0, d0, ds0, p0, q0, hargs, rfl, rfl, h0, r0⟩ := trodAll_cons hA
  obtain ⟨rfl, rfl, rfl⟩ := trodAll_nil r0
  obtain rfl : args = #[v0] := by cases args; simp_all
  obtain ⟨rfl, rfl⟩ := trodVars_none hV
  have k0 := h0
  have lt0 : ∀ x ∈ p0, x.block < W.heap.size := by obtain ⟨m, hm⟩ := k0; exact DataW.trod_lt m _ _ _ hm
  obtain ⟨n0, nv0, A0, B0, c0, b0, es0, cs0, rfl, E0, C0⟩ := Lat.arg_rules2 (hval 0 25 v0 rfl rfl) h0
  clear hA0 hval0 hsz0 hsz
  refine (Lat.least_law n0 nv0 A0 B0 c0 b0 es0 cs0 W E0 C0).mono fun e W' ⟨he, bel⟩ => ?_
  subst he
  exact ⟨_, rfl, _, _, _, [], _, [], hW', trodAll_mk1 (shut_bool Try.underlying4 _), (trodAll_cons_mk (Below.trod laidOut (by kernel_rfl) (of_decide_eq_true (by kernel_rfl)) k0 bel lt0) trodAll_mk0), rfl, bel.frame _, fun h => by cases h⟩
theorem over : Rows.solveLeastRow.holds Try.pinned (OpenSpec.ofChange Rows.solveLeastSpec) :=
  OpenClaim.holds_of_wide 6 Try.f6 rfl rfl rfl rfl rfl rfl rfl ⟨rfl, rfl, rfl, rfl, rfl⟩ rfl rfl rfl rfl rfl (by kernel_rfl) Try.func6 (by kernel_rfl)
    (of_decide_eq_true (by kernel_rfl)) (by unfold Func.isWrapper; first | (rw [if_pos (by decide +kernel)]; kernel_rfl) | (rw [if_neg (by decide +kernel)]; exact ⟨rfl, rfl⟩))
    (fun os started H enc _ => lifted os started H enc)
theorem proved : Rows.SolveLeastSaid := over
#print axioms proved
end Go.Proofs.Ytpbaebjohioijaa.solveLeast
namespace Go.Proofs.Ytpbaebjohioijaa
theorem solveLeast_holds : Rows.SolveLeastSaid := solveLeast.proved
end Go.Proofs.Ytpbaebjohioijaa

