import Derived.Test.YtdapiibllblpbaaDoorX0
import Derived.Test.YtdapiibllblpbaaDoorFoot
import Derived.Lib.ItoaNum
import Derived.Deep.LoopGhost
namespace Go.Proofs.YtdapiibllblpbaaDoor.Code
open Go.RowKit Go.Proofs.YtdapiibllblpbaaDoorW.PrintWords Go.Proofs.YtdapiibllblpbaaDoorW.PrintLast Go.Proofs.YtdapiibllblpbaaDoorW.PrintMore Go.Proofs.YtdapiibllblpbaaDoor.PCodeAnswers
set_option linter.unusedVariables false
set_option linter.unusedSimpArgs false

/-! ### The document's digits -/
theorem info5 : (Tryd.prog.info? 5).map (fun i => (i.zero, i.size, i.bytes)) = some (some (.int .u8 0), 1, 1) := by kernel_rfl
/-- A number's digits, the last one first. -/
def revD (q : Nat) : List Int := (Lib.decDigits q).reverse.map fun c => (c.toNat : Int)
theorem revD_small {q : Nat} (h : q < 10) : revD q = [48 + (q : Int)] := by
  unfold revD
  rw [Lib.decDigits, dif_pos h]
  have : ∀ d, d < 10 → ((UInt8.ofNat (48 + d)).toNat : Int) = 48 + (d : Int) := by decide
  rw [List.reverse_singleton, List.map_singleton, this q h]
theorem revD_next {q : Nat} (h : ¬ q < 10) : revD q = (48 + ((q % 10 : Nat) : Int)) :: revD (q / 10) := by
  unfold revD
  rw [Lib.decDigits, dif_neg h]
  have : ∀ d, d < 10 → ((UInt8.ofNat (48 + d)).toNat : Int) = 48 + (d : Int) := by decide
  have h10 := this (q % 10) (Nat.mod_lt _ (by omega))
  rw [List.reverse_append, List.reverse_singleton, List.map_append]
  simp only [List.map_cons, List.map_nil, h10]
  rfl
theorem revD_len (q : Nat) : q ≤ 9223372036854775808 → (revD q).length ≤ 19 := by
  have key : ∀ n q : Nat, q < 10 ^ (n + 1) → (revD q).length ≤ n + 1 := by
    intro n
    induction n with
    | zero => intro q h; rw [revD_small (by simpa using h)]; simp
    | succ n ih =>
      intro q h
      by_cases hq : q < 10
      · rw [revD_small hq]; simp
      · rw [revD_next hq, List.length_cons]
        have : q / 10 < 10 ^ (n + 1) := by rw [Nat.div_lt_iff_lt_mul (by omega)]; rw [Nat.pow_succ] at h; exact h
        have := ih (q / 10) this
        omega
  intro h
  exact key 18 q (by omega)
theorem str_nums (l : List UInt8) : strOfNums (l.map fun c => (c.toNat : Int)) = ⟨l.toArray⟩ := by
  unfold strOfNums
  rw [List.map_map]
  have : (fun c : UInt8 => UInt8.ofNat ((c.toNat : Int).toNat)) = id := by funext c; simp
  simp [Function.comp_def]
def absN (v : Int) : Nat := v.natAbs
def digs (v : Int) : List Int := revD (absN v) ++ (if v < 0 then [45] else [])
theorem itoa_digs (v : Int) : (Lib.itoa v).map (fun c => (c.toNat : Int)) = (digs v).reverse := by
  unfold Lib.itoa digs revD absN
  split
  · simp
  · rename_i h
    have : v.toNat = v.natAbs := by omega
    rw [this]
    simp
/-- What the digits' loop keeps: the digits so far, what is left. -/
def Left (v : Int) (xs : List Int) (q : Nat) : Prop := (xs = [] ∨ 0 < q) ∧ revD (absN v) = xs ++ revD q
set_option maxRecDepth 100000 in
set_option maxHeartbeats 4000000 in
theorem show_any (v : Int) (hv : -9223372036854775808 ≤ v ∧ v ≤ 9223372036854775807) (w : World) :
    Calls Tryd.prog 42 #[.int .i64 v] w fun e w' => e = .returned (.string ⟨(Lib.itoa v).toArray⟩) ∧ Below w.heap.size w w' := by
  obtain ⟨hv0, hv1⟩ := hv
  have HI := Aside0.mk (itoa_digs v)
  have hq0 : absN v ≤ 9223372036854775808 := by unfold absN; omega
  have HQL := Aside0.mk (revD_len _ hq0)
  have hn : (if v > 0 then -v else v) = -((absN v : Nat) : Int) := by unfold absN; split <;> omega
  have HN := Aside0.mk hn
  have L0 := Aside0.mk (lit_nil (Kd.int .u8) 5 w w.heap.size (Nat.le_refl _))
  have B0 := Aside0.mk (below_alloc (Below.refl w.heap.size w) (.cells #[] 5))
  clear hn
  have L1 : Aside0 (Left v [] (absN v)) := ⟨.inl rfl, by simp⟩
  obtain ⟨q0, hq0'⟩ : ∃ q, absN v = q := ⟨_, rfl⟩
  rw [hq0'] at HN L1 hq0
  have HQ0 := Aside0.mk hq0'
  clear hq0'
  have K1 : ∀ q : Nat, (-(q : Int)).tmod 10 = -((q % 10 : Nat) : Int) := fun q => by
    rw [Int.neg_tmod]; rfl
  have K2 : ∀ q : Nat, (-(q : Int)).tdiv 10 = -((q / 10 : Nat) : Int) := fun q => by
    rw [Int.neg_tdiv]; rfl
  replace K1 := Aside0.mk K1
  replace K2 := Aside0.mk K2
  refine (Classical.em (v > 0)).elim (fun hp => ?pos1) (fun hp => ?neg1)
  case' pos1 =>
    have hn : -v = -(q0 : Int) := by have := HN.out; rw [if_pos hp] at this; exact this
    have HV : Aside0 (Value.int .i64 (-v) = .int .i64 (-(q0 : Int))) := ⟨by rw [hn]⟩
    clear hn
    go_enter Tryd.func42, Tryd.ntmps42
    go_wp2_with fail
    clear hp
  case' neg1 =>
    have hn : v = -(q0 : Int) := by have := HN.out; rw [if_neg hp] at this; exact this
    have HV : Aside0 (Value.int .i64 v = .int .i64 (-(q0 : Int))) := ⟨by rw [← hn]⟩
    clear hn
    go_enter Tryd.func42, Tryd.ntmps42
    go_wp2_with fail
    clear hp
  all_goals
    go_loopw [3, 4] (fun n d wr => ∃ (q : Nat) (xs : List Int), n = .int .i64 (-(q : Int)) ∧ q ≤ 9223372036854775808 ∧ Aside0 (Left v xs q) ∧ Aside0 ((Kd.int .u8).R 5 wr w.heap.size (fun _ => True) d xs) ∧ Aside0 (Below w.heap.size w wr)) (fun n _ _ => (- intOf n).toNat)
    case atStart => exact ⟨q0, [], by first | exact HV.out | rfl, hq0, L1, L0, B0⟩
    case round =>
      clear L0 B0 L1 HV HN
      obtain ⟨q, xs, rfl, hq, HL, HX, HB⟩ := hrel
      obtain ⟨wi, rfl⟩ : ∃ wi : World, wi = wr := ⟨_, rfl⟩
      obtain ⟨A1, c1, rfl, hl1, _⟩ := Kd.R_reads HX.out
      have hxl : xs.length ≤ 19 := by
        have h1 := HQL.out
        rw [HL.out.2, List.length_append] at h1
        omega
      have HXL := Aside0.mk hxl
      clear hl1 hxl
      have k1 := K1.out q
      have k2 := K2.out q
      have hm : q % 10 < 10 := Nat.mod_lt _ (by omega)
      obtain ⟨dg, hdg⟩ : ∃ d, q % 10 = d := ⟨_, rfl⟩
      obtain ⟨q1, hq1⟩ : ∃ d, q / 10 = d := ⟨_, rfl⟩
      rw [hdg] at k1 hm
      rw [hq1] at k2
      have HDG := Aside0.mk hdg
      have HQ1 := Aside0.mk hq1
      have hq1l : q1 ≤ q := by omega
      clear hdg hq1
      by_cases hz : q1 = 0
      · have z1 : ((-(q1 : Int)) == 0) = true := by rw [hz]; rfl
        have z2 : (q1 : Int) = 0 := by omega
        have HD : Aside0 (revD (absN v) = xs ++ [48 + (dg : Int)]) := ⟨by
          rw [HL.out.2, revD_small (by have := HQ1.out; omega), ← HDG.out]
          have : q % 10 = q := Nat.mod_eq_of_lt (by have := HQ1.out; omega)
          rw [this]⟩
        clear hz
        by_cases hneg : v < 0
        case' pos =>
          have HDD : Aside0 (digs v = (xs ++ [48 + (dg : Int)]) ++ [45]) := ⟨by unfold digs; rw [if_pos hneg, HD.out]⟩
          go_wp2_with (first | (at_builtin; refine Kd.R_append (Kd.int .u8) (w0 := w) w.heap.size rfl (.tmp 13) (.tmp 18) 65 5 _ 1 rfl Tryd.underlying65 info5 rfl (by decide) (by decide) (.slice A1 xs.length c1) xs _ [_] (fun _ => True) (fun _ => False) rfl rfl rfl (fun _ h => h.elim) (fun _ _ => trivial) HX.out HB.out HB.out.size (by have := HXL.out; omega) ?_; intro v9 w9 hv9 hb9 hg9 hat9; obtain ⟨A9, c9, rfl⟩ := Kd.R_slice hv9; rw [List.length_append, List.length_singleton] at hv9; have HV9 := Aside0.mk hv9; have HB9 := Aside0.mk hb9; clear hv9 hb9 hg9 hat9) | (at_builtin; refine Kd.R_append (Kd.int .u8) (w0 := w) w.heap.size rfl (.tmp 26) (.tmp 27) 65 5 _ 1 rfl Tryd.underlying65 info5 rfl (by decide) (by decide) _ (xs ++ [48 + (dg : Int)]) _ [_] (fun _ => True) (fun _ => False) rfl rfl rfl (fun _ h => h.elim) (fun _ _ => trivial) HV9.out HB9.out HB9.out.size (by rw [List.length_append, List.length_singleton]; have := HXL.out; omega) ?_; intro v8 w8 hv8 hb8 hg8 hat8; obtain ⟨A8, c8, rfl⟩ := Kd.R_slice hv8; rw [List.length_append, List.length_append, List.length_singleton, List.length_singleton] at hv8; have HV8 := Aside0.mk hv8; have HB8 := Aside0.mk hb8; clear hv8 hb8 hg8 hat8))
          obtain ⟨we, rfl⟩ : ∃ we : World, we = w8 := ⟨_, rfl⟩
          obtain ⟨AE, hAE⟩ : ∃ A, A8 = A := ⟨_, rfl⟩
          obtain ⟨cE, hcE⟩ : ∃ A, c8 = A := ⟨_, rfl⟩
          subst hAE
          subst hcE
          have HVE := HV8
          have HBE := HB8
          obtain ⟨ds, hds⟩ : ∃ ds, (xs ++ [48 + (dg : Int)]) ++ [45] = ds := ⟨_, rfl⟩
          have hnd : xs.length + 1 + 1 = ds.length := by rw [← hds]; simp
        case' neg =>
          have HDD : Aside0 (digs v = xs ++ [48 + (dg : Int)]) := ⟨by unfold digs; rw [if_neg hneg, HD.out, List.append_nil]⟩
          go_wp2_with (at_builtin; refine Kd.R_append (Kd.int .u8) (w0 := w) w.heap.size rfl (.tmp 13) (.tmp 18) 65 5 _ 1 rfl Tryd.underlying65 info5 rfl (by decide) (by decide) (.slice A1 xs.length c1) xs _ [_] (fun _ => True) (fun _ => False) rfl rfl rfl (fun _ h => h.elim) (fun _ _ => trivial) HX.out HB.out HB.out.size (by have := HXL.out; omega) ?_; intro v9 w9 hv9 hb9 hg9 hat9; obtain ⟨A9, c9, rfl⟩ := Kd.R_slice hv9; rw [List.length_append, List.length_singleton] at hv9; have HV9 := Aside0.mk hv9; have HB9 := Aside0.mk hb9; clear hv9 hb9 hg9 hat9)
          obtain ⟨we, rfl⟩ : ∃ we : World, we = w9 := ⟨_, rfl⟩
          obtain ⟨AE, hAE⟩ : ∃ A, A9 = A := ⟨_, rfl⟩
          obtain ⟨cE, hcE⟩ : ∃ A, c9 = A := ⟨_, rfl⟩
          subst hAE
          subst hcE
          have HVE := HV9
          have HBE := HB9
          obtain ⟨ds, hds⟩ : ∃ ds, xs ++ [48 + (dg : Int)] = ds := ⟨_, rfl⟩
          have hnd : xs.length + 1 = ds.length := by rw [← hds]; simp
        all_goals
          rw [hds] at HVE HDD
          rw [hnd] at HVE ⊢
          have HND := Aside0.mk hnd
          have HDL : Aside0 (ds.length ≤ 21) := ⟨by have := HXL.out; omega⟩
          clear hds hnd
          have HCE := Aside0.mk (Kd.R_reads' HVE.out).2.2
          have LO := Aside0.mk (lit_nil (Kd.int .u8) 5 we we.heap.size (Nat.le_refl _))
          have BO := Aside0.mk (below_alloc (Below.refl we.heap.size we) (.cells #[] 5))
          go_loopw [5, 6] (fun o x wr => ∃ (m k : Nat) (j : Int), x = .int .i64 j ∧ j = (m : Int) - 1 ∧ m + k = ds.length ∧ Aside0 ((Kd.int .u8).R 5 wr we.heap.size (fun _ => True) o (ds.reverse.take k)) ∧ Aside0 (Below we.heap.size we wr)) (fun o x _ => (intOf x + 1).toNat)
          case atStart => exact ⟨ds.length, 0, _, rfl, by (have h1 := HXL.out; have h2 := HND.out; unfold wrap64; omega), by omega, LO, BO⟩
          case round =>
            clear LO BO
            obtain ⟨m, k, j, rfl, hj, hmk, HO, HBO⟩ := hrel
            obtain ⟨wo, rfl⟩ : ∃ wi : World, wi = wr := ⟨_, rfl⟩
            obtain ⟨AO, cO, rfl, hlo, hCO⟩ := Kd.R_reads HO.out
            have hkl : (ds.reverse.take k).length = k := by rw [List.length_take, List.length_reverse]; omega
            rw [hkl] at HO hlo hCO ⊢
            by_cases hm0 : m = 0
            · have hj1 : j = -1 := by omega
              have hk : k = ds.length := by omega
              have kstr := Kd.C_string (P := Tryd.prog) (src := 65) (dst := 9) (e := 5) (c := cO) Tryd.underlying65 Tryd.underlying5 Tryd.underlying9 hCO
              have HS : Aside0 (strOfNums (ds.reverse.take k) = ⟨(Lib.itoa v).toArray⟩) := ⟨by
                rw [hk, ← List.length_reverse, List.take_length, ← HDD.out, ← HI.out]
                exact str_nums _⟩
              rw [HS.out] at kstr
              subst hj1
              clear hk hm0 hj hmk hkl hlo hCO
              go_wp2_with fail
              go_ret
              exact ⟨rfl, below_then HBE.out HBE.out.size HBO.out⟩
            · obtain ⟨m', rfl⟩ : ∃ n, m = n + 1 := ⟨m - 1, by omega⟩
              have hj1 : j = (m' : Int) := by omega
              obtain ⟨ad, cc, eA, _, hK, hc⟩ := Kd.C_get (Kd.C_below HCE.out HBO.out) 0 (m' : Int) (by omega) (by omega)
              rw [Int.toNat_natCast] at hK hc
              have hK' : cc = [.int .u8 (ds.getD m' 0)] := hK
              subst hK'
              have c0 : wo.cell? (ad.add m') = some (.int .u8 (ds.getD m' 0)) := by
                have := hc 0 _ rfl
                have e1 : m' * (Kd.int .u8).sz + 0 = m' := by show m' * 1 + 0 = m'; omega
                rwa [e1] at this
              obtain ⟨dv, hdv⟩ : ∃ x, ds.getD m' 0 = x := ⟨_, rfl⟩
              rw [hdv] at c0
              have HT : Aside0 (ds.reverse.take (k + 1) = ds.reverse.take k ++ [dv]) := ⟨by
                rw [List.take_succ_eq_append_getElem (by rw [List.length_reverse]; omega), List.getElem_reverse]
                rw [← hdv, List.getD_eq_getElem?_getD, List.getElem?_eq_getElem (by omega)]
                have : ds.length - 1 - k = m' := by omega
                simp [this]⟩
              have hml : m' < ds.length := by omega
              have hmb : m' ≤ 21 := by have := HDL.out; omega
              have HMK : Aside0 (m' + (k + 1) = ds.length) := ⟨by omega⟩
              have HKL := Aside0.mk hkl
              subst hj1
              clear hc hdv hK hkl hlo hCO hmk hm0 hj
              subst eA
              go_wp2_with (at_builtin; refine Kd.R_append (Kd.int .u8) (w0 := we) we.heap.size rfl (.tmp 37) (.tmp 42) 65 5 _ 1 rfl Tryd.underlying65 info5 rfl (by decide) (by decide) _ (ds.reverse.take k) dv [_] (fun _ => True) (fun _ => False) rfl rfl rfl (fun _ h => h.elim) (fun _ _ => trivial) HO.out HBO.out HBO.out.size (by rw [HKL.out]; have := HDL.out; have := HMK.out; omega) ?_; intro v7 w7 hv7 hb7 hg7 hat7; rw [← HT.out] at hv7; have HV7 := Aside0.mk hv7; have HB7 := Aside0.mk hb7; clear hv7 hb7 hg7 hat7)
              go_roundw
              case rel => exact ⟨m', k + 1, _, rfl, rfl, HMK.out, HV7, HB7⟩
              case measure => first | (simp [intOf]; omega) | (simp [intOf]; done) | omega
      · have z1 : ((-(q1 : Int)) == 0) = false := by simp [hz]
        have HLN : Aside0 (Left v (xs ++ [48 + (dg : Int)]) q1) := ⟨⟨.inr (by omega), by
          rw [HL.out.2, revD_next (by have := HQ1.out; omega), HDG.out, HQ1.out, List.append_assoc]
          rfl⟩⟩
        have hlt : q1 < q := by have := HQ1.out; omega
        clear hz
        go_wp2_with (at_builtin; refine Kd.R_append (Kd.int .u8) (w0 := w) w.heap.size rfl (.tmp 13) (.tmp 18) 65 5 _ 1 rfl Tryd.underlying65 info5 rfl (by decide) (by decide) (.slice A1 xs.length c1) xs _ [_] (fun _ => True) (fun _ => False) rfl rfl rfl (fun _ h => h.elim) (fun _ _ => trivial) HX.out HB.out HB.out.size (by have := HXL.out; omega) ?_; intro v9 w9 hv9 hb9 hg9 hat9; obtain ⟨A9, c9, rfl⟩ := Kd.R_slice hv9; rw [List.length_append, List.length_singleton] at hv9; have HV9 := Aside0.mk hv9; have HB9 := Aside0.mk hb9; clear hv9 hb9 hg9 hat9)
        go_roundw
        case rel => exact ⟨q1, xs ++ [48 + (dg : Int)], rfl, by omega, HLN, HV9, HB9⟩
        case measure => simp [intOf]; omega
end Go.Proofs.YtdapiibllblpbaaDoor.Code
