import Derived.Test.YthkndoglmajehaaDoorM
import Derived.Test.YthkndoglmajehaaDoorQ
import Derived.IntWalk
namespace Go.Proofs.YthkndoglmajehaaDoor.Lex
open Go.RowKit Go.Proofs.YthkndoglmajehaaDoorW.PrintWords Go.Proofs.YthkndoglmajehaaDoorW.PrintLast Go.Proofs.YthkndoglmajehaaDoorW.PrintMore Go.Proofs.YthkndoglmajehaaDoor.PLexTokens
set_option linter.unusedVariables false
set_option linter.unusedSimpArgs false

theorem info5 : (Tryd.prog.info? 5).map (fun i => (i.zero, i.size, i.bytes)) = some (some (.int .u8 0), 1, 1) := by kernel_rfl
def numsL (l : List UInt8) : List Int := l.map fun b => (b.toNat : Int)
theorem numsL_app (l m : List UInt8) : numsL (l ++ m) = numsL l ++ numsL m := List.map_append
theorem numsL_len (l : List UInt8) : (numsL l).length = l.length := List.length_map ..
theorem bytesOf_is (s : ByteArray) : bytesOf s = numsL s.data.toList := rfl
theorem str_nums (l : List UInt8) : strOfNums (numsL l) = str l := by
  unfold strOfNums numsL str
  congr 2
  rw [List.map_map]
  calc l.map _ = l.map id := List.map_congr_left (fun x _ => by simp)
    _ = l := List.map_id _
theorem spread_take (ts : List S31) (k : Nat) (h : k < ts.length) : spread (ts.take (k + 1)) = spread (ts.take k) ++ (ts[k].f1.data.toList ++ [32]) := by
  unfold spread
  rw [List.take_succ_eq_append_getElem h, List.flatMap_append]
  simp
theorem spread_mono (ts : List S31) (k : Nat) : (spread (ts.take k)).length ≤ (spread ts).length := by
  have : spread ts = spread (ts.take k) ++ spread (ts.drop k) := by
    unfold spread
    rw [← List.flatMap_append, List.take_append_drop]
  rw [this, List.length_append]
  omega
/-- The relation of LexAgain's first loop. -/
structure AgRel (w0 wr : World) (v : Value) (ts : List S31) (k p : Nat) : Prop where
  own : (Kd.int .u8).R 5 wr w0.heap.size (fun _ => True) v (numsL (spread (ts.take k)))
  rise : Rising p (ts.drop k)
  bel : Below w0.heap.size w0 wr
set_option maxHeartbeats 8000000 in
set_option maxRecDepth 100000 in
theorem lexAgain_walk (s : ByteArray) (w : World) (hm : ML w) (hs : s.size ≤ 140737488351232) :
    Calls Tryd.prog 5 #[.string s] w fun e w' => e = .returned (.bool true) ∧ Below w.heap.size w w' := by
  have HM := Aside0.mk hm
  clear hm
  by_cases hbig : 8192 < s.size
  · go_enter Tryd.func5, Tryd.ntmps5
    go_wp2_with fail
    refine (alive _ HM.out).mono ?_
    rintro e w1 ⟨rfl, b1⟩
    go_wp2_with fail
    go_ret
    exact ⟨rfl, b1⟩
  · have ht : toks s.data.toList = (run s.data.toList 0 0).out := by unfold toks; rw [size_list, if_neg (by omega)]
    have hlen := toks_len s.data.toList
    rw [size_list] at hlen
    obtain ⟨l, hl⟩ : ∃ l, s.data.toList = l := ⟨_, rfl⟩
    have hll := size_list s
    rw [hl] at ht hlen hll
    have HL := Aside0.mk hl
    have HLL := Aside0.mk hll
    clear hl hll
    cases hr : run l 0 0 with
    | bad a er =>
      have hne := run_bad_ne l 0 0 a er hr
      have HR : Aside0 (toks l = ([], (a : Int), er)) := ⟨by rw [ht, hr]; rfl⟩
      have hb : (er != 0) = true := bne_iff_ne.2 hne
      clear hr ht hne hlen
      go_enter Tryd.func5, Tryd.ntmps5
      go_wp2_with fail
      refine (alive _ HM.out).mono ?_
      rintro e w1 ⟨rfl, b1⟩
      have B1 := Aside0.mk b1
      have HM1 := Aside0.mk (HM.out.next b1)
      clear b1
      go_wp2_with fail
      refine (tok_any s _ HM1.out (by omega)).mono ?_
      rintro e w2 ⟨A, c, rfl, _, _, b2⟩
      rw [HL.out, HR.out]
      have B2 := Aside0.mk (below_then B1.out B1.out.size b2)
      clear b2
      go_wp2_with fail
      go_ret
      exact ⟨rfl, B2.out⟩
    | ok ts =>
      have HT : Aside0 (toks l = (ts, 0, 0)) := ⟨by rw [ht, hr]; rfl⟩
      rw [HT.out] at hlen
      dsimp only at hlen
      obtain ⟨g1, g2⟩ := run_good l l 0 0 rfl (Nat.zero_le _) ts hr
      have HG1 := Aside0.mk g1
      have HG2 := Aside0.mk g2
      have hsl := spread_len l 0 0 ts hr
      rw [HLL.out] at hsl
      obtain ⟨us, hu1, hu2⟩ := run_again l 0 0 ts hr 0
      have HU : Aside0 (toks (spread ts) = (us, 0, 0)) := ⟨by unfold toks; rw [if_neg (by omega), hu1]; rfl⟩
      have HU2 := Aside0.mk hu2
      clear hr ht g1 g2 hu1 hu2
      go_enter Tryd.func5, Tryd.ntmps5
      go_wp2_with fail
      refine (alive _ HM.out).mono ?_
      rintro e w1 ⟨rfl, b1⟩
      have B1 := Aside0.mk b1
      have HM1 := Aside0.mk (HM.out.next b1)
      clear b1
      go_wp2_with fail
      refine (tok_any s _ HM1.out (by omega)).mono ?_
      rintro e w2 ⟨A, c, rfl, _, hC, b2⟩
      rw [HL.out, HT.out] at hC ⊢
      have B2 := Aside0.mk (below_then B1.out B1.out.size b2)
      have HM2 := Aside0.mk (HM1.out.next b2)
      have HC := Aside0.mk hC
      clear b2 hC B1 HM1
      go_wp2
      go_loopw [6, 7, 8] (fun v p i wr => ∃ (k q : Nat), i = .int .i64 k ∧ p = .int .i64 q ∧ k ≤ ts.length ∧ q ≤ s.size ∧ Aside0 (AgRel w2 wr v ts k q)) (fun _ _ i _ => ts.length - (intOf i).toNat)
      case atStart => exact ⟨0, 0, rfl, rfl, Nat.zero_le _, Nat.zero_le _, ⟨⟨lit_nil (Kd.int .u8) 5 w2 w2.heap.size (Nat.le_refl _), HG1.out, below_alloc (Below.refl _ _) _⟩⟩⟩
      case round =>
        obtain ⟨k, p, rfl, rfl, hk, hp, HA⟩ := hrel
        obtain ⟨wi, rfl⟩ : ∃ wi : World, wi = wr := ⟨_, rfl⟩
        obtain ⟨A6, c6, hv6, hl6, _⟩ := Kd.R_reads HA.out.own
        subst hv6
        have hmono := spread_mono ts k
        by_cases hlt : k < ts.length
        · obtain ⟨ad, e1, x0, x1, x2⟩ := at_T31 (Kd.C_below HC.out HA.out.bel) (k : Nat) (by omega) (by omega)
          cases e1
          have htk : rd_T31 ts (k : Nat) = ts[k] := by
            unfold rd_T31
            rw [Int.toNat_natCast, List.getD_eq_getElem?_getD, List.getElem?_eq_getElem hlt]
            rfl
          rw [htk] at x0 x1 x2
          rw [Int.toNat_natCast] at x0 x1 x2
          have hok := HG2.out ts[k] (List.getElem_mem hlt)
          have hris := HA.out.rise
          rw [List.drop_eq_getElem_cons hlt] at hris
          have hsp := spread_take ts k hlt
          obtain ⟨t, hT⟩ : ∃ t, ts[k] = t := ⟨_, rfl⟩
          rw [hT] at hok hris hsp x0 x1 x2
          clear htk hT
          obtain ⟨f0, x, f2⟩ := t
          obtain ⟨q, rfl⟩ : ∃ q : Nat, f2 = q := ⟨f2.toNat, by have h := hok.at0; dsimp only at h; omega⟩
          dsimp only at x0 x1 x2
          have o1 := hok.pos
          have o2 := hok.fits
          have o3 := hok.same
          have o4 := hok.clean
          dsimp only at o1 o2 o3 o4
          rw [HLL.out] at o2
          rw [Int.toNat_natCast] at o2 o3
          obtain ⟨r1, r2⟩ := hris
          dsimp only at r1 r2
          rw [Int.toNat_natCast] at r2
          have hex : (s.extract q (q + x.size)) = x := by
            have : (s.extract q (q + x.size)).data.toList = x.data.toList := by rw [Lib.extract_data, HL.out, ← o3]; congr 1; omega
            rw [← str_data (s.extract q (q + x.size)), this, str_data]
          have HSP := Aside0.mk hsp
          have HR2 := Aside0.mk r2
          have HO4 := Aside0.mk o4
          have z1 : ((x.size : Int) == 0) = false := beq_eq_false_iff_ne.2 (by omega)
          have z2 : decide ((q : Int) < (p : Int)) = false := decide_eq_false (by omega)
          have z3 : decide ((s.size : Int) - (x.size : Int) < (q : Int)) = false := decide_eq_false (by omega)
          have z4 : (0 : Int) ≤ (k : Int) := by omega
          have z5 : (k : Int) < ts.length := by omega
          have z6 : IntKind.i64.wrap ((q : Int) + (x.size : Int)) = (q : Int) + (x.size : Int) := IntWalk.i64_in _ (by omega)
          have z7 : IntKind.i64.wrap ((s.size : Int) - (x.size : Int)) = (s.size : Int) - (x.size : Int) := IntWalk.i64_in _ (by omega)
          have z8 : ((q : Int) + (x.size : Int)).toNat = q + x.size := by omega
          have z9 : (0 : Int) ≤ (q : Int) ∧ (q : Int) ≤ (q : Int) + (x.size : Int) ∧ (q : Int) + (x.size : Int) ≤ s.size := ⟨by omega, by omega, by omega⟩
          obtain ⟨z9a, z9b, z9c⟩ := z9
          have y1 : p ≤ q := by omega
          have y2 : (q : Int) ≤ (s.size : Int) - (x.size : Int) := by omega
          clear hok hsp o3 o4 r2
          go_wp2
          go_quiet (fail)
          go_wp2
          go_loop [10] (fun j => ∃ m : Nat, j = .int .i64 m ∧ m ≤ x.size) (fun j => x.size - (intOf j).toNat)
          case atStart => exact ⟨0, rfl, Nat.zero_le _⟩
          case round =>
            obtain ⟨m, rfl, hmx⟩ := hrel
            by_cases hm2 : m < x.size
            · have hb : decide ((x[m].toNat : Int) ≤ 32) = false := decide_eq_false (by
                have : x[m] ∈ x.data.toList := by
                  have h4 : x[m] = x.data.toList[m]'(by rw [size_list]; exact hm2) := rfl
                  rw [h4]; exact List.getElem_mem _
                have := HO4.out _ this
                omega)
              go_wp2
              go_round
              case rel => exact ⟨m + 1, by go_num, by omega⟩
              case measure => simp [intOf]; omega
            · have hsx : (numsL (spread (ts.take k))).length = (spread (ts.take k)).length := numsL_len _
              have HW : Aside0 ((((wi.alloc (.cells #[.int .i64 f0, .string x, .int .i64 q] 31)).drewN nq).ownsRow w2.heap.size 5 1 (.slice A6 (numsL (spread (ts.take k))).length c6) (numsL (spread (ts.take k))).length (nums .u8 (numsL (spread (ts.take k))))) ∧ Below w2.heap.size w2 ((wi.alloc (.cells #[.int .i64 f0, .string x, .int .i64 q] 31)).drewN nq)) := ⟨Kd.own_of_R (Kd.R_drewN (Kd.R_alloc HA.out.own _) _), pw_below_drewN (below_alloc' HA.out.bel (Nat.le_refl _) _) _⟩
              have hsz := HW.out.2.size
              have hxs : x.size ≤ 8192 := by omega
              have hsp2 := congrArg List.length HSP.out
              rw [List.length_append, List.length_append, size_list] at hsp2
              have hmono2 := spread_mono ts (k + 1)
              obtain ⟨xs, hxs2⟩ : ∃ xs, numsL (spread (ts.take k)) = xs := ⟨_, rfl⟩
              rw [hxs2] at HW hsx ⊢
              have HXS : Aside0 (numsL (spread (ts.take (k + 1))) = (xs ++ bytesOf x) ++ [32]) := ⟨by
                rw [HSP.out, numsL_app, hxs2, numsL_app, ← bytesOf_is, List.append_assoc]; rfl⟩
              have hbl : (bytesOf x).length = x.size := bytesOf_length x
              have hb1 : xs.length + x.size ≤ 140737488355328 := by omega
              have hb2 : (xs.length + x.size + 1) * 1 ≤ 140737488355328 := by omega
              have HBL := Aside0.mk hbl
              obtain ⟨ys, hys⟩ : ∃ ys, xs ++ bytesOf x = ys := ⟨_, rfl⟩
              have HYS := Aside0.mk hys
              rw [hys] at HXS
              clear hxs2 hsx hbl hsp2 hys
              go_wp2_with (first
                | (at_builtin; refine print_append_str w2.heap.size rfl (.tmp 95) (.tmp 97) 29 9 5 rfl Tryd.underlying29 Tryd.underlying9 info5 (.slice A6 xs.length c6) xs x rfl rfl HW.out.1 HW.out.2 hsz hb1 ?_; intro v1 w5 ho5 hb5 hg5; have R5 : Aside0 ((Kd.int .u8).R 5 w5 w2.heap.size (fun _ => True) v1 ys) := ⟨by rw [← HYS.out]; exact Kd.R_of_own (h1 := fun _ => rfl) ho5 (ok := fun _ => True) (fun _ _ => trivial)⟩; have B5 := Aside0.mk hb5; have hz5 := hb5.size; obtain ⟨A7, c7, e7, hl7, _⟩ := Kd.R_reads R5.out; subst e7; clear ho5 hb5 hg5)
                | (at_builtin; refine Kd.R_append (Kd.int .u8) w2.heap.size rfl (.tmp 99) (.tmp 100) 29 5 _ 1 rfl Tryd.underlying29 info5 rfl (by decide) (by decide) (.slice A7 ys.length c7) ys 32 [.int .u8 32] (fun _ => True) (fun _ => False) rfl rfl rfl (fun _ h => h.elim) (fun _ _ => trivial) R5.out B5.out hz5 (by rw [← HYS.out, List.length_append, HBL.out]; exact hb2) ?_; intro v2 w6 hv2 hb2 hg2 hat2; have R6 := Aside0.mk hv2; have B6 := Aside0.mk hb2; clear hv2 hb2 hg2 hat2))
              go_roundw
              case rel => exact ⟨k + 1, q + x.size, by go_num, by go_num, by omega, by omega, ⟨by rw [HXS.out]; exact R6.out, HR2.out, B6.out⟩⟩
              case measure => simp [intOf]; omega
        · have hkk : ts.take k = ts := List.take_of_length_le (by omega)
          have R6 := HA.out.own
          rw [hkk] at R6 hmono ⊢
          have B6 := Aside0.mk (below_then B2.out B2.out.size HA.out.bel)
          have HC6 := Aside0.mk (Kd.C_below HC.out HA.out.bel)
          have HM6 := Aside0.mk (HM2.out.next HA.out.bel)
          have hcv := Kd.C_string (P := Tryd.prog) (src := 29) (dst := 9) (c := c6) Tryd.underlying29 Tryd.underlying5 Tryd.underlying9 (Kd.R_reads' R6).2.2
          rw [str_nums] at hcv
          have hsz : (str (spread ts)).size ≤ 1000000 := by rw [size_str]; omega
          have hul : us.length = ts.length := by
            have := congrArg List.length HU2.out
            rwa [List.length_map, List.length_map] at this
          have HS := Aside0.mk hsz
          obtain ⟨zs, hzs⟩ : ∃ zs, str (spread ts) = zs := ⟨_, rfl⟩
          rw [hzs] at hcv HS
          have HZ : Aside0 (toks zs.data.toList = (us, 0, 0)) := ⟨by rw [← hzs, data_str]; exact HU.out⟩
          have hne : ((us.length : Int) != (ts.length : Int)) = false := by rw [bne_eq_false_iff_eq]; omega
          have HUL := Aside0.mk hul
          clear hzs R6 hkk hmono hsz hul HA
          go_wp2_with fail
          refine (tok_any zs _ HM6.out HS.out).mono ?_
          rintro e w7 ⟨A7, c7, rfl, _, hC7, b7⟩
          rw [HZ.out] at hC7 ⊢
          have B7 := Aside0.mk (below_then B6.out B6.out.size b7)
          have C7 := Aside0.mk hC7
          have D7 := Aside0.mk (Kd.C_below HC6.out b7)
          clear b7 hC7 hcv
          go_wp2
          go_loopw [13] (fun i wr => ∃ k : Nat, i = .int .i64 k ∧ k ≤ ts.length ∧ Aside0 (Below w7.heap.size w7 wr)) (fun i _ => ts.length - (intOf i).toNat)
          case atStart => exact ⟨0, rfl, Nat.zero_le _, ⟨Below.refl _ _⟩⟩
          case round =>
            obtain ⟨k, rfl, hk2, HB⟩ := hrel
            obtain ⟨wj, rfl⟩ : ∃ wj : World, wj = wr := ⟨_, rfl⟩
            by_cases hk3 : k < ts.length
            · have hk4 : k < us.length := by rw [HUL.out]; exact hk3
              obtain ⟨ad, e1, x0, x1, x2⟩ := at_T31 (Kd.C_below D7.out HB.out) (k : Nat) (by omega) (by omega)
              cases e1
              obtain ⟨ad2, e2, y0, y1, y2⟩ := at_T31 (Kd.C_below C7.out HB.out) (k : Nat) (by omega) (by omega)
              cases e2
              have heq : (rd_T31 us (k : Nat)).f0 = (rd_T31 ts (k : Nat)).f0 ∧ (rd_T31 us (k : Nat)).f1 = (rd_T31 ts (k : Nat)).f1 := by
                have h1 := congrArg (fun l => l[k]?) HU2.out
                simp only [List.getElem?_map, List.getElem?_eq_getElem hk3, List.getElem?_eq_getElem hk4, Option.map_some] at h1
                injection h1 with h1
                injection h1 with h1 h2
                unfold rd_T31
                rw [Int.toNat_natCast, List.getD_eq_getElem?_getD, List.getD_eq_getElem?_getD, List.getElem?_eq_getElem hk3, List.getElem?_eq_getElem hk4]
                exact ⟨h1, h2⟩
              rw [heq.1] at y0
              rw [heq.2] at y1
              clear heq
              obtain ⟨t, ht⟩ : ∃ t, rd_T31 ts (k : Nat) = t := ⟨_, rfl⟩
              rw [ht] at x0 x1 x2 y0 y1
              rw [Int.toNat_natCast] at x0 x1 x2 y0 y1 y2
              clear ht y2 x2
              obtain ⟨t0, t1, t2⟩ := t
              dsimp only at x0 x1 y0 y1
              have hi1 : (0 : Int) ≤ (k : Int) := by omega
              have hi2 : (k : Int) < ts.length := by omega
              have hi3 : (k : Int) < us.length := by omega
              go_wp2
              go_quiet (fail)
              go_wp2
              go_roundw
              case rel => exact ⟨k + 1, by go_num, by omega, ⟨pw_below_drewN HB.out _⟩⟩
              case measure => simp [intOf]; omega
            · go_wp2
              go_ret
              exact ⟨rfl, below_then B7.out B7.out.size HB.out⟩
end Go.Proofs.YthkndoglmajehaaDoor.Lex
