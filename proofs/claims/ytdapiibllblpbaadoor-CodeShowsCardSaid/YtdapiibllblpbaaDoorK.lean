import Derived.Test.YtdapiibllblpbaaDoorJ
namespace Go.Proofs.YtdapiibllblpbaaDoor.Code
open Go.RowKit Go.Proofs.YtdapiibllblpbaaDoorW.PrintWords Go.Proofs.YtdapiibllblpbaaDoorW.PrintLast Go.Proofs.YtdapiibllblpbaaDoorW.PrintMore Go.Proofs.YtdapiibllblpbaaDoor.PCodeAnswers
set_option linter.unusedVariables false
set_option linter.unusedSimpArgs false

theorem fields_22 (m : Md) (regs words : Int) (o : S42) (hk : o.f0 = 22) : fieldsM m regs words o = (below m.funcs.length [o.f1] && (zero [o.f3, o.f4, o.f5, o.f6] &&
    (if o.f7 = 0 then decide (o.f2 = -1) else decide (o.f7 = (fnAt m o.f1).f3) && (below regs [o.f2] && decide (o.f2 ≤ regs - o.f7))))) := by
  unfold fieldsM othersM
  simp [hk]
set_option maxRecDepth 100000 in
set_option maxHeartbeats 2000000 in
theorem right_22 (r : MdR) (m : Md) (f : S39) (A4 : Option Addr) (c4 : Nat) (n : Int) (o : S42) (A : Option Addr) (c : Nat) (w : World) (hm : MdC w r m) (hs : MdS m) (hall : m.funcs.all funcOk = true) (hf : funcOk f = true) (hk : o.f0 = 22) (ha : Kd.C (Kd.int .i64) w A o.f8.length o.f8) (hal : o.f8.length ≤ 1000000) (hcl : f.f4.length ≤ 1000000) :
    Calls Tryd.prog 31 #[.agg (vwW r m f A4 c4 n).toArray, .agg (opW o A c).toArray] w fun e w' => e = .returned (.bool (fieldsM m f.f2 n o && (below f.f2 o.f8 && (decide ((o.f8.length : Int) = (fnAt m o.f1).f1) && (below ((f.f4.length : Int)) [o.f9] && below (1) [o.f10]))))) ∧ Below w.heap.size w w' := by
  obtain ⟨res, hres⟩ : ∃ res, (fieldsM m f.f2 n o && (below f.f2 o.f8 && (decide ((o.f8.length : Int) = (fnAt m o.f1).f1) && (below ((f.f4.length : Int)) [o.f9] && below (1) [o.f10])))) = res := ⟨_, rfl⟩
  have HR : Aside0 (res = (fieldsM m f.f2 n o && (below f.f2 o.f8 && (decide ((o.f8.length : Int) = (fnAt m o.f1).f1) && (below ((f.f4.length : Int)) [o.f9] && below (1) [o.f10]))))) := ⟨hres.symm⟩
  rw [hres]
  clear hres
  have E0 := Aside0.mk (Eyes.at0 w r m f A4 c4 n o A c)
  obtain ⟨w0, hw0⟩ : ∃ w0, (w.alloc (.cells (vwW r m f A4 c4 n).toArray 55)).alloc (.cells (opW o A c).toArray 42) = w0 := ⟨_, rfl⟩
  rw [hw0] at E0
  have HM := Aside0.mk hm
  have HS := Aside0.mk hs
  have HAL := Aside0.mk hall
  have HFO := Aside0.mk hf
  have HA := Aside0.mk ha
  clear hm hs hall hf ha
  have v0 : w0.cell? ⟨w.heap.size, 0, none⟩ = some (.slice r.a0 m.globals.length r.c0) := (blk_cell E0.out.hv 0).trans rfl
  have v1 : w0.cell? ⟨w.heap.size, 1, none⟩ = some (.slice r.a1 m.structs.length r.c1) := (blk_cell E0.out.hv 1).trans rfl
  have v2 : w0.cell? ⟨w.heap.size, 2, none⟩ = some (.slice r.a2 m.chans.length r.c2) := (blk_cell E0.out.hv 2).trans rfl
  have v3 : w0.cell? ⟨w.heap.size, 3, none⟩ = some (.slice r.a3 m.locks.length r.c3) := (blk_cell E0.out.hv 3).trans rfl
  have v4 : w0.cell? ⟨w.heap.size, 4, none⟩ = some (.slice r.a4 m.inputs.length r.c4) := (blk_cell E0.out.hv 4).trans rfl
  have v5 : w0.cell? ⟨w.heap.size, 5, none⟩ = some (.slice r.a5 m.sinks.length r.c5) := (blk_cell E0.out.hv 5).trans rfl
  have v6 : w0.cell? ⟨w.heap.size, 6, none⟩ = some (.slice r.a6 m.hatches.length r.c6) := (blk_cell E0.out.hv 6).trans rfl
  have v7 : w0.cell? ⟨w.heap.size, 7, none⟩ = some (.slice r.a7 m.funcs.length r.c7) := (blk_cell E0.out.hv 7).trans rfl
  have v8 : w0.cell? ⟨w.heap.size, 8, none⟩ = some (.slice r.a8 m.threads.length r.c8) := (blk_cell E0.out.hv 8).trans rfl
  have v9 : w0.cell? ⟨w.heap.size, 9, none⟩ = some (.string f.f0) := (blk_cell E0.out.hv 9).trans rfl
  have v10 : w0.cell? ⟨w.heap.size, 10, none⟩ = some (.int .i64 f.f1) := (blk_cell E0.out.hv 10).trans rfl
  have v11 : w0.cell? ⟨w.heap.size, 11, none⟩ = some (.int .i64 f.f2) := (blk_cell E0.out.hv 11).trans rfl
  have v12 : w0.cell? ⟨w.heap.size, 12, none⟩ = some (.int .i64 f.f3) := (blk_cell E0.out.hv 12).trans rfl
  have v13 : w0.cell? ⟨w.heap.size, 13, none⟩ = some (.slice A4 f.f4.length c4) := (blk_cell E0.out.hv 13).trans rfl
  have v14 : w0.cell? ⟨w.heap.size, 14, none⟩ = some (.int .i64 n) := (blk_cell E0.out.hv 14).trans rfl
  have o0 : w0.cell? ⟨w.heap.size + 1, 0, none⟩ = some (.int .i64 o.f0) := (blk_cell E0.out.ho 0).trans rfl
  have o1 : w0.cell? ⟨w.heap.size + 1, 1, none⟩ = some (.int .i64 o.f1) := (blk_cell E0.out.ho 1).trans rfl
  have o2 : w0.cell? ⟨w.heap.size + 1, 2, none⟩ = some (.int .i64 o.f2) := (blk_cell E0.out.ho 2).trans rfl
  have o3 : w0.cell? ⟨w.heap.size + 1, 3, none⟩ = some (.int .i64 o.f3) := (blk_cell E0.out.ho 3).trans rfl
  have o4 : w0.cell? ⟨w.heap.size + 1, 4, none⟩ = some (.int .i64 o.f4) := (blk_cell E0.out.ho 4).trans rfl
  have o5 : w0.cell? ⟨w.heap.size + 1, 5, none⟩ = some (.int .i64 o.f5) := (blk_cell E0.out.ho 5).trans rfl
  have o6 : w0.cell? ⟨w.heap.size + 1, 6, none⟩ = some (.int .i64 o.f6) := (blk_cell E0.out.ho 6).trans rfl
  have o7 : w0.cell? ⟨w.heap.size + 1, 7, none⟩ = some (.int .i64 o.f7) := (blk_cell E0.out.ho 7).trans rfl
  have o8 : w0.cell? ⟨w.heap.size + 1, 8, none⟩ = some (.slice A o.f8.length c) := (blk_cell E0.out.ho 8).trans rfl
  have o9 : w0.cell? ⟨w.heap.size + 1, 9, none⟩ = some (.int .i64 o.f9) := (blk_cell E0.out.ho 9).trans rfl
  have o10 : w0.cell? ⟨w.heap.size + 1, 10, none⟩ = some (.int .i64 o.f10) := (blk_cell E0.out.ho 10).trans rfl
  have o11 : w0.cell? ⟨w.heap.size + 1, 11, none⟩ = some (.int .i64 o.f11) := (blk_cell E0.out.ho 11).trans rfl
  obtain ⟨b0, hb0⟩ : ∃ b, fieldsM m f.f2 n o = b := ⟨_, rfl⟩
  have C0 := Aside0.mk (fields_any r m f A4 c4 n o A c w0 (HM.out.below E0.out.hb) HS.out HAL.out HFO.out)
  rw [hb0] at C0
  have HB0 := Aside0.mk hb0
  clear hb0
  have HK := Aside0.mk hk
  clear hk
  go_enter Tryd.func31, Tryd.ntmps31
  go_wp2_with fail
  refine C0.out.mono ?_
  rintro e w1 ⟨rfl, b⟩
  have E1 := Aside0.mk (E0.out.then b)
  clear b C0 hw0 v0 v1 v2 v3 v4 v5 v6 v7 v8 v9 v10 v11 v12 v13 v14 o0 o1 o2 o3 o4 o5 o6 o7 o8 o9 o10 o11
  cases b0 with
  | false =>
    go_wp2_with fail
    go_ret
    exact ⟨by rw [HR.out, HB0.out]; rfl, E1.out.hb⟩
  | true =>
    have v0 : w1.cell? ⟨w.heap.size, 0, none⟩ = some (.slice r.a0 m.globals.length r.c0) := (blk_cell E1.out.hv 0).trans rfl
    have v1 : w1.cell? ⟨w.heap.size, 1, none⟩ = some (.slice r.a1 m.structs.length r.c1) := (blk_cell E1.out.hv 1).trans rfl
    have v2 : w1.cell? ⟨w.heap.size, 2, none⟩ = some (.slice r.a2 m.chans.length r.c2) := (blk_cell E1.out.hv 2).trans rfl
    have v3 : w1.cell? ⟨w.heap.size, 3, none⟩ = some (.slice r.a3 m.locks.length r.c3) := (blk_cell E1.out.hv 3).trans rfl
    have v4 : w1.cell? ⟨w.heap.size, 4, none⟩ = some (.slice r.a4 m.inputs.length r.c4) := (blk_cell E1.out.hv 4).trans rfl
    have v5 : w1.cell? ⟨w.heap.size, 5, none⟩ = some (.slice r.a5 m.sinks.length r.c5) := (blk_cell E1.out.hv 5).trans rfl
    have v6 : w1.cell? ⟨w.heap.size, 6, none⟩ = some (.slice r.a6 m.hatches.length r.c6) := (blk_cell E1.out.hv 6).trans rfl
    have v7 : w1.cell? ⟨w.heap.size, 7, none⟩ = some (.slice r.a7 m.funcs.length r.c7) := (blk_cell E1.out.hv 7).trans rfl
    have v8 : w1.cell? ⟨w.heap.size, 8, none⟩ = some (.slice r.a8 m.threads.length r.c8) := (blk_cell E1.out.hv 8).trans rfl
    have v9 : w1.cell? ⟨w.heap.size, 9, none⟩ = some (.string f.f0) := (blk_cell E1.out.hv 9).trans rfl
    have v10 : w1.cell? ⟨w.heap.size, 10, none⟩ = some (.int .i64 f.f1) := (blk_cell E1.out.hv 10).trans rfl
    have v11 : w1.cell? ⟨w.heap.size, 11, none⟩ = some (.int .i64 f.f2) := (blk_cell E1.out.hv 11).trans rfl
    have v12 : w1.cell? ⟨w.heap.size, 12, none⟩ = some (.int .i64 f.f3) := (blk_cell E1.out.hv 12).trans rfl
    have v13 : w1.cell? ⟨w.heap.size, 13, none⟩ = some (.slice A4 f.f4.length c4) := (blk_cell E1.out.hv 13).trans rfl
    have v14 : w1.cell? ⟨w.heap.size, 14, none⟩ = some (.int .i64 n) := (blk_cell E1.out.hv 14).trans rfl
    have o8 : w1.cell? ⟨w.heap.size + 1, 8, none⟩ = some (.slice A o.f8.length c) := (blk_cell E1.out.ho 8).trans rfl
    obtain ⟨b1, hb1⟩ : ∃ b, below f.f2 o.f8 = b := ⟨_, rfl⟩
    have C1 := Aside0.mk (regs_list r m f A4 c4 n A c o.f8 w1 (Kd.C_below HA.out E1.out.hb) hal)
    rw [hb1] at C1
    have HB1 := Aside0.mk hb1
    clear hb1
    go_wp2_with fail
    refine C1.out.mono ?_
    rintro e w2 ⟨rfl, b⟩
    have E2 := Aside0.mk (E1.out.then b)
    clear b C1 o8 v0 v1 v2 v3 v4 v5 v6 v7 v8 v9 v10 v11 v12 v13 v14
    cases b1 with
    | false =>
      go_wp2_with fail
      go_ret
      exact ⟨by rw [HR.out, HB0.out, HB1.out]; rfl, E2.out.hb⟩
    | true =>
      have o0 : w2.cell? ⟨w.heap.size + 1, 0, none⟩ = some (.int .i64 22) := (blk_cell E2.out.ho 0).trans (congrArg (fun x => some (Value.int .i64 x)) HK.out)
      have o8 : w2.cell? ⟨w.heap.size + 1, 8, none⟩ = some (.slice A o.f8.length c) := (blk_cell E2.out.ho 8).trans rfl
      have o9 : w2.cell? ⟨w.heap.size + 1, 9, none⟩ = some (.int .i64 o.f9) := (blk_cell E2.out.ho 9).trans rfl
      have v13 : w2.cell? ⟨w.heap.size, 13, none⟩ = some (.slice A4 f.f4.length c4) := (blk_cell E2.out.hv 13).trans rfl
      have o1 : w2.cell? ⟨w.heap.size + 1, 1, none⟩ = some (.int .i64 o.f1) := (blk_cell E2.out.ho 1).trans rfl
      have v7 : w2.cell? ⟨w.heap.size, 7, none⟩ = some (.slice r.a7 m.funcs.length r.c7) := (blk_cell E2.out.hv 7).trans rfl
      have hr := HB0.out
      rw [fields_22 m f.f2 n o HK.out] at hr
      have h0 : 0 ≤ o.f1 := by simp [below] at hr; omega
      have h1 : o.f1 < m.funcs.length := by simp [below] at hr; omega
      clear hr
      obtain ⟨ad, A5, c5, eA, d0, d1, d2, d3, d4, hl4, h4⟩ := at_T39 (HM.out.below E2.out.hb).h7 o.f1 h0 h1
      clear d0 d2 d3 d4 hl4 h4
      rw [eA] at v7
      clear eA
      obtain ⟨q, hq⟩ : ∃ q, (rd_T39 m.funcs o.f1).f1 = q := ⟨_, rfl⟩
      rw [hq] at d1
      have HQ : Aside0 ((fnAt m o.f1).f1 = q) := ⟨hq⟩
      clear hq
      obtain ⟨b2, hb2⟩ : ∃ b, ((o.f8.length : Int) != q) = b := ⟨_, rfl⟩
      have HB2 : Aside0 (decide ((o.f8.length : Int) = q) = !b2) := ⟨by rw [← hb2, bne, Bool.not_not, Bool.eq_iff_iff]; simp⟩
      obtain ⟨b3, hb3⟩ : ∃ b, below ((f.f4.length : Int)) [o.f9] = b := ⟨_, rfl⟩
      have C3 := Aside0.mk (below_lits ((f.f4.length : Int)) [o.f9] w2 _ rfl #[.int .i64 o.f9] rfl 1 rfl (by simp))
      rw [hb3] at C3
      have HB3 := Aside0.mk hb3
      clear hb3
      cases b2 with
      | true =>
        go_wp2_with fail
        go_ret
        exact ⟨by rw [HR.out, HB0.out, HB1.out, HQ.out, HB2.out]; rfl, E2.out.hb⟩
      | false =>
        go_wp2_with fail
        refine C3.out.mono ?_
        rintro e w3 ⟨rfl, b⟩
        have E3 := Aside0.mk (E2.out.then b)
        clear b C3 o0 o8 o9 v13 hb2 o1 v7 d1
        cases b3 with
        | false =>
          go_wp2_with fail
          go_ret
          exact ⟨by rw [HR.out, HB0.out, HB1.out, HQ.out, HB2.out, HB3.out]; rfl, E3.out.hb⟩
        | true =>
          have o10 : w3.cell? ⟨w.heap.size + 1, 10, none⟩ = some (.int .i64 o.f10) := (blk_cell E3.out.ho 10).trans rfl
          obtain ⟨b4, hb4⟩ : ∃ b, below (1) [o.f10] = b := ⟨_, rfl⟩
          have C4 := Aside0.mk (below_lits (1) [o.f10] w3 _ rfl #[.int .i64 o.f10] rfl 1 rfl (by simp))
          rw [hb4] at C4
          have HB4 := Aside0.mk hb4
          clear hb4
          go_wp2_with fail
          refine C4.out.mono ?_
          rintro e w4 ⟨rfl, b⟩
          have E4 := Aside0.mk (E3.out.then b)
          clear b C4 o10
          go_wp2_with fail
          go_ret
          exact ⟨by rw [HR.out, HB0.out, HB1.out, HQ.out, HB2.out, HB3.out, HB4.out]; rfl, E4.out.hb⟩
set_option maxRecDepth 100000 in
set_option maxHeartbeats 2000000 in
theorem right_23 (r : MdR) (m : Md) (f : S39) (A4 : Option Addr) (c4 : Nat) (n : Int) (o : S42) (A : Option Addr) (c : Nat) (w : World) (hm : MdC w r m) (hs : MdS m) (hall : m.funcs.all funcOk = true) (hf : funcOk f = true) (hk : o.f0 = 23) (ha : Kd.C (Kd.int .i64) w A o.f8.length o.f8) (hal : o.f8.length ≤ 1000000) (hcl : f.f4.length ≤ 1000000) :
    Calls Tryd.prog 31 #[.agg (vwW r m f A4 c4 n).toArray, .agg (opW o A c).toArray] w fun e w' => e = .returned (.bool (fieldsM m f.f2 n o && (below f.f2 o.f8 && (decide ((o.f8.length : Int) = f.f3) && (below (1) [o.f9] && below (1) [o.f10]))))) ∧ Below w.heap.size w w' := by
  obtain ⟨res, hres⟩ : ∃ res, (fieldsM m f.f2 n o && (below f.f2 o.f8 && (decide ((o.f8.length : Int) = f.f3) && (below (1) [o.f9] && below (1) [o.f10])))) = res := ⟨_, rfl⟩
  have HR : Aside0 (res = (fieldsM m f.f2 n o && (below f.f2 o.f8 && (decide ((o.f8.length : Int) = f.f3) && (below (1) [o.f9] && below (1) [o.f10]))))) := ⟨hres.symm⟩
  rw [hres]
  clear hres
  have E0 := Aside0.mk (Eyes.at0 w r m f A4 c4 n o A c)
  obtain ⟨w0, hw0⟩ : ∃ w0, (w.alloc (.cells (vwW r m f A4 c4 n).toArray 55)).alloc (.cells (opW o A c).toArray 42) = w0 := ⟨_, rfl⟩
  rw [hw0] at E0
  have HM := Aside0.mk hm
  have HS := Aside0.mk hs
  have HAL := Aside0.mk hall
  have HFO := Aside0.mk hf
  have HA := Aside0.mk ha
  clear hm hs hall hf ha
  have v0 : w0.cell? ⟨w.heap.size, 0, none⟩ = some (.slice r.a0 m.globals.length r.c0) := (blk_cell E0.out.hv 0).trans rfl
  have v1 : w0.cell? ⟨w.heap.size, 1, none⟩ = some (.slice r.a1 m.structs.length r.c1) := (blk_cell E0.out.hv 1).trans rfl
  have v2 : w0.cell? ⟨w.heap.size, 2, none⟩ = some (.slice r.a2 m.chans.length r.c2) := (blk_cell E0.out.hv 2).trans rfl
  have v3 : w0.cell? ⟨w.heap.size, 3, none⟩ = some (.slice r.a3 m.locks.length r.c3) := (blk_cell E0.out.hv 3).trans rfl
  have v4 : w0.cell? ⟨w.heap.size, 4, none⟩ = some (.slice r.a4 m.inputs.length r.c4) := (blk_cell E0.out.hv 4).trans rfl
  have v5 : w0.cell? ⟨w.heap.size, 5, none⟩ = some (.slice r.a5 m.sinks.length r.c5) := (blk_cell E0.out.hv 5).trans rfl
  have v6 : w0.cell? ⟨w.heap.size, 6, none⟩ = some (.slice r.a6 m.hatches.length r.c6) := (blk_cell E0.out.hv 6).trans rfl
  have v7 : w0.cell? ⟨w.heap.size, 7, none⟩ = some (.slice r.a7 m.funcs.length r.c7) := (blk_cell E0.out.hv 7).trans rfl
  have v8 : w0.cell? ⟨w.heap.size, 8, none⟩ = some (.slice r.a8 m.threads.length r.c8) := (blk_cell E0.out.hv 8).trans rfl
  have v9 : w0.cell? ⟨w.heap.size, 9, none⟩ = some (.string f.f0) := (blk_cell E0.out.hv 9).trans rfl
  have v10 : w0.cell? ⟨w.heap.size, 10, none⟩ = some (.int .i64 f.f1) := (blk_cell E0.out.hv 10).trans rfl
  have v11 : w0.cell? ⟨w.heap.size, 11, none⟩ = some (.int .i64 f.f2) := (blk_cell E0.out.hv 11).trans rfl
  have v12 : w0.cell? ⟨w.heap.size, 12, none⟩ = some (.int .i64 f.f3) := (blk_cell E0.out.hv 12).trans rfl
  have v13 : w0.cell? ⟨w.heap.size, 13, none⟩ = some (.slice A4 f.f4.length c4) := (blk_cell E0.out.hv 13).trans rfl
  have v14 : w0.cell? ⟨w.heap.size, 14, none⟩ = some (.int .i64 n) := (blk_cell E0.out.hv 14).trans rfl
  have o0 : w0.cell? ⟨w.heap.size + 1, 0, none⟩ = some (.int .i64 o.f0) := (blk_cell E0.out.ho 0).trans rfl
  have o1 : w0.cell? ⟨w.heap.size + 1, 1, none⟩ = some (.int .i64 o.f1) := (blk_cell E0.out.ho 1).trans rfl
  have o2 : w0.cell? ⟨w.heap.size + 1, 2, none⟩ = some (.int .i64 o.f2) := (blk_cell E0.out.ho 2).trans rfl
  have o3 : w0.cell? ⟨w.heap.size + 1, 3, none⟩ = some (.int .i64 o.f3) := (blk_cell E0.out.ho 3).trans rfl
  have o4 : w0.cell? ⟨w.heap.size + 1, 4, none⟩ = some (.int .i64 o.f4) := (blk_cell E0.out.ho 4).trans rfl
  have o5 : w0.cell? ⟨w.heap.size + 1, 5, none⟩ = some (.int .i64 o.f5) := (blk_cell E0.out.ho 5).trans rfl
  have o6 : w0.cell? ⟨w.heap.size + 1, 6, none⟩ = some (.int .i64 o.f6) := (blk_cell E0.out.ho 6).trans rfl
  have o7 : w0.cell? ⟨w.heap.size + 1, 7, none⟩ = some (.int .i64 o.f7) := (blk_cell E0.out.ho 7).trans rfl
  have o8 : w0.cell? ⟨w.heap.size + 1, 8, none⟩ = some (.slice A o.f8.length c) := (blk_cell E0.out.ho 8).trans rfl
  have o9 : w0.cell? ⟨w.heap.size + 1, 9, none⟩ = some (.int .i64 o.f9) := (blk_cell E0.out.ho 9).trans rfl
  have o10 : w0.cell? ⟨w.heap.size + 1, 10, none⟩ = some (.int .i64 o.f10) := (blk_cell E0.out.ho 10).trans rfl
  have o11 : w0.cell? ⟨w.heap.size + 1, 11, none⟩ = some (.int .i64 o.f11) := (blk_cell E0.out.ho 11).trans rfl
  obtain ⟨b0, hb0⟩ : ∃ b, fieldsM m f.f2 n o = b := ⟨_, rfl⟩
  have C0 := Aside0.mk (fields_any r m f A4 c4 n o A c w0 (HM.out.below E0.out.hb) HS.out HAL.out HFO.out)
  rw [hb0] at C0
  have HB0 := Aside0.mk hb0
  clear hb0
  have HK := Aside0.mk hk
  clear hk
  go_enter Tryd.func31, Tryd.ntmps31
  go_wp2_with fail
  refine C0.out.mono ?_
  rintro e w1 ⟨rfl, b⟩
  have E1 := Aside0.mk (E0.out.then b)
  clear b C0 hw0 v0 v1 v2 v3 v4 v5 v6 v7 v8 v9 v10 v11 v12 v13 v14 o0 o1 o2 o3 o4 o5 o6 o7 o8 o9 o10 o11
  cases b0 with
  | false =>
    go_wp2_with fail
    go_ret
    exact ⟨by rw [HR.out, HB0.out]; rfl, E1.out.hb⟩
  | true =>
    have v0 : w1.cell? ⟨w.heap.size, 0, none⟩ = some (.slice r.a0 m.globals.length r.c0) := (blk_cell E1.out.hv 0).trans rfl
    have v1 : w1.cell? ⟨w.heap.size, 1, none⟩ = some (.slice r.a1 m.structs.length r.c1) := (blk_cell E1.out.hv 1).trans rfl
    have v2 : w1.cell? ⟨w.heap.size, 2, none⟩ = some (.slice r.a2 m.chans.length r.c2) := (blk_cell E1.out.hv 2).trans rfl
    have v3 : w1.cell? ⟨w.heap.size, 3, none⟩ = some (.slice r.a3 m.locks.length r.c3) := (blk_cell E1.out.hv 3).trans rfl
    have v4 : w1.cell? ⟨w.heap.size, 4, none⟩ = some (.slice r.a4 m.inputs.length r.c4) := (blk_cell E1.out.hv 4).trans rfl
    have v5 : w1.cell? ⟨w.heap.size, 5, none⟩ = some (.slice r.a5 m.sinks.length r.c5) := (blk_cell E1.out.hv 5).trans rfl
    have v6 : w1.cell? ⟨w.heap.size, 6, none⟩ = some (.slice r.a6 m.hatches.length r.c6) := (blk_cell E1.out.hv 6).trans rfl
    have v7 : w1.cell? ⟨w.heap.size, 7, none⟩ = some (.slice r.a7 m.funcs.length r.c7) := (blk_cell E1.out.hv 7).trans rfl
    have v8 : w1.cell? ⟨w.heap.size, 8, none⟩ = some (.slice r.a8 m.threads.length r.c8) := (blk_cell E1.out.hv 8).trans rfl
    have v9 : w1.cell? ⟨w.heap.size, 9, none⟩ = some (.string f.f0) := (blk_cell E1.out.hv 9).trans rfl
    have v10 : w1.cell? ⟨w.heap.size, 10, none⟩ = some (.int .i64 f.f1) := (blk_cell E1.out.hv 10).trans rfl
    have v11 : w1.cell? ⟨w.heap.size, 11, none⟩ = some (.int .i64 f.f2) := (blk_cell E1.out.hv 11).trans rfl
    have v12 : w1.cell? ⟨w.heap.size, 12, none⟩ = some (.int .i64 f.f3) := (blk_cell E1.out.hv 12).trans rfl
    have v13 : w1.cell? ⟨w.heap.size, 13, none⟩ = some (.slice A4 f.f4.length c4) := (blk_cell E1.out.hv 13).trans rfl
    have v14 : w1.cell? ⟨w.heap.size, 14, none⟩ = some (.int .i64 n) := (blk_cell E1.out.hv 14).trans rfl
    have o8 : w1.cell? ⟨w.heap.size + 1, 8, none⟩ = some (.slice A o.f8.length c) := (blk_cell E1.out.ho 8).trans rfl
    obtain ⟨b1, hb1⟩ : ∃ b, below f.f2 o.f8 = b := ⟨_, rfl⟩
    have C1 := Aside0.mk (regs_list r m f A4 c4 n A c o.f8 w1 (Kd.C_below HA.out E1.out.hb) hal)
    rw [hb1] at C1
    have HB1 := Aside0.mk hb1
    clear hb1
    go_wp2_with fail
    refine C1.out.mono ?_
    rintro e w2 ⟨rfl, b⟩
    have E2 := Aside0.mk (E1.out.then b)
    clear b C1 o8 v0 v1 v2 v3 v4 v5 v6 v7 v8 v9 v10 v11 v12 v13 v14
    cases b1 with
    | false =>
      go_wp2_with fail
      go_ret
      exact ⟨by rw [HR.out, HB0.out, HB1.out]; rfl, E2.out.hb⟩
    | true =>
      have o0 : w2.cell? ⟨w.heap.size + 1, 0, none⟩ = some (.int .i64 23) := (blk_cell E2.out.ho 0).trans (congrArg (fun x => some (Value.int .i64 x)) HK.out)
      have o8 : w2.cell? ⟨w.heap.size + 1, 8, none⟩ = some (.slice A o.f8.length c) := (blk_cell E2.out.ho 8).trans rfl
      have o9 : w2.cell? ⟨w.heap.size + 1, 9, none⟩ = some (.int .i64 o.f9) := (blk_cell E2.out.ho 9).trans rfl
      have v13 : w2.cell? ⟨w.heap.size, 13, none⟩ = some (.slice A4 f.f4.length c4) := (blk_cell E2.out.hv 13).trans rfl
      have v12 : w2.cell? ⟨w.heap.size, 12, none⟩ = some (.int .i64 f.f3) := (blk_cell E2.out.hv 12).trans rfl
      obtain ⟨b2, hb2⟩ : ∃ b, ((o.f8.length : Int) != f.f3) = b := ⟨_, rfl⟩
      have HB2 : Aside0 (decide ((o.f8.length : Int) = f.f3) = !b2) := ⟨by rw [← hb2, bne, Bool.not_not, Bool.eq_iff_iff]; simp⟩
      obtain ⟨b3, hb3⟩ : ∃ b, below (1) [o.f9] = b := ⟨_, rfl⟩
      have C3 := Aside0.mk (below_lits (1) [o.f9] w2 _ rfl #[.int .i64 o.f9] rfl 1 rfl (by simp))
      rw [hb3] at C3
      have HB3 := Aside0.mk hb3
      clear hb3
      cases b2 with
      | true =>
        go_wp2_with fail
        go_ret
        exact ⟨by rw [HR.out, HB0.out, HB1.out, HB2.out]; rfl, E2.out.hb⟩
      | false =>
        go_wp2_with fail
        refine C3.out.mono ?_
        rintro e w3 ⟨rfl, b⟩
        have E3 := Aside0.mk (E2.out.then b)
        clear b C3 o0 o8 o9 v13 hb2 v12
        cases b3 with
        | false =>
          go_wp2_with fail
          go_ret
          exact ⟨by rw [HR.out, HB0.out, HB1.out, HB2.out, HB3.out]; rfl, E3.out.hb⟩
        | true =>
          have o10 : w3.cell? ⟨w.heap.size + 1, 10, none⟩ = some (.int .i64 o.f10) := (blk_cell E3.out.ho 10).trans rfl
          obtain ⟨b4, hb4⟩ : ∃ b, below (1) [o.f10] = b := ⟨_, rfl⟩
          have C4 := Aside0.mk (below_lits (1) [o.f10] w3 _ rfl #[.int .i64 o.f10] rfl 1 rfl (by simp))
          rw [hb4] at C4
          have HB4 := Aside0.mk hb4
          clear hb4
          go_wp2_with fail
          refine C4.out.mono ?_
          rintro e w4 ⟨rfl, b⟩
          have E4 := Aside0.mk (E3.out.then b)
          clear b C4 o10
          go_wp2_with fail
          go_ret
          exact ⟨by rw [HR.out, HB0.out, HB1.out, HB2.out, HB3.out, HB4.out]; rfl, E4.out.hb⟩
set_option maxRecDepth 100000 in
set_option maxHeartbeats 2000000 in
theorem right_21 (r : MdR) (m : Md) (f : S39) (A4 : Option Addr) (c4 : Nat) (n : Int) (o : S42) (A : Option Addr) (c : Nat) (w : World) (hm : MdC w r m) (hs : MdS m) (hall : m.funcs.all funcOk = true) (hf : funcOk f = true) (hk : o.f0 = 21) (ha : Kd.C (Kd.int .i64) w A o.f8.length o.f8) (hal : o.f8.length ≤ 1000000) (hcl : f.f4.length ≤ 1000000) :
    Calls Tryd.prog 31 #[.agg (vwW r m f A4 c4 n).toArray, .agg (opW o A c).toArray] w fun e w' => e = .returned (.bool (fieldsM m f.f2 n o && (below f.f2 o.f8 && (decide ((o.f8.length : Int) = 0) && (below ((f.f4.length : Int)) [o.f9] && below ((f.f4.length : Int)) [o.f10]))))) ∧ Below w.heap.size w w' := by
  obtain ⟨res, hres⟩ : ∃ res, (fieldsM m f.f2 n o && (below f.f2 o.f8 && (decide ((o.f8.length : Int) = 0) && (below ((f.f4.length : Int)) [o.f9] && below ((f.f4.length : Int)) [o.f10])))) = res := ⟨_, rfl⟩
  have HR : Aside0 (res = (fieldsM m f.f2 n o && (below f.f2 o.f8 && (decide ((o.f8.length : Int) = 0) && (below ((f.f4.length : Int)) [o.f9] && below ((f.f4.length : Int)) [o.f10]))))) := ⟨hres.symm⟩
  rw [hres]
  clear hres
  have E0 := Aside0.mk (Eyes.at0 w r m f A4 c4 n o A c)
  obtain ⟨w0, hw0⟩ : ∃ w0, (w.alloc (.cells (vwW r m f A4 c4 n).toArray 55)).alloc (.cells (opW o A c).toArray 42) = w0 := ⟨_, rfl⟩
  rw [hw0] at E0
  have HM := Aside0.mk hm
  have HS := Aside0.mk hs
  have HAL := Aside0.mk hall
  have HFO := Aside0.mk hf
  have HA := Aside0.mk ha
  clear hm hs hall hf ha
  have v0 : w0.cell? ⟨w.heap.size, 0, none⟩ = some (.slice r.a0 m.globals.length r.c0) := (blk_cell E0.out.hv 0).trans rfl
  have v1 : w0.cell? ⟨w.heap.size, 1, none⟩ = some (.slice r.a1 m.structs.length r.c1) := (blk_cell E0.out.hv 1).trans rfl
  have v2 : w0.cell? ⟨w.heap.size, 2, none⟩ = some (.slice r.a2 m.chans.length r.c2) := (blk_cell E0.out.hv 2).trans rfl
  have v3 : w0.cell? ⟨w.heap.size, 3, none⟩ = some (.slice r.a3 m.locks.length r.c3) := (blk_cell E0.out.hv 3).trans rfl
  have v4 : w0.cell? ⟨w.heap.size, 4, none⟩ = some (.slice r.a4 m.inputs.length r.c4) := (blk_cell E0.out.hv 4).trans rfl
  have v5 : w0.cell? ⟨w.heap.size, 5, none⟩ = some (.slice r.a5 m.sinks.length r.c5) := (blk_cell E0.out.hv 5).trans rfl
  have v6 : w0.cell? ⟨w.heap.size, 6, none⟩ = some (.slice r.a6 m.hatches.length r.c6) := (blk_cell E0.out.hv 6).trans rfl
  have v7 : w0.cell? ⟨w.heap.size, 7, none⟩ = some (.slice r.a7 m.funcs.length r.c7) := (blk_cell E0.out.hv 7).trans rfl
  have v8 : w0.cell? ⟨w.heap.size, 8, none⟩ = some (.slice r.a8 m.threads.length r.c8) := (blk_cell E0.out.hv 8).trans rfl
  have v9 : w0.cell? ⟨w.heap.size, 9, none⟩ = some (.string f.f0) := (blk_cell E0.out.hv 9).trans rfl
  have v10 : w0.cell? ⟨w.heap.size, 10, none⟩ = some (.int .i64 f.f1) := (blk_cell E0.out.hv 10).trans rfl
  have v11 : w0.cell? ⟨w.heap.size, 11, none⟩ = some (.int .i64 f.f2) := (blk_cell E0.out.hv 11).trans rfl
  have v12 : w0.cell? ⟨w.heap.size, 12, none⟩ = some (.int .i64 f.f3) := (blk_cell E0.out.hv 12).trans rfl
  have v13 : w0.cell? ⟨w.heap.size, 13, none⟩ = some (.slice A4 f.f4.length c4) := (blk_cell E0.out.hv 13).trans rfl
  have v14 : w0.cell? ⟨w.heap.size, 14, none⟩ = some (.int .i64 n) := (blk_cell E0.out.hv 14).trans rfl
  have o0 : w0.cell? ⟨w.heap.size + 1, 0, none⟩ = some (.int .i64 o.f0) := (blk_cell E0.out.ho 0).trans rfl
  have o1 : w0.cell? ⟨w.heap.size + 1, 1, none⟩ = some (.int .i64 o.f1) := (blk_cell E0.out.ho 1).trans rfl
  have o2 : w0.cell? ⟨w.heap.size + 1, 2, none⟩ = some (.int .i64 o.f2) := (blk_cell E0.out.ho 2).trans rfl
  have o3 : w0.cell? ⟨w.heap.size + 1, 3, none⟩ = some (.int .i64 o.f3) := (blk_cell E0.out.ho 3).trans rfl
  have o4 : w0.cell? ⟨w.heap.size + 1, 4, none⟩ = some (.int .i64 o.f4) := (blk_cell E0.out.ho 4).trans rfl
  have o5 : w0.cell? ⟨w.heap.size + 1, 5, none⟩ = some (.int .i64 o.f5) := (blk_cell E0.out.ho 5).trans rfl
  have o6 : w0.cell? ⟨w.heap.size + 1, 6, none⟩ = some (.int .i64 o.f6) := (blk_cell E0.out.ho 6).trans rfl
  have o7 : w0.cell? ⟨w.heap.size + 1, 7, none⟩ = some (.int .i64 o.f7) := (blk_cell E0.out.ho 7).trans rfl
  have o8 : w0.cell? ⟨w.heap.size + 1, 8, none⟩ = some (.slice A o.f8.length c) := (blk_cell E0.out.ho 8).trans rfl
  have o9 : w0.cell? ⟨w.heap.size + 1, 9, none⟩ = some (.int .i64 o.f9) := (blk_cell E0.out.ho 9).trans rfl
  have o10 : w0.cell? ⟨w.heap.size + 1, 10, none⟩ = some (.int .i64 o.f10) := (blk_cell E0.out.ho 10).trans rfl
  have o11 : w0.cell? ⟨w.heap.size + 1, 11, none⟩ = some (.int .i64 o.f11) := (blk_cell E0.out.ho 11).trans rfl
  obtain ⟨b0, hb0⟩ : ∃ b, fieldsM m f.f2 n o = b := ⟨_, rfl⟩
  have C0 := Aside0.mk (fields_any r m f A4 c4 n o A c w0 (HM.out.below E0.out.hb) HS.out HAL.out HFO.out)
  rw [hb0] at C0
  have HB0 := Aside0.mk hb0
  clear hb0
  have HK := Aside0.mk hk
  clear hk
  go_enter Tryd.func31, Tryd.ntmps31
  go_wp2_with fail
  refine C0.out.mono ?_
  rintro e w1 ⟨rfl, b⟩
  have E1 := Aside0.mk (E0.out.then b)
  clear b C0 hw0 v0 v1 v2 v3 v4 v5 v6 v7 v8 v9 v10 v11 v12 v13 v14 o0 o1 o2 o3 o4 o5 o6 o7 o8 o9 o10 o11
  cases b0 with
  | false =>
    go_wp2_with fail
    go_ret
    exact ⟨by rw [HR.out, HB0.out]; rfl, E1.out.hb⟩
  | true =>
    have v0 : w1.cell? ⟨w.heap.size, 0, none⟩ = some (.slice r.a0 m.globals.length r.c0) := (blk_cell E1.out.hv 0).trans rfl
    have v1 : w1.cell? ⟨w.heap.size, 1, none⟩ = some (.slice r.a1 m.structs.length r.c1) := (blk_cell E1.out.hv 1).trans rfl
    have v2 : w1.cell? ⟨w.heap.size, 2, none⟩ = some (.slice r.a2 m.chans.length r.c2) := (blk_cell E1.out.hv 2).trans rfl
    have v3 : w1.cell? ⟨w.heap.size, 3, none⟩ = some (.slice r.a3 m.locks.length r.c3) := (blk_cell E1.out.hv 3).trans rfl
    have v4 : w1.cell? ⟨w.heap.size, 4, none⟩ = some (.slice r.a4 m.inputs.length r.c4) := (blk_cell E1.out.hv 4).trans rfl
    have v5 : w1.cell? ⟨w.heap.size, 5, none⟩ = some (.slice r.a5 m.sinks.length r.c5) := (blk_cell E1.out.hv 5).trans rfl
    have v6 : w1.cell? ⟨w.heap.size, 6, none⟩ = some (.slice r.a6 m.hatches.length r.c6) := (blk_cell E1.out.hv 6).trans rfl
    have v7 : w1.cell? ⟨w.heap.size, 7, none⟩ = some (.slice r.a7 m.funcs.length r.c7) := (blk_cell E1.out.hv 7).trans rfl
    have v8 : w1.cell? ⟨w.heap.size, 8, none⟩ = some (.slice r.a8 m.threads.length r.c8) := (blk_cell E1.out.hv 8).trans rfl
    have v9 : w1.cell? ⟨w.heap.size, 9, none⟩ = some (.string f.f0) := (blk_cell E1.out.hv 9).trans rfl
    have v10 : w1.cell? ⟨w.heap.size, 10, none⟩ = some (.int .i64 f.f1) := (blk_cell E1.out.hv 10).trans rfl
    have v11 : w1.cell? ⟨w.heap.size, 11, none⟩ = some (.int .i64 f.f2) := (blk_cell E1.out.hv 11).trans rfl
    have v12 : w1.cell? ⟨w.heap.size, 12, none⟩ = some (.int .i64 f.f3) := (blk_cell E1.out.hv 12).trans rfl
    have v13 : w1.cell? ⟨w.heap.size, 13, none⟩ = some (.slice A4 f.f4.length c4) := (blk_cell E1.out.hv 13).trans rfl
    have v14 : w1.cell? ⟨w.heap.size, 14, none⟩ = some (.int .i64 n) := (blk_cell E1.out.hv 14).trans rfl
    have o8 : w1.cell? ⟨w.heap.size + 1, 8, none⟩ = some (.slice A o.f8.length c) := (blk_cell E1.out.ho 8).trans rfl
    obtain ⟨b1, hb1⟩ : ∃ b, below f.f2 o.f8 = b := ⟨_, rfl⟩
    have C1 := Aside0.mk (regs_list r m f A4 c4 n A c o.f8 w1 (Kd.C_below HA.out E1.out.hb) hal)
    rw [hb1] at C1
    have HB1 := Aside0.mk hb1
    clear hb1
    go_wp2_with fail
    refine C1.out.mono ?_
    rintro e w2 ⟨rfl, b⟩
    have E2 := Aside0.mk (E1.out.then b)
    clear b C1 o8 v0 v1 v2 v3 v4 v5 v6 v7 v8 v9 v10 v11 v12 v13 v14
    cases b1 with
    | false =>
      go_wp2_with fail
      go_ret
      exact ⟨by rw [HR.out, HB0.out, HB1.out]; rfl, E2.out.hb⟩
    | true =>
      have o0 : w2.cell? ⟨w.heap.size + 1, 0, none⟩ = some (.int .i64 21) := (blk_cell E2.out.ho 0).trans (congrArg (fun x => some (Value.int .i64 x)) HK.out)
      have o8 : w2.cell? ⟨w.heap.size + 1, 8, none⟩ = some (.slice A o.f8.length c) := (blk_cell E2.out.ho 8).trans rfl
      have o9 : w2.cell? ⟨w.heap.size + 1, 9, none⟩ = some (.int .i64 o.f9) := (blk_cell E2.out.ho 9).trans rfl
      have v13 : w2.cell? ⟨w.heap.size, 13, none⟩ = some (.slice A4 f.f4.length c4) := (blk_cell E2.out.hv 13).trans rfl
      obtain ⟨b2, hb2⟩ : ∃ b, ((o.f8.length : Int) != 0) = b := ⟨_, rfl⟩
      have HB2 : Aside0 (decide ((o.f8.length : Int) = 0) = !b2) := ⟨by rw [← hb2, bne, Bool.not_not, Bool.eq_iff_iff]; simp⟩
      obtain ⟨b3, hb3⟩ : ∃ b, below ((f.f4.length : Int)) [o.f9] = b := ⟨_, rfl⟩
      have C3 := Aside0.mk (below_lits ((f.f4.length : Int)) [o.f9] w2 _ rfl #[.int .i64 o.f9] rfl 1 rfl (by simp))
      rw [hb3] at C3
      have HB3 := Aside0.mk hb3
      clear hb3
      cases b2 with
      | true =>
        go_wp2_with fail
        go_ret
        exact ⟨by rw [HR.out, HB0.out, HB1.out, HB2.out]; rfl, E2.out.hb⟩
      | false =>
        go_wp2_with fail
        refine C3.out.mono ?_
        rintro e w3 ⟨rfl, b⟩
        have E3 := Aside0.mk (E2.out.then b)
        clear b C3 o0 o8 o9 v13 hb2
        cases b3 with
        | false =>
          go_wp2_with fail
          go_ret
          exact ⟨by rw [HR.out, HB0.out, HB1.out, HB2.out, HB3.out]; rfl, E3.out.hb⟩
        | true =>
          have o10 : w3.cell? ⟨w.heap.size + 1, 10, none⟩ = some (.int .i64 o.f10) := (blk_cell E3.out.ho 10).trans rfl
          obtain ⟨b4, hb4⟩ : ∃ b, below ((f.f4.length : Int)) [o.f10] = b := ⟨_, rfl⟩
          have C4 := Aside0.mk (below_lits ((f.f4.length : Int)) [o.f10] w3 _ rfl #[.int .i64 o.f10] rfl 1 rfl (by simp))
          rw [hb4] at C4
          have HB4 := Aside0.mk hb4
          clear hb4
          go_wp2_with fail
          refine C4.out.mono ?_
          rintro e w4 ⟨rfl, b⟩
          have E4 := Aside0.mk (E3.out.then b)
          clear b C4 o10
          go_wp2_with fail
          go_ret
          exact ⟨by rw [HR.out, HB0.out, HB1.out, HB2.out, HB3.out, HB4.out]; rfl, E4.out.hb⟩
set_option maxRecDepth 100000 in
set_option maxHeartbeats 2000000 in
theorem right_else (r : MdR) (m : Md) (f : S39) (A4 : Option Addr) (c4 : Nat) (n : Int) (o : S42) (A : Option Addr) (c : Nat) (w : World) (hm : MdC w r m) (hs : MdS m) (hall : m.funcs.all funcOk = true) (hf : funcOk f = true) (k21 : o.f0 ≠ 21) (k22 : o.f0 ≠ 22) (k23 : o.f0 ≠ 23) (ha : Kd.C (Kd.int .i64) w A o.f8.length o.f8) (hal : o.f8.length ≤ 1000000) (hcl : f.f4.length ≤ 1000000) :
    Calls Tryd.prog 31 #[.agg (vwW r m f A4 c4 n).toArray, .agg (opW o A c).toArray] w fun e w' => e = .returned (.bool (fieldsM m f.f2 n o && (below f.f2 o.f8 && (decide ((o.f8.length : Int) = 0) && (below ((f.f4.length : Int)) [o.f9] && below (1) [o.f10]))))) ∧ Below w.heap.size w w' := by
  obtain ⟨res, hres⟩ : ∃ res, (fieldsM m f.f2 n o && (below f.f2 o.f8 && (decide ((o.f8.length : Int) = 0) && (below ((f.f4.length : Int)) [o.f9] && below (1) [o.f10])))) = res := ⟨_, rfl⟩
  have HR : Aside0 (res = (fieldsM m f.f2 n o && (below f.f2 o.f8 && (decide ((o.f8.length : Int) = 0) && (below ((f.f4.length : Int)) [o.f9] && below (1) [o.f10]))))) := ⟨hres.symm⟩
  rw [hres]
  clear hres
  have E0 := Aside0.mk (Eyes.at0 w r m f A4 c4 n o A c)
  obtain ⟨w0, hw0⟩ : ∃ w0, (w.alloc (.cells (vwW r m f A4 c4 n).toArray 55)).alloc (.cells (opW o A c).toArray 42) = w0 := ⟨_, rfl⟩
  rw [hw0] at E0
  have HM := Aside0.mk hm
  have HS := Aside0.mk hs
  have HAL := Aside0.mk hall
  have HFO := Aside0.mk hf
  have HA := Aside0.mk ha
  clear hm hs hall hf ha
  have v0 : w0.cell? ⟨w.heap.size, 0, none⟩ = some (.slice r.a0 m.globals.length r.c0) := (blk_cell E0.out.hv 0).trans rfl
  have v1 : w0.cell? ⟨w.heap.size, 1, none⟩ = some (.slice r.a1 m.structs.length r.c1) := (blk_cell E0.out.hv 1).trans rfl
  have v2 : w0.cell? ⟨w.heap.size, 2, none⟩ = some (.slice r.a2 m.chans.length r.c2) := (blk_cell E0.out.hv 2).trans rfl
  have v3 : w0.cell? ⟨w.heap.size, 3, none⟩ = some (.slice r.a3 m.locks.length r.c3) := (blk_cell E0.out.hv 3).trans rfl
  have v4 : w0.cell? ⟨w.heap.size, 4, none⟩ = some (.slice r.a4 m.inputs.length r.c4) := (blk_cell E0.out.hv 4).trans rfl
  have v5 : w0.cell? ⟨w.heap.size, 5, none⟩ = some (.slice r.a5 m.sinks.length r.c5) := (blk_cell E0.out.hv 5).trans rfl
  have v6 : w0.cell? ⟨w.heap.size, 6, none⟩ = some (.slice r.a6 m.hatches.length r.c6) := (blk_cell E0.out.hv 6).trans rfl
  have v7 : w0.cell? ⟨w.heap.size, 7, none⟩ = some (.slice r.a7 m.funcs.length r.c7) := (blk_cell E0.out.hv 7).trans rfl
  have v8 : w0.cell? ⟨w.heap.size, 8, none⟩ = some (.slice r.a8 m.threads.length r.c8) := (blk_cell E0.out.hv 8).trans rfl
  have v9 : w0.cell? ⟨w.heap.size, 9, none⟩ = some (.string f.f0) := (blk_cell E0.out.hv 9).trans rfl
  have v10 : w0.cell? ⟨w.heap.size, 10, none⟩ = some (.int .i64 f.f1) := (blk_cell E0.out.hv 10).trans rfl
  have v11 : w0.cell? ⟨w.heap.size, 11, none⟩ = some (.int .i64 f.f2) := (blk_cell E0.out.hv 11).trans rfl
  have v12 : w0.cell? ⟨w.heap.size, 12, none⟩ = some (.int .i64 f.f3) := (blk_cell E0.out.hv 12).trans rfl
  have v13 : w0.cell? ⟨w.heap.size, 13, none⟩ = some (.slice A4 f.f4.length c4) := (blk_cell E0.out.hv 13).trans rfl
  have v14 : w0.cell? ⟨w.heap.size, 14, none⟩ = some (.int .i64 n) := (blk_cell E0.out.hv 14).trans rfl
  have o0 : w0.cell? ⟨w.heap.size + 1, 0, none⟩ = some (.int .i64 o.f0) := (blk_cell E0.out.ho 0).trans rfl
  have o1 : w0.cell? ⟨w.heap.size + 1, 1, none⟩ = some (.int .i64 o.f1) := (blk_cell E0.out.ho 1).trans rfl
  have o2 : w0.cell? ⟨w.heap.size + 1, 2, none⟩ = some (.int .i64 o.f2) := (blk_cell E0.out.ho 2).trans rfl
  have o3 : w0.cell? ⟨w.heap.size + 1, 3, none⟩ = some (.int .i64 o.f3) := (blk_cell E0.out.ho 3).trans rfl
  have o4 : w0.cell? ⟨w.heap.size + 1, 4, none⟩ = some (.int .i64 o.f4) := (blk_cell E0.out.ho 4).trans rfl
  have o5 : w0.cell? ⟨w.heap.size + 1, 5, none⟩ = some (.int .i64 o.f5) := (blk_cell E0.out.ho 5).trans rfl
  have o6 : w0.cell? ⟨w.heap.size + 1, 6, none⟩ = some (.int .i64 o.f6) := (blk_cell E0.out.ho 6).trans rfl
  have o7 : w0.cell? ⟨w.heap.size + 1, 7, none⟩ = some (.int .i64 o.f7) := (blk_cell E0.out.ho 7).trans rfl
  have o8 : w0.cell? ⟨w.heap.size + 1, 8, none⟩ = some (.slice A o.f8.length c) := (blk_cell E0.out.ho 8).trans rfl
  have o9 : w0.cell? ⟨w.heap.size + 1, 9, none⟩ = some (.int .i64 o.f9) := (blk_cell E0.out.ho 9).trans rfl
  have o10 : w0.cell? ⟨w.heap.size + 1, 10, none⟩ = some (.int .i64 o.f10) := (blk_cell E0.out.ho 10).trans rfl
  have o11 : w0.cell? ⟨w.heap.size + 1, 11, none⟩ = some (.int .i64 o.f11) := (blk_cell E0.out.ho 11).trans rfl
  obtain ⟨b0, hb0⟩ : ∃ b, fieldsM m f.f2 n o = b := ⟨_, rfl⟩
  have C0 := Aside0.mk (fields_any r m f A4 c4 n o A c w0 (HM.out.below E0.out.hb) HS.out HAL.out HFO.out)
  rw [hb0] at C0
  have HB0 := Aside0.mk hb0
  clear hb0
  have j21 : (o.f0 == 21) = false := beq_eq_false_iff_ne.2 k21
  have j22 : (o.f0 == 22) = false := beq_eq_false_iff_ne.2 k22
  have j23 : (o.f0 == 23) = false := beq_eq_false_iff_ne.2 k23
  clear k21 k22 k23
  go_enter Tryd.func31, Tryd.ntmps31
  go_wp2_with fail
  refine C0.out.mono ?_
  rintro e w1 ⟨rfl, b⟩
  have E1 := Aside0.mk (E0.out.then b)
  clear b C0 hw0 v0 v1 v2 v3 v4 v5 v6 v7 v8 v9 v10 v11 v12 v13 v14 o0 o1 o2 o3 o4 o5 o6 o7 o8 o9 o10 o11
  cases b0 with
  | false =>
    go_wp2_with fail
    go_ret
    exact ⟨by rw [HR.out, HB0.out]; rfl, E1.out.hb⟩
  | true =>
    have v0 : w1.cell? ⟨w.heap.size, 0, none⟩ = some (.slice r.a0 m.globals.length r.c0) := (blk_cell E1.out.hv 0).trans rfl
    have v1 : w1.cell? ⟨w.heap.size, 1, none⟩ = some (.slice r.a1 m.structs.length r.c1) := (blk_cell E1.out.hv 1).trans rfl
    have v2 : w1.cell? ⟨w.heap.size, 2, none⟩ = some (.slice r.a2 m.chans.length r.c2) := (blk_cell E1.out.hv 2).trans rfl
    have v3 : w1.cell? ⟨w.heap.size, 3, none⟩ = some (.slice r.a3 m.locks.length r.c3) := (blk_cell E1.out.hv 3).trans rfl
    have v4 : w1.cell? ⟨w.heap.size, 4, none⟩ = some (.slice r.a4 m.inputs.length r.c4) := (blk_cell E1.out.hv 4).trans rfl
    have v5 : w1.cell? ⟨w.heap.size, 5, none⟩ = some (.slice r.a5 m.sinks.length r.c5) := (blk_cell E1.out.hv 5).trans rfl
    have v6 : w1.cell? ⟨w.heap.size, 6, none⟩ = some (.slice r.a6 m.hatches.length r.c6) := (blk_cell E1.out.hv 6).trans rfl
    have v7 : w1.cell? ⟨w.heap.size, 7, none⟩ = some (.slice r.a7 m.funcs.length r.c7) := (blk_cell E1.out.hv 7).trans rfl
    have v8 : w1.cell? ⟨w.heap.size, 8, none⟩ = some (.slice r.a8 m.threads.length r.c8) := (blk_cell E1.out.hv 8).trans rfl
    have v9 : w1.cell? ⟨w.heap.size, 9, none⟩ = some (.string f.f0) := (blk_cell E1.out.hv 9).trans rfl
    have v10 : w1.cell? ⟨w.heap.size, 10, none⟩ = some (.int .i64 f.f1) := (blk_cell E1.out.hv 10).trans rfl
    have v11 : w1.cell? ⟨w.heap.size, 11, none⟩ = some (.int .i64 f.f2) := (blk_cell E1.out.hv 11).trans rfl
    have v12 : w1.cell? ⟨w.heap.size, 12, none⟩ = some (.int .i64 f.f3) := (blk_cell E1.out.hv 12).trans rfl
    have v13 : w1.cell? ⟨w.heap.size, 13, none⟩ = some (.slice A4 f.f4.length c4) := (blk_cell E1.out.hv 13).trans rfl
    have v14 : w1.cell? ⟨w.heap.size, 14, none⟩ = some (.int .i64 n) := (blk_cell E1.out.hv 14).trans rfl
    have o8 : w1.cell? ⟨w.heap.size + 1, 8, none⟩ = some (.slice A o.f8.length c) := (blk_cell E1.out.ho 8).trans rfl
    obtain ⟨b1, hb1⟩ : ∃ b, below f.f2 o.f8 = b := ⟨_, rfl⟩
    have C1 := Aside0.mk (regs_list r m f A4 c4 n A c o.f8 w1 (Kd.C_below HA.out E1.out.hb) hal)
    rw [hb1] at C1
    have HB1 := Aside0.mk hb1
    clear hb1
    go_wp2_with fail
    refine C1.out.mono ?_
    rintro e w2 ⟨rfl, b⟩
    have E2 := Aside0.mk (E1.out.then b)
    clear b C1 o8 v0 v1 v2 v3 v4 v5 v6 v7 v8 v9 v10 v11 v12 v13 v14
    cases b1 with
    | false =>
      go_wp2_with fail
      go_ret
      exact ⟨by rw [HR.out, HB0.out, HB1.out]; rfl, E2.out.hb⟩
    | true =>
      have o0 : w2.cell? ⟨w.heap.size + 1, 0, none⟩ = some (.int .i64 o.f0) := (blk_cell E2.out.ho 0).trans rfl
      have o8 : w2.cell? ⟨w.heap.size + 1, 8, none⟩ = some (.slice A o.f8.length c) := (blk_cell E2.out.ho 8).trans rfl
      have o9 : w2.cell? ⟨w.heap.size + 1, 9, none⟩ = some (.int .i64 o.f9) := (blk_cell E2.out.ho 9).trans rfl
      have v13 : w2.cell? ⟨w.heap.size, 13, none⟩ = some (.slice A4 f.f4.length c4) := (blk_cell E2.out.hv 13).trans rfl
      obtain ⟨b2, hb2⟩ : ∃ b, ((o.f8.length : Int) != 0) = b := ⟨_, rfl⟩
      have HB2 : Aside0 (decide ((o.f8.length : Int) = 0) = !b2) := ⟨by rw [← hb2, bne, Bool.not_not, Bool.eq_iff_iff]; simp⟩
      obtain ⟨b3, hb3⟩ : ∃ b, below ((f.f4.length : Int)) [o.f9] = b := ⟨_, rfl⟩
      have C3 := Aside0.mk (below_lits ((f.f4.length : Int)) [o.f9] w2 _ rfl #[.int .i64 o.f9] rfl 1 rfl (by simp))
      rw [hb3] at C3
      have HB3 := Aside0.mk hb3
      clear hb3
      cases b2 with
      | true =>
        go_wp2_with fail
        go_ret
        exact ⟨by rw [HR.out, HB0.out, HB1.out, HB2.out]; rfl, E2.out.hb⟩
      | false =>
        go_wp2_with fail
        refine C3.out.mono ?_
        rintro e w3 ⟨rfl, b⟩
        have E3 := Aside0.mk (E2.out.then b)
        clear b C3 o0 o8 o9 v13 hb2
        cases b3 with
        | false =>
          go_wp2_with fail
          go_ret
          exact ⟨by rw [HR.out, HB0.out, HB1.out, HB2.out, HB3.out]; rfl, E3.out.hb⟩
        | true =>
          have o10 : w3.cell? ⟨w.heap.size + 1, 10, none⟩ = some (.int .i64 o.f10) := (blk_cell E3.out.ho 10).trans rfl
          obtain ⟨b4, hb4⟩ : ∃ b, below (1) [o.f10] = b := ⟨_, rfl⟩
          have C4 := Aside0.mk (below_lits (1) [o.f10] w3 _ rfl #[.int .i64 o.f10] rfl 1 rfl (by simp))
          rw [hb4] at C4
          have HB4 := Aside0.mk hb4
          clear hb4
          go_wp2_with fail
          refine C4.out.mono ?_
          rintro e w4 ⟨rfl, b⟩
          have E4 := Aside0.mk (E3.out.then b)
          clear b C4 o10
          go_wp2_with fail
          go_ret
          exact ⟨by rw [HR.out, HB0.out, HB1.out, HB2.out, HB3.out, HB4.out]; rfl, E4.out.hb⟩
theorem right_any (r : MdR) (m : Md) (f : S39) (A4 : Option Addr) (c4 : Nat) (o : S42) (A : Option Addr) (c : Nat) (w : World) (hm : MdC w r m) (hs : MdS m) (hall : m.funcs.all funcOk = true) (hf : funcOk f = true) (ha : Kd.C (Kd.int .i64) w A o.f8.length o.f8) (hal : o.f8.length ≤ 1000000) (hcl : f.f4.length ≤ 1000000) :
    Calls Tryd.prog 31 #[.agg (vwW r m f A4 c4 (wordsM m)).toArray, .agg (opW o A c).toArray] w fun e w' => e = .returned (.bool (rightM m f o)) ∧ Below w.heap.size w w' := by
  unfold rightM
  by_cases k22 : o.f0 = 22
  · have := right_22 r m f A4 c4 (wordsM m) o A c w hm hs hall hf k22 ha hal hcl
    simpa only [k22, if_true, if_false, show ((22 : Int) = 22) = True from by simp, show ((22 : Int) = 23) = False from by simp, show ((22 : Int) = 21) = False from by simp] using this
  by_cases k23 : o.f0 = 23
  · have := right_23 r m f A4 c4 (wordsM m) o A c w hm hs hall hf k23 ha hal hcl
    simpa only [k23, if_true, if_false, show ((23 : Int) = 22) = False from by simp, show ((23 : Int) = 23) = True from by simp, show ((23 : Int) = 21) = False from by simp] using this
  by_cases k21 : o.f0 = 21
  · have := right_21 r m f A4 c4 (wordsM m) o A c w hm hs hall hf k21 ha hal hcl
    simpa only [k21, if_true, if_false, show ((21 : Int) = 22) = False from by simp, show ((21 : Int) = 23) = False from by simp, show ((21 : Int) = 21) = True from by simp] using this
  · have := right_else r m f A4 c4 (wordsM m) o A c w hm hs hall hf k21 k22 k23 ha hal hcl
    simpa only [k21, k22, k23, if_false] using this
end Go.Proofs.YtdapiibllblpbaaDoor.Code
