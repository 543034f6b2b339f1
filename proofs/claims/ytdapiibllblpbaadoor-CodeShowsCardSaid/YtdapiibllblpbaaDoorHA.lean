import Derived.Test.YtdapiibllblpbaaDoorG
namespace Go.Proofs.YtdapiibllblpbaaDoor.Code
open Go.RowKit Go.Proofs.YtdapiibllblpbaaDoorW.PrintWords Go.Proofs.YtdapiibllblpbaaDoorW.PrintLast Go.Proofs.YtdapiibllblpbaaDoorW.PrintMore Go.Proofs.YtdapiibllblpbaaDoor.PCodeAnswers
set_option linter.unusedVariables false
set_option linter.unusedSimpArgs false

set_option maxRecDepth 100000 in
set_option maxHeartbeats 2000000 in
theorem fields_1 (r : MdR) (m : Md) (f : S39) (A4 : Option Addr) (c4 : Nat) (n : Int) (o : S42) (A : Option Addr) (c : Nat) (w : World) (hk : o.f0 = 1) :
    Calls Tryd.prog 48 #[.agg (vwW r m f A4 c4 n).toArray, .agg (opW o A c).toArray] w fun e w' => e = .returned (.bool (fieldsM m f.f2 n o)) ∧ Below w.heap.size w w' := by
  have E0 := Aside0.mk (Eyes.at0 w r m f A4 c4 n o A c)
  have e0 : fieldsM m f.f2 n o = ((below f.f2 [o.f1]) && ((zero [o.f2, o.f3, o.f4, o.f5, o.f6]))) := by unfold fieldsM; rw [hk]; rfl
  rw [e0]
  clear e0
  obtain ⟨w0, hw0⟩ : ∃ w0, (w.alloc (.cells (vwW r m f A4 c4 n).toArray 55)).alloc (.cells (opW o A c).toArray 42) = w0 := ⟨_, rfl⟩
  rw [hw0] at E0
  have o0 : w0.cell? ⟨w.heap.size + 1, 0, none⟩ = some (.int .i64 1) := (blk_cell E0.out.ho 0).trans (congrArg (fun x => some (Value.int .i64 x)) hk)
  clear hk
  have v0 : w0.cell? ⟨w.heap.size, 0, none⟩ = some (.slice r.a0 m.globals.length r.c0) := (blk_cell E0.out.hv 0).trans rfl
  have v1 : w0.cell? ⟨w.heap.size, 1, none⟩ = some (.slice r.a1 m.structs.length r.c1) := (blk_cell E0.out.hv 1).trans rfl
  have v2 : w0.cell? ⟨w.heap.size, 2, none⟩ = some (.slice r.a2 m.chans.length r.c2) := (blk_cell E0.out.hv 2).trans rfl
  have v3 : w0.cell? ⟨w.heap.size, 3, none⟩ = some (.slice r.a3 m.locks.length r.c3) := (blk_cell E0.out.hv 3).trans rfl
  have v4 : w0.cell? ⟨w.heap.size, 4, none⟩ = some (.slice r.a4 m.inputs.length r.c4) := (blk_cell E0.out.hv 4).trans rfl
  have v5 : w0.cell? ⟨w.heap.size, 5, none⟩ = some (.slice r.a5 m.sinks.length r.c5) := (blk_cell E0.out.hv 5).trans rfl
  have v6 : w0.cell? ⟨w.heap.size, 6, none⟩ = some (.slice r.a6 m.hatches.length r.c6) := (blk_cell E0.out.hv 6).trans rfl
  have v7 : w0.cell? ⟨w.heap.size, 7, none⟩ = some (.slice r.a7 m.funcs.length r.c7) := (blk_cell E0.out.hv 7).trans rfl
  have v8 : w0.cell? ⟨w.heap.size, 8, none⟩ = some (.slice r.a8 m.threads.length r.c8) := (blk_cell E0.out.hv 8).trans rfl
  have v9 : w0.cell? ⟨w.heap.size, 9, none⟩ = some (.string f.f0) := (blk_cell E0.out.hv 9).trans rfl
  have v10 : w0.cell? ⟨w.heap.size, 10, none⟩ = some (.int .i64 f.f1) := (blk_cell E0.out.hv 10).trans rfl
  have v11 : w0.cell? ⟨w.heap.size, 11, none⟩ = some (.int .i64 f.f2) := (blk_cell E0.out.hv 11).trans rfl
  have v12 : w0.cell? ⟨w.heap.size, 12, none⟩ = some (.int .i64 f.f3) := (blk_cell E0.out.hv 12).trans rfl
  have v13 : w0.cell? ⟨w.heap.size, 13, none⟩ = some (.slice A4 f.f4.length c4) := (blk_cell E0.out.hv 13).trans rfl
  have v14 : w0.cell? ⟨w.heap.size, 14, none⟩ = some (.int .i64 n) := (blk_cell E0.out.hv 14).trans rfl
  have o1 : w0.cell? ⟨w.heap.size + 1, 1, none⟩ = some (.int .i64 o.f1) := (blk_cell E0.out.ho 1).trans rfl
  obtain ⟨b0, hb0⟩ : ∃ b, below f.f2 [o.f1] = b := ⟨_, rfl⟩
  have C0 := Aside0.mk (regs_lits r m f A4 c4 n [o.f1] (w0) _ (by rfl) #[.int .i64 o.f1] rfl 1 rfl (by simp))
  rw [hb0] at C0
  have HB0 := Aside0.mk hb0
  clear hb0
  go_enter Tryd.func48, Tryd.ntmps48
  go_wp2_with fail
  refine C0.out.mono ?_
  rintro e w1 ⟨rfl, b⟩
  have E1 := Aside0.mk (E0.out.then b)
  clear b C0 v0 v1 v2 v3 v4 v5 v6 v7 v8 v9 v10 v11 v12 v13 v14 o1 hw0 o0
  cases b0 with
  | false =>
    go_wp2_with fail
    go_ret
    exact ⟨by rw [HB0.out]; rfl, E1.out.hb⟩
  | true =>
    have o2 : w1.cell? ⟨w.heap.size + 1, 2, none⟩ = some (.int .i64 o.f2) := (blk_cell E1.out.ho 2).trans rfl
    have o3 : w1.cell? ⟨w.heap.size + 1, 3, none⟩ = some (.int .i64 o.f3) := (blk_cell E1.out.ho 3).trans rfl
    have o4 : w1.cell? ⟨w.heap.size + 1, 4, none⟩ = some (.int .i64 o.f4) := (blk_cell E1.out.ho 4).trans rfl
    have o5 : w1.cell? ⟨w.heap.size + 1, 5, none⟩ = some (.int .i64 o.f5) := (blk_cell E1.out.ho 5).trans rfl
    have o6 : w1.cell? ⟨w.heap.size + 1, 6, none⟩ = some (.int .i64 o.f6) := (blk_cell E1.out.ho 6).trans rfl
    obtain ⟨b1, hb1⟩ : ∃ b, zero [o.f2, o.f3, o.f4, o.f5, o.f6] = b := ⟨_, rfl⟩
    have C1 := Aside0.mk (zero_lits [o.f2, o.f3, o.f4, o.f5, o.f6] (w1) _ (by rfl) #[.int .i64 o.f2, .int .i64 o.f3, .int .i64 o.f4, .int .i64 o.f5, .int .i64 o.f6] rfl 5 rfl (by simp))
    rw [hb1] at C1
    have HB1 := Aside0.mk hb1
    clear hb1
    go_wp2_with fail
    refine C1.out.mono ?_
    rintro e w2 ⟨rfl, b⟩
    have E2 := Aside0.mk (E1.out.then b)
    clear b C1 o2 o3 o4 o5 o6
    go_wp2_with fail
    go_ret
    exact ⟨by rw [HB0.out, HB1.out]; rfl, E2.out.hb⟩
set_option maxRecDepth 100000 in
set_option maxHeartbeats 2000000 in
theorem fields_2 (r : MdR) (m : Md) (f : S39) (A4 : Option Addr) (c4 : Nat) (n : Int) (o : S42) (A : Option Addr) (c : Nat) (w : World) (hk : o.f0 = 2) :
    Calls Tryd.prog 48 #[.agg (vwW r m f A4 c4 n).toArray, .agg (opW o A c).toArray] w fun e w' => e = .returned (.bool (fieldsM m f.f2 n o)) ∧ Below w.heap.size w w' := by
  have E0 := Aside0.mk (Eyes.at0 w r m f A4 c4 n o A c)
  have e0 : fieldsM m f.f2 n o = ((below f.f2 [o.f1]) && ((below m.inputs.length [o.f2]) && ((zero [o.f3, o.f4, o.f5, o.f6, o.f7])))) := by unfold fieldsM; rw [hk]; rfl
  rw [e0]
  clear e0
  obtain ⟨w0, hw0⟩ : ∃ w0, (w.alloc (.cells (vwW r m f A4 c4 n).toArray 55)).alloc (.cells (opW o A c).toArray 42) = w0 := ⟨_, rfl⟩
  rw [hw0] at E0
  have o0 : w0.cell? ⟨w.heap.size + 1, 0, none⟩ = some (.int .i64 2) := (blk_cell E0.out.ho 0).trans (congrArg (fun x => some (Value.int .i64 x)) hk)
  clear hk
  have v0 : w0.cell? ⟨w.heap.size, 0, none⟩ = some (.slice r.a0 m.globals.length r.c0) := (blk_cell E0.out.hv 0).trans rfl
  have v1 : w0.cell? ⟨w.heap.size, 1, none⟩ = some (.slice r.a1 m.structs.length r.c1) := (blk_cell E0.out.hv 1).trans rfl
  have v2 : w0.cell? ⟨w.heap.size, 2, none⟩ = some (.slice r.a2 m.chans.length r.c2) := (blk_cell E0.out.hv 2).trans rfl
  have v3 : w0.cell? ⟨w.heap.size, 3, none⟩ = some (.slice r.a3 m.locks.length r.c3) := (blk_cell E0.out.hv 3).trans rfl
  have v4 : w0.cell? ⟨w.heap.size, 4, none⟩ = some (.slice r.a4 m.inputs.length r.c4) := (blk_cell E0.out.hv 4).trans rfl
  have v5 : w0.cell? ⟨w.heap.size, 5, none⟩ = some (.slice r.a5 m.sinks.length r.c5) := (blk_cell E0.out.hv 5).trans rfl
  have v6 : w0.cell? ⟨w.heap.size, 6, none⟩ = some (.slice r.a6 m.hatches.length r.c6) := (blk_cell E0.out.hv 6).trans rfl
  have v7 : w0.cell? ⟨w.heap.size, 7, none⟩ = some (.slice r.a7 m.funcs.length r.c7) := (blk_cell E0.out.hv 7).trans rfl
  have v8 : w0.cell? ⟨w.heap.size, 8, none⟩ = some (.slice r.a8 m.threads.length r.c8) := (blk_cell E0.out.hv 8).trans rfl
  have v9 : w0.cell? ⟨w.heap.size, 9, none⟩ = some (.string f.f0) := (blk_cell E0.out.hv 9).trans rfl
  have v10 : w0.cell? ⟨w.heap.size, 10, none⟩ = some (.int .i64 f.f1) := (blk_cell E0.out.hv 10).trans rfl
  have v11 : w0.cell? ⟨w.heap.size, 11, none⟩ = some (.int .i64 f.f2) := (blk_cell E0.out.hv 11).trans rfl
  have v12 : w0.cell? ⟨w.heap.size, 12, none⟩ = some (.int .i64 f.f3) := (blk_cell E0.out.hv 12).trans rfl
  have v13 : w0.cell? ⟨w.heap.size, 13, none⟩ = some (.slice A4 f.f4.length c4) := (blk_cell E0.out.hv 13).trans rfl
  have v14 : w0.cell? ⟨w.heap.size, 14, none⟩ = some (.int .i64 n) := (blk_cell E0.out.hv 14).trans rfl
  have o1 : w0.cell? ⟨w.heap.size + 1, 1, none⟩ = some (.int .i64 o.f1) := (blk_cell E0.out.ho 1).trans rfl
  obtain ⟨b0, hb0⟩ : ∃ b, below f.f2 [o.f1] = b := ⟨_, rfl⟩
  have C0 := Aside0.mk (regs_lits r m f A4 c4 n [o.f1] (w0) _ (by rfl) #[.int .i64 o.f1] rfl 1 rfl (by simp))
  rw [hb0] at C0
  have HB0 := Aside0.mk hb0
  clear hb0
  go_enter Tryd.func48, Tryd.ntmps48
  go_wp2_with fail
  refine C0.out.mono ?_
  rintro e w1 ⟨rfl, b⟩
  have E1 := Aside0.mk (E0.out.then b)
  clear b C0 v0 v1 v2 v3 v4 v5 v6 v7 v8 v9 v10 v11 v12 v13 v14 o1 hw0 o0
  cases b0 with
  | false =>
    go_wp2_with fail
    go_ret
    exact ⟨by rw [HB0.out]; rfl, E1.out.hb⟩
  | true =>
    have v4 : w1.cell? ⟨w.heap.size, 4, none⟩ = some (.slice r.a4 m.inputs.length r.c4) := (blk_cell E1.out.hv 4).trans rfl
    have o2 : w1.cell? ⟨w.heap.size + 1, 2, none⟩ = some (.int .i64 o.f2) := (blk_cell E1.out.ho 2).trans rfl
    obtain ⟨b1, hb1⟩ : ∃ b, below m.inputs.length [o.f2] = b := ⟨_, rfl⟩
    have C1 := Aside0.mk (below_lits (m.inputs.length) [o.f2] (w1) _ (by rfl) #[.int .i64 o.f2] rfl 1 rfl (by simp))
    rw [hb1] at C1
    have HB1 := Aside0.mk hb1
    clear hb1
    go_wp2_with fail
    refine C1.out.mono ?_
    rintro e w2 ⟨rfl, b⟩
    have E2 := Aside0.mk (E1.out.then b)
    clear b C1 v4 o2
    cases b1 with
    | false =>
      go_wp2_with fail
      go_ret
      exact ⟨by rw [HB0.out, HB1.out]; rfl, E2.out.hb⟩
    | true =>
      have o3 : w2.cell? ⟨w.heap.size + 1, 3, none⟩ = some (.int .i64 o.f3) := (blk_cell E2.out.ho 3).trans rfl
      have o4 : w2.cell? ⟨w.heap.size + 1, 4, none⟩ = some (.int .i64 o.f4) := (blk_cell E2.out.ho 4).trans rfl
      have o5 : w2.cell? ⟨w.heap.size + 1, 5, none⟩ = some (.int .i64 o.f5) := (blk_cell E2.out.ho 5).trans rfl
      have o6 : w2.cell? ⟨w.heap.size + 1, 6, none⟩ = some (.int .i64 o.f6) := (blk_cell E2.out.ho 6).trans rfl
      have o7 : w2.cell? ⟨w.heap.size + 1, 7, none⟩ = some (.int .i64 o.f7) := (blk_cell E2.out.ho 7).trans rfl
      obtain ⟨b2, hb2⟩ : ∃ b, zero [o.f3, o.f4, o.f5, o.f6, o.f7] = b := ⟨_, rfl⟩
      have C2 := Aside0.mk (zero_lits [o.f3, o.f4, o.f5, o.f6, o.f7] (w2) _ (by rfl) #[.int .i64 o.f3, .int .i64 o.f4, .int .i64 o.f5, .int .i64 o.f6, .int .i64 o.f7] rfl 5 rfl (by simp))
      rw [hb2] at C2
      have HB2 := Aside0.mk hb2
      clear hb2
      go_wp2_with fail
      refine C2.out.mono ?_
      rintro e w3 ⟨rfl, b⟩
      have E3 := Aside0.mk (E2.out.then b)
      clear b C2 o3 o4 o5 o6 o7
      go_wp2_with fail
      go_ret
      exact ⟨by rw [HB0.out, HB1.out, HB2.out]; rfl, E3.out.hb⟩
set_option maxRecDepth 100000 in
set_option maxHeartbeats 2000000 in
theorem fields_3 (r : MdR) (m : Md) (f : S39) (A4 : Option Addr) (c4 : Nat) (n : Int) (o : S42) (A : Option Addr) (c : Nat) (w : World) (hk : o.f0 = 3) :
    Calls Tryd.prog 48 #[.agg (vwW r m f A4 c4 n).toArray, .agg (opW o A c).toArray] w fun e w' => e = .returned (.bool (fieldsM m f.f2 n o)) ∧ Below w.heap.size w w' := by
  have E0 := Aside0.mk (Eyes.at0 w r m f A4 c4 n o A c)
  have e0 : fieldsM m f.f2 n o = ((below f.f2 [o.f1]) && ((below m.hatches.length [o.f2]) && ((zero [o.f3, o.f4, o.f5, o.f6, o.f7])))) := by unfold fieldsM; rw [hk]; rfl
  rw [e0]
  clear e0
  obtain ⟨w0, hw0⟩ : ∃ w0, (w.alloc (.cells (vwW r m f A4 c4 n).toArray 55)).alloc (.cells (opW o A c).toArray 42) = w0 := ⟨_, rfl⟩
  rw [hw0] at E0
  have o0 : w0.cell? ⟨w.heap.size + 1, 0, none⟩ = some (.int .i64 3) := (blk_cell E0.out.ho 0).trans (congrArg (fun x => some (Value.int .i64 x)) hk)
  clear hk
  have v0 : w0.cell? ⟨w.heap.size, 0, none⟩ = some (.slice r.a0 m.globals.length r.c0) := (blk_cell E0.out.hv 0).trans rfl
  have v1 : w0.cell? ⟨w.heap.size, 1, none⟩ = some (.slice r.a1 m.structs.length r.c1) := (blk_cell E0.out.hv 1).trans rfl
  have v2 : w0.cell? ⟨w.heap.size, 2, none⟩ = some (.slice r.a2 m.chans.length r.c2) := (blk_cell E0.out.hv 2).trans rfl
  have v3 : w0.cell? ⟨w.heap.size, 3, none⟩ = some (.slice r.a3 m.locks.length r.c3) := (blk_cell E0.out.hv 3).trans rfl
  have v4 : w0.cell? ⟨w.heap.size, 4, none⟩ = some (.slice r.a4 m.inputs.length r.c4) := (blk_cell E0.out.hv 4).trans rfl
  have v5 : w0.cell? ⟨w.heap.size, 5, none⟩ = some (.slice r.a5 m.sinks.length r.c5) := (blk_cell E0.out.hv 5).trans rfl
  have v6 : w0.cell? ⟨w.heap.size, 6, none⟩ = some (.slice r.a6 m.hatches.length r.c6) := (blk_cell E0.out.hv 6).trans rfl
  have v7 : w0.cell? ⟨w.heap.size, 7, none⟩ = some (.slice r.a7 m.funcs.length r.c7) := (blk_cell E0.out.hv 7).trans rfl
  have v8 : w0.cell? ⟨w.heap.size, 8, none⟩ = some (.slice r.a8 m.threads.length r.c8) := (blk_cell E0.out.hv 8).trans rfl
  have v9 : w0.cell? ⟨w.heap.size, 9, none⟩ = some (.string f.f0) := (blk_cell E0.out.hv 9).trans rfl
  have v10 : w0.cell? ⟨w.heap.size, 10, none⟩ = some (.int .i64 f.f1) := (blk_cell E0.out.hv 10).trans rfl
  have v11 : w0.cell? ⟨w.heap.size, 11, none⟩ = some (.int .i64 f.f2) := (blk_cell E0.out.hv 11).trans rfl
  have v12 : w0.cell? ⟨w.heap.size, 12, none⟩ = some (.int .i64 f.f3) := (blk_cell E0.out.hv 12).trans rfl
  have v13 : w0.cell? ⟨w.heap.size, 13, none⟩ = some (.slice A4 f.f4.length c4) := (blk_cell E0.out.hv 13).trans rfl
  have v14 : w0.cell? ⟨w.heap.size, 14, none⟩ = some (.int .i64 n) := (blk_cell E0.out.hv 14).trans rfl
  have o1 : w0.cell? ⟨w.heap.size + 1, 1, none⟩ = some (.int .i64 o.f1) := (blk_cell E0.out.ho 1).trans rfl
  obtain ⟨b0, hb0⟩ : ∃ b, below f.f2 [o.f1] = b := ⟨_, rfl⟩
  have C0 := Aside0.mk (regs_lits r m f A4 c4 n [o.f1] (w0) _ (by rfl) #[.int .i64 o.f1] rfl 1 rfl (by simp))
  rw [hb0] at C0
  have HB0 := Aside0.mk hb0
  clear hb0
  go_enter Tryd.func48, Tryd.ntmps48
  go_wp2_with fail
  refine C0.out.mono ?_
  rintro e w1 ⟨rfl, b⟩
  have E1 := Aside0.mk (E0.out.then b)
  clear b C0 v0 v1 v2 v3 v4 v5 v6 v7 v8 v9 v10 v11 v12 v13 v14 o1 hw0 o0
  cases b0 with
  | false =>
    go_wp2_with fail
    go_ret
    exact ⟨by rw [HB0.out]; rfl, E1.out.hb⟩
  | true =>
    have v6 : w1.cell? ⟨w.heap.size, 6, none⟩ = some (.slice r.a6 m.hatches.length r.c6) := (blk_cell E1.out.hv 6).trans rfl
    have o2 : w1.cell? ⟨w.heap.size + 1, 2, none⟩ = some (.int .i64 o.f2) := (blk_cell E1.out.ho 2).trans rfl
    obtain ⟨b1, hb1⟩ : ∃ b, below m.hatches.length [o.f2] = b := ⟨_, rfl⟩
    have C1 := Aside0.mk (below_lits (m.hatches.length) [o.f2] (w1) _ (by rfl) #[.int .i64 o.f2] rfl 1 rfl (by simp))
    rw [hb1] at C1
    have HB1 := Aside0.mk hb1
    clear hb1
    go_wp2_with fail
    refine C1.out.mono ?_
    rintro e w2 ⟨rfl, b⟩
    have E2 := Aside0.mk (E1.out.then b)
    clear b C1 v6 o2
    cases b1 with
    | false =>
      go_wp2_with fail
      go_ret
      exact ⟨by rw [HB0.out, HB1.out]; rfl, E2.out.hb⟩
    | true =>
      have o3 : w2.cell? ⟨w.heap.size + 1, 3, none⟩ = some (.int .i64 o.f3) := (blk_cell E2.out.ho 3).trans rfl
      have o4 : w2.cell? ⟨w.heap.size + 1, 4, none⟩ = some (.int .i64 o.f4) := (blk_cell E2.out.ho 4).trans rfl
      have o5 : w2.cell? ⟨w.heap.size + 1, 5, none⟩ = some (.int .i64 o.f5) := (blk_cell E2.out.ho 5).trans rfl
      have o6 : w2.cell? ⟨w.heap.size + 1, 6, none⟩ = some (.int .i64 o.f6) := (blk_cell E2.out.ho 6).trans rfl
      have o7 : w2.cell? ⟨w.heap.size + 1, 7, none⟩ = some (.int .i64 o.f7) := (blk_cell E2.out.ho 7).trans rfl
      obtain ⟨b2, hb2⟩ : ∃ b, zero [o.f3, o.f4, o.f5, o.f6, o.f7] = b := ⟨_, rfl⟩
      have C2 := Aside0.mk (zero_lits [o.f3, o.f4, o.f5, o.f6, o.f7] (w2) _ (by rfl) #[.int .i64 o.f3, .int .i64 o.f4, .int .i64 o.f5, .int .i64 o.f6, .int .i64 o.f7] rfl 5 rfl (by simp))
      rw [hb2] at C2
      have HB2 := Aside0.mk hb2
      clear hb2
      go_wp2_with fail
      refine C2.out.mono ?_
      rintro e w3 ⟨rfl, b⟩
      have E3 := Aside0.mk (E2.out.then b)
      clear b C2 o3 o4 o5 o6 o7
      go_wp2_with fail
      go_ret
      exact ⟨by rw [HB0.out, HB1.out, HB2.out]; rfl, E3.out.hb⟩
set_option maxRecDepth 100000 in
set_option maxHeartbeats 2000000 in
theorem fields_4 (r : MdR) (m : Md) (f : S39) (A4 : Option Addr) (c4 : Nat) (n : Int) (o : S42) (A : Option Addr) (c : Nat) (w : World) (hk : o.f0 = 4) :
    Calls Tryd.prog 48 #[.agg (vwW r m f A4 c4 n).toArray, .agg (opW o A c).toArray] w fun e w' => e = .returned (.bool (fieldsM m f.f2 n o)) ∧ Below w.heap.size w w' := by
  have E0 := Aside0.mk (Eyes.at0 w r m f A4 c4 n o A c)
  have e0 : fieldsM m f.f2 n o = ((below f.f2 [o.f1, o.f2]) && ((zero [o.f3, o.f4, o.f5, o.f6, o.f7]))) := by unfold fieldsM; rw [hk]; rfl
  rw [e0]
  clear e0
  obtain ⟨w0, hw0⟩ : ∃ w0, (w.alloc (.cells (vwW r m f A4 c4 n).toArray 55)).alloc (.cells (opW o A c).toArray 42) = w0 := ⟨_, rfl⟩
  rw [hw0] at E0
  have o0 : w0.cell? ⟨w.heap.size + 1, 0, none⟩ = some (.int .i64 4) := (blk_cell E0.out.ho 0).trans (congrArg (fun x => some (Value.int .i64 x)) hk)
  clear hk
  have v0 : w0.cell? ⟨w.heap.size, 0, none⟩ = some (.slice r.a0 m.globals.length r.c0) := (blk_cell E0.out.hv 0).trans rfl
  have v1 : w0.cell? ⟨w.heap.size, 1, none⟩ = some (.slice r.a1 m.structs.length r.c1) := (blk_cell E0.out.hv 1).trans rfl
  have v2 : w0.cell? ⟨w.heap.size, 2, none⟩ = some (.slice r.a2 m.chans.length r.c2) := (blk_cell E0.out.hv 2).trans rfl
  have v3 : w0.cell? ⟨w.heap.size, 3, none⟩ = some (.slice r.a3 m.locks.length r.c3) := (blk_cell E0.out.hv 3).trans rfl
  have v4 : w0.cell? ⟨w.heap.size, 4, none⟩ = some (.slice r.a4 m.inputs.length r.c4) := (blk_cell E0.out.hv 4).trans rfl
  have v5 : w0.cell? ⟨w.heap.size, 5, none⟩ = some (.slice r.a5 m.sinks.length r.c5) := (blk_cell E0.out.hv 5).trans rfl
  have v6 : w0.cell? ⟨w.heap.size, 6, none⟩ = some (.slice r.a6 m.hatches.length r.c6) := (blk_cell E0.out.hv 6).trans rfl
  have v7 : w0.cell? ⟨w.heap.size, 7, none⟩ = some (.slice r.a7 m.funcs.length r.c7) := (blk_cell E0.out.hv 7).trans rfl
  have v8 : w0.cell? ⟨w.heap.size, 8, none⟩ = some (.slice r.a8 m.threads.length r.c8) := (blk_cell E0.out.hv 8).trans rfl
  have v9 : w0.cell? ⟨w.heap.size, 9, none⟩ = some (.string f.f0) := (blk_cell E0.out.hv 9).trans rfl
  have v10 : w0.cell? ⟨w.heap.size, 10, none⟩ = some (.int .i64 f.f1) := (blk_cell E0.out.hv 10).trans rfl
  have v11 : w0.cell? ⟨w.heap.size, 11, none⟩ = some (.int .i64 f.f2) := (blk_cell E0.out.hv 11).trans rfl
  have v12 : w0.cell? ⟨w.heap.size, 12, none⟩ = some (.int .i64 f.f3) := (blk_cell E0.out.hv 12).trans rfl
  have v13 : w0.cell? ⟨w.heap.size, 13, none⟩ = some (.slice A4 f.f4.length c4) := (blk_cell E0.out.hv 13).trans rfl
  have v14 : w0.cell? ⟨w.heap.size, 14, none⟩ = some (.int .i64 n) := (blk_cell E0.out.hv 14).trans rfl
  have o1 : w0.cell? ⟨w.heap.size + 1, 1, none⟩ = some (.int .i64 o.f1) := (blk_cell E0.out.ho 1).trans rfl
  have o2 : w0.cell? ⟨w.heap.size + 1, 2, none⟩ = some (.int .i64 o.f2) := (blk_cell E0.out.ho 2).trans rfl
  obtain ⟨b0, hb0⟩ : ∃ b, below f.f2 [o.f1, o.f2] = b := ⟨_, rfl⟩
  have C0 := Aside0.mk (regs_lits r m f A4 c4 n [o.f1, o.f2] (w0) _ (by rfl) #[.int .i64 o.f1, .int .i64 o.f2] rfl 2 rfl (by simp))
  rw [hb0] at C0
  have HB0 := Aside0.mk hb0
  clear hb0
  go_enter Tryd.func48, Tryd.ntmps48
  go_wp2_with fail
  refine C0.out.mono ?_
  rintro e w1 ⟨rfl, b⟩
  have E1 := Aside0.mk (E0.out.then b)
  clear b C0 v0 v1 v2 v3 v4 v5 v6 v7 v8 v9 v10 v11 v12 v13 v14 o1 o2 hw0 o0
  cases b0 with
  | false =>
    go_wp2_with fail
    go_ret
    exact ⟨by rw [HB0.out]; rfl, E1.out.hb⟩
  | true =>
    have o3 : w1.cell? ⟨w.heap.size + 1, 3, none⟩ = some (.int .i64 o.f3) := (blk_cell E1.out.ho 3).trans rfl
    have o4 : w1.cell? ⟨w.heap.size + 1, 4, none⟩ = some (.int .i64 o.f4) := (blk_cell E1.out.ho 4).trans rfl
    have o5 : w1.cell? ⟨w.heap.size + 1, 5, none⟩ = some (.int .i64 o.f5) := (blk_cell E1.out.ho 5).trans rfl
    have o6 : w1.cell? ⟨w.heap.size + 1, 6, none⟩ = some (.int .i64 o.f6) := (blk_cell E1.out.ho 6).trans rfl
    have o7 : w1.cell? ⟨w.heap.size + 1, 7, none⟩ = some (.int .i64 o.f7) := (blk_cell E1.out.ho 7).trans rfl
    obtain ⟨b1, hb1⟩ : ∃ b, zero [o.f3, o.f4, o.f5, o.f6, o.f7] = b := ⟨_, rfl⟩
    have C1 := Aside0.mk (zero_lits [o.f3, o.f4, o.f5, o.f6, o.f7] (w1) _ (by rfl) #[.int .i64 o.f3, .int .i64 o.f4, .int .i64 o.f5, .int .i64 o.f6, .int .i64 o.f7] rfl 5 rfl (by simp))
    rw [hb1] at C1
    have HB1 := Aside0.mk hb1
    clear hb1
    go_wp2_with fail
    refine C1.out.mono ?_
    rintro e w2 ⟨rfl, b⟩
    have E2 := Aside0.mk (E1.out.then b)
    clear b C1 o3 o4 o5 o6 o7
    go_wp2_with fail
    go_ret
    exact ⟨by rw [HB0.out, HB1.out]; rfl, E2.out.hb⟩
set_option maxRecDepth 100000 in
set_option maxHeartbeats 2000000 in
theorem fields_5 (r : MdR) (m : Md) (f : S39) (A4 : Option Addr) (c4 : Nat) (n : Int) (o : S42) (A : Option Addr) (c : Nat) (w : World) (hk : o.f0 = 5) :
    Calls Tryd.prog 48 #[.agg (vwW r m f A4 c4 n).toArray, .agg (opW o A c).toArray] w fun e w' => e = .returned (.bool (fieldsM m f.f2 n o)) ∧ Below w.heap.size w w' := by
  have E0 := Aside0.mk (Eyes.at0 w r m f A4 c4 n o A c)
  have e0 : fieldsM m f.f2 n o = ((below f.f2 [o.f1, o.f2]) && ((zero [o.f3, o.f4, o.f5, o.f6]) && (decide (o.f7 = 1 ∨ o.f7 = 2)))) := by unfold fieldsM; rw [hk]; rfl
  rw [e0]
  clear e0
  obtain ⟨w0, hw0⟩ : ∃ w0, (w.alloc (.cells (vwW r m f A4 c4 n).toArray 55)).alloc (.cells (opW o A c).toArray 42) = w0 := ⟨_, rfl⟩
  rw [hw0] at E0
  have o0 : w0.cell? ⟨w.heap.size + 1, 0, none⟩ = some (.int .i64 5) := (blk_cell E0.out.ho 0).trans (congrArg (fun x => some (Value.int .i64 x)) hk)
  clear hk
  have v0 : w0.cell? ⟨w.heap.size, 0, none⟩ = some (.slice r.a0 m.globals.length r.c0) := (blk_cell E0.out.hv 0).trans rfl
  have v1 : w0.cell? ⟨w.heap.size, 1, none⟩ = some (.slice r.a1 m.structs.length r.c1) := (blk_cell E0.out.hv 1).trans rfl
  have v2 : w0.cell? ⟨w.heap.size, 2, none⟩ = some (.slice r.a2 m.chans.length r.c2) := (blk_cell E0.out.hv 2).trans rfl
  have v3 : w0.cell? ⟨w.heap.size, 3, none⟩ = some (.slice r.a3 m.locks.length r.c3) := (blk_cell E0.out.hv 3).trans rfl
  have v4 : w0.cell? ⟨w.heap.size, 4, none⟩ = some (.slice r.a4 m.inputs.length r.c4) := (blk_cell E0.out.hv 4).trans rfl
  have v5 : w0.cell? ⟨w.heap.size, 5, none⟩ = some (.slice r.a5 m.sinks.length r.c5) := (blk_cell E0.out.hv 5).trans rfl
  have v6 : w0.cell? ⟨w.heap.size, 6, none⟩ = some (.slice r.a6 m.hatches.length r.c6) := (blk_cell E0.out.hv 6).trans rfl
  have v7 : w0.cell? ⟨w.heap.size, 7, none⟩ = some (.slice r.a7 m.funcs.length r.c7) := (blk_cell E0.out.hv 7).trans rfl
  have v8 : w0.cell? ⟨w.heap.size, 8, none⟩ = some (.slice r.a8 m.threads.length r.c8) := (blk_cell E0.out.hv 8).trans rfl
  have v9 : w0.cell? ⟨w.heap.size, 9, none⟩ = some (.string f.f0) := (blk_cell E0.out.hv 9).trans rfl
  have v10 : w0.cell? ⟨w.heap.size, 10, none⟩ = some (.int .i64 f.f1) := (blk_cell E0.out.hv 10).trans rfl
  have v11 : w0.cell? ⟨w.heap.size, 11, none⟩ = some (.int .i64 f.f2) := (blk_cell E0.out.hv 11).trans rfl
  have v12 : w0.cell? ⟨w.heap.size, 12, none⟩ = some (.int .i64 f.f3) := (blk_cell E0.out.hv 12).trans rfl
  have v13 : w0.cell? ⟨w.heap.size, 13, none⟩ = some (.slice A4 f.f4.length c4) := (blk_cell E0.out.hv 13).trans rfl
  have v14 : w0.cell? ⟨w.heap.size, 14, none⟩ = some (.int .i64 n) := (blk_cell E0.out.hv 14).trans rfl
  have o1 : w0.cell? ⟨w.heap.size + 1, 1, none⟩ = some (.int .i64 o.f1) := (blk_cell E0.out.ho 1).trans rfl
  have o2 : w0.cell? ⟨w.heap.size + 1, 2, none⟩ = some (.int .i64 o.f2) := (blk_cell E0.out.ho 2).trans rfl
  obtain ⟨b0, hb0⟩ : ∃ b, below f.f2 [o.f1, o.f2] = b := ⟨_, rfl⟩
  have C0 := Aside0.mk (regs_lits r m f A4 c4 n [o.f1, o.f2] (w0) _ (by rfl) #[.int .i64 o.f1, .int .i64 o.f2] rfl 2 rfl (by simp))
  rw [hb0] at C0
  have HB0 := Aside0.mk hb0
  clear hb0
  go_enter Tryd.func48, Tryd.ntmps48
  go_wp2_with fail
  refine C0.out.mono ?_
  rintro e w1 ⟨rfl, b⟩
  have E1 := Aside0.mk (E0.out.then b)
  clear b C0 v0 v1 v2 v3 v4 v5 v6 v7 v8 v9 v10 v11 v12 v13 v14 o1 o2 hw0 o0
  cases b0 with
  | false =>
    go_wp2_with fail
    go_ret
    exact ⟨by rw [HB0.out]; rfl, E1.out.hb⟩
  | true =>
    have o3 : w1.cell? ⟨w.heap.size + 1, 3, none⟩ = some (.int .i64 o.f3) := (blk_cell E1.out.ho 3).trans rfl
    have o4 : w1.cell? ⟨w.heap.size + 1, 4, none⟩ = some (.int .i64 o.f4) := (blk_cell E1.out.ho 4).trans rfl
    have o5 : w1.cell? ⟨w.heap.size + 1, 5, none⟩ = some (.int .i64 o.f5) := (blk_cell E1.out.ho 5).trans rfl
    have o6 : w1.cell? ⟨w.heap.size + 1, 6, none⟩ = some (.int .i64 o.f6) := (blk_cell E1.out.ho 6).trans rfl
    obtain ⟨b1, hb1⟩ : ∃ b, zero [o.f3, o.f4, o.f5, o.f6] = b := ⟨_, rfl⟩
    have C1 := Aside0.mk (zero_lits [o.f3, o.f4, o.f5, o.f6] (w1) _ (by rfl) #[.int .i64 o.f3, .int .i64 o.f4, .int .i64 o.f5, .int .i64 o.f6] rfl 4 rfl (by simp))
    rw [hb1] at C1
    have HB1 := Aside0.mk hb1
    clear hb1
    go_wp2_with fail
    refine C1.out.mono ?_
    rintro e w2 ⟨rfl, b⟩
    have E2 := Aside0.mk (E1.out.then b)
    clear b C1 o3 o4 o5 o6
    cases b1 with
    | false =>
      go_wp2_with fail
      go_ret
      exact ⟨by rw [HB0.out, HB1.out]; rfl, E2.out.hb⟩
    | true =>
      have o7 : w2.cell? ⟨w.heap.size + 1, 7, none⟩ = some (.int .i64 o.f7) := (blk_cell E2.out.ho 7).trans rfl
      obtain ⟨p1, hp1⟩ : ∃ b, (o.f7 == 1) = b := ⟨_, rfl⟩
      obtain ⟨p2, hp2⟩ : ∃ b, (o.f7 == 2) = b := ⟨_, rfl⟩
      have HU : Aside0 (decide (o.f7 = 1 ∨ o.f7 = 2) = (p1 || p2)) := ⟨by rw [← hp1, ← hp2, Bool.eq_iff_iff]; simp⟩
      cases p1 <;> cases p2
      all_goals
        go_wp2_with fail
        go_ret
        exact ⟨by rw [HB0.out, HB1.out, HU.out]; rfl, E2.out.hb⟩
set_option maxRecDepth 100000 in
set_option maxHeartbeats 2000000 in
theorem fields_6 (r : MdR) (m : Md) (f : S39) (A4 : Option Addr) (c4 : Nat) (n : Int) (o : S42) (A : Option Addr) (c : Nat) (w : World) (hk : o.f0 = 6) :
    Calls Tryd.prog 48 #[.agg (vwW r m f A4 c4 n).toArray, .agg (opW o A c).toArray] w fun e w' => e = .returned (.bool (fieldsM m f.f2 n o)) ∧ Below w.heap.size w w' := by
  have E0 := Aside0.mk (Eyes.at0 w r m f A4 c4 n o A c)
  have e0 : fieldsM m f.f2 n o = ((below f.f2 [o.f1, o.f2, o.f3]) && ((zero [o.f4, o.f5, o.f6]) && (decide (1 ≤ o.f7 ∧ o.f7 ≤ 11)))) := by unfold fieldsM; rw [hk]; rfl
  rw [e0]
  clear e0
  obtain ⟨w0, hw0⟩ : ∃ w0, (w.alloc (.cells (vwW r m f A4 c4 n).toArray 55)).alloc (.cells (opW o A c).toArray 42) = w0 := ⟨_, rfl⟩
  rw [hw0] at E0
  have o0 : w0.cell? ⟨w.heap.size + 1, 0, none⟩ = some (.int .i64 6) := (blk_cell E0.out.ho 0).trans (congrArg (fun x => some (Value.int .i64 x)) hk)
  clear hk
  have v0 : w0.cell? ⟨w.heap.size, 0, none⟩ = some (.slice r.a0 m.globals.length r.c0) := (blk_cell E0.out.hv 0).trans rfl
  have v1 : w0.cell? ⟨w.heap.size, 1, none⟩ = some (.slice r.a1 m.structs.length r.c1) := (blk_cell E0.out.hv 1).trans rfl
  have v2 : w0.cell? ⟨w.heap.size, 2, none⟩ = some (.slice r.a2 m.chans.length r.c2) := (blk_cell E0.out.hv 2).trans rfl
  have v3 : w0.cell? ⟨w.heap.size, 3, none⟩ = some (.slice r.a3 m.locks.length r.c3) := (blk_cell E0.out.hv 3).trans rfl
  have v4 : w0.cell? ⟨w.heap.size, 4, none⟩ = some (.slice r.a4 m.inputs.length r.c4) := (blk_cell E0.out.hv 4).trans rfl
  have v5 : w0.cell? ⟨w.heap.size, 5, none⟩ = some (.slice r.a5 m.sinks.length r.c5) := (blk_cell E0.out.hv 5).trans rfl
  have v6 : w0.cell? ⟨w.heap.size, 6, none⟩ = some (.slice r.a6 m.hatches.length r.c6) := (blk_cell E0.out.hv 6).trans rfl
  have v7 : w0.cell? ⟨w.heap.size, 7, none⟩ = some (.slice r.a7 m.funcs.length r.c7) := (blk_cell E0.out.hv 7).trans rfl
  have v8 : w0.cell? ⟨w.heap.size, 8, none⟩ = some (.slice r.a8 m.threads.length r.c8) := (blk_cell E0.out.hv 8).trans rfl
  have v9 : w0.cell? ⟨w.heap.size, 9, none⟩ = some (.string f.f0) := (blk_cell E0.out.hv 9).trans rfl
  have v10 : w0.cell? ⟨w.heap.size, 10, none⟩ = some (.int .i64 f.f1) := (blk_cell E0.out.hv 10).trans rfl
  have v11 : w0.cell? ⟨w.heap.size, 11, none⟩ = some (.int .i64 f.f2) := (blk_cell E0.out.hv 11).trans rfl
  have v12 : w0.cell? ⟨w.heap.size, 12, none⟩ = some (.int .i64 f.f3) := (blk_cell E0.out.hv 12).trans rfl
  have v13 : w0.cell? ⟨w.heap.size, 13, none⟩ = some (.slice A4 f.f4.length c4) := (blk_cell E0.out.hv 13).trans rfl
  have v14 : w0.cell? ⟨w.heap.size, 14, none⟩ = some (.int .i64 n) := (blk_cell E0.out.hv 14).trans rfl
  have o1 : w0.cell? ⟨w.heap.size + 1, 1, none⟩ = some (.int .i64 o.f1) := (blk_cell E0.out.ho 1).trans rfl
  have o2 : w0.cell? ⟨w.heap.size + 1, 2, none⟩ = some (.int .i64 o.f2) := (blk_cell E0.out.ho 2).trans rfl
  have o3 : w0.cell? ⟨w.heap.size + 1, 3, none⟩ = some (.int .i64 o.f3) := (blk_cell E0.out.ho 3).trans rfl
  obtain ⟨b0, hb0⟩ : ∃ b, below f.f2 [o.f1, o.f2, o.f3] = b := ⟨_, rfl⟩
  have C0 := Aside0.mk (regs_lits r m f A4 c4 n [o.f1, o.f2, o.f3] (w0) _ (by rfl) #[.int .i64 o.f1, .int .i64 o.f2, .int .i64 o.f3] rfl 3 rfl (by simp))
  rw [hb0] at C0
  have HB0 := Aside0.mk hb0
  clear hb0
  go_enter Tryd.func48, Tryd.ntmps48
  go_wp2_with fail
  refine C0.out.mono ?_
  rintro e w1 ⟨rfl, b⟩
  have E1 := Aside0.mk (E0.out.then b)
  clear b C0 v0 v1 v2 v3 v4 v5 v6 v7 v8 v9 v10 v11 v12 v13 v14 o1 o2 o3 hw0 o0
  cases b0 with
  | false =>
    go_wp2_with fail
    go_ret
    exact ⟨by rw [HB0.out]; rfl, E1.out.hb⟩
  | true =>
    have o4 : w1.cell? ⟨w.heap.size + 1, 4, none⟩ = some (.int .i64 o.f4) := (blk_cell E1.out.ho 4).trans rfl
    have o5 : w1.cell? ⟨w.heap.size + 1, 5, none⟩ = some (.int .i64 o.f5) := (blk_cell E1.out.ho 5).trans rfl
    have o6 : w1.cell? ⟨w.heap.size + 1, 6, none⟩ = some (.int .i64 o.f6) := (blk_cell E1.out.ho 6).trans rfl
    obtain ⟨b1, hb1⟩ : ∃ b, zero [o.f4, o.f5, o.f6] = b := ⟨_, rfl⟩
    have C1 := Aside0.mk (zero_lits [o.f4, o.f5, o.f6] (w1) _ (by rfl) #[.int .i64 o.f4, .int .i64 o.f5, .int .i64 o.f6] rfl 3 rfl (by simp))
    rw [hb1] at C1
    have HB1 := Aside0.mk hb1
    clear hb1
    go_wp2_with fail
    refine C1.out.mono ?_
    rintro e w2 ⟨rfl, b⟩
    have E2 := Aside0.mk (E1.out.then b)
    clear b C1 o4 o5 o6
    cases b1 with
    | false =>
      go_wp2_with fail
      go_ret
      exact ⟨by rw [HB0.out, HB1.out]; rfl, E2.out.hb⟩
    | true =>
      have o7 : w2.cell? ⟨w.heap.size + 1, 7, none⟩ = some (.int .i64 o.f7) := (blk_cell E2.out.ho 7).trans rfl
      by_cases p1 : 1 ≤ o.f7
      · have p1x : o.f7 ≥ 1 := p1
        by_cases p2 : o.f7 ≤ 11
        all_goals
          go_wp2_with fail
          go_ret
          exact ⟨by rw [HB0.out, HB1.out]; simp [p1, p2] <;> omega, E2.out.hb⟩
      · have p1x : ¬ o.f7 ≥ 1 := p1
        go_wp2_with fail
        go_ret
        exact ⟨by rw [HB0.out, HB1.out]; simp [p1] <;> omega, E2.out.hb⟩
set_option maxRecDepth 100000 in
set_option maxHeartbeats 2000000 in
theorem fields_7 (r : MdR) (m : Md) (f : S39) (A4 : Option Addr) (c4 : Nat) (n : Int) (o : S42) (A : Option Addr) (c : Nat) (w : World) (hk : o.f0 = 7) :
    Calls Tryd.prog 48 #[.agg (vwW r m f A4 c4 n).toArray, .agg (opW o A c).toArray] w fun e w' => e = .returned (.bool (fieldsM m f.f2 n o)) ∧ Below w.heap.size w w' := by
  have E0 := Aside0.mk (Eyes.at0 w r m f A4 c4 n o A c)
  have e0 : fieldsM m f.f2 n o = ((below f.f2 [o.f1]) && ((below n [o.f2]) && ((zero [o.f3, o.f4, o.f5, o.f6]) && ((below 2 [o.f7]))))) := by unfold fieldsM; rw [hk]; rfl
  rw [e0]
  clear e0
  obtain ⟨w0, hw0⟩ : ∃ w0, (w.alloc (.cells (vwW r m f A4 c4 n).toArray 55)).alloc (.cells (opW o A c).toArray 42) = w0 := ⟨_, rfl⟩
  rw [hw0] at E0
  have o0 : w0.cell? ⟨w.heap.size + 1, 0, none⟩ = some (.int .i64 7) := (blk_cell E0.out.ho 0).trans (congrArg (fun x => some (Value.int .i64 x)) hk)
  clear hk
  have v0 : w0.cell? ⟨w.heap.size, 0, none⟩ = some (.slice r.a0 m.globals.length r.c0) := (blk_cell E0.out.hv 0).trans rfl
  have v1 : w0.cell? ⟨w.heap.size, 1, none⟩ = some (.slice r.a1 m.structs.length r.c1) := (blk_cell E0.out.hv 1).trans rfl
  have v2 : w0.cell? ⟨w.heap.size, 2, none⟩ = some (.slice r.a2 m.chans.length r.c2) := (blk_cell E0.out.hv 2).trans rfl
  have v3 : w0.cell? ⟨w.heap.size, 3, none⟩ = some (.slice r.a3 m.locks.length r.c3) := (blk_cell E0.out.hv 3).trans rfl
  have v4 : w0.cell? ⟨w.heap.size, 4, none⟩ = some (.slice r.a4 m.inputs.length r.c4) := (blk_cell E0.out.hv 4).trans rfl
  have v5 : w0.cell? ⟨w.heap.size, 5, none⟩ = some (.slice r.a5 m.sinks.length r.c5) := (blk_cell E0.out.hv 5).trans rfl
  have v6 : w0.cell? ⟨w.heap.size, 6, none⟩ = some (.slice r.a6 m.hatches.length r.c6) := (blk_cell E0.out.hv 6).trans rfl
  have v7 : w0.cell? ⟨w.heap.size, 7, none⟩ = some (.slice r.a7 m.funcs.length r.c7) := (blk_cell E0.out.hv 7).trans rfl
  have v8 : w0.cell? ⟨w.heap.size, 8, none⟩ = some (.slice r.a8 m.threads.length r.c8) := (blk_cell E0.out.hv 8).trans rfl
  have v9 : w0.cell? ⟨w.heap.size, 9, none⟩ = some (.string f.f0) := (blk_cell E0.out.hv 9).trans rfl
  have v10 : w0.cell? ⟨w.heap.size, 10, none⟩ = some (.int .i64 f.f1) := (blk_cell E0.out.hv 10).trans rfl
  have v11 : w0.cell? ⟨w.heap.size, 11, none⟩ = some (.int .i64 f.f2) := (blk_cell E0.out.hv 11).trans rfl
  have v12 : w0.cell? ⟨w.heap.size, 12, none⟩ = some (.int .i64 f.f3) := (blk_cell E0.out.hv 12).trans rfl
  have v13 : w0.cell? ⟨w.heap.size, 13, none⟩ = some (.slice A4 f.f4.length c4) := (blk_cell E0.out.hv 13).trans rfl
  have v14 : w0.cell? ⟨w.heap.size, 14, none⟩ = some (.int .i64 n) := (blk_cell E0.out.hv 14).trans rfl
  have o1 : w0.cell? ⟨w.heap.size + 1, 1, none⟩ = some (.int .i64 o.f1) := (blk_cell E0.out.ho 1).trans rfl
  obtain ⟨b0, hb0⟩ : ∃ b, below f.f2 [o.f1] = b := ⟨_, rfl⟩
  have C0 := Aside0.mk (regs_lits r m f A4 c4 n [o.f1] (w0) _ (by rfl) #[.int .i64 o.f1] rfl 1 rfl (by simp))
  rw [hb0] at C0
  have HB0 := Aside0.mk hb0
  clear hb0
  go_enter Tryd.func48, Tryd.ntmps48
  go_wp2_with fail
  refine C0.out.mono ?_
  rintro e w1 ⟨rfl, b⟩
  have E1 := Aside0.mk (E0.out.then b)
  clear b C0 v0 v1 v2 v3 v4 v5 v6 v7 v8 v9 v10 v11 v12 v13 v14 o1 hw0 o0
  cases b0 with
  | false =>
    go_wp2_with fail
    go_ret
    exact ⟨by rw [HB0.out]; rfl, E1.out.hb⟩
  | true =>
    have v14 : w1.cell? ⟨w.heap.size, 14, none⟩ = some (.int .i64 n) := (blk_cell E1.out.hv 14).trans rfl
    have o2 : w1.cell? ⟨w.heap.size + 1, 2, none⟩ = some (.int .i64 o.f2) := (blk_cell E1.out.ho 2).trans rfl
    obtain ⟨b1, hb1⟩ : ∃ b, below n [o.f2] = b := ⟨_, rfl⟩
    have C1 := Aside0.mk (below_lits (n) [o.f2] (w1) _ (by rfl) #[.int .i64 o.f2] rfl 1 rfl (by simp))
    rw [hb1] at C1
    have HB1 := Aside0.mk hb1
    clear hb1
    go_wp2_with fail
    refine C1.out.mono ?_
    rintro e w2 ⟨rfl, b⟩
    have E2 := Aside0.mk (E1.out.then b)
    clear b C1 v14 o2
    cases b1 with
    | false =>
      go_wp2_with fail
      go_ret
      exact ⟨by rw [HB0.out, HB1.out]; rfl, E2.out.hb⟩
    | true =>
      have o3 : w2.cell? ⟨w.heap.size + 1, 3, none⟩ = some (.int .i64 o.f3) := (blk_cell E2.out.ho 3).trans rfl
      have o4 : w2.cell? ⟨w.heap.size + 1, 4, none⟩ = some (.int .i64 o.f4) := (blk_cell E2.out.ho 4).trans rfl
      have o5 : w2.cell? ⟨w.heap.size + 1, 5, none⟩ = some (.int .i64 o.f5) := (blk_cell E2.out.ho 5).trans rfl
      have o6 : w2.cell? ⟨w.heap.size + 1, 6, none⟩ = some (.int .i64 o.f6) := (blk_cell E2.out.ho 6).trans rfl
      obtain ⟨b2, hb2⟩ : ∃ b, zero [o.f3, o.f4, o.f5, o.f6] = b := ⟨_, rfl⟩
      have C2 := Aside0.mk (zero_lits [o.f3, o.f4, o.f5, o.f6] (w2) _ (by rfl) #[.int .i64 o.f3, .int .i64 o.f4, .int .i64 o.f5, .int .i64 o.f6] rfl 4 rfl (by simp))
      rw [hb2] at C2
      have HB2 := Aside0.mk hb2
      clear hb2
      go_wp2_with fail
      refine C2.out.mono ?_
      rintro e w3 ⟨rfl, b⟩
      have E3 := Aside0.mk (E2.out.then b)
      clear b C2 o3 o4 o5 o6
      cases b2 with
      | false =>
        go_wp2_with fail
        go_ret
        exact ⟨by rw [HB0.out, HB1.out, HB2.out]; rfl, E3.out.hb⟩
      | true =>
        have o7 : w3.cell? ⟨w.heap.size + 1, 7, none⟩ = some (.int .i64 o.f7) := (blk_cell E3.out.ho 7).trans rfl
        obtain ⟨b3, hb3⟩ : ∃ b, below 2 [o.f7] = b := ⟨_, rfl⟩
        have C3 := Aside0.mk (below_lits (2) [o.f7] (w3) _ (by rfl) #[.int .i64 o.f7] rfl 1 rfl (by simp))
        rw [hb3] at C3
        have HB3 := Aside0.mk hb3
        clear hb3
        go_wp2_with fail
        refine C3.out.mono ?_
        rintro e w4 ⟨rfl, b⟩
        have E4 := Aside0.mk (E3.out.then b)
        clear b C3 o7
        go_wp2_with fail
        go_ret
        exact ⟨by rw [HB0.out, HB1.out, HB2.out, HB3.out]; rfl, E4.out.hb⟩
end Go.Proofs.YtdapiibllblpbaaDoor.Code
