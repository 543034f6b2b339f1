import Derived.Test.YtdapiibllblpbaaDoorHA
import Derived.Test.YtdapiibllblpbaaDoorHB
import Derived.Test.YtdapiibllblpbaaDoorHC
import Derived.Test.YtdapiibllblpbaaDoorI
namespace Go.Proofs.YtdapiibllblpbaaDoor.Code
open Go.RowKit Go.Proofs.YtdapiibllblpbaaDoorW.PrintWords Go.Proofs.YtdapiibllblpbaaDoorW.PrintLast Go.Proofs.YtdapiibllblpbaaDoorW.PrintMore Go.Proofs.YtdapiibllblpbaaDoor.PCodeAnswers
set_option linter.unusedVariables false
set_option linter.unusedSimpArgs false

set_option maxRecDepth 100000 in
set_option maxHeartbeats 2000000 in
theorem others_else (r : MdR) (m : Md) (f : S39) (A4 : Option Addr) (c4 : Nat) (n : Int) (o : S42) (A : Option Addr) (c : Nat) (w : World) (k16 : o.f0 ≠ 16) (k17 : o.f0 ≠ 17) (k18 : o.f0 ≠ 18) (k19 : o.f0 ≠ 19) (k20 : o.f0 ≠ 20) (k21 : o.f0 ≠ 21) (k22 : o.f0 ≠ 22) (k23 : o.f0 ≠ 23) :
    Calls Tryd.prog 59 #[.agg (vwW r m f A4 c4 n).toArray, .agg (opW o A c).toArray] w fun e w' => e = .returned (.bool (othersM m f.f2 o)) ∧ Below w.heap.size w w' := by
  have e0 : othersM m f.f2 o = false := by unfold othersM; simp only [k16, k17, k18, k19, k20, k21, k22, k23, or_self, if_false]
  rw [e0]
  clear e0
  have E0 := Aside0.mk (Eyes.at0 w r m f A4 c4 n o A c)
  obtain ⟨w0, hw0⟩ : ∃ w0, (w.alloc (.cells (vwW r m f A4 c4 n).toArray 55)).alloc (.cells (opW o A c).toArray 42) = w0 := ⟨_, rfl⟩
  rw [hw0] at E0
  have o0 : w0.cell? ⟨w.heap.size + 1, 0, none⟩ = some (.int .i64 o.f0) := (blk_cell E0.out.ho 0).trans rfl
  have j16 : (o.f0 == 16) = false := beq_eq_false_iff_ne.2 k16
  have j17 : (o.f0 == 17) = false := beq_eq_false_iff_ne.2 k17
  have j18 : (o.f0 == 18) = false := beq_eq_false_iff_ne.2 k18
  have j19 : (o.f0 == 19) = false := beq_eq_false_iff_ne.2 k19
  have j20 : (o.f0 == 20) = false := beq_eq_false_iff_ne.2 k20
  have j21 : (o.f0 == 21) = false := beq_eq_false_iff_ne.2 k21
  have j22 : (o.f0 == 22) = false := beq_eq_false_iff_ne.2 k22
  have j23 : (o.f0 == 23) = false := beq_eq_false_iff_ne.2 k23
  go_enter Tryd.func59, Tryd.ntmps59
  go_wp2_with fail
  go_ret
  exact ⟨rfl, E0.out.hb⟩
theorem others_any (r : MdR) (m : Md) (f : S39) (A4 : Option Addr) (c4 : Nat) (n : Int) (o : S42) (A : Option Addr) (c : Nat) (w : World) (hm : MdC w r m) (hs : MdS m) (hall : m.funcs.all funcOk = true) (hf : funcOk f = true) :
    Calls Tryd.prog 59 #[.agg (vwW r m f A4 c4 n).toArray, .agg (opW o A c).toArray] w fun e w' => e = .returned (.bool (othersM m f.f2 o)) ∧ Below w.heap.size w w' := by
  by_cases k16 : o.f0 = 16
  · exact others_16 r m f A4 c4 n o A c w k16
  by_cases k17 : o.f0 = 17
  · exact others_17 r m f A4 c4 n o A c w k17
  by_cases k18 : o.f0 = 18
  · exact others_18 r m f A4 c4 n o A c w k18
  by_cases k19 : o.f0 = 19
  · exact others_19 r m f A4 c4 n o A c w k19
  by_cases k20 : o.f0 = 20
  · exact others_20 r m f A4 c4 n o A c w k20
  by_cases k21 : o.f0 = 21
  · exact others_21 r m f A4 c4 n o A c w k21
  by_cases k22 : o.f0 = 22
  · exact others_22 r m f A4 c4 n o A c w k22 hm hs hall hf
  by_cases k23 : o.f0 = 23
  · exact others_23 r m f A4 c4 n o A c w k23
  exact others_else r m f A4 c4 n o A c w k16 k17 k18 k19 k20 k21 k22 k23
set_option maxRecDepth 100000 in
set_option maxHeartbeats 2000000 in
theorem fields_else (r : MdR) (m : Md) (f : S39) (A4 : Option Addr) (c4 : Nat) (n : Int) (o : S42) (A : Option Addr) (c : Nat) (w : World) (hm : MdC w r m) (hs : MdS m) (hall : m.funcs.all funcOk = true) (hf : funcOk f = true) (k1 : o.f0 ≠ 1) (k2 : o.f0 ≠ 2) (k3 : o.f0 ≠ 3) (k4 : o.f0 ≠ 4) (k5 : o.f0 ≠ 5) (k6 : o.f0 ≠ 6) (k7 : o.f0 ≠ 7) (k8 : o.f0 ≠ 8) (k9 : o.f0 ≠ 9) (k10 : o.f0 ≠ 10) (k11 : o.f0 ≠ 11) (k12 : o.f0 ≠ 12) (k13 : o.f0 ≠ 13) (k14 : o.f0 ≠ 14) (k15 : o.f0 ≠ 15) :
    Calls Tryd.prog 48 #[.agg (vwW r m f A4 c4 n).toArray, .agg (opW o A c).toArray] w fun e w' => e = .returned (.bool (fieldsM m f.f2 n o)) ∧ Below w.heap.size w w' := by
  have e0 : fieldsM m f.f2 n o = othersM m f.f2 o := by unfold fieldsM; simp only [k1, k2, k3, k4, k5, k6, k7, k8, k9, k10, k11, k12, k13, k14, k15, or_self, if_false]
  rw [e0]
  clear e0
  have E0 := Aside0.mk (Eyes.at0 w r m f A4 c4 n o A c)
  obtain ⟨w0, hw0⟩ : ∃ w0, (w.alloc (.cells (vwW r m f A4 c4 n).toArray 55)).alloc (.cells (opW o A c).toArray 42) = w0 := ⟨_, rfl⟩
  rw [hw0] at E0
  have C0 := Aside0.mk (others_any r m f A4 c4 n o A c w0 (hm.below E0.out.hb) hs hall hf)
  clear hm hs hall hf
  have v0 : w0.cell? ⟨w.heap.size, 0, none⟩ = some (.slice r.a0 m.globals.length r.c0) := (blk_cell E0.out.hv 0).trans rfl
  have v1 : w0.cell? ⟨w.heap.size, 1, none⟩ = some (.slice r.a1 m.structs.length r.c1) := (blk_cell E0.out.hv 1).trans rfl
  have v2 : w0.cell? ⟨w.heap.size, 2, none⟩ = some (.slice r.a2 m.chans.length r.c2) := (blk_cell E0.out.hv 2).trans rfl
  have v3 : w0.cell? ⟨w.heap.size, 3, none⟩ = some (.slice r.a3 m.locks.length r.c3) := (blk_cell E0.out.hv 3).trans rfl
  have v4 : w0.cell? ⟨w.heap.size, 4, none⟩ = some (.slice r.a4 m.inputs.length r.c4) := (blk_cell E0.out.hv 4).trans rfl
  have v5 : w0.cell? ⟨w.heap.size, 5, none⟩ = some (.slice r.a5 m.sinks.length r.c5) := (blk_cell E0.out.hv 5).trans rfl
  have v6 : w0.cell? ⟨w.heap.size, 6, none⟩ = some (.slice r.a6 m.hatches.length r.c6) := (blk_cell E0.out.hv 6).trans rfl
  have v7 : w0.cell? ⟨w.heap.size, 7, none⟩ = some (.slice r.a7 m.funcs.length r.c7) := (blk_cell E0.out.hv 7).trans rfl
  have v8 : w0.cell? ⟨w.heap.size, 8, none⟩ = some (.slice r.a8 m.threads.length r.c8) := (blk_cell E0.out.hv 8).trans rfl
  have v9 : w0.cell? ⟨w.heap.size, 9, none⟩ = some (.string f.f0) := (blk_cell E0.out.hv 9).trans rfl
  have v10 : w0.cell? ⟨w.heap.size, 10, none⟩ = some (.int .i64 f.f1) := (blk_cell E0.out.hv 10).trans rfl
  have v11 : w0.cell? ⟨w.heap.size, 11, none⟩ = some (.int .i64 f.f2) := (blk_cell E0.out.hv 11).trans rfl
  have v12 : w0.cell? ⟨w.heap.size, 12, none⟩ = some (.int .i64 f.f3) := (blk_cell E0.out.hv 12).trans rfl
  have v13 : w0.cell? ⟨w.heap.size, 13, none⟩ = some (.slice A4 f.f4.length c4) := (blk_cell E0.out.hv 13).trans rfl
  have v14 : w0.cell? ⟨w.heap.size, 14, none⟩ = some (.int .i64 n) := (blk_cell E0.out.hv 14).trans rfl
  have o0 : w0.cell? ⟨w.heap.size + 1, 0, none⟩ = some (.int .i64 o.f0) := (blk_cell E0.out.ho 0).trans rfl
  have o1 : w0.cell? ⟨w.heap.size + 1, 1, none⟩ = some (.int .i64 o.f1) := (blk_cell E0.out.ho 1).trans rfl
  have o2 : w0.cell? ⟨w.heap.size + 1, 2, none⟩ = some (.int .i64 o.f2) := (blk_cell E0.out.ho 2).trans rfl
  have o3 : w0.cell? ⟨w.heap.size + 1, 3, none⟩ = some (.int .i64 o.f3) := (blk_cell E0.out.ho 3).trans rfl
  have o4 : w0.cell? ⟨w.heap.size + 1, 4, none⟩ = some (.int .i64 o.f4) := (blk_cell E0.out.ho 4).trans rfl
  have o5 : w0.cell? ⟨w.heap.size + 1, 5, none⟩ = some (.int .i64 o.f5) := (blk_cell E0.out.ho 5).trans rfl
  have o6 : w0.cell? ⟨w.heap.size + 1, 6, none⟩ = some (.int .i64 o.f6) := (blk_cell E0.out.ho 6).trans rfl
  have o7 : w0.cell? ⟨w.heap.size + 1, 7, none⟩ = some (.int .i64 o.f7) := (blk_cell E0.out.ho 7).trans rfl
  have o8 : w0.cell? ⟨w.heap.size + 1, 8, none⟩ = some (.slice A o.f8.length c) := (blk_cell E0.out.ho 8).trans rfl
  have o9 : w0.cell? ⟨w.heap.size + 1, 9, none⟩ = some (.int .i64 o.f9) := (blk_cell E0.out.ho 9).trans rfl
  have o10 : w0.cell? ⟨w.heap.size + 1, 10, none⟩ = some (.int .i64 o.f10) := (blk_cell E0.out.ho 10).trans rfl
  have o11 : w0.cell? ⟨w.heap.size + 1, 11, none⟩ = some (.int .i64 o.f11) := (blk_cell E0.out.ho 11).trans rfl
  have j1 : (o.f0 == 1) = false := beq_eq_false_iff_ne.2 k1
  have j2 : (o.f0 == 2) = false := beq_eq_false_iff_ne.2 k2
  have j3 : (o.f0 == 3) = false := beq_eq_false_iff_ne.2 k3
  have j4 : (o.f0 == 4) = false := beq_eq_false_iff_ne.2 k4
  have j5 : (o.f0 == 5) = false := beq_eq_false_iff_ne.2 k5
  have j6 : (o.f0 == 6) = false := beq_eq_false_iff_ne.2 k6
  have j7 : (o.f0 == 7) = false := beq_eq_false_iff_ne.2 k7
  have j8 : (o.f0 == 8) = false := beq_eq_false_iff_ne.2 k8
  have j9 : (o.f0 == 9) = false := beq_eq_false_iff_ne.2 k9
  have j10 : (o.f0 == 10) = false := beq_eq_false_iff_ne.2 k10
  have j11 : (o.f0 == 11) = false := beq_eq_false_iff_ne.2 k11
  have j12 : (o.f0 == 12) = false := beq_eq_false_iff_ne.2 k12
  have j13 : (o.f0 == 13) = false := beq_eq_false_iff_ne.2 k13
  have j14 : (o.f0 == 14) = false := beq_eq_false_iff_ne.2 k14
  have j15 : (o.f0 == 15) = false := beq_eq_false_iff_ne.2 k15
  clear k1 k2 k3 k4 k5 k6 k7 k8 k9 k10 k11 k12 k13 k14 k15
  go_enter Tryd.func48, Tryd.ntmps48
  go_wp2_with fail
  refine C0.out.mono ?_
  rintro e w1 ⟨rfl, b⟩
  have E1 := Aside0.mk (E0.out.then b)
  clear b
  go_wp2_with fail
  go_ret
  exact ⟨rfl, E1.out.hb⟩
theorem fields_any (r : MdR) (m : Md) (f : S39) (A4 : Option Addr) (c4 : Nat) (n : Int) (o : S42) (A : Option Addr) (c : Nat) (w : World) (hm : MdC w r m) (hs : MdS m) (hall : m.funcs.all funcOk = true) (hf : funcOk f = true) :
    Calls Tryd.prog 48 #[.agg (vwW r m f A4 c4 n).toArray, .agg (opW o A c).toArray] w fun e w' => e = .returned (.bool (fieldsM m f.f2 n o)) ∧ Below w.heap.size w w' := by
  by_cases k1 : o.f0 = 1
  · exact fields_1 r m f A4 c4 n o A c w k1
  by_cases k2 : o.f0 = 2
  · exact fields_2 r m f A4 c4 n o A c w k2
  by_cases k3 : o.f0 = 3
  · exact fields_3 r m f A4 c4 n o A c w k3
  by_cases k4 : o.f0 = 4
  · exact fields_4 r m f A4 c4 n o A c w k4
  by_cases k5 : o.f0 = 5
  · exact fields_5 r m f A4 c4 n o A c w k5
  by_cases k6 : o.f0 = 6
  · exact fields_6 r m f A4 c4 n o A c w k6
  by_cases k7 : o.f0 = 7
  · exact fields_7 r m f A4 c4 n o A c w k7
  by_cases k8 : o.f0 = 8
  · exact fields_8 r m f A4 c4 n o A c w k8
  by_cases k9 : o.f0 = 9
  · exact fields_9 r m f A4 c4 n o A c w k9
  by_cases k10 : o.f0 = 10
  · exact fields_10 r m f A4 c4 n o A c w k10
  by_cases k11 : o.f0 = 11
  · exact fields_11 r m f A4 c4 n o A c w k11
  by_cases k12 : o.f0 = 12
  · exact fields_12 r m f A4 c4 n o A c w k12
  by_cases k13 : o.f0 = 13
  · exact fields_13 r m f A4 c4 n o A c w k13
  by_cases k14 : o.f0 = 14
  · exact fields_14 r m f A4 c4 n o A c w k14
  by_cases k15 : o.f0 = 15
  · exact fields_15 r m f A4 c4 n o A c w k15
  exact fields_else r m f A4 c4 n o A c w hm hs hall hf k1 k2 k3 k4 k5 k6 k7 k8 k9 k10 k11 k12 k13 k14 k15
end Go.Proofs.YtdapiibllblpbaaDoor.Code
