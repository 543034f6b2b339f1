import Derived.Test.YtdapiibllblpbaaDoorHD
import Derived.Deep.RegionWith
import Derived.Deep.RegionHeld3
namespace Go.Proofs.YtdapiibllblpbaaDoor.Code
open Go.RowKit Go.Proofs.YtdapiibllblpbaaDoorW.PrintWords Go.Proofs.YtdapiibllblpbaaDoorW.PrintLast Go.Proofs.YtdapiibllblpbaaDoorW.PrintMore Go.Proofs.YtdapiibllblpbaaDoor.PCodeAnswers
set_option linter.unusedVariables false
set_option linter.unusedSimpArgs false

theorem Eyes.drewN {w0 w : World} {r : MdR} {m : Md} {f : S39} {A4 : Option Addr} {c4 : Nat} {n : Int} {o : S42} {A : Option Addr} {c : Nat} (h : Eyes w0 w r m f A4 c4 n o A c) (k : Nat) : Eyes w0 (w.drewN k) r m f A4 c4 n o A c :=
  ⟨⟨h.hb.os, h.hb.tape, h.hb.output, h.hb.size, h.hb.block⟩, h.hv, h.ho⟩
theorem Eyes.drew {w0 w : World} {r : MdR} {m : Md} {f : S39} {A4 : Option Addr} {c4 : Nat} {n : Int} {o : S42} {A : Option Addr} {c : Nat} (h : Eyes w0 w r m f A4 c4 n o A c) : Eyes w0 w.drew r m f A4 c4 n o A c :=
  ⟨h.hb.drew, h.hv, h.ho⟩
set_option maxRecDepth 100000 in
set_option maxHeartbeats 8000000 in
theorem others_22 (r : MdR) (m : Md) (f : S39) (A4 : Option Addr) (c4 : Nat) (n : Int) (o : S42) (A : Option Addr) (c : Nat) (w : World) (hk : o.f0 = 22) (hm : MdC w r m) (hs : MdS m) (hall : m.funcs.all funcOk = true) (hf : funcOk f = true) :
    Calls Tryd.prog 59 #[.agg (vwW r m f A4 c4 n).toArray, .agg (opW o A c).toArray] w fun e w' => e = .returned (.bool (othersM m f.f2 o)) ∧ Below w.heap.size w w' := by
  have E0 := Aside0.mk (Eyes.at0 w r m f A4 c4 n o A c)
  have HM := Aside0.mk hm
  have HS := Aside0.mk hs
  have HAL := Aside0.mk hall
  have HFO := Aside0.mk hf
  clear hm hs hall hf
  have e0 : othersM m f.f2 o = (below m.funcs.length [o.f1] && (zero [o.f3, o.f4, o.f5, o.f6] && (if o.f7 = 0 then decide (o.f2 = -1) else decide (o.f7 = (fnAt m o.f1).f3) && (below f.f2 [o.f2] && decide (o.f2 ≤ f.f2 - o.f7))))) := by unfold othersM; rw [hk]; rfl
  obtain ⟨res, hres⟩ : ∃ res, othersM m f.f2 o = res := ⟨_, rfl⟩
  have HR : Aside0 (res = (below m.funcs.length [o.f1] && (zero [o.f3, o.f4, o.f5, o.f6] && (if o.f7 = 0 then decide (o.f2 = -1) else decide (o.f7 = (fnAt m o.f1).f3) && (below f.f2 [o.f2] && decide (o.f2 ≤ f.f2 - o.f7)))))) := ⟨by rw [← hres, e0]⟩
  rw [hres]
  clear e0 hres
  obtain ⟨w0, hw0⟩ : ∃ w0, (w.alloc (.cells (vwW r m f A4 c4 n).toArray 55)).alloc (.cells (opW o A c).toArray 42) = w0 := ⟨_, rfl⟩
  rw [hw0] at E0
  have o0 : w0.cell? ⟨w.heap.size + 1, 0, none⟩ = some (.int .i64 22) := (blk_cell E0.out.ho 0).trans (congrArg (fun x => some (Value.int .i64 x)) hk)
  clear hk
  have v7 : w0.cell? ⟨w.heap.size, 7, none⟩ = some (.slice r.a7 m.funcs.length r.c7) := (blk_cell E0.out.hv 7).trans rfl
  have o1 : w0.cell? ⟨w.heap.size + 1, 1, none⟩ = some (.int .i64 o.f1) := (blk_cell E0.out.ho 1).trans rfl
  obtain ⟨b0, hb0⟩ : ∃ b, below m.funcs.length [o.f1] = b := ⟨_, rfl⟩
  have C0 := Aside0.mk (below_lits (m.funcs.length) [o.f1] (w0) _ (by rfl) #[.int .i64 o.f1] rfl 1 rfl (by simp))
  rw [hb0] at C0
  have HB0 := Aside0.mk hb0
  clear hb0
  go_enter Tryd.func59, Tryd.ntmps59
  go_wp2_with fail
  refine C0.out.mono ?_
  rintro e w1 ⟨rfl, b⟩
  have E1 := Aside0.mk (E0.out.then b)
  clear b C0 v7 o1 hw0 o0
  cases b0 with
  | false =>
    go_wp2_with fail
    go_ret
    exact ⟨by rw [HR.out, HB0.out]; rfl, E1.out.hb⟩
  | true =>
    have o3 : w1.cell? ⟨w.heap.size + 1, 3, none⟩ = some (.int .i64 o.f3) := (blk_cell E1.out.ho 3).trans rfl
    have o4 : w1.cell? ⟨w.heap.size + 1, 4, none⟩ = some (.int .i64 o.f4) := (blk_cell E1.out.ho 4).trans rfl
    have o5 : w1.cell? ⟨w.heap.size + 1, 5, none⟩ = some (.int .i64 o.f5) := (blk_cell E1.out.ho 5).trans rfl
    have o6 : w1.cell? ⟨w.heap.size + 1, 6, none⟩ = some (.int .i64 o.f6) := (blk_cell E1.out.ho 6).trans rfl
    obtain ⟨b1, hb1⟩ : ∃ b, zero [o.f3, o.f4, o.f5, o.f6] = b := ⟨_, rfl⟩
    have C1 := Aside0.mk (zero_lits [o.f3, o.f4, o.f5, o.f6] (w1) _ (by rfl) #[.int .i64 o.f3, .int .i64 o.f4, .int .i64 o.f5, .int .i64 o.f6] rfl 4 rfl (by simp))
    rw [hb1] at C1
    have HB1 := Aside0.mk hb1
    clear hb1
    go_wp2_with fail
    refine C1.out.mono ?_
    rintro e w2 ⟨rfl, b⟩
    have E2 := Aside0.mk (E1.out.then b)
    clear b C1 o3 o4 o5 o6
    cases b1 with
    | false =>
      go_wp2_with fail
      go_ret
      exact ⟨by rw [HR.out, HB0.out, HB1.out]; rfl, E2.out.hb⟩
    | true =>
      have o7 : w2.cell? ⟨w.heap.size + 1, 7, none⟩ = some (.int .i64 o.f7) := (blk_cell E2.out.ho 7).trans rfl
      have o2 : w2.cell? ⟨w.heap.size + 1, 2, none⟩ = some (.int .i64 o.f2) := (blk_cell E2.out.ho 2).trans rfl
      have o1 : w2.cell? ⟨w.heap.size + 1, 1, none⟩ = some (.int .i64 o.f1) := (blk_cell E2.out.ho 1).trans rfl
      by_cases z : o.f7 = 0
      · have HZ := Aside0.mk z
        have o7' : w2.cell? ⟨w.heap.size + 1, 7, none⟩ = some (.int .i64 0) := o7.trans (congrArg (fun x => some (Value.int .i64 x)) z)
        clear o7 z
        go_wp2_with fail
        go_ret
        exact ⟨by rw [HR.out, HB0.out, HB1.out, if_pos HZ.out]; exact congrArg (fun b => Ending.returned (.bool b)) ((by rw [Bool.eq_iff_iff]; simp : (o.f2 == -1) = (true && (true && decide (o.f2 = -1))))), E2.out.hb⟩
      · have zb : (o.f7 == 0) = false := beq_eq_false_iff_ne.2 z
        have HZ := Aside0.mk z
        have hr := HB0.out
        have h0 : 0 ≤ o.f1 := by simp [below] at hr; omega
        have h1 : o.f1 < m.funcs.length := by simp [below] at hr; omega
        clear hr
        have v0 : w2.cell? ⟨w.heap.size, 0, none⟩ = some (.slice r.a0 m.globals.length r.c0) := (blk_cell E2.out.hv 0).trans rfl
        have v1 : w2.cell? ⟨w.heap.size, 1, none⟩ = some (.slice r.a1 m.structs.length r.c1) := (blk_cell E2.out.hv 1).trans rfl
        have v2 : w2.cell? ⟨w.heap.size, 2, none⟩ = some (.slice r.a2 m.chans.length r.c2) := (blk_cell E2.out.hv 2).trans rfl
        have v3 : w2.cell? ⟨w.heap.size, 3, none⟩ = some (.slice r.a3 m.locks.length r.c3) := (blk_cell E2.out.hv 3).trans rfl
        have v4 : w2.cell? ⟨w.heap.size, 4, none⟩ = some (.slice r.a4 m.inputs.length r.c4) := (blk_cell E2.out.hv 4).trans rfl
        have v5 : w2.cell? ⟨w.heap.size, 5, none⟩ = some (.slice r.a5 m.sinks.length r.c5) := (blk_cell E2.out.hv 5).trans rfl
        have v6 : w2.cell? ⟨w.heap.size, 6, none⟩ = some (.slice r.a6 m.hatches.length r.c6) := (blk_cell E2.out.hv 6).trans rfl
        have v7 : w2.cell? ⟨w.heap.size, 7, none⟩ = some (.slice r.a7 m.funcs.length r.c7) := (blk_cell E2.out.hv 7).trans rfl
        have v8 : w2.cell? ⟨w.heap.size, 8, none⟩ = some (.slice r.a8 m.threads.length r.c8) := (blk_cell E2.out.hv 8).trans rfl
        have v9 : w2.cell? ⟨w.heap.size, 9, none⟩ = some (.string f.f0) := (blk_cell E2.out.hv 9).trans rfl
        have v10 : w2.cell? ⟨w.heap.size, 10, none⟩ = some (.int .i64 f.f1) := (blk_cell E2.out.hv 10).trans rfl
        have v11 : w2.cell? ⟨w.heap.size, 11, none⟩ = some (.int .i64 f.f2) := (blk_cell E2.out.hv 11).trans rfl
        have v12 : w2.cell? ⟨w.heap.size, 12, none⟩ = some (.int .i64 f.f3) := (blk_cell E2.out.hv 12).trans rfl
        have v13 : w2.cell? ⟨w.heap.size, 13, none⟩ = some (.slice A4 f.f4.length c4) := (blk_cell E2.out.hv 13).trans rfl
        have v14 : w2.cell? ⟨w.heap.size, 14, none⟩ = some (.int .i64 n) := (blk_cell E2.out.hv 14).trans rfl
        obtain ⟨ad, A5, c5, eA, d0, d1, d2, d3, d4, hl4, h4⟩ := at_T39 (HM.out.below E2.out.hb).h7 o.f1 h0 h1
        clear d0 d1 d2 d4 hl4 h4
        rw [eA] at v7
        have HAD := Aside0.mk eA
        clear eA
        obtain ⟨q, hq⟩ : ∃ q, (rd_T39 m.funcs o.f1).f3 = q := ⟨_, rfl⟩
        rw [hq] at d3
        have HQ : Aside0 ((fnAt m o.f1).f3 = q) := ⟨hq⟩
        have DD : Aside0 (∀ w', Aside0 (Eyes w w' r m f A4 c4 n o A c) → w'.cell? ⟨(ad.add (o.f1.toNat * 5)).block, (ad.add (o.f1.toNat * 5)).off + 3, none⟩ = some (.int .i64 q)) := by
          refine ⟨fun w' h => ?_⟩
          obtain ⟨ad', A6, c6, eA', e0, e1, e2, e3, _⟩ := at_T39 (HM.out.below h.out.hb).h7 o.f1 h0 h1
          rw [HAD.out] at eA'
          cases eA'
          rw [hq] at e3
          exact e3
        clear hq
        obtain ⟨b2, hb2⟩ : ∃ b, (o.f7 == q) = b := ⟨_, rfl⟩
        have HB2 : Aside0 (decide (o.f7 = q) = b2) := ⟨by rw [← hb2, Bool.eq_iff_iff]; simp⟩
        clear z
        cases b2 with
        | false =>
          go_wp2_with fail
          clear v0 v1 v2 v3 v4 v5 v6 v8 v9 v10 v11 v12 v13 v14 o2
          go_quiet (fail)
          go_wp2_with fail
          go_ret
          exact ⟨by rw [HR.out, HB0.out, HB1.out, if_neg HZ.out, HQ.out, HB2.out]; rfl, (E2.out.drewN _).hb⟩
        | true =>
          obtain ⟨b3, hb3⟩ : ∃ b, below f.f2 [o.f2] = b := ⟨_, rfl⟩
          have C3 : Aside0 (∀ W, Calls Tryd.prog 49 #[.agg (vwW {r with a7 := some ad} m f A4 c4 n).toArray, .slice (some ⟨W.heap.size, 0, none⟩) 1 1] ((W.alloc (.cells #[.int .i64 o.f2] 3)).drew) fun e w' => e = .returned (.bool b3) ∧ Below W.heap.size W w') := ⟨fun W => by have := regs_lits {r with a7 := some ad} m f A4 c4 n [o.f2] W.drew _ rfl #[.int .i64 o.f2] rfl 1 rfl (by simp); rw [hb3] at this; exact this.mono (fun e w' h => ⟨h.1, ⟨h.2.os, h.2.tape, h.2.output, h.2.size, h.2.block⟩⟩)⟩
          have HB3 := Aside0.mk hb3
          clear hb3
          have KEEP : Aside0 (∀ w', Aside0 (Eyes w w' r m f A4 c4 n o A c) → w'.cell? ⟨w.heap.size, 0, none⟩ = some (.slice r.a0 m.globals.length r.c0) ∧ w'.cell? ⟨w.heap.size, 1, none⟩ = some (.slice r.a1 m.structs.length r.c1) ∧ w'.cell? ⟨w.heap.size, 2, none⟩ = some (.slice r.a2 m.chans.length r.c2) ∧ w'.cell? ⟨w.heap.size, 3, none⟩ = some (.slice r.a3 m.locks.length r.c3) ∧ w'.cell? ⟨w.heap.size, 4, none⟩ = some (.slice r.a4 m.inputs.length r.c4) ∧ w'.cell? ⟨w.heap.size, 5, none⟩ = some (.slice r.a5 m.sinks.length r.c5) ∧ w'.cell? ⟨w.heap.size, 6, none⟩ = some (.slice r.a6 m.hatches.length r.c6) ∧ w'.cell? ⟨w.heap.size, 7, none⟩ = some (.slice (some ad) m.funcs.length r.c7) ∧ w'.cell? ⟨w.heap.size, 8, none⟩ = some (.slice r.a8 m.threads.length r.c8) ∧ w'.cell? ⟨w.heap.size, 9, none⟩ = some (.string f.f0) ∧ w'.cell? ⟨w.heap.size, 10, none⟩ = some (.int .i64 f.f1) ∧ w'.cell? ⟨w.heap.size, 11, none⟩ = some (.int .i64 f.f2) ∧ w'.cell? ⟨w.heap.size, 12, none⟩ = some (.int .i64 f.f3) ∧ w'.cell? ⟨w.heap.size, 13, none⟩ = some (.slice A4 f.f4.length c4) ∧ w'.cell? ⟨w.heap.size, 14, none⟩ = some (.int .i64 n) ∧ w'.cell? ⟨w.heap.size + 1, 1, none⟩ = some (.int .i64 o.f1) ∧ w'.cell? ⟨w.heap.size + 1, 2, none⟩ = some (.int .i64 o.f2) ∧ w'.cell? ⟨w.heap.size + 1, 7, none⟩ = some (.int .i64 o.f7) ∧ w'.cell? ⟨(ad.add (o.f1.toNat * 5)).block, (ad.add (o.f1.toNat * 5)).off + 3, none⟩ = some (.int .i64 q) ∧ Aside0 (Eyes w w' r m f A4 c4 n o A c)) := ⟨fun w' h => ⟨(blk_cell h.out.hv 0).trans rfl, (blk_cell h.out.hv 1).trans rfl, (blk_cell h.out.hv 2).trans rfl, (blk_cell h.out.hv 3).trans rfl, (blk_cell h.out.hv 4).trans rfl, (blk_cell h.out.hv 5).trans rfl, (blk_cell h.out.hv 6).trans rfl, (blk_cell h.out.hv 7).trans (congrArg (fun x => some (Value.slice x m.funcs.length r.c7)) HAD.out), (blk_cell h.out.hv 8).trans rfl, (blk_cell h.out.hv 9).trans rfl, (blk_cell h.out.hv 10).trans rfl, (blk_cell h.out.hv 11).trans rfl, (blk_cell h.out.hv 12).trans rfl, (blk_cell h.out.hv 13).trans rfl, (blk_cell h.out.hv 14).trans rfl, (blk_cell h.out.ho 1).trans rfl, (blk_cell h.out.ho 2).trans rfl, (blk_cell h.out.ho 7).trans rfl, DD.out w' h, h⟩⟩
          have DW : Aside0 (Eyes w w2.drew r m f A4 c4 n o A c) := ⟨E2.out.drew⟩
          have TH : Aside0 (∀ W W', Aside0 (Eyes w W r m f A4 c4 n o A c) → Below W.heap.size W W' → Aside0 (Eyes w W' r m f A4 c4 n o A c)) := ⟨fun W W' h b => ⟨h.out.then b⟩⟩
          have TD : Aside0 (∀ W, Aside0 (Eyes w W r m f A4 c4 n o A c) → Aside0 (Eyes w W.drew r m f A4 c4 n o A c)) := ⟨fun W h => ⟨h.out.drew⟩⟩
          have TA : Aside0 (∀ W O, Aside0 (Eyes w W r m f A4 c4 n o A c) → Aside0 (Eyes w (W.alloc O) r m f A4 c4 n o A c)) := ⟨fun W O h => ⟨h.out.then (below_alloc (Below.refl _ _) O)⟩⟩
          cases b3 with
          | false =>
            go_wp2_with fail
            refine wp_region_noPanic ?_
            refine wp_region_held_drew (S := (fun w' => w'.cell? ⟨w.heap.size, 0, none⟩ = some (.slice r.a0 m.globals.length r.c0) ∧ w'.cell? ⟨w.heap.size, 1, none⟩ = some (.slice r.a1 m.structs.length r.c1) ∧ w'.cell? ⟨w.heap.size, 2, none⟩ = some (.slice r.a2 m.chans.length r.c2) ∧ w'.cell? ⟨w.heap.size, 3, none⟩ = some (.slice r.a3 m.locks.length r.c3) ∧ w'.cell? ⟨w.heap.size, 4, none⟩ = some (.slice r.a4 m.inputs.length r.c4) ∧ w'.cell? ⟨w.heap.size, 5, none⟩ = some (.slice r.a5 m.sinks.length r.c5) ∧ w'.cell? ⟨w.heap.size, 6, none⟩ = some (.slice r.a6 m.hatches.length r.c6) ∧ w'.cell? ⟨w.heap.size, 7, none⟩ = some (.slice (some ad) m.funcs.length r.c7) ∧ w'.cell? ⟨w.heap.size, 8, none⟩ = some (.slice r.a8 m.threads.length r.c8) ∧ w'.cell? ⟨w.heap.size, 9, none⟩ = some (.string f.f0) ∧ w'.cell? ⟨w.heap.size, 10, none⟩ = some (.int .i64 f.f1) ∧ w'.cell? ⟨w.heap.size, 11, none⟩ = some (.int .i64 f.f2) ∧ w'.cell? ⟨w.heap.size, 12, none⟩ = some (.int .i64 f.f3) ∧ w'.cell? ⟨w.heap.size, 13, none⟩ = some (.slice A4 f.f4.length c4) ∧ w'.cell? ⟨w.heap.size, 14, none⟩ = some (.int .i64 n) ∧ w'.cell? ⟨w.heap.size + 1, 1, none⟩ = some (.int .i64 o.f1) ∧ w'.cell? ⟨w.heap.size + 1, 2, none⟩ = some (.int .i64 o.f2) ∧ w'.cell? ⟨w.heap.size + 1, 7, none⟩ = some (.int .i64 o.f7) ∧ w'.cell? ⟨(ad.add (o.f1.toNat * 5)).block, (ad.add (o.f1.toNat * 5)).off + 3, none⟩ = some (.int .i64 q) ∧ Aside0 (Eyes w w' r m f A4 c4 n o A c))) (by kernel_rfl) (KEEP.out _ (TD.out _ E2)) (fun hHeld => ?_)
            refine wpAnyH_take (i := 0) (oi := { dst := some 180, op := Op.fieldAddr 42 (Operand.tmp 3) 7, type := 0, pos := "code.go:87", after := #[], guard := none }) (v := ?_) rfl (by kernel_rfl) (by kernel_rfl) (by kernel_rfl) (fun _ _ _ h => h) (Or.inl ⟨by rfl, ?_⟩) (by assumption) ?_
            rotate_left
            · first | (intro w hSw; (try dsimp only at hSw); go_simp; done) | (intro w hSw; (try dsimp only at hSw); go_simp; with_reducible rfl)
            try simp only [Act.put, List.setIfInBounds_toArray, List.set_cons_zero, List.set_cons_succ]
            refine wpAnyH_take (i := 1) (oi := { dst := some 181, op := Op.load 3 (Operand.tmp 180), type := 3, pos := "code.go:87", after := #[{ on := 0, ground := Ground.data }], guard := none }) (v := ?_) rfl (by kernel_rfl) (by kernel_rfl) (by kernel_rfl) (fun _ _ _ h => h) (Or.inl ⟨by rfl, ?_⟩) (by assumption) ?_
            rotate_left
            · first | (intro w hSw; (try dsimp only at hSw); go_simp; done) | (intro w hSw; (try dsimp only at hSw); go_simp; with_reducible rfl)
            try simp only [Act.put, List.setIfInBounds_toArray, List.set_cons_zero, List.set_cons_succ]
            refine wpAnyH_take (i := 2) (oi := { dst := some 182, op := Op.fieldAddr 55 (Operand.tmp 2) 0, type := 0, pos := "code.go:87", after := #[], guard := none }) (v := ?_) rfl (by kernel_rfl) (by kernel_rfl) (by kernel_rfl) (fun _ _ _ h => h) (Or.inl ⟨by rfl, ?_⟩) (by assumption) ?_
            rotate_left
            · first | (intro w hSw; (try dsimp only at hSw); go_simp; done) | (intro w hSw; (try dsimp only at hSw); go_simp; with_reducible rfl)
            try simp only [Act.put, List.setIfInBounds_toArray, List.set_cons_zero, List.set_cons_succ]
            refine wpAnyH_take (i := 3) (oi := { dst := some 183, op := Op.fieldAddr 27 (Operand.tmp 182) 7, type := 0, pos := "code.go:87", after := #[{ on := 2, ground := Ground.data }], guard := none }) (v := ?_) rfl (by kernel_rfl) (by kernel_rfl) (by kernel_rfl) (fun _ _ _ h => h) (Or.inl ⟨by rfl, ?_⟩) (by assumption) ?_
            rotate_left
            · first | (intro w hSw; (try dsimp only at hSw); go_simp; done) | (intro w hSw; (try dsimp only at hSw); go_simp; with_reducible rfl)
            try simp only [Act.put, List.setIfInBounds_toArray, List.set_cons_zero, List.set_cons_succ]
            refine wpAnyH_take (i := 4) (oi := { dst := some 184, op := Op.load 24 (Operand.tmp 183), type := 24, pos := "code.go:87", after := #[{ on := 3, ground := Ground.data }], guard := none }) (v := ?_) rfl (by kernel_rfl) (by kernel_rfl) (by kernel_rfl) (fun _ _ _ h => h) (Or.inl ⟨by rfl, ?_⟩) (by assumption) ?_
            rotate_left
            · first | (intro w hSw; (try dsimp only at hSw); go_simp; done) | (intro w hSw; (try dsimp only at hSw); go_simp; with_reducible rfl)
            try simp only [Act.put, List.setIfInBounds_toArray, List.set_cons_zero, List.set_cons_succ]
            refine wpAnyH_take (i := 5) (oi := { dst := some 185, op := Op.fieldAddr 42 (Operand.tmp 3) 1, type := 0, pos := "code.go:87", after := #[], guard := none }) (v := ?_) rfl (by kernel_rfl) (by kernel_rfl) (by kernel_rfl) (fun _ _ _ h => h) (Or.inl ⟨by rfl, ?_⟩) (by assumption) ?_
            rotate_left
            · first | (intro w hSw; (try dsimp only at hSw); go_simp; done) | (intro w hSw; (try dsimp only at hSw); go_simp; with_reducible rfl)
            try simp only [Act.put, List.setIfInBounds_toArray, List.set_cons_zero, List.set_cons_succ]
            refine wpAnyH_take (i := 6) (oi := { dst := some 186, op := Op.load 3 (Operand.tmp 185), type := 3, pos := "code.go:87", after := #[{ on := 5, ground := Ground.data }], guard := none }) (v := ?_) rfl (by kernel_rfl) (by kernel_rfl) (by kernel_rfl) (fun _ _ _ h => h) (Or.inl ⟨by rfl, ?_⟩) (by assumption) ?_
            rotate_left
            · first | (intro w hSw; (try dsimp only at hSw); go_simp; done) | (intro w hSw; (try dsimp only at hSw); go_simp; with_reducible rfl)
            try simp only [Act.put, List.setIfInBounds_toArray, List.set_cons_zero, List.set_cons_succ]
            refine wpAnyH_take (i := 7) (oi := { dst := some 187, op := Op.indexAddr 24 (Operand.tmp 184) (Operand.tmp 186), type := 0, pos := "code.go:87", after := #[{ on := 4, ground := Ground.data }, { on := 6, ground := Ground.data }], guard := none }) (v := ?_) rfl (by kernel_rfl) (by kernel_rfl) (by kernel_rfl) (fun _ _ _ h => h) (Or.inl ⟨by rfl, ?_⟩) (by assumption) ?_
            rotate_left
            · first | (intro w hSw; (try dsimp only at hSw); go_simp; done) | (intro w hSw; (try dsimp only at hSw); go_simp; with_reducible rfl)
            try simp only [Act.put, List.setIfInBounds_toArray, List.set_cons_zero, List.set_cons_succ]
            refine wpAnyH_take (i := 8) (oi := { dst := some 188, op := Op.fieldAddr 39 (Operand.tmp 187) 3, type := 0, pos := "code.go:87", after := #[{ on := 7, ground := Ground.data }], guard := none }) (v := ?_) rfl (by kernel_rfl) (by kernel_rfl) (by kernel_rfl) (fun _ _ _ h => h) (Or.inl ⟨by rfl, ?_⟩) (by assumption) ?_
            rotate_left
            · first | (intro w hSw; (try dsimp only at hSw); go_simp; done) | (intro w hSw; (try dsimp only at hSw); go_simp; with_reducible rfl)
            try simp only [Act.put, List.setIfInBounds_toArray, List.set_cons_zero, List.set_cons_succ]
            refine wpAnyH_take (i := 9) (oi := { dst := some 189, op := Op.load 3 (Operand.tmp 188), type := 3, pos := "code.go:87", after := #[{ on := 8, ground := Ground.data }], guard := none }) (v := ?_) rfl (by kernel_rfl) (by kernel_rfl) (by kernel_rfl) (fun _ _ _ h => h) (Or.inl ⟨by rfl, ?_⟩) (by assumption) ?_
            rotate_left
            · first | (intro w hSw; (try dsimp only at hSw); go_simp; done) | (intro w hSw; (try dsimp only at hSw); go_simp; with_reducible rfl)
            try simp only [Act.put, List.setIfInBounds_toArray, List.set_cons_zero, List.set_cons_succ]
            refine wpAnyH_take (i := 10) (oi := { dst := some 190, op := Op.binOp BinOp.eql 3 (Operand.tmp 181) (Operand.tmp 189) 3, type := 4, pos := "code.go:87", after := #[{ on := 1, ground := Ground.data }, { on := 9, ground := Ground.data }], guard := none }) (v := ?_) rfl (by kernel_rfl) (by kernel_rfl) (by kernel_rfl) (fun _ _ _ h => h) (Or.inl ⟨by rfl, ?_⟩) (by assumption) ?_
            rotate_left
            · first | (intro w hSw; (try dsimp only at hSw); go_simp; done) | (intro w hSw; (try dsimp only at hSw); go_simp; with_reducible rfl)
            try simp only [Act.put, List.setIfInBounds_toArray, List.set_cons_zero, List.set_cons_succ]
            refine wpAnyH_take (i := 11) (oi := { dst := some 191, op := Op.move (Operand.tmp 190), type := 4, pos := "code.go:87", after := #[{ on := 10, ground := Ground.data }], guard := none }) (v := ?_) rfl (by kernel_rfl) (by kernel_rfl) (by kernel_rfl) (fun _ _ _ h => h) (Or.inl ⟨by rfl, ?_⟩) (by assumption) ?_
            rotate_left
            · first | (intro w hSw; (try dsimp only at hSw); go_simp; done) | (intro w hSw; (try dsimp only at hSw); go_simp; with_reducible rfl)
            try simp only [Act.put, List.setIfInBounds_toArray, List.set_cons_zero, List.set_cons_succ]
            refine wpAnyH_take (i := 12) (oi := { dst := some 192, op := Op.load 55 (Operand.tmp 2), type := 55, pos := "code.go:87", after := #[{ on := 11, ground := Ground.guard }], guard := some (11, true) }) (v := ?_) rfl (by kernel_rfl) (by kernel_rfl) (by kernel_rfl) (fun _ _ _ h => h) (Or.inl ⟨by rfl, ?_⟩) (by assumption) ?_
            rotate_left
            · first | (intro w hSw; (try dsimp only at hSw); go_simp; done) | (intro w hSw; (try dsimp only at hSw); go_simp; with_reducible rfl)
            try simp only [Act.put, List.setIfInBounds_toArray, List.set_cons_zero, List.set_cons_succ]
            refine wpAnyH_take (i := 13) (oi := { dst := some 193, op := Op.fieldAddr 42 (Operand.tmp 3) 2, type := 0, pos := "code.go:87", after := #[{ on := 11, ground := Ground.guard }], guard := some (11, true) }) (v := ?_) rfl (by kernel_rfl) (by kernel_rfl) (by kernel_rfl) (fun _ _ _ h => h) (Or.inl ⟨by rfl, ?_⟩) (by assumption) ?_
            rotate_left
            · first | (intro w hSw; (try dsimp only at hSw); go_simp; done) | (intro w hSw; (try dsimp only at hSw); go_simp; with_reducible rfl)
            try simp only [Act.put, List.setIfInBounds_toArray, List.set_cons_zero, List.set_cons_succ]
            refine wpAnyH_take (i := 14) (oi := { dst := some 194, op := Op.load 3 (Operand.tmp 193), type := 3, pos := "code.go:87", after := #[{ on := 13, ground := Ground.data }, { on := 11, ground := Ground.guard }], guard := some (11, true) }) (v := ?_) rfl (by kernel_rfl) (by kernel_rfl) (by kernel_rfl) (fun _ _ _ h => h) (Or.inl ⟨by rfl, ?_⟩) (by assumption) ?_
            rotate_left
            · first | (intro w hSw; (try dsimp only at hSw); go_simp; done) | (intro w hSw; (try dsimp only at hSw); go_simp; with_reducible rfl)
            try simp only [Act.put, List.setIfInBounds_toArray, List.set_cons_zero, List.set_cons_succ]
            refine wpAnyH_ready (rs := [15]) (by kernel_rfl) (by simp) ?_
            refine AllReadyH.cons (o := { dst := some 195, op := Op.buildSlice 25 1 #[(0, Operand.tmp 194)], type := 25, pos := "code.go:87", after := #[{ on := 14, ground := Ground.data }, { on := 11, ground := Ground.guard }], guard := some (11, true) }) rfl (fun K hK => ?_) AllReadyH.nil
            go_simp
            refine hK.out _ _ ?_ (fun hHeld => ?_)
            · exact KEEP.out _ (TD.out _ (TA.out _ _ E2))
            clear hK K
            try simp only [Act.put, List.setIfInBounds_toArray, List.set_cons_zero, List.set_cons_succ]
            refine wpAnyH_ready (rs := [16]) (by kernel_rfl) (by simp) ?_
            refine AllReadyH.cons (o := { dst := some 196, op := Op.call { callee := Callee.value (Operand.func 49), args := #[Operand.tmp 192, Operand.tmp 195], argTypes := #[55, 25] }, type := 4, pos := "code.go:87", after := #[{ on := 12, ground := Ground.data }, { on := 15, ground := Ground.data }, { on := 11, ground := Ground.chain }, { on := 11, ground := Ground.guard }], guard := some (11, true) }) rfl (fun K hK => ?_) AllReadyH.nil
            go_simp
            refine (C3.out _).mono ?_
            rintro e w3 ⟨rfl, b⟩
            have z := TH.out _ _ E2 b
            clear b
            go_wp2_with fail
            refine hK.out _ _ ?_ (fun hHeld => ?_)
            · exact KEEP.out _ z
            clear hK K
            try simp only [Act.put, List.setIfInBounds_toArray, List.set_cons_zero, List.set_cons_succ]
            refine wpAnyH_take (i := 17) (oi := { dst := some 197, op := Op.pick (Operand.tmp 191) (Operand.tmp 196) (Operand.const (Value.bool false)), type := 4, pos := "code.go:87", after := #[{ on := 11, ground := Ground.data }, { on := 16, ground := Ground.data }], guard := none }) (v := ?_) rfl (by kernel_rfl) (by kernel_rfl) (by kernel_rfl) (fun _ _ _ h => h) (Or.inl ⟨by rfl, ?_⟩) (by assumption) ?_
            rotate_left
            · first | (intro w hSw; (try dsimp only at hSw); go_simp; done) | (intro w hSw; (try dsimp only at hSw); go_simp; with_reducible rfl)
            try simp only [Act.put, List.setIfInBounds_toArray, List.set_cons_zero, List.set_cons_succ]
            refine wpAnyH_take (i := 18) (oi := { dst := some 198, op := Op.move (Operand.tmp 197), type := 4, pos := "code.go:87", after := #[{ on := 17, ground := Ground.data }, { on := 16, ground := Ground.chain }], guard := none }) (v := ?_) rfl (by kernel_rfl) (by kernel_rfl) (by kernel_rfl) (fun _ _ _ h => h) (Or.inl ⟨by rfl, ?_⟩) (by assumption) ?_
            rotate_left
            · first | (intro w hSw; (try dsimp only at hSw); go_simp; done) | (intro w hSw; (try dsimp only at hSw); go_simp; with_reducible rfl)
            try simp only [Act.put, List.setIfInBounds_toArray, List.set_cons_zero, List.set_cons_succ]
            refine wpAnyH_take (i := 19) (oi := { dst := some 199, op := Op.fieldAddr 42 (Operand.tmp 3) 2, type := 0, pos := "code.go:87", after := #[{ on := 18, ground := Ground.guard }], guard := some (18, true) }) (v := undef) rfl (by kernel_rfl) (by kernel_rfl) (by kernel_rfl) (fun _ _ _ h => h) (Or.inr ⟨by rfl, rfl⟩) (by assumption) ?_
            try simp only [Act.put, List.setIfInBounds_toArray, List.set_cons_zero, List.set_cons_succ]
            refine wpAnyH_take (i := 20) (oi := { dst := some 200, op := Op.load 3 (Operand.tmp 199), type := 3, pos := "code.go:87", after := #[{ on := 19, ground := Ground.data }, { on := 18, ground := Ground.guard }], guard := some (18, true) }) (v := undef) rfl (by kernel_rfl) (by kernel_rfl) (by kernel_rfl) (fun _ _ _ h => h) (Or.inr ⟨by rfl, rfl⟩) (by assumption) ?_
            try simp only [Act.put, List.setIfInBounds_toArray, List.set_cons_zero, List.set_cons_succ]
            refine wpAnyH_take (i := 21) (oi := { dst := some 201, op := Op.fieldAddr 55 (Operand.tmp 2) 1, type := 0, pos := "code.go:87", after := #[{ on := 18, ground := Ground.guard }], guard := some (18, true) }) (v := undef) rfl (by kernel_rfl) (by kernel_rfl) (by kernel_rfl) (fun _ _ _ h => h) (Or.inr ⟨by rfl, rfl⟩) (by assumption) ?_
            try simp only [Act.put, List.setIfInBounds_toArray, List.set_cons_zero, List.set_cons_succ]
            refine wpAnyH_take (i := 22) (oi := { dst := some 202, op := Op.fieldAddr 39 (Operand.tmp 201) 2, type := 0, pos := "code.go:87", after := #[{ on := 21, ground := Ground.data }, { on := 18, ground := Ground.guard }], guard := some (18, true) }) (v := undef) rfl (by kernel_rfl) (by kernel_rfl) (by kernel_rfl) (fun _ _ _ h => h) (Or.inr ⟨by rfl, rfl⟩) (by assumption) ?_
            try simp only [Act.put, List.setIfInBounds_toArray, List.set_cons_zero, List.set_cons_succ]
            refine wpAnyH_take (i := 23) (oi := { dst := some 203, op := Op.load 3 (Operand.tmp 202), type := 3, pos := "code.go:87", after := #[{ on := 22, ground := Ground.data }, { on := 18, ground := Ground.guard }], guard := some (18, true) }) (v := undef) rfl (by kernel_rfl) (by kernel_rfl) (by kernel_rfl) (fun _ _ _ h => h) (Or.inr ⟨by rfl, rfl⟩) (by assumption) ?_
            try simp only [Act.put, List.setIfInBounds_toArray, List.set_cons_zero, List.set_cons_succ]
            refine wpAnyH_take (i := 24) (oi := { dst := some 204, op := Op.fieldAddr 42 (Operand.tmp 3) 7, type := 0, pos := "code.go:87", after := #[{ on := 18, ground := Ground.guard }], guard := some (18, true) }) (v := undef) rfl (by kernel_rfl) (by kernel_rfl) (by kernel_rfl) (fun _ _ _ h => h) (Or.inr ⟨by rfl, rfl⟩) (by assumption) ?_
            try simp only [Act.put, List.setIfInBounds_toArray, List.set_cons_zero, List.set_cons_succ]
            refine wpAnyH_take (i := 25) (oi := { dst := some 205, op := Op.load 3 (Operand.tmp 204), type := 3, pos := "code.go:87", after := #[{ on := 24, ground := Ground.data }, { on := 18, ground := Ground.guard }], guard := some (18, true) }) (v := undef) rfl (by kernel_rfl) (by kernel_rfl) (by kernel_rfl) (fun _ _ _ h => h) (Or.inr ⟨by rfl, rfl⟩) (by assumption) ?_
            try simp only [Act.put, List.setIfInBounds_toArray, List.set_cons_zero, List.set_cons_succ]
            refine wpAnyH_take (i := 26) (oi := { dst := some 206, op := Op.binOp BinOp.sub 3 (Operand.tmp 203) (Operand.tmp 205) 3, type := 3, pos := "code.go:87", after := #[{ on := 23, ground := Ground.data }, { on := 25, ground := Ground.data }, { on := 18, ground := Ground.guard }], guard := some (18, true) }) (v := undef) rfl (by kernel_rfl) (by kernel_rfl) (by kernel_rfl) (fun _ _ _ h => h) (Or.inr ⟨by rfl, rfl⟩) (by assumption) ?_
            try simp only [Act.put, List.setIfInBounds_toArray, List.set_cons_zero, List.set_cons_succ]
            refine wpAnyH_take (i := 27) (oi := { dst := some 207, op := Op.binOp BinOp.leq 3 (Operand.tmp 200) (Operand.tmp 206) 3, type := 4, pos := "code.go:87", after := #[{ on := 20, ground := Ground.data }, { on := 26, ground := Ground.data }, { on := 18, ground := Ground.guard }], guard := some (18, true) }) (v := undef) rfl (by kernel_rfl) (by kernel_rfl) (by kernel_rfl) (fun _ _ _ h => h) (Or.inr ⟨by rfl, rfl⟩) (by assumption) ?_
            try simp only [Act.put, List.setIfInBounds_toArray, List.set_cons_zero, List.set_cons_succ]
            refine wpAnyH_take (i := 28) (oi := { dst := some 208, op := Op.pick (Operand.tmp 198) (Operand.tmp 207) (Operand.const (Value.bool false)), type := 4, pos := "code.go:87", after := #[{ on := 18, ground := Ground.data }, { on := 27, ground := Ground.data }], guard := none }) (v := ?_) rfl (by kernel_rfl) (by kernel_rfl) (by kernel_rfl) (fun _ _ _ h => h) (Or.inl ⟨by rfl, ?_⟩) (by assumption) ?_
            rotate_left
            · first | (intro w hSw; (try dsimp only at hSw); go_simp; done) | (intro w hSw; (try dsimp only at hSw); go_simp; with_reducible rfl)
            try simp only [Act.put, List.setIfInBounds_toArray, List.set_cons_zero, List.set_cons_succ]
            refine wpAnyH_take (i := 29) (oi := { dst := some 4, op := Op.assign (Operand.tmp 208), type := 4, pos := "code.go:87", after := #[{ on := 28, ground := Ground.data }, { on := 18, ground := Ground.chain }, { on := 0, ground := Ground.phase }, { on := 1, ground := Ground.phase }, { on := 2, ground := Ground.phase }, { on := 3, ground := Ground.phase }, { on := 4, ground := Ground.phase }, { on := 5, ground := Ground.phase }, { on := 6, ground := Ground.phase }, { on := 7, ground := Ground.phase }, { on := 8, ground := Ground.phase }, { on := 9, ground := Ground.phase }, { on := 10, ground := Ground.phase }, { on := 11, ground := Ground.phase }, { on := 12, ground := Ground.phase }, { on := 13, ground := Ground.phase }, { on := 14, ground := Ground.phase }, { on := 15, ground := Ground.phase }, { on := 16, ground := Ground.phase }, { on := 17, ground := Ground.phase }, { on := 18, ground := Ground.phase }, { on := 19, ground := Ground.phase }, { on := 20, ground := Ground.phase }, { on := 21, ground := Ground.phase }, { on := 22, ground := Ground.phase }, { on := 23, ground := Ground.phase }, { on := 24, ground := Ground.phase }, { on := 25, ground := Ground.phase }, { on := 26, ground := Ground.phase }, { on := 27, ground := Ground.phase }, { on := 28, ground := Ground.phase }], guard := none }) (v := ?_) rfl (by kernel_rfl) (by kernel_rfl) (by kernel_rfl) (fun _ _ _ h => h) (Or.inl ⟨by rfl, ?_⟩) (by assumption) ?_
            rotate_left
            · first | (intro w hSw; (try dsimp only at hSw); go_simp; done) | (intro w hSw; (try dsimp only at hSw); go_simp; with_reducible rfl)
            try simp only [Act.put, List.setIfInBounds_toArray, List.set_cons_zero, List.set_cons_succ]
            refine wpAnyH_done (by kernel_rfl) ?_ _
            refine NoPanic.normal ?_
            go_wp2_with fail
            go_ret
            exact ⟨by rw [HR.out, HB0.out, HB1.out, if_neg HZ.out, HQ.out, HB2.out, HB3.out]; rfl, z.out.hb⟩
          | true =>
            have hq3 : 0 ≤ q ∧ q < 3 := by
              have h := (funcOk_is (rd_T39 m.funcs o.f1)).1 (List.all_eq_true.1 HAL.out _ (by
                unfold rd_T39
                rw [List.getD_eq_getElem?_getD, List.getElem?_eq_getElem (by omega)]
                exact List.getElem_mem _))
              rw [show (rd_T39 m.funcs o.f1).f3 = q from HQ.out] at h
              exact h.2.2.1
            have hf2 := ((funcOk_is f).1 HFO.out).1
            have HW : Aside0 (IntKind.i64.wrap (f.f2 - o.f7) = f.f2 - o.f7) := ⟨IntWalk.i64_in _ (by
              have : o.f7 = q := by simpa using hb2
              omega)⟩
            clear hq3 hf2
            go_wp2_with fail
            first | (go_region_held3 (fun w' => w'.cell? ⟨w.heap.size, 0, none⟩ = some (.slice r.a0 m.globals.length r.c0) ∧ w'.cell? ⟨w.heap.size, 1, none⟩ = some (.slice r.a1 m.structs.length r.c1) ∧ w'.cell? ⟨w.heap.size, 2, none⟩ = some (.slice r.a2 m.chans.length r.c2) ∧ w'.cell? ⟨w.heap.size, 3, none⟩ = some (.slice r.a3 m.locks.length r.c3) ∧ w'.cell? ⟨w.heap.size, 4, none⟩ = some (.slice r.a4 m.inputs.length r.c4) ∧ w'.cell? ⟨w.heap.size, 5, none⟩ = some (.slice r.a5 m.sinks.length r.c5) ∧ w'.cell? ⟨w.heap.size, 6, none⟩ = some (.slice r.a6 m.hatches.length r.c6) ∧ w'.cell? ⟨w.heap.size, 7, none⟩ = some (.slice (some ad) m.funcs.length r.c7) ∧ w'.cell? ⟨w.heap.size, 8, none⟩ = some (.slice r.a8 m.threads.length r.c8) ∧ w'.cell? ⟨w.heap.size, 9, none⟩ = some (.string f.f0) ∧ w'.cell? ⟨w.heap.size, 10, none⟩ = some (.int .i64 f.f1) ∧ w'.cell? ⟨w.heap.size, 11, none⟩ = some (.int .i64 f.f2) ∧ w'.cell? ⟨w.heap.size, 12, none⟩ = some (.int .i64 f.f3) ∧ w'.cell? ⟨w.heap.size, 13, none⟩ = some (.slice A4 f.f4.length c4) ∧ w'.cell? ⟨w.heap.size, 14, none⟩ = some (.int .i64 n) ∧ w'.cell? ⟨w.heap.size + 1, 1, none⟩ = some (.int .i64 o.f1) ∧ w'.cell? ⟨w.heap.size + 1, 2, none⟩ = some (.int .i64 o.f2) ∧ w'.cell? ⟨w.heap.size + 1, 7, none⟩ = some (.int .i64 o.f7) ∧ w'.cell? ⟨(ad.add (o.f1.toNat * 5)).block, (ad.add (o.f1.toNat * 5)).off + 3, none⟩ = some (.int .i64 q) ∧ Aside0 (Eyes w w' r m f A4 c4 n o A c))
              (first | exact KEEP.out _ (by assumption) | exact KEEP.out _ (TD.out _ (TA.out _ _ (by assumption))) | exact KEEP.out _ (TD.out _ (by assumption)))
              (first
                | (go_at_call 49; refine (C3.out _).mono ?_; rintro e w' ⟨rfl, b⟩; have z := TH.out _ _ (by assumption) b; clear b))) | fail
            all_goals (
              go_wp2_with fail
              go_ret
              exact ⟨by rw [HR.out, HB0.out, HB1.out, if_neg HZ.out, HQ.out, HB2.out, HB3.out, HW.out]; rfl, (Aside0.out (by assumption : Aside0 (Eyes w _ r m f A4 c4 n o A c))).hb⟩)
end Go.Proofs.YtdapiibllblpbaaDoor.Code
