import Derived.Test.YtdapiibllblpbaaDoorSC
import Derived.Test.YtdapiibllblpbaaDoorO
import Derived.StillTailTactics
namespace Go.Proofs.YtdapiibllblpbaaDoor.Code
open Go.RowKit Go.Proofs.YtdapiibllblpbaaDoorW.PrintWords Go.Proofs.YtdapiibllblpbaaDoorW.PrintLast Go.Proofs.YtdapiibllblpbaaDoorW.PrintMore Go.Proofs.YtdapiibllblpbaaDoor.PCodeAnswers
set_option linter.unusedVariables false
set_option linter.unusedSimpArgs false

theorem R_no_func (m : Md) (f : S39) (hf : f ∈ m.funcs) (h : funcOk f = false) : RightM m = false := by
  have : m.funcs.all funcOk = false := by
    rw [← Bool.not_eq_true]
    intro ht
    rw [List.all_eq_true] at ht
    rw [ht f hf] at h
    cases h
  unfold RightM frameM
  rw [this]
  rfl
theorem R_no_thread (m : Md) (t : Int) (ht : t ∈ m.threads) (h : wrongT m t = true) : RightM m = false := by
  have : m.threads.any (wrongT m) = true := List.any_eq_true.2 ⟨t, ht, h⟩
  unfold RightM frameM
  rw [this]
  simp
theorem R_no_op (m : Md) (f : S39) (hf : f ∈ m.funcs) (o : S42) (ho : o ∈ f.f4) (h : refOp m f o = false) : RightM m = false := by
  have h1 : f.f4.any (nope m f) = true := List.any_eq_true.2 ⟨o, ho, by unfold nope; rw [right_is, h]; rfl⟩
  have : m.funcs.all (funcR m) = false := by
    rw [← Bool.not_eq_true]
    intro ht
    rw [List.all_eq_true] at ht
    have := ht f hf
    unfold funcR at this
    rw [h1] at this
    cases this
  unfold RightM
  rw [this, Bool.and_false]
theorem rd_mem (l : List Int) (k : Nat) (hk : k < l.length) : rd l k ∈ l := by
  unfold rd
  rw [Int.toNat_natCast, List.getD_eq_getElem?_getD, List.getElem?_eq_getElem hk]
  exact List.getElem_mem _
set_option maxRecDepth 100000 in
set_option maxHeartbeats 40000000 in
theorem rightR_any (m : Md) (r : MdR) (w : World) (hm : MdC w r m) (hk : MdK r m) (hs : MdS m) (hz : MdZ m) :
    Calls Tryd.prog 12 #[.agg (mdW r m).toArray] w fun e w' => e = .returned (.bool (RightM m)) ∧ Below w.heap.size w w' := by
  obtain ⟨res, hres⟩ : ∃ res, RightM m = res := ⟨_, rfl⟩
  have HR := Aside0.mk hres
  rw [hres]
  clear hres
  have hb := below_alloc (Below.refl w.heap.size w) (.cells (mdW r m).toArray 27)
  have HN0 := Aside0.mk (blk_new w (.cells (mdW r m).toArray 27))
  obtain ⟨w0, hw0⟩ : ∃ w0, w.alloc (.cells (mdW r m).toArray 27) = w0 := ⟨_, rfl⟩
  have HM0 := Aside0.mk (hm.below hb)
  have HB0 := Aside0.mk hb
  rw [hw0] at HB0 HN0 HM0
  have HK := Aside0.mk hk
  have HS := Aside0.mk hs
  have HZ := Aside0.mk hz
  have q3 := hs.l3
  have q4 := hs.l4
  have q5 := hs.l5
  have q6 := hs.l6
  have q7 := hs.l7
  have q8 := hs.l8
  clear hb hm hs hz hk
  have g0 : w0.cell? ⟨w.heap.size, 0, none⟩ = some (.slice r.a0 m.globals.length r.c0) := (blk_cell HN0.out 0).trans rfl
  have g1 : w0.cell? ⟨w.heap.size, 1, none⟩ = some (.slice r.a1 m.structs.length r.c1) := (blk_cell HN0.out 1).trans rfl
  have g2 : w0.cell? ⟨w.heap.size, 2, none⟩ = some (.slice r.a2 m.chans.length r.c2) := (blk_cell HN0.out 2).trans rfl
  have g3 : w0.cell? ⟨w.heap.size, 3, none⟩ = some (.slice r.a3 m.locks.length r.c3) := (blk_cell HN0.out 3).trans rfl
  have g4 : w0.cell? ⟨w.heap.size, 4, none⟩ = some (.slice r.a4 m.inputs.length r.c4) := (blk_cell HN0.out 4).trans rfl
  have g5 : w0.cell? ⟨w.heap.size, 5, none⟩ = some (.slice r.a5 m.sinks.length r.c5) := (blk_cell HN0.out 5).trans rfl
  have g6 : w0.cell? ⟨w.heap.size, 6, none⟩ = some (.slice r.a6 m.hatches.length r.c6) := (blk_cell HN0.out 6).trans rfl
  have g7 : w0.cell? ⟨w.heap.size, 7, none⟩ = some (.slice r.a7 m.funcs.length r.c7) := (blk_cell HN0.out 7).trans rfl
  have g8 : w0.cell? ⟨w.heap.size, 8, none⟩ = some (.slice r.a8 m.threads.length r.c8) := (blk_cell HN0.out 8).trans rfl
  go_enter Tryd.func12, Tryd.ntmps12
  have CS0 := Aside0.mk (sizedR_any r.a0 r.c0 m.globals 16 1 2 w0 HM0.out.h0 HK.out.k0 HS.out.l0)
  obtain ⟨b0, hb0⟩ : ∃ b, sizedM m.globals 16 1 2 = b := ⟨_, rfl⟩
  rw [hb0] at CS0
  have HS0 := Aside0.mk hb0
  clear hb0
  go_wp2_with fail
  refine CS0.out.mono ?_
  rintro e x1 ⟨rfl, d⟩
  have HB1 := Aside0.mk (below_then HB0.out HB0.out.size d.below)
  have HN1 := Aside0.mk (blk_below HN0.out d.below)
  have HM1 := Aside0.mk (HM0.out.below d.below)
  clear d CS0 hw0 g0 g1 g2 g3 g4 g5 g6 g7 g8
  have g0 : x1.cell? ⟨w.heap.size, 0, none⟩ = some (.slice r.a0 m.globals.length r.c0) := (blk_cell HN1.out 0).trans rfl
  have g1 : x1.cell? ⟨w.heap.size, 1, none⟩ = some (.slice r.a1 m.structs.length r.c1) := (blk_cell HN1.out 1).trans rfl
  have g2 : x1.cell? ⟨w.heap.size, 2, none⟩ = some (.slice r.a2 m.chans.length r.c2) := (blk_cell HN1.out 2).trans rfl
  have g3 : x1.cell? ⟨w.heap.size, 3, none⟩ = some (.slice r.a3 m.locks.length r.c3) := (blk_cell HN1.out 3).trans rfl
  have g4 : x1.cell? ⟨w.heap.size, 4, none⟩ = some (.slice r.a4 m.inputs.length r.c4) := (blk_cell HN1.out 4).trans rfl
  have g5 : x1.cell? ⟨w.heap.size, 5, none⟩ = some (.slice r.a5 m.sinks.length r.c5) := (blk_cell HN1.out 5).trans rfl
  have g6 : x1.cell? ⟨w.heap.size, 6, none⟩ = some (.slice r.a6 m.hatches.length r.c6) := (blk_cell HN1.out 6).trans rfl
  have g7 : x1.cell? ⟨w.heap.size, 7, none⟩ = some (.slice r.a7 m.funcs.length r.c7) := (blk_cell HN1.out 7).trans rfl
  have g8 : x1.cell? ⟨w.heap.size, 8, none⟩ = some (.slice r.a8 m.threads.length r.c8) := (blk_cell HN1.out 8).trans rfl
  cases b0 with
  | false =>
    have RF : Aside0 (res = false) := ⟨by rw [← HR.out]; unfold RightM frameM; rw [HS0.out]; simp⟩
    go_wp2_with fail
    go_ret
    exact ⟨by rw [RF.out]; rfl, HB1.out⟩
  | true =>
    have CS1 := Aside0.mk (sizedR_any r.a1 r.c1 m.structs 4 0 16 x1 HM1.out.h1 HK.out.k1 HS.out.l1)
    obtain ⟨b1, hb1⟩ : ∃ b, sizedM m.structs 4 0 16 = b := ⟨_, rfl⟩
    rw [hb1] at CS1
    have HS1 := Aside0.mk hb1
    clear hb1
    go_wp2_with fail
    refine CS1.out.mono ?_
    rintro e x2 ⟨rfl, d⟩
    have HB2 := Aside0.mk (below_then HB1.out HB1.out.size d.below)
    have HN2 := Aside0.mk (blk_below HN1.out d.below)
    have HM2 := Aside0.mk (HM1.out.below d.below)
    clear d CS1 g0 g1 g2 g3 g4 g5 g6 g7 g8
    have g0 : x2.cell? ⟨w.heap.size, 0, none⟩ = some (.slice r.a0 m.globals.length r.c0) := (blk_cell HN2.out 0).trans rfl
    have g1 : x2.cell? ⟨w.heap.size, 1, none⟩ = some (.slice r.a1 m.structs.length r.c1) := (blk_cell HN2.out 1).trans rfl
    have g2 : x2.cell? ⟨w.heap.size, 2, none⟩ = some (.slice r.a2 m.chans.length r.c2) := (blk_cell HN2.out 2).trans rfl
    have g3 : x2.cell? ⟨w.heap.size, 3, none⟩ = some (.slice r.a3 m.locks.length r.c3) := (blk_cell HN2.out 3).trans rfl
    have g4 : x2.cell? ⟨w.heap.size, 4, none⟩ = some (.slice r.a4 m.inputs.length r.c4) := (blk_cell HN2.out 4).trans rfl
    have g5 : x2.cell? ⟨w.heap.size, 5, none⟩ = some (.slice r.a5 m.sinks.length r.c5) := (blk_cell HN2.out 5).trans rfl
    have g6 : x2.cell? ⟨w.heap.size, 6, none⟩ = some (.slice r.a6 m.hatches.length r.c6) := (blk_cell HN2.out 6).trans rfl
    have g7 : x2.cell? ⟨w.heap.size, 7, none⟩ = some (.slice r.a7 m.funcs.length r.c7) := (blk_cell HN2.out 7).trans rfl
    have g8 : x2.cell? ⟨w.heap.size, 8, none⟩ = some (.slice r.a8 m.threads.length r.c8) := (blk_cell HN2.out 8).trans rfl
    cases b1 with
    | false =>
      have RF : Aside0 (res = false) := ⟨by rw [← HR.out]; unfold RightM frameM; rw [HS1.out]; simp⟩
      go_wp2_with fail
      go_ret
      exact ⟨by rw [RF.out]; rfl, HB2.out⟩
    | true =>
      have CS2 := Aside0.mk (sizedR_any r.a2 r.c2 m.chans 4 1 4 x2 HM2.out.h2 HK.out.k2 HS.out.l2)
      obtain ⟨b2, hb2⟩ : ∃ b, sizedM m.chans 4 1 4 = b := ⟨_, rfl⟩
      rw [hb2] at CS2
      have HS2 := Aside0.mk hb2
      clear hb2
      go_wp2_with fail
      refine CS2.out.mono ?_
      rintro e x3 ⟨rfl, d⟩
      have HB3 := Aside0.mk (below_then HB2.out HB2.out.size d.below)
      have HN3 := Aside0.mk (blk_below HN2.out d.below)
      have HM3 := Aside0.mk (HM2.out.below d.below)
      clear d CS2 g0 g1 g2 g3 g4 g5 g6 g7 g8
      have g0 : x3.cell? ⟨w.heap.size, 0, none⟩ = some (.slice r.a0 m.globals.length r.c0) := (blk_cell HN3.out 0).trans rfl
      have g1 : x3.cell? ⟨w.heap.size, 1, none⟩ = some (.slice r.a1 m.structs.length r.c1) := (blk_cell HN3.out 1).trans rfl
      have g2 : x3.cell? ⟨w.heap.size, 2, none⟩ = some (.slice r.a2 m.chans.length r.c2) := (blk_cell HN3.out 2).trans rfl
      have g3 : x3.cell? ⟨w.heap.size, 3, none⟩ = some (.slice r.a3 m.locks.length r.c3) := (blk_cell HN3.out 3).trans rfl
      have g4 : x3.cell? ⟨w.heap.size, 4, none⟩ = some (.slice r.a4 m.inputs.length r.c4) := (blk_cell HN3.out 4).trans rfl
      have g5 : x3.cell? ⟨w.heap.size, 5, none⟩ = some (.slice r.a5 m.sinks.length r.c5) := (blk_cell HN3.out 5).trans rfl
      have g6 : x3.cell? ⟨w.heap.size, 6, none⟩ = some (.slice r.a6 m.hatches.length r.c6) := (blk_cell HN3.out 6).trans rfl
      have g7 : x3.cell? ⟨w.heap.size, 7, none⟩ = some (.slice r.a7 m.funcs.length r.c7) := (blk_cell HN3.out 7).trans rfl
      have g8 : x3.cell? ⟨w.heap.size, 8, none⟩ = some (.slice r.a8 m.threads.length r.c8) := (blk_cell HN3.out 8).trans rfl
      cases b2 with
      | false =>
        have RF : Aside0 (res = false) := ⟨by rw [← HR.out]; unfold RightM frameM; rw [HS2.out]; simp⟩
        go_wp2_with fail
        go_ret
        exact ⟨by rw [RF.out]; rfl, HB3.out⟩
      | true =>
        by_cases h0 : 8 < m.locks.length
        · have RF : Aside0 (res = false) := ⟨by
            rw [← HR.out]
            have : decide (m.locks.length ≤ 8) = false := decide_eq_false (by omega)
            unfold RightM frameM
            rw [this]
            simp⟩
          go_wp2_with fail
          go_ret
          exact ⟨by rw [RF.out]; rfl, HB3.out⟩
        by_cases h1 : 8 < m.inputs.length
        · have RF : Aside0 (res = false) := ⟨by
            rw [← HR.out]
            have : decide (m.inputs.length ≤ 8) = false := decide_eq_false (by omega)
            unfold RightM frameM
            rw [this]
            simp⟩
          go_wp2_with fail
          go_ret
          exact ⟨by rw [RF.out]; rfl, HB3.out⟩
        by_cases h2 : 4 < m.sinks.length
        · have RF : Aside0 (res = false) := ⟨by
            rw [← HR.out]
            have : decide (m.sinks.length ≤ 4) = false := decide_eq_false (by omega)
            unfold RightM frameM
            rw [this]
            simp⟩
          go_wp2_with fail
          go_ret
          exact ⟨by rw [RF.out]; rfl, HB3.out⟩
        by_cases h3 : 8 < m.hatches.length
        · have RF : Aside0 (res = false) := ⟨by
            rw [← HR.out]
            have : decide (m.hatches.length ≤ 8) = false := decide_eq_false (by omega)
            unfold RightM frameM
            rw [this]
            simp⟩
          go_wp2_with fail
          go_ret
          exact ⟨by rw [RF.out]; rfl, HB3.out⟩
        by_cases h4 : m.funcs.length < 1
        · have RF : Aside0 (res = false) := ⟨by
            rw [← HR.out]
            have : decide (1 ≤ m.funcs.length) = false := decide_eq_false (by omega)
            unfold RightM frameM
            rw [this]
            simp⟩
          go_wp2_with fail
          go_ret
          exact ⟨by rw [RF.out]; rfl, HB3.out⟩
        by_cases h5 : 12 < m.funcs.length
        · have RF : Aside0 (res = false) := ⟨by
            rw [← HR.out]
            have : decide (m.funcs.length ≤ 12) = false := decide_eq_false (by omega)
            unfold RightM frameM
            rw [this]
            simp⟩
          go_wp2_with fail
          go_ret
          exact ⟨by rw [RF.out]; rfl, HB3.out⟩
        by_cases h6 : 4 < m.threads.length
        · have RF : Aside0 (res = false) := ⟨by
            rw [← HR.out]
            have : decide (m.threads.length ≤ 4) = false := decide_eq_false (by omega)
            unfold RightM frameM
            rw [this]
            simp⟩
          go_wp2_with fail
          go_ret
          exact ⟨by rw [RF.out]; rfl, HB3.out⟩
        go_wp2_with fail
        clear h0 h1 h2 h3 g0 g1 g2 g3 g4 g5 g6 g7 g8
        have hl1 : 1 ≤ m.funcs.length := by omega
        have hl12 : m.funcs.length ≤ 12 := by omega
        have HLEN : Aside0 (m.locks.length ≤ 8 ∧ m.inputs.length ≤ 8 ∧ m.sinks.length ≤ 4 ∧ m.hatches.length ≤ 8 ∧ m.threads.length ≤ 4) := ⟨by omega⟩
        go_loopw [3, 4] (fun n i wr => ∃ (k : Nat) (q : Int), i = .int .i64 k ∧ n = .int .i64 q ∧ k ≤ m.funcs.length ∧ 0 ≤ q ∧ q ≤ 4096 * k ∧ Aside0 (q = opsF (m.funcs.take k)) ∧ Aside0 (∀ j : Nat, j < k → funcOk (rd_T39 m.funcs j) = true) ∧ Aside0 (Below x3.heap.size x3 wr)) (fun n i _ => m.funcs.length - (intOf i).toNat)
        case atStart => exact ⟨0, 0, rfl, rfl, Nat.zero_le _, by omega, by omega, ⟨rfl⟩, ⟨fun j hj => absurd hj (Nat.not_lt_zero j)⟩, ⟨Below.refl _ _⟩⟩
        case round =>
          obtain ⟨k, q, rfl, rfl, hk, hq0, hq1, HQ, HF, HB⟩ := hrel
          obtain ⟨wi, rfl⟩ : ∃ wi : World, wi = wr := ⟨_, rfl⟩
          have HBI := Aside0.mk (below_then HB3.out HB3.out.size HB.out)
          have HNI := Aside0.mk (blk_below HN3.out HB.out)
          have HMI := Aside0.mk (HM3.out.below HB.out)
          have g7 : wi.cell? ⟨w.heap.size, 7, none⟩ = some (.slice r.a7 m.funcs.length r.c7) := (blk_cell HNI.out 7).trans rfl
          by_cases hlt : k < m.funcs.length
          · obtain ⟨ad, A4, c4, eA, e0, e1, e2, e3, e4, el, eC⟩ := at_T39 HMI.out.h7 (k : Int) (by omega) (by omega)
            rw [Int.toNat_natCast] at e0 e1 e2 e3 e4
            rw [eA] at g7
            clear eA el eC
            have HMEM := Aside0.mk (rd39_mem m.funcs k hlt)
            have HTK := Aside0.mk (sum_next m.funcs k hlt)
            obtain ⟨f, hf⟩ : ∃ f, rd_T39 m.funcs (k : Int) = f := ⟨_, rfl⟩
            rw [hf] at e0 e1 e2 e3 e4 HMEM HTK
            have HFE := Aside0.mk hf
            clear hf
            have hst := store39 wi f.f0 f.f1 f.f2 f.f3 (.slice A4 f.f4.length c4) rfl
            have ba := Aside0.mk (below_alloc (Below.refl wi.heap.size wi) (.cells #[.string f.f0, .int .i64 f.f1, .int .i64 f.f2, .int .i64 f.f3, .slice A4 f.f4.length c4] 39))
            have bn := blk_new wi (.cells #[.string f.f0, .int .i64 f.f1, .int .i64 f.f2, .int .i64 f.f3, .slice A4 f.f4.length c4] 39)
            obtain ⟨wa, hwa⟩ : ∃ wa, wi.alloc (.cells #[.string f.f0, .int .i64 f.f1, .int .i64 f.f2, .int .i64 f.f3, .slice A4 f.f4.length c4] 39) = wa := ⟨_, rfl⟩
            rw [hwa] at ba bn hst
            have p1 : wa.cell? ⟨wi.heap.size, 1, none⟩ = some (.int .i64 f.f1) := (blk_cell bn 1).trans rfl
            have p2 : wa.cell? ⟨wi.heap.size, 2, none⟩ = some (.int .i64 f.f2) := (blk_cell bn 2).trans rfl
            have p3 : wa.cell? ⟨wi.heap.size, 3, none⟩ = some (.int .i64 f.f3) := (blk_cell bn 3).trans rfl
            have p4 : wa.cell? ⟨wi.heap.size, 4, none⟩ = some (.slice A4 f.f4.length c4) := (blk_cell bn 4).trans rfl
            have HBA := Aside0.mk (below_then HB.out HB.out.size ba.out)
            clear bn ba
            have HFI := Aside0.mk (funcOk_is f)
            have STOP : Aside0 (¬ funcOk f = true → res = false) := ⟨fun h => by rw [← HR.out]; exact R_no_func m f HMEM.out (by simpa using h)⟩
            by_cases c0 : f.f2 < 0
            · have RF := Aside0.mk (STOP.out (fun h => by have := HFI.out.1 h; omega))
              go_wp2_with fail
              go_ret
              exact ⟨by rw [RF.out]; rfl, below_then HB3.out HB3.out.size HBA.out⟩
            by_cases c1 : 1024 < f.f2
            · have RF := Aside0.mk (STOP.out (fun h => by have := HFI.out.1 h; omega))
              go_wp2_with fail
              go_ret
              exact ⟨by rw [RF.out]; rfl, below_then HB3.out HB3.out.size HBA.out⟩
            by_cases c2 : f.f1 < 0
            · have RF := Aside0.mk (STOP.out (fun h => by have := HFI.out.1 h; omega))
              go_wp2_with fail
              go_ret
              exact ⟨by rw [RF.out]; rfl, below_then HB3.out HB3.out.size HBA.out⟩
            by_cases c3 : f.f2 < f.f1
            · have RF := Aside0.mk (STOP.out (fun h => by have := HFI.out.1 h; omega))
              go_wp2_with fail
              go_ret
              exact ⟨by rw [RF.out]; rfl, below_then HB3.out HB3.out.size HBA.out⟩
            by_cases c4 : f.f3 < 0
            · have RF := Aside0.mk (STOP.out (fun h => by have := HFI.out.1 h; omega))
              go_wp2_with fail
              go_ret
              exact ⟨by rw [RF.out]; rfl, below_then HB3.out HB3.out.size HBA.out⟩
            by_cases c5 : 2 < f.f3
            · have RF := Aside0.mk (STOP.out (fun h => by have := HFI.out.1 h; omega))
              go_wp2_with fail
              go_ret
              exact ⟨by rw [RF.out]; rfl, below_then HB3.out HB3.out.size HBA.out⟩
            by_cases c6 : f.f4.length < 1
            · have RF := Aside0.mk (STOP.out (fun h => by have := HFI.out.1 h; omega))
              go_wp2_with fail
              go_ret
              exact ⟨by rw [RF.out]; rfl, below_then HB3.out HB3.out.size HBA.out⟩
            by_cases c7 : 4096 < f.f4.length
            · have RF := Aside0.mk (STOP.out (fun h => by have := HFI.out.1 h; omega))
              go_wp2_with fail
              go_ret
              exact ⟨by rw [RF.out]; rfl, below_then HB3.out HB3.out.size HBA.out⟩
            have HOK : Aside0 (funcOk f = true) := ⟨HFI.out.2 (by omega)⟩
            have hl : f.f4.length ≤ 4096 := by omega
            have HQ1 : Aside0 (q + (f.f4.length : Int) = opsF (m.funcs.take (k + 1))) := ⟨by rw [HTK.out, HQ.out]⟩
            have HF1 : Aside0 (∀ j : Nat, j < k + 1 → funcOk (rd_T39 m.funcs j) = true) := ⟨fun j hj => by
              by_cases e : j = k
              · rw [e, HFE.out]; exact HOK.out
              · exact HF.out j (by omega)⟩
            go_wp2_with fail
            go_roundw
            case rel => exact ⟨k + 1, q + f.f4.length, by go_num, rfl, by omega, by omega, by omega, HQ1, HF1, HBA⟩
            case measure => simp [intOf]; omega
          · have hkl : k = m.funcs.length := by omega
            have HALL : Aside0 (m.funcs.all funcOk = true) := ⟨by
              rw [List.all_eq_true]
              intro x hx
              obtain ⟨j, hj, rfl⟩ := List.getElem_of_mem hx
              have := HF.out j (by omega)
              unfold rd_T39 at this
              rw [Int.toNat_natCast, List.getD_eq_getElem?_getD, List.getElem?_eq_getElem hj] at this
              exact this⟩
            have HQE : Aside0 (q = opsM m) := ⟨by rw [HQ.out, hkl, List.take_length]; rfl⟩
            have hq2 : q ≤ 50000 := by omega
            go_wp2_with fail
            clear hkl hlt HF HQ g7 hq1 hk
            go_loopw [6] (fun i wr => ∃ k : Nat, i = .int .i64 k ∧ k ≤ m.threads.length ∧ Aside0 (∀ j : Nat, j < k → wrongT m (rd m.threads j) = false) ∧ Aside0 (Below wi.heap.size wi wr)) (fun i _ => m.threads.length - (intOf i).toNat)
            case atStart => exact ⟨0, rfl, Nat.zero_le _, ⟨fun j hj => absurd hj (Nat.not_lt_zero j)⟩, ⟨Below.refl _ _⟩⟩
            case round =>
              obtain ⟨a, rfl, ha, HT, HBT⟩ := hrel
              obtain ⟨wt, rfl⟩ : ∃ wi : World, wi = wr := ⟨_, rfl⟩
              have HNT := Aside0.mk (blk_below HNI.out HBT.out)
              have HMT := Aside0.mk (HMI.out.below HBT.out)
              have HBW := Aside0.mk (below_then HBI.out HBI.out.size HBT.out)
              have g7 : wt.cell? ⟨w.heap.size, 7, none⟩ = some (.slice r.a7 m.funcs.length r.c7) := (blk_cell HNT.out 7).trans rfl
              have g8 : wt.cell? ⟨w.heap.size, 8, none⟩ = some (.slice r.a8 m.threads.length r.c8) := (blk_cell HNT.out 8).trans rfl
              by_cases hlt : a < m.threads.length
              · obtain ⟨ad, eA, c0⟩ := Kd.at_int HMT.out.h8 (a : Int) (by omega) (by omega)
                rw [Int.toNat_natCast] at c0
                rw [eA] at g8
                clear eA
                have HMEM := Aside0.mk (rd_mem m.threads a hlt)
                obtain ⟨t, ht⟩ : ∃ t, rd m.threads (a : Int) = t := ⟨_, rfl⟩
                rw [ht] at c0 HMEM
                have HTE := Aside0.mk ht
                clear ht
                have STOP : Aside0 (wrongT m t = true → res = false) := ⟨fun h => by rw [← HR.out]; exact R_no_thread m t HMEM.out h⟩
                have NEXT : Aside0 (wrongT m t = false → ∀ j : Nat, j < a + 1 → wrongT m (rd m.threads j) = false) := ⟨fun h j hj => by
                  by_cases e : j = a
                  · rw [e, HTE.out]; exact h
                  · exact HT.out j (by omega)⟩
                by_cases t0 : t < 0
                · have RF := Aside0.mk (STOP.out (by unfold wrongT below; simp; omega))
                  go_wp2_with fail
                  go_ret
                  exact ⟨by rw [RF.out]; rfl, HBW.out⟩
                by_cases t1 : (m.funcs.length : Int) ≤ t
                · have RF := Aside0.mk (STOP.out (by unfold wrongT below; simp; omega))
                  go_wp2_with fail
                  go_ret
                  exact ⟨by rw [RF.out]; rfl, HBW.out⟩
                obtain ⟨n, rfl⟩ := Int.eq_ofNat_of_zero_le (show 0 ≤ t by omega)
                have hn : (n : Int) < m.funcs.length := by omega
                obtain ⟨ad7, A4, c4, eA, e0, e1, e2, e3, e4, el, eC⟩ := at_T39 HMT.out.h7 (n : Int) (by omega) (by omega)
                rw [Int.toNat_natCast] at e0 e1 e2 e3 e4
                rw [eA] at g7
                have HW : Aside0 (wrongT m (n : Int) = decide ((rd_T39 m.funcs (n : Int)).f1 ≠ 0)) := ⟨by
                  have : below (m.funcs.length : Int) [(n : Int)] = true := by unfold below; simp; omega
                  unfold wrongT
                  rw [this]
                  rfl⟩
                obtain ⟨p, hp⟩ : ∃ p, (rd_T39 m.funcs (n : Int)).f1 = p := ⟨_, rfl⟩
                rw [hp] at e1 HW
                clear eA el eC e0 e2 e3 e4 hp t0 t1
                by_cases hp : p = 0
                · have d0 : (p != 0) = false := by simp [hp]
                  have d1 : (p == 0) = true := beq_iff_eq.2 hp
                  have NX := Aside0.mk (NEXT.out (by rw [HW.out, hp]; rfl))
                  clear hp
                  go_wp2_with fail
                  go_roundw
                  case rel => exact ⟨a + 1, by go_num, by omega, NX, HBT⟩
                  case measure => simp [intOf]; omega
                · have d0 : (p != 0) = true := by simp [hp]
                  have d1 : (p == 0) = false := beq_eq_false_iff_ne.2 hp
                  have RF := Aside0.mk (STOP.out (by rw [HW.out]; simpa using hp))
                  clear hp
                  go_wp2_with fail
                  go_ret
                  exact ⟨by rw [RF.out]; rfl, HBW.out⟩
              · have HTALL : Aside0 (m.threads.any (wrongT m) = false) := ⟨by
                  rw [List.any_eq_false]
                  intro x hx
                  obtain ⟨j, hj, rfl⟩ := List.getElem_of_mem hx
                  have := HT.out j (by omega)
                  unfold rd at this
                  rw [Int.toNat_natCast, List.getD_eq_getElem?_getD, List.getElem?_eq_getElem hj] at this
                  simpa using this⟩
                go_wp2_with fail
                clear hlt HT g7 g8 ha
                go_loopw [8] (fun i wr => ∃ k : Nat, i = .int .i64 k ∧ k ≤ m.funcs.length ∧ Aside0 (∀ j : Nat, j < k → funcR m (rd_T39 m.funcs j) = true) ∧ Aside0 (Below wt.heap.size wt wr)) (fun i _ => m.funcs.length - (intOf i).toNat)
                case atStart => exact ⟨0, rfl, Nat.zero_le _, ⟨fun j hj => absurd hj (Nat.not_lt_zero j)⟩, ⟨Below.refl _ _⟩⟩
                case round =>
                  obtain ⟨a, rfl, ha, HA, HBA⟩ := hrel
                  obtain ⟨wo, rfl⟩ : ∃ wi : World, wi = wr := ⟨_, rfl⟩
                  by_cases hlt : a < m.funcs.length
                  · have HMEM := Aside0.mk (rd39_mem m.funcs a hlt)
                    have HFOK := Aside0.mk (List.all_eq_true.1 HALL.out _ HMEM.out)
                    have HZF := Aside0.mk (HZ.out _ HMEM.out)
                    have hfl := (funcOk_is _).1 HFOK.out
                    have hfl2 := hfl.2.2.2.2
                    clear hfl
                    have HNO := Aside0.mk (blk_below HNT.out HBA.out)
                    have g7 : wo.cell? ⟨w.heap.size, 7, none⟩ = some (.slice r.a7 m.funcs.length r.c7) := (blk_cell HNO.out 7).trans rfl
                    obtain ⟨ad7, A4, c4, eA, e0, e1, e2, e3, e4, el, eC⟩ := at_T39 (HMT.out.below HBA.out).h7 (a : Int) (by omega) (by omega)
                    rw [Int.toNat_natCast] at e0 e1 e2 e3 e4
                    have EC := Aside0.mk eC
                    obtain ⟨f, hf⟩ : ∃ f, rd_T39 m.funcs (a : Int) = f := ⟨_, rfl⟩
                    rw [hf] at e0 e1 e2 e3 e4 HMEM HFOK HZF hfl2 EC
                    have HFE := Aside0.mk hf
                    have HA7 := Aside0.mk eA
                    clear hf eC el e0 e1 e2 e3 e4
                    go_wp2_with fail
                    clear g7 eA
                    go_loopw [9] (fun i wr => ∃ k : Nat, i = .int .i64 k ∧ k ≤ f.f4.length ∧ Aside0 (∀ j : Nat, j < k → refOp m f (rd_T42 f.f4 j) = true) ∧ Aside0 (Below wo.heap.size wo wr)) (fun i _ => f.f4.length - (intOf i).toNat)
                    case atStart => exact ⟨0, rfl, Nat.zero_le _, ⟨fun j hj => absurd hj (Nat.not_lt_zero j)⟩, ⟨Below.refl _ _⟩⟩
                    case round =>
                      obtain ⟨b, rfl, hb, HO, HBO⟩ := hrel
                      obtain ⟨wq, rfl⟩ : ∃ wi : World, wi = wr := ⟨_, rfl⟩
                      have HNQ := Aside0.mk (blk_below HNO.out HBO.out)
                      have HMQ := Aside0.mk ((HMT.out.below HBA.out).below HBO.out)
                      have HBQ := Aside0.mk (below_then HBA.out HBA.out.size HBO.out)
                      have g0 : wq.cell? ⟨w.heap.size, 0, none⟩ = some (.slice r.a0 m.globals.length r.c0) := (blk_cell HNQ.out 0).trans rfl
                      have g1 : wq.cell? ⟨w.heap.size, 1, none⟩ = some (.slice r.a1 m.structs.length r.c1) := (blk_cell HNQ.out 1).trans rfl
                      have g2 : wq.cell? ⟨w.heap.size, 2, none⟩ = some (.slice r.a2 m.chans.length r.c2) := (blk_cell HNQ.out 2).trans rfl
                      have g3 : wq.cell? ⟨w.heap.size, 3, none⟩ = some (.slice r.a3 m.locks.length r.c3) := (blk_cell HNQ.out 3).trans rfl
                      have g4 : wq.cell? ⟨w.heap.size, 4, none⟩ = some (.slice r.a4 m.inputs.length r.c4) := (blk_cell HNQ.out 4).trans rfl
                      have g5 : wq.cell? ⟨w.heap.size, 5, none⟩ = some (.slice r.a5 m.sinks.length r.c5) := (blk_cell HNQ.out 5).trans rfl
                      have g6 : wq.cell? ⟨w.heap.size, 6, none⟩ = some (.slice r.a6 m.hatches.length r.c6) := (blk_cell HNQ.out 6).trans rfl
                      have g7 : wq.cell? ⟨w.heap.size, 7, none⟩ = some (.slice r.a7 m.funcs.length r.c7) := (blk_cell HNQ.out 7).trans rfl
                      have g8 : wq.cell? ⟨w.heap.size, 8, none⟩ = some (.slice r.a8 m.threads.length r.c8) := (blk_cell HNQ.out 8).trans rfl
                      rw [HA7.out] at g7
                      obtain ⟨ad8, A5, c5, eA, e0, e1, e2, e3, e4, el, eC⟩ := at_T39 HMQ.out.h7 (a : Int) (by omega) (by omega)
                      rw [HA7.out] at eA
                      obtain rfl : ad7 = ad8 := by injection eA
                      rw [Int.toNat_natCast, HFE.out] at e0 e1 e2 e3 e4
                      rw [HFE.out] at el eC
                      clear eA
                      by_cases hlb : b < f.f4.length
                      · obtain ⟨ad9, A9, c9, eB, o0, o1, o2, o3, o4, o5, o6, o7, o8, o9, o10, o11, ol, oC⟩ := at_T42 eC (b : Int) (by omega) (by omega)
                        rw [Int.toNat_natCast] at o0 o1 o2 o3 o4 o5 o6 o7 o8 o9 o10 o11
                        rw [eB] at e4
                        clear eB
                        have HMO := Aside0.mk (rd42_mem f.f4 b hlb)
                        obtain ⟨o, ho⟩ : ∃ o, rd_T42 f.f4 (b : Int) = o := ⟨_, rfl⟩
                        rw [ho] at o0 o1 o2 o3 o4 o5 o6 o7 o8 o9 o10 o11 ol oC HMO
                        have HOE := Aside0.mk ho
                        have bd := Aside0.mk (below_drew (Below.refl wq.heap.size wq))
                        have CO0 := opR_any m r f (some ad9) c5 o A9 c9 wq.drew (HMQ.out.below bd.out) HK.out HS.out HS0.out HALL.out HFOK.out (Kd.C_below oC bd.out) (HZF.out o HMO.out)
                        unfold mdW opW at CO0
                        rw [HA7.out] at CO0
                        have CO := Aside0.mk CO0
                        clear CO0
                        obtain ⟨rb, hrb⟩ : ∃ rb, refOp m f o = rb := ⟨_, rfl⟩
                        rw [hrb] at CO
                        have HRB := Aside0.mk hrb
                        clear ho oC ol eC el hrb
                        go_wp2_with fail
                        go_still_tail 15, (by kernel_rfl)
                        go_wp2_with fail
                        refine CO.out.mono ?_
                        rintro e w9 ⟨rfl, b9⟩
                        have HB9 := Aside0.mk (below_then HBO.out HBO.out.size (below_then bd.out (Nat.le_refl _) b9))
                        clear b9 CO bd o0 o1 o2 o3 o4 o5 o6 o7 o8 o9 o10 o11 e0 e1 e2 e3 e4 g0 g1 g2 g3 g4 g5 g6 g7 g8
                        cases rb with
                        | true =>
                          have HO1 : Aside0 (∀ j : Nat, j < b + 1 → refOp m f (rd_T42 f.f4 j) = true) := ⟨fun j hj => by
                            by_cases e : j = b
                            · rw [e, HOE.out]; exact HRB.out
                            · exact HO.out j (by omega)⟩
                          go_wp2_with fail
                          go_roundw
                          case rel => exact ⟨b + 1, by go_num, by omega, HO1, HB9⟩
                          case measure => simp [intOf]; omega
                        | false =>
                          have RF : Aside0 (res = false) := ⟨by rw [← HR.out]; exact R_no_op m f HMEM.out o HMO.out HRB.out⟩
                          go_wp2_with fail
                          go_ret
                          exact ⟨by rw [RF.out]; rfl, below_then HBW.out HBW.out.size (below_then HBA.out HBA.out.size HB9.out)⟩
                      · have HFR : Aside0 (funcR m f = true) := ⟨by
                          unfold funcR
                          have : f.f4.any (nope m f) = false := by
                            rw [List.any_eq_false]
                            intro x hx
                            obtain ⟨j, hj, rfl⟩ := List.getElem_of_mem hx
                            have := HO.out j (by omega)
                            unfold rd_T42 at this
                            rw [Int.toNat_natCast, List.getD_eq_getElem?_getD, List.getElem?_eq_getElem hj] at this
                            unfold nope
                            rw [right_is]
                            simpa using this
                          rw [this]
                          rfl⟩
                        have HA1 : Aside0 (∀ j : Nat, j < a + 1 → funcR m (rd_T39 m.funcs j) = true) := ⟨fun j hj => by
                          by_cases e : j = a
                          · rw [e, HFE.out]; exact HFR.out
                          · exact HA.out j (by omega)⟩
                        clear eC el
                        go_wp2_with fail
                        go_roundw
                        case rel => exact ⟨a + 1, by go_num, by omega, HA1, HBQ⟩
                        case measure => simp [intOf]; omega
                  · have HRALL : Aside0 (m.funcs.all (funcR m) = true) := ⟨by
                      rw [List.all_eq_true]
                      intro x hx
                      obtain ⟨j, hj, rfl⟩ := List.getElem_of_mem hx
                      have := HA.out j (by omega)
                      unfold rd_T39 at this
                      rw [Int.toNat_natCast, List.getD_eq_getElem?_getD, List.getElem?_eq_getElem hj] at this
                      exact this⟩
                    have RF : Aside0 (res = decide (q ≤ 4096)) := ⟨by
                      rw [← HR.out, HQE.out]
                      unfold RightM frameM
                      obtain ⟨z0, z1, z2, z3, z4⟩ := HLEN.out
                      rw [HALL.out, HS0.out, HS1.out, HS2.out, HTALL.out, HRALL.out, decide_eq_true z0, decide_eq_true z1, decide_eq_true z2, decide_eq_true z3, decide_eq_true z4, decide_eq_true hl1, decide_eq_true hl12]
                      simp⟩
                    have HNO := Aside0.mk (blk_below HNT.out HBA.out)
                    have g7 : wo.cell? ⟨w.heap.size, 7, none⟩ = some (.slice r.a7 m.funcs.length r.c7) := (blk_cell HNO.out 7).trans rfl
                    obtain ⟨rq, hrq⟩ : ∃ rq, decide (q ≤ 4096) = rq := ⟨_, rfl⟩
                    by_cases hq : q ≤ 4096
                    · have RT : Aside0 (res = true) := ⟨by rw [RF.out, decide_eq_true hq]⟩
                      clear hrq
                      go_wp2_with fail
                      go_ret
                      exact ⟨by rw [RT.out]; rfl, below_then HBW.out HBW.out.size HBA.out⟩
                    · have RT : Aside0 (res = false) := ⟨by rw [RF.out, decide_eq_false hq]⟩
                      clear hrq
                      go_wp2_with fail
                      go_ret
                      exact ⟨by rw [RT.out]; rfl, below_then HBW.out HBW.out.size HBA.out⟩
end Go.Proofs.YtdapiibllblpbaaDoor.Code
