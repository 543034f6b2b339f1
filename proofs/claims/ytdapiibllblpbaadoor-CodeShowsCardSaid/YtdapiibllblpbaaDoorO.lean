import Derived.Test.YtdapiibllblpbaaDoorN
namespace Go.Proofs.YtdapiibllblpbaaDoor.Code
open Go.RowKit Go.Proofs.YtdapiibllblpbaaDoorW.PrintWords Go.Proofs.YtdapiibllblpbaaDoorW.PrintLast Go.Proofs.YtdapiibllblpbaaDoorW.PrintMore Go.Proofs.YtdapiibllblpbaaDoor.PCodeAnswers
set_option linter.unusedVariables false
set_option linter.unusedSimpArgs false

theorem right_frame (m : Md) (h : RightM m = true) : m.funcs.all funcOk = true ∧ sizedM m.globals 16 1 2 = true ∧ lensM m := by
  unfold RightM frameM at h
  simp only [Bool.and_eq_true, decide_eq_true_eq] at h
  obtain ⟨⟨a, ⟨b, _⟩, ⟨c1, c2, c3, c4⟩, d1, d2, d3, d4, _⟩, _⟩ := h
  exact ⟨a, b, c1, c2, c3, c4, d1, d2, d3, d4⟩
def WordsM (m : Md) : Int := if RightM m then wordsM m else 0
def SizeM (m : Md) : Int := if RightM m then opsM m else 0
set_option maxHeartbeats 2000000 in
theorem Words_any (m : Md) (r : MdR) (w : World) (hm : MdC w r m) (hs : MdS m) (hz : MdZ m) :
    Calls Tryd.prog 13 #[.agg (mdW r m).toArray] w fun e w' => e = .returned (.int .i64 (WordsM m)) ∧ Below w.heap.size w w' := by
  have hb := below_alloc (Below.refl w.heap.size w) (.cells (mdW r m).toArray 27)
  have HB0 := Aside0.mk hb
  have hn := blk_new w (.cells (mdW r m).toArray 27)
  have HN0 := Aside0.mk hn
  have CF := Aside0.mk (Right_any m r _ (hm.below hb) hs hz)
  have HM0 := Aside0.mk (hm.below hb)
  have HS := Aside0.mk hs
  clear hb hm hs hz
  obtain ⟨w0, hw0⟩ : ∃ w0, w.alloc (.cells (mdW r m).toArray 27) = w0 := ⟨_, rfl⟩
  rw [hw0] at HB0 hn HM0 HN0 CF
  have g0 : w0.cell? ⟨w.heap.size, 0, none⟩ = some (.slice r.a0 m.globals.length r.c0) := (blk_cell hn 0).trans rfl
  have g1 : w0.cell? ⟨w.heap.size, 1, none⟩ = some (.slice r.a1 m.structs.length r.c1) := (blk_cell hn 1).trans rfl
  have g2 : w0.cell? ⟨w.heap.size, 2, none⟩ = some (.slice r.a2 m.chans.length r.c2) := (blk_cell hn 2).trans rfl
  have g3 : w0.cell? ⟨w.heap.size, 3, none⟩ = some (.slice r.a3 m.locks.length r.c3) := (blk_cell hn 3).trans rfl
  have g4 : w0.cell? ⟨w.heap.size, 4, none⟩ = some (.slice r.a4 m.inputs.length r.c4) := (blk_cell hn 4).trans rfl
  have g5 : w0.cell? ⟨w.heap.size, 5, none⟩ = some (.slice r.a5 m.sinks.length r.c5) := (blk_cell hn 5).trans rfl
  have g6 : w0.cell? ⟨w.heap.size, 6, none⟩ = some (.slice r.a6 m.hatches.length r.c6) := (blk_cell hn 6).trans rfl
  have g7 : w0.cell? ⟨w.heap.size, 7, none⟩ = some (.slice r.a7 m.funcs.length r.c7) := (blk_cell hn 7).trans rfl
  have g8 : w0.cell? ⟨w.heap.size, 8, none⟩ = some (.slice r.a8 m.threads.length r.c8) := (blk_cell hn 8).trans rfl
  clear hn
  obtain ⟨b0, hb0⟩ : ∃ b, RightM m = b := ⟨_, rfl⟩
  rw [hb0] at CF
  have HR := Aside0.mk hb0
  clear hb0
  obtain ⟨res, hres⟩ : ∃ x, WordsM m = x := ⟨_, rfl⟩
  have HE : Aside0 (res = if RightM m then wordsM m else 0) := ⟨hres.symm⟩
  rw [hres]
  clear hres
  go_enter Tryd.func13, Tryd.ntmps13
  go_wp2_with fail
  refine CF.out.mono ?_
  rintro e w1 ⟨rfl, b⟩
  have HB1 := Aside0.mk (below_then HB0.out HB0.out.size b)
  have hn1 := blk_below HN0.out b
  have HM1 := Aside0.mk (HM0.out.below b)
  clear b CF hw0 g0 g1 g2 g3 g4 g5 g6 g7 g8
  cases b0 with
  | false =>
    go_wp2_with fail
    go_ret
    exact ⟨by rw [HE.out, HR.out]; rfl, HB1.out⟩
  | true =>
    have g0 : w1.cell? ⟨w.heap.size, 0, none⟩ = some (.slice r.a0 m.globals.length r.c0) := (blk_cell hn1 0).trans rfl
    have g1 : w1.cell? ⟨w.heap.size, 1, none⟩ = some (.slice r.a1 m.structs.length r.c1) := (blk_cell hn1 1).trans rfl
    have g2 : w1.cell? ⟨w.heap.size, 2, none⟩ = some (.slice r.a2 m.chans.length r.c2) := (blk_cell hn1 2).trans rfl
    have g3 : w1.cell? ⟨w.heap.size, 3, none⟩ = some (.slice r.a3 m.locks.length r.c3) := (blk_cell hn1 3).trans rfl
    have g4 : w1.cell? ⟨w.heap.size, 4, none⟩ = some (.slice r.a4 m.inputs.length r.c4) := (blk_cell hn1 4).trans rfl
    have g5 : w1.cell? ⟨w.heap.size, 5, none⟩ = some (.slice r.a5 m.sinks.length r.c5) := (blk_cell hn1 5).trans rfl
    have g6 : w1.cell? ⟨w.heap.size, 6, none⟩ = some (.slice r.a6 m.hatches.length r.c6) := (blk_cell hn1 6).trans rfl
    have g7 : w1.cell? ⟨w.heap.size, 7, none⟩ = some (.slice r.a7 m.funcs.length r.c7) := (blk_cell hn1 7).trans rfl
    have g8 : w1.cell? ⟨w.heap.size, 8, none⟩ = some (.slice r.a8 m.threads.length r.c8) := (blk_cell hn1 8).trans rfl
    clear hn1
    have CW := Aside0.mk (words_any m r w1 HM1.out HS.out (right_frame m HR.out).2.1)
    go_wp2_with fail
    refine CW.out.mono ?_
    rintro e w2 ⟨rfl, b⟩
    have HB2 := Aside0.mk (below_then HB1.out HB1.out.size b)
    clear b CW g0 g1 g2 g3 g4 g5 g6 g7 g8
    go_wp2_with fail
    go_ret
    exact ⟨by rw [HE.out, HR.out]; rfl, HB2.out⟩
set_option maxHeartbeats 2000000 in
theorem Size_any (m : Md) (r : MdR) (w : World) (hm : MdC w r m) (hs : MdS m) (hz : MdZ m) :
    Calls Tryd.prog 15 #[.agg (mdW r m).toArray] w fun e w' => e = .returned (.int .i64 (SizeM m)) ∧ Below w.heap.size w w' := by
  have hb := below_alloc (Below.refl w.heap.size w) (.cells (mdW r m).toArray 27)
  have HB0 := Aside0.mk hb
  have hn := blk_new w (.cells (mdW r m).toArray 27)
  have HN0 := Aside0.mk hn
  have CF := Aside0.mk (Right_any m r _ (hm.below hb) hs hz)
  have HM0 := Aside0.mk (hm.below hb)
  have HS := Aside0.mk hs
  clear hb hm hs hz
  obtain ⟨w0, hw0⟩ : ∃ w0, w.alloc (.cells (mdW r m).toArray 27) = w0 := ⟨_, rfl⟩
  rw [hw0] at HB0 hn HM0 HN0 CF
  have g0 : w0.cell? ⟨w.heap.size, 0, none⟩ = some (.slice r.a0 m.globals.length r.c0) := (blk_cell hn 0).trans rfl
  have g1 : w0.cell? ⟨w.heap.size, 1, none⟩ = some (.slice r.a1 m.structs.length r.c1) := (blk_cell hn 1).trans rfl
  have g2 : w0.cell? ⟨w.heap.size, 2, none⟩ = some (.slice r.a2 m.chans.length r.c2) := (blk_cell hn 2).trans rfl
  have g3 : w0.cell? ⟨w.heap.size, 3, none⟩ = some (.slice r.a3 m.locks.length r.c3) := (blk_cell hn 3).trans rfl
  have g4 : w0.cell? ⟨w.heap.size, 4, none⟩ = some (.slice r.a4 m.inputs.length r.c4) := (blk_cell hn 4).trans rfl
  have g5 : w0.cell? ⟨w.heap.size, 5, none⟩ = some (.slice r.a5 m.sinks.length r.c5) := (blk_cell hn 5).trans rfl
  have g6 : w0.cell? ⟨w.heap.size, 6, none⟩ = some (.slice r.a6 m.hatches.length r.c6) := (blk_cell hn 6).trans rfl
  have g7 : w0.cell? ⟨w.heap.size, 7, none⟩ = some (.slice r.a7 m.funcs.length r.c7) := (blk_cell hn 7).trans rfl
  have g8 : w0.cell? ⟨w.heap.size, 8, none⟩ = some (.slice r.a8 m.threads.length r.c8) := (blk_cell hn 8).trans rfl
  clear hn
  obtain ⟨b0, hb0⟩ : ∃ b, RightM m = b := ⟨_, rfl⟩
  rw [hb0] at CF
  have HR := Aside0.mk hb0
  clear hb0
  obtain ⟨res, hres⟩ : ∃ x, SizeM m = x := ⟨_, rfl⟩
  have HE : Aside0 (res = if RightM m then opsM m else 0) := ⟨hres.symm⟩
  rw [hres]
  clear hres
  go_enter Tryd.func15, Tryd.ntmps15
  go_wp2_with fail
  refine CF.out.mono ?_
  rintro e w1 ⟨rfl, b⟩
  have HB1 := Aside0.mk (below_then HB0.out HB0.out.size b)
  have hn1 := blk_below HN0.out b
  have HM1 := Aside0.mk (HM0.out.below b)
  clear b CF hw0 g0 g1 g2 g3 g4 g5 g6 g7 g8
  cases b0 with
  | false =>
    go_wp2_with fail
    go_ret
    exact ⟨by rw [HE.out, HR.out]; rfl, HB1.out⟩
  | true =>
    have g7 : w1.cell? ⟨w.heap.size, 7, none⟩ = some (.slice r.a7 m.funcs.length r.c7) := (blk_cell hn1 7).trans rfl
    clear hn1
    have HAL := Aside0.mk (right_frame m HR.out).1
    have hl12 := (right_frame m HR.out).2.2.2.2.2.2.2.1
    have HE2 : Aside0 (res = opsF m.funcs) := ⟨by rw [HE.out, HR.out]; rfl⟩
    go_wp2_with fail
    go_loopw [12, 3] (fun i n wr => ∃ k : Nat, i = .int .i64 k ∧ n = .int .i64 (opsF (m.funcs.take k)) ∧ k ≤ m.funcs.length ∧ Aside0 (MdC wr r m) ∧ Aside0 (Below w.heap.size w wr)) (fun i _ _ => m.funcs.length - (intOf i).toNat)
    case atStart => exact ⟨0, rfl, rfl, Nat.zero_le _, HM1, HB1⟩
    case round =>
      obtain ⟨k, rfl, rfl, hk, HM, HB⟩ := hrel
      obtain ⟨wi, rfl⟩ : ∃ wi : World, wi = wr := ⟨_, rfl⟩
      clear g7
      by_cases hlt : k < m.funcs.length
      · obtain ⟨ad, A4, c4, eA, d0, d1, d2, d3, d4, hl4, h4⟩ := at_T39 HM.out.h7 k (by omega) (by omega)
        clear hl4 h4
        rw [eA]
        clear eA
        rw [Int.toNat_natCast] at d0 d1 d2 d3 d4
        have hfo := (funcOk_is (rd_T39 m.funcs k)).1 (List.all_eq_true.1 HAL.out _ (rd39_mem _ _ hlt))
        obtain ⟨f, hf⟩ : ∃ f, rd_T39 m.funcs k = f := ⟨_, rfl⟩
        have hn1 := sum_next m.funcs k hlt
        rw [hf] at d0 d1 d2 d3 d4 hfo hn1
        clear hf
        have hs2 := sum_of _ (show (m.funcs.take k).all funcOk = true from List.all_eq_true.2 (fun x hx => List.all_eq_true.1 HAL.out x (List.mem_of_mem_take hx)))
        have hlt2 : (m.funcs.take k).length ≤ 1000 := by have := List.length_take_le k m.funcs; omega
        obtain ⟨n, hn⟩ : ∃ n, opsF (m.funcs.take k) = n := ⟨_, rfl⟩
        rw [hn] at hs2 hn1
        rw [hn]
        have hz4 := hfo.2.2.2.2
        have hw2 : IntKind.i64.wrap (n + (f.f4.length : Int)) = n + (f.f4.length : Int) := IntWalk.i64_in _ (by omega)
        have HNX := Aside0.mk hn1
        clear hn hn1 hs2 hlt2 hfo
        have hst := store39 wi f.f0 f.f1 f.f2 f.f3 (.slice A4 f.f4.length c4) rfl
        have hlk := hlt
        obtain ⟨o, ho⟩ : ∃ o : Obj, (.cells #[.string f.f0, .int .i64 f.f1, .int .i64 f.f2, .int .i64 f.f3, .slice A4 f.f4.length c4] 39) = o := ⟨_, rfl⟩
        have f4 : (wi.alloc o).cell? ⟨wi.heap.size, 4, none⟩ = some (.slice A4 f.f4.length c4) := by rw [← ho]; exact (blk_cell (blk_new wi _) 4).trans rfl
        have HBX := Aside0.mk (below_alloc' HB.out (Nat.le_refl _) o)
        have HMX := Aside0.mk (HM.out.below (below_alloc (Below.refl wi.heap.size wi) o))
        go_wp2_with fail
        go_roundw
        case rel => exact ⟨k + 1, by go_num, by rw [HNX.out], hlt, HMX, HBX⟩
        case measure => simp [intOf]; omega
      · have : k = m.funcs.length := by omega
        subst this
        rw [List.take_length]
        go_wp2_with fail
        go_ret
        exact ⟨by rw [HE2.out]; rfl, HB.out⟩
end Go.Proofs.YtdapiibllblpbaaDoor.Code
