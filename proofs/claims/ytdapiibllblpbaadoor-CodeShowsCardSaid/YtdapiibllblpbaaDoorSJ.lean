import Derived.Test.YtdapiibllblpbaaDoorSI
import Derived.Test.YtdapiibllblpbaaDoorV
import Derived.Test.YtdapiibllblpbaaDoorU
namespace Go.Proofs.YtdapiibllblpbaaDoor.Code
open Go.RowKit Go.Proofs.YtdapiibllblpbaaDoorW.PrintWords Go.Proofs.YtdapiibllblpbaaDoorW.PrintLast Go.Proofs.YtdapiibllblpbaaDoorW.PrintMore Go.Proofs.YtdapiibllblpbaaDoor.PCodeAnswers
set_option linter.unusedVariables false
set_option linter.unusedSimpArgs false
set_option maxRecDepth 100000 in
set_option maxHeartbeats 8000000 in
theorem shows_any (m : Md) (r : MdR) (w : World) (hm : MdC w r m) (hk : MdK r m) (hL : MdL m) (hi : MdI m) (ht : Pow10 w) :
    Calls Tryd.prog 4 #[.agg (mdW r m).toArray] w fun e w' => e = .returned (.bool true) ∧ Below w.heap.size w w' := by
  have hb := below_alloc (Below.refl w.heap.size w) (.cells (mdW r m).toArray 27)
  have HB0 := Aside0.mk hb
  have hn := blk_new w (.cells (mdW r m).toArray 27)
  have HN0 := Aside0.mk hn
  have HM0 := Aside0.mk (hm.below hb)
  have HT0 := Aside0.mk (ht.below hb)
  have HK := Aside0.mk hk
  have HL := Aside0.mk hL
  have HI := Aside0.mk hi
  clear hm ht hk hL hi
  obtain ⟨w0, hw0⟩ : ∃ w0, w.alloc (.cells (mdW r m).toArray 27) = w0 := ⟨_, rfl⟩
  rw [hw0] at HB0 hn HM0 HN0 HT0
  have CA := Aside0.mk (alive_any w0 HT0.out)
  clear hb hn
  go_enter Tryd.func4, Tryd.ntmps4
  go_wp2_with fail
  refine CA.out.mono ?_
  rintro e w1 ⟨rfl, b⟩
  have HB1 := Aside0.mk (below_then HB0.out HB0.out.size b)
  have HN1 := blk_below HN0.out b
  have HM1 := Aside0.mk (HM0.out.below b)
  have HT1 := Aside0.mk (HT0.out.below b)
  have g0 : w1.cell? ⟨w.heap.size, 0, none⟩ = some (.slice r.a0 m.globals.length r.c0) := (blk_cell HN1 0).trans rfl
  have g1 : w1.cell? ⟨w.heap.size, 1, none⟩ = some (.slice r.a1 m.structs.length r.c1) := (blk_cell HN1 1).trans rfl
  have g2 : w1.cell? ⟨w.heap.size, 2, none⟩ = some (.slice r.a2 m.chans.length r.c2) := (blk_cell HN1 2).trans rfl
  have g3 : w1.cell? ⟨w.heap.size, 3, none⟩ = some (.slice r.a3 m.locks.length r.c3) := (blk_cell HN1 3).trans rfl
  have g4 : w1.cell? ⟨w.heap.size, 4, none⟩ = some (.slice r.a4 m.inputs.length r.c4) := (blk_cell HN1 4).trans rfl
  have g5 : w1.cell? ⟨w.heap.size, 5, none⟩ = some (.slice r.a5 m.sinks.length r.c5) := (blk_cell HN1 5).trans rfl
  have g6 : w1.cell? ⟨w.heap.size, 6, none⟩ = some (.slice r.a6 m.hatches.length r.c6) := (blk_cell HN1 6).trans rfl
  have g7 : w1.cell? ⟨w.heap.size, 7, none⟩ = some (.slice r.a7 m.funcs.length r.c7) := (blk_cell HN1 7).trans rfl
  have g8 : w1.cell? ⟨w.heap.size, 8, none⟩ = some (.slice r.a8 m.threads.length r.c8) := (blk_cell HN1 8).trans rfl
  have HN1 := Aside0.mk HN1
  have CW := Aside0.mk (weigh_any m r w1 HM1.out HK.out HL.out 20000 (by omega))
  clear b CA hw0
  go_wp2_with fail
  refine CW.out.mono ?_
  rintro e w2 ⟨⟨n, rfl, hle⟩, b⟩
  have HB2 := Aside0.mk (below_then HB1.out HB1.out.size b)
  have HN2 := blk_below HN1.out b
  have HM2 := Aside0.mk (HM1.out.below b)
  have HT2 := Aside0.mk (HT1.out.below b)
  clear b CW g0 g1 g2 g3 g4 g5 g6 g7 g8
  by_cases hbig : n > 20000
  · go_wp2_with fail
    go_ret
    exact ⟨rfl, HB2.out⟩
  have hnb : n ≤ 20000 := by omega
  obtain ⟨hS, hZ, hF⟩ := hle hnb
  have HS := Aside0.mk hS
  have HZ := Aside0.mk hZ
  have HF := Aside0.mk hF
  clear hle hS hZ hF
  have g0 : w2.cell? ⟨w.heap.size, 0, none⟩ = some (.slice r.a0 m.globals.length r.c0) := (blk_cell HN2 0).trans rfl
  have g1 : w2.cell? ⟨w.heap.size, 1, none⟩ = some (.slice r.a1 m.structs.length r.c1) := (blk_cell HN2 1).trans rfl
  have g2 : w2.cell? ⟨w.heap.size, 2, none⟩ = some (.slice r.a2 m.chans.length r.c2) := (blk_cell HN2 2).trans rfl
  have g3 : w2.cell? ⟨w.heap.size, 3, none⟩ = some (.slice r.a3 m.locks.length r.c3) := (blk_cell HN2 3).trans rfl
  have g4 : w2.cell? ⟨w.heap.size, 4, none⟩ = some (.slice r.a4 m.inputs.length r.c4) := (blk_cell HN2 4).trans rfl
  have g5 : w2.cell? ⟨w.heap.size, 5, none⟩ = some (.slice r.a5 m.sinks.length r.c5) := (blk_cell HN2 5).trans rfl
  have g6 : w2.cell? ⟨w.heap.size, 6, none⟩ = some (.slice r.a6 m.hatches.length r.c6) := (blk_cell HN2 6).trans rfl
  have g7 : w2.cell? ⟨w.heap.size, 7, none⟩ = some (.slice r.a7 m.funcs.length r.c7) := (blk_cell HN2 7).trans rfl
  have g8 : w2.cell? ⟨w.heap.size, 8, none⟩ = some (.slice r.a8 m.threads.length r.c8) := (blk_cell HN2 8).trans rfl
  have HN2 := Aside0.mk HN2
  have CC := Aside0.mk (Copy_any m r w2 HM2.out HK.out HS.out HZ.out HF.out)
  go_wp2_with fail
  refine CC.out.mono ?_
  rintro e w3 ⟨r', rfl, ho, b⟩
  have HM3 := Aside0.mk (HM2.out.below b)
  have HT3 := Aside0.mk (HT2.out.below b)
  have HN3 := Aside0.mk (blk_below HN2.out b)
  have HB3 := Aside0.mk (below_then HB2.out HB2.out.size b)
  have CS := Aside0.mk (Show_any m r' w3 ho.reads.1 HS.out HZ.out HI.out HT3.out)
  clear b ho CC g0 g1 g2 g3 g4 g5 g6 g7 g8
  obtain ⟨st, hst⟩ : ∃ s : ByteArray, (⟨(ShowM m).1.toArray⟩ : ByteArray) = s := ⟨_, rfl⟩
  obtain ⟨se, hse⟩ : ∃ s : Int, (ShowM m).2 = s := ⟨_, rfl⟩
  have ST := Aside0.mk hst
  have SE := Aside0.mk hse
  rw [hst, hse] at CS
  go_wp2_with fail
  refine CS.out.mono ?_
  rintro e w4 ⟨rfl, b⟩
  have HM4 := HM3.out.below b
  have HN4 := Aside0.mk (blk_below HN3.out b)
  have HB4 := Aside0.mk (below_then HB3.out HB3.out.size b)
  have CR := Aside0.mk (showR_any m r w4 HM4 HK.out HS.out HZ.out HI.out)
  rw [hst, hse] at CR
  clear b CS HM4 hst hse
  have g0 : w4.cell? ⟨w.heap.size, 0, none⟩ = some (.slice r.a0 m.globals.length r.c0) := (blk_cell HN4.out 0).trans rfl
  have g1 : w4.cell? ⟨w.heap.size, 1, none⟩ = some (.slice r.a1 m.structs.length r.c1) := (blk_cell HN4.out 1).trans rfl
  have g2 : w4.cell? ⟨w.heap.size, 2, none⟩ = some (.slice r.a2 m.chans.length r.c2) := (blk_cell HN4.out 2).trans rfl
  have g3 : w4.cell? ⟨w.heap.size, 3, none⟩ = some (.slice r.a3 m.locks.length r.c3) := (blk_cell HN4.out 3).trans rfl
  have g4 : w4.cell? ⟨w.heap.size, 4, none⟩ = some (.slice r.a4 m.inputs.length r.c4) := (blk_cell HN4.out 4).trans rfl
  have g5 : w4.cell? ⟨w.heap.size, 5, none⟩ = some (.slice r.a5 m.sinks.length r.c5) := (blk_cell HN4.out 5).trans rfl
  have g6 : w4.cell? ⟨w.heap.size, 6, none⟩ = some (.slice r.a6 m.hatches.length r.c6) := (blk_cell HN4.out 6).trans rfl
  have g7 : w4.cell? ⟨w.heap.size, 7, none⟩ = some (.slice r.a7 m.funcs.length r.c7) := (blk_cell HN4.out 7).trans rfl
  have g8 : w4.cell? ⟨w.heap.size, 8, none⟩ = some (.slice r.a8 m.threads.length r.c8) := (blk_cell HN4.out 8).trans rfl
  go_wp2_with fail
  refine CR.out.mono ?_
  rintro e w5 ⟨rfl, b⟩
  have HB5 := Aside0.mk (below_then HB4.out HB4.out.size b)
  clear b CR g0 g1 g2 g3 g4 g5 g6 g7 g8
  go_wp2_with fail
  go_ret
  exact ⟨by simp, HB5.out⟩
end Go.Proofs.YtdapiibllblpbaaDoor.Code
