import Derived.Test.YtdapiibllblpbaaDoorSE
import Derived.Test.YtdapiibllblpbaaDoorV
import Derived.Test.YtdapiibllblpbaaDoorU
import Derived.Deep.RegionHeld3
namespace Go.Proofs.YtdapiibllblpbaaDoor.Code
open Go.RowKit Go.Proofs.YtdapiibllblpbaaDoorW.PrintWords Go.Proofs.YtdapiibllblpbaaDoorW.PrintLast Go.Proofs.YtdapiibllblpbaaDoorW.PrintMore Go.Proofs.YtdapiibllblpbaaDoor.PCodeAnswers
set_option linter.unusedVariables false
set_option linter.unusedSimpArgs false
set_option maxRecDepth 100000 in
set_option maxHeartbeats 8000000 in
theorem answers_any (m : Md) (r : MdR) (w : World) (hm : MdC w r m) (hk : MdK r m) (hL : MdL m) (hi : MdI m) (ht : Pow10 w) :
    Calls Tryd.prog 3 #[.agg (mdW r m).toArray] w fun e w' => e = .returned (.bool true) ∧ Below w.heap.size w w' := by
  have hb := below_alloc (Below.refl w.heap.size w) (.cells (mdW r m).toArray 27)
  have HB0 := Aside0.mk hb
  have hn := blk_new w (.cells (mdW r m).toArray 27)
  have HN0 := Aside0.mk hn
  have HM0 := Aside0.mk (hm.below hb)
  have HT0 := Aside0.mk (ht.below hb)
  have HK := Aside0.mk hk
  have HL := Aside0.mk hL
  have HI := Aside0.mk hi
  clear hm ht hk hL hi
  obtain ⟨w0, hw0⟩ : ∃ w0, w.alloc (.cells (mdW r m).toArray 27) = w0 := ⟨_, rfl⟩
  rw [hw0] at HB0 hn HM0 HN0 HT0
  have CA := Aside0.mk (alive_any w0 HT0.out)
  clear hb hn
  go_enter Tryd.func3, Tryd.ntmps3
  go_wp2_with fail
  refine CA.out.mono ?_
  rintro e w1 ⟨rfl, b⟩
  have HB1 := Aside0.mk (below_then HB0.out HB0.out.size b)
  have HN1 := blk_below HN0.out b
  have HM1 := Aside0.mk (HM0.out.below b)
  have HT1 := Aside0.mk (HT0.out.below b)
  have g0 : w1.cell? ⟨w.heap.size, 0, none⟩ = some (.slice r.a0 m.globals.length r.c0) := (blk_cell HN1 0).trans rfl
  have g1 : w1.cell? ⟨w.heap.size, 1, none⟩ = some (.slice r.a1 m.structs.length r.c1) := (blk_cell HN1 1).trans rfl
  have g2 : w1.cell? ⟨w.heap.size, 2, none⟩ = some (.slice r.a2 m.chans.length r.c2) := (blk_cell HN1 2).trans rfl
  have g3 : w1.cell? ⟨w.heap.size, 3, none⟩ = some (.slice r.a3 m.locks.length r.c3) := (blk_cell HN1 3).trans rfl
  have g4 : w1.cell? ⟨w.heap.size, 4, none⟩ = some (.slice r.a4 m.inputs.length r.c4) := (blk_cell HN1 4).trans rfl
  have g5 : w1.cell? ⟨w.heap.size, 5, none⟩ = some (.slice r.a5 m.sinks.length r.c5) := (blk_cell HN1 5).trans rfl
  have g6 : w1.cell? ⟨w.heap.size, 6, none⟩ = some (.slice r.a6 m.hatches.length r.c6) := (blk_cell HN1 6).trans rfl
  have g7 : w1.cell? ⟨w.heap.size, 7, none⟩ = some (.slice r.a7 m.funcs.length r.c7) := (blk_cell HN1 7).trans rfl
  have g8 : w1.cell? ⟨w.heap.size, 8, none⟩ = some (.slice r.a8 m.threads.length r.c8) := (blk_cell HN1 8).trans rfl
  have HN1 := Aside0.mk HN1
  have CW := Aside0.mk (weigh_any m r w1 HM1.out HK.out HL.out 40000 (by omega))
  clear b CA hw0
  go_wp2_with fail
  refine CW.out.mono ?_
  rintro e w2 ⟨⟨n, rfl, hle⟩, b⟩
  have HB2 := Aside0.mk (below_then HB1.out HB1.out.size b)
  have HN2 := blk_below HN1.out b
  have HM2 := Aside0.mk (HM1.out.below b)
  have HT2 := Aside0.mk (HT1.out.below b)
  clear b CW g0 g1 g2 g3 g4 g5 g6 g7 g8
  by_cases hbig : n > 40000
  · go_wp2_with fail
    go_ret
    exact ⟨rfl, HB2.out⟩
  have hnb : n ≤ 40000 := by omega
  obtain ⟨hS, hZ, hF⟩ := hle hnb
  have HS := Aside0.mk hS
  have HZ := Aside0.mk hZ
  have HF := Aside0.mk hF
  clear hle hS hZ hF
  have g0 : w2.cell? ⟨w.heap.size, 0, none⟩ = some (.slice r.a0 m.globals.length r.c0) := (blk_cell HN2 0).trans rfl
  have g1 : w2.cell? ⟨w.heap.size, 1, none⟩ = some (.slice r.a1 m.structs.length r.c1) := (blk_cell HN2 1).trans rfl
  have g2 : w2.cell? ⟨w.heap.size, 2, none⟩ = some (.slice r.a2 m.chans.length r.c2) := (blk_cell HN2 2).trans rfl
  have g3 : w2.cell? ⟨w.heap.size, 3, none⟩ = some (.slice r.a3 m.locks.length r.c3) := (blk_cell HN2 3).trans rfl
  have g4 : w2.cell? ⟨w.heap.size, 4, none⟩ = some (.slice r.a4 m.inputs.length r.c4) := (blk_cell HN2 4).trans rfl
  have g5 : w2.cell? ⟨w.heap.size, 5, none⟩ = some (.slice r.a5 m.sinks.length r.c5) := (blk_cell HN2 5).trans rfl
  have g6 : w2.cell? ⟨w.heap.size, 6, none⟩ = some (.slice r.a6 m.hatches.length r.c6) := (blk_cell HN2 6).trans rfl
  have g7 : w2.cell? ⟨w.heap.size, 7, none⟩ = some (.slice r.a7 m.funcs.length r.c7) := (blk_cell HN2 7).trans rfl
  have g8 : w2.cell? ⟨w.heap.size, 8, none⟩ = some (.slice r.a8 m.threads.length r.c8) := (blk_cell HN2 8).trans rfl
  have HN2 := Aside0.mk HN2
  have CC := Aside0.mk (Copy_any m r w2 HM2.out HK.out HS.out HZ.out HF.out)
  go_wp2_with fail
  refine CC.out.mono ?_
  rintro e w3 ⟨r', rfl, ho, b⟩
  obtain ⟨w4, hw4⟩ : ∃ w4, w3.alloc (.cells (mdW r' m).toArray 27) = w4 := ⟨_, rfl⟩
  have b4 : Below w3.heap.size w3 w4 := by rw [← hw4]; exact below_alloc (Below.refl _ _) _
  have HNN : Aside0 (w4.heap[w3.heap.size]? = some (.cells (mdW r' m).toArray 27 (0, 0))) := ⟨by rw [← hw4]; exact blk_new w3 _⟩
  have HM4 := Aside0.mk ((HM2.out.below b).below b4)
  have HO4 := Aside0.mk (ho.reads.1.below b4)
  have HK2 := Aside0.mk ho.reads.2
  have HN4 := Aside0.mk (blk_below (blk_below HN2.out b) b4)
  have HB4 := Aside0.mk (below_then HB2.out HB2.out.size (below_then b b.size b4))
  clear b ho CC b4 g0 g1 g2 g3 g4 g5 g6 g7 g8
  go_wp2_with (refine wpList_store_row rfl 27 (.tmp 3) (.tmp 10) rfl w3.heap.size (mdW r' m).toArray rfl rfl 27 _ (blk_new w3 _) (by kernel_rfl) rfl (by simp [mdW]; exact ⟨rfl, rfl, rfl, rfl, rfl, rfl, rfl, rfl, rfl⟩) ?_; rw [World.setRow_alloc_new, hw4])
  clear hw4
  obtain ⟨b3, hb3⟩ : ∃ b3, w3.heap.size = b3 := ⟨_, rfl⟩
  rw [hb3] at HNN ⊢
  clear hb3
  have g0 : w4.cell? ⟨w.heap.size, 0, none⟩ = some (.slice r.a0 m.globals.length r.c0) := (blk_cell HN4.out 0).trans rfl
  have g1 : w4.cell? ⟨w.heap.size, 1, none⟩ = some (.slice r.a1 m.structs.length r.c1) := (blk_cell HN4.out 1).trans rfl
  have g2 : w4.cell? ⟨w.heap.size, 2, none⟩ = some (.slice r.a2 m.chans.length r.c2) := (blk_cell HN4.out 2).trans rfl
  have g3 : w4.cell? ⟨w.heap.size, 3, none⟩ = some (.slice r.a3 m.locks.length r.c3) := (blk_cell HN4.out 3).trans rfl
  have g4 : w4.cell? ⟨w.heap.size, 4, none⟩ = some (.slice r.a4 m.inputs.length r.c4) := (blk_cell HN4.out 4).trans rfl
  have g5 : w4.cell? ⟨w.heap.size, 5, none⟩ = some (.slice r.a5 m.sinks.length r.c5) := (blk_cell HN4.out 5).trans rfl
  have g6 : w4.cell? ⟨w.heap.size, 6, none⟩ = some (.slice r.a6 m.hatches.length r.c6) := (blk_cell HN4.out 6).trans rfl
  have g7 : w4.cell? ⟨w.heap.size, 7, none⟩ = some (.slice r.a7 m.funcs.length r.c7) := (blk_cell HN4.out 7).trans rfl
  have g8 : w4.cell? ⟨w.heap.size, 8, none⟩ = some (.slice r.a8 m.threads.length r.c8) := (blk_cell HN4.out 8).trans rfl
  have n0 : w4.cell? ⟨b3, 0, none⟩ = some (.slice r'.a0 m.globals.length r'.c0) := (blk_cell HNN.out 0).trans rfl
  have n1 : w4.cell? ⟨b3, 1, none⟩ = some (.slice r'.a1 m.structs.length r'.c1) := (blk_cell HNN.out 1).trans rfl
  have n2 : w4.cell? ⟨b3, 2, none⟩ = some (.slice r'.a2 m.chans.length r'.c2) := (blk_cell HNN.out 2).trans rfl
  have n3 : w4.cell? ⟨b3, 3, none⟩ = some (.slice r'.a3 m.locks.length r'.c3) := (blk_cell HNN.out 3).trans rfl
  have n4 : w4.cell? ⟨b3, 4, none⟩ = some (.slice r'.a4 m.inputs.length r'.c4) := (blk_cell HNN.out 4).trans rfl
  have n5 : w4.cell? ⟨b3, 5, none⟩ = some (.slice r'.a5 m.sinks.length r'.c5) := (blk_cell HNN.out 5).trans rfl
  have n6 : w4.cell? ⟨b3, 6, none⟩ = some (.slice r'.a6 m.hatches.length r'.c6) := (blk_cell HNN.out 6).trans rfl
  have n7 : w4.cell? ⟨b3, 7, none⟩ = some (.slice r'.a7 m.funcs.length r'.c7) := (blk_cell HNN.out 7).trans rfl
  have n8 : w4.cell? ⟨b3, 8, none⟩ = some (.slice r'.a8 m.threads.length r'.c8) := (blk_cell HNN.out 8).trans rfl
  have KEEP : Aside0 (∀ w', Aside0 (Below w4.heap.size w4 w') → w'.cell? ⟨w.heap.size, 0, none⟩ = some (.slice r.a0 m.globals.length r.c0) ∧ w'.cell? ⟨w.heap.size, 1, none⟩ = some (.slice r.a1 m.structs.length r.c1) ∧ w'.cell? ⟨w.heap.size, 2, none⟩ = some (.slice r.a2 m.chans.length r.c2) ∧ w'.cell? ⟨w.heap.size, 3, none⟩ = some (.slice r.a3 m.locks.length r.c3) ∧ w'.cell? ⟨w.heap.size, 4, none⟩ = some (.slice r.a4 m.inputs.length r.c4) ∧ w'.cell? ⟨w.heap.size, 5, none⟩ = some (.slice r.a5 m.sinks.length r.c5) ∧ w'.cell? ⟨w.heap.size, 6, none⟩ = some (.slice r.a6 m.hatches.length r.c6) ∧ w'.cell? ⟨w.heap.size, 7, none⟩ = some (.slice r.a7 m.funcs.length r.c7) ∧ w'.cell? ⟨w.heap.size, 8, none⟩ = some (.slice r.a8 m.threads.length r.c8) ∧ w'.cell? ⟨b3, 0, none⟩ = some (.slice r'.a0 m.globals.length r'.c0) ∧ w'.cell? ⟨b3, 1, none⟩ = some (.slice r'.a1 m.structs.length r'.c1) ∧ w'.cell? ⟨b3, 2, none⟩ = some (.slice r'.a2 m.chans.length r'.c2) ∧ w'.cell? ⟨b3, 3, none⟩ = some (.slice r'.a3 m.locks.length r'.c3) ∧ w'.cell? ⟨b3, 4, none⟩ = some (.slice r'.a4 m.inputs.length r'.c4) ∧ w'.cell? ⟨b3, 5, none⟩ = some (.slice r'.a5 m.sinks.length r'.c5) ∧ w'.cell? ⟨b3, 6, none⟩ = some (.slice r'.a6 m.hatches.length r'.c6) ∧ w'.cell? ⟨b3, 7, none⟩ = some (.slice r'.a7 m.funcs.length r'.c7) ∧ w'.cell? ⟨b3, 8, none⟩ = some (.slice r'.a8 m.threads.length r'.c8)) := ⟨fun w' h => ⟨(blk_cell (blk_below HN4.out h.out) 0).trans rfl, (blk_cell (blk_below HN4.out h.out) 1).trans rfl, (blk_cell (blk_below HN4.out h.out) 2).trans rfl, (blk_cell (blk_below HN4.out h.out) 3).trans rfl, (blk_cell (blk_below HN4.out h.out) 4).trans rfl, (blk_cell (blk_below HN4.out h.out) 5).trans rfl, (blk_cell (blk_below HN4.out h.out) 6).trans rfl, (blk_cell (blk_below HN4.out h.out) 7).trans rfl, (blk_cell (blk_below HN4.out h.out) 8).trans rfl, (blk_cell (blk_below HNN.out h.out) 0).trans rfl, (blk_cell (blk_below HNN.out h.out) 1).trans rfl, (blk_cell (blk_below HNN.out h.out) 2).trans rfl, (blk_cell (blk_below HNN.out h.out) 3).trans rfl, (blk_cell (blk_below HNN.out h.out) 4).trans rfl, (blk_cell (blk_below HNN.out h.out) 5).trans rfl, (blk_cell (blk_below HNN.out h.out) 6).trans rfl, (blk_cell (blk_below HNN.out h.out) 7).trans rfl, (blk_cell (blk_below HNN.out h.out) 8).trans rfl⟩⟩
  have Z0 : Aside0 (Below w4.heap.size w4 w4.drew) := ⟨(Below.refl w4.heap.size w4).drew⟩
  have TH : Aside0 (∀ W W', Aside0 (Below w4.heap.size w4 W) → Below W.heap.size W W' → Aside0 (Below w4.heap.size w4 W')) := ⟨fun W W' h b => ⟨below_then h.out h.out.size b⟩⟩
  obtain ⟨rb, hrb⟩ : ∃ b, RightM m = b := ⟨_, rfl⟩
  obtain ⟨wn, hwn⟩ : ∃ b, WordsM m = b := ⟨_, rfl⟩
  obtain ⟨sz, hsz⟩ : ∃ b, SizeM m = b := ⟨_, rfl⟩
  have C11 : Aside0 (∀ W, Aside0 (Below w4.heap.size w4 W) → Calls Tryd.prog 11 #[.agg #[.slice r'.a0 m.globals.length r'.c0, .slice r'.a1 m.structs.length r'.c1, .slice r'.a2 m.chans.length r'.c2, .slice r'.a3 m.locks.length r'.c3, .slice r'.a4 m.inputs.length r'.c4, .slice r'.a5 m.sinks.length r'.c5, .slice r'.a6 m.hatches.length r'.c6, .slice r'.a7 m.funcs.length r'.c7, .slice r'.a8 m.threads.length r'.c8]] W fun e w' => e = .returned (.bool rb) ∧ Below W.heap.size W w') := ⟨fun W h => by
    have := Right_any m r' W (HO4.out.below h.out) HS.out HZ.out
    rwa [hrb] at this⟩
  have C12 : Aside0 (∀ W, Aside0 (Below w4.heap.size w4 W) → Calls Tryd.prog 12 #[.agg #[.slice r.a0 m.globals.length r.c0, .slice r.a1 m.structs.length r.c1, .slice r.a2 m.chans.length r.c2, .slice r.a3 m.locks.length r.c3, .slice r.a4 m.inputs.length r.c4, .slice r.a5 m.sinks.length r.c5, .slice r.a6 m.hatches.length r.c6, .slice r.a7 m.funcs.length r.c7, .slice r.a8 m.threads.length r.c8]] W fun e w' => e = .returned (.bool rb) ∧ Below W.heap.size W w') := ⟨fun W h => by
    have := rightR_any m r W (HM4.out.below h.out) HK.out HS.out HZ.out
    rwa [hrb] at this⟩
  have C13 : Aside0 (∀ W, Aside0 (Below w4.heap.size w4 W) → Calls Tryd.prog 13 #[.agg #[.slice r'.a0 m.globals.length r'.c0, .slice r'.a1 m.structs.length r'.c1, .slice r'.a2 m.chans.length r'.c2, .slice r'.a3 m.locks.length r'.c3, .slice r'.a4 m.inputs.length r'.c4, .slice r'.a5 m.sinks.length r'.c5, .slice r'.a6 m.hatches.length r'.c6, .slice r'.a7 m.funcs.length r'.c7, .slice r'.a8 m.threads.length r'.c8]] W fun e w' => e = .returned (.int .i64 wn) ∧ Below W.heap.size W w') := ⟨fun W h => by
    have := Words_any m r' W (HO4.out.below h.out) HS.out HZ.out
    rwa [hwn] at this⟩
  have C14 : Aside0 (∀ W, Aside0 (Below w4.heap.size w4 W) → Calls Tryd.prog 14 #[.agg #[.slice r.a0 m.globals.length r.c0, .slice r.a1 m.structs.length r.c1, .slice r.a2 m.chans.length r.c2, .slice r.a3 m.locks.length r.c3, .slice r.a4 m.inputs.length r.c4, .slice r.a5 m.sinks.length r.c5, .slice r.a6 m.hatches.length r.c6, .slice r.a7 m.funcs.length r.c7, .slice r.a8 m.threads.length r.c8]] W fun e w' => e = .returned (.int .i64 wn) ∧ Below W.heap.size W w') := ⟨fun W h => by
    have := WordsR_any m r W (HM4.out.below h.out) HK.out HS.out HZ.out
    rwa [hwn] at this⟩
  have C15 : Aside0 (∀ W, Aside0 (Below w4.heap.size w4 W) → Calls Tryd.prog 15 #[.agg #[.slice r'.a0 m.globals.length r'.c0, .slice r'.a1 m.structs.length r'.c1, .slice r'.a2 m.chans.length r'.c2, .slice r'.a3 m.locks.length r'.c3, .slice r'.a4 m.inputs.length r'.c4, .slice r'.a5 m.sinks.length r'.c5, .slice r'.a6 m.hatches.length r'.c6, .slice r'.a7 m.funcs.length r'.c7, .slice r'.a8 m.threads.length r'.c8]] W fun e w' => e = .returned (.int .i64 sz) ∧ Below W.heap.size W w') := ⟨fun W h => by
    have := Size_any m r' W (HO4.out.below h.out) HS.out HZ.out
    rwa [hsz] at this⟩
  have C16 : Aside0 (∀ W, Aside0 (Below w4.heap.size w4 W) → Calls Tryd.prog 16 #[.agg #[.slice r.a0 m.globals.length r.c0, .slice r.a1 m.structs.length r.c1, .slice r.a2 m.chans.length r.c2, .slice r.a3 m.locks.length r.c3, .slice r.a4 m.inputs.length r.c4, .slice r.a5 m.sinks.length r.c5, .slice r.a6 m.hatches.length r.c6, .slice r.a7 m.funcs.length r.c7, .slice r.a8 m.threads.length r.c8]] W fun e w' => e = .returned (.int .i64 sz) ∧ Below W.heap.size W w') := ⟨fun W h => by
    have := SizeR_any m r W (HM4.out.below h.out) HK.out HS.out HZ.out
    rwa [hsz] at this⟩
  have C17 : Aside0 (∀ W, Aside0 (Below w4.heap.size w4 W) → Calls Tryd.prog 17 #[.agg #[.slice r'.a0 m.globals.length r'.c0, .slice r'.a1 m.structs.length r'.c1, .slice r'.a2 m.chans.length r'.c2, .slice r'.a3 m.locks.length r'.c3, .slice r'.a4 m.inputs.length r'.c4, .slice r'.a5 m.sinks.length r'.c5, .slice r'.a6 m.hatches.length r'.c6, .slice r'.a7 m.funcs.length r'.c7, .slice r'.a8 m.threads.length r'.c8], .agg #[.slice r.a0 m.globals.length r.c0, .slice r.a1 m.structs.length r.c1, .slice r.a2 m.chans.length r.c2, .slice r.a3 m.locks.length r.c3, .slice r.a4 m.inputs.length r.c4, .slice r.a5 m.sinks.length r.c5, .slice r.a6 m.hatches.length r.c6, .slice r.a7 m.funcs.length r.c7, .slice r.a8 m.threads.length r.c8]] W fun e w' => e = .returned (.bool true) ∧ Below W.heap.size W w') := ⟨fun W h => sameModR m r' r W (HO4.out.below h.out) HK2.out (HM4.out.below h.out) HK.out HS.out HZ.out HF.out⟩
  clear hrb hwn hsz
  first | (go_region_held3 (fun w' => w'.cell? ⟨w.heap.size, 0, none⟩ = some (.slice r.a0 m.globals.length r.c0) ∧ w'.cell? ⟨w.heap.size, 1, none⟩ = some (.slice r.a1 m.structs.length r.c1) ∧ w'.cell? ⟨w.heap.size, 2, none⟩ = some (.slice r.a2 m.chans.length r.c2) ∧ w'.cell? ⟨w.heap.size, 3, none⟩ = some (.slice r.a3 m.locks.length r.c3) ∧ w'.cell? ⟨w.heap.size, 4, none⟩ = some (.slice r.a4 m.inputs.length r.c4) ∧ w'.cell? ⟨w.heap.size, 5, none⟩ = some (.slice r.a5 m.sinks.length r.c5) ∧ w'.cell? ⟨w.heap.size, 6, none⟩ = some (.slice r.a6 m.hatches.length r.c6) ∧ w'.cell? ⟨w.heap.size, 7, none⟩ = some (.slice r.a7 m.funcs.length r.c7) ∧ w'.cell? ⟨w.heap.size, 8, none⟩ = some (.slice r.a8 m.threads.length r.c8) ∧ w'.cell? ⟨b3, 0, none⟩ = some (.slice r'.a0 m.globals.length r'.c0) ∧ w'.cell? ⟨b3, 1, none⟩ = some (.slice r'.a1 m.structs.length r'.c1) ∧ w'.cell? ⟨b3, 2, none⟩ = some (.slice r'.a2 m.chans.length r'.c2) ∧ w'.cell? ⟨b3, 3, none⟩ = some (.slice r'.a3 m.locks.length r'.c3) ∧ w'.cell? ⟨b3, 4, none⟩ = some (.slice r'.a4 m.inputs.length r'.c4) ∧ w'.cell? ⟨b3, 5, none⟩ = some (.slice r'.a5 m.sinks.length r'.c5) ∧ w'.cell? ⟨b3, 6, none⟩ = some (.slice r'.a6 m.hatches.length r'.c6) ∧ w'.cell? ⟨b3, 7, none⟩ = some (.slice r'.a7 m.funcs.length r'.c7) ∧ w'.cell? ⟨b3, 8, none⟩ = some (.slice r'.a8 m.threads.length r'.c8))
    (first | exact KEEP.out _ (by assumption))
    (first
      | (go_at_call 11; with_reducible refine (C11.out _ (by assumption)).mono ?_; rintro e w' ⟨rfl, b⟩; have z := TH.out _ _ (by assumption) b; clear b)
      | (go_at_call 12; with_reducible refine (C12.out _ (by assumption)).mono ?_; rintro e w' ⟨rfl, b⟩; have z := TH.out _ _ (by assumption) b; clear b)
      | (go_at_call 13; with_reducible refine (C13.out _ (by assumption)).mono ?_; rintro e w' ⟨rfl, b⟩; have z := TH.out _ _ (by assumption) b; clear b)
      | (go_at_call 14; with_reducible refine (C14.out _ (by assumption)).mono ?_; rintro e w' ⟨rfl, b⟩; have z := TH.out _ _ (by assumption) b; clear b)
      | (go_at_call 15; with_reducible refine (C15.out _ (by assumption)).mono ?_; rintro e w' ⟨rfl, b⟩; have z := TH.out _ _ (by assumption) b; clear b)
      | (go_at_call 16; with_reducible refine (C16.out _ (by assumption)).mono ?_; rintro e w' ⟨rfl, b⟩; have z := TH.out _ _ (by assumption) b; clear b)
      | (go_at_call 17; with_reducible refine (C17.out _ (by assumption)).mono ?_; rintro e w' ⟨rfl, b⟩; have z := TH.out _ _ (by assumption) b; clear b))) | fail
  all_goals (
    go_wp2_with fail
    go_ret
    exact ⟨by simp, below_then HB4.out HB4.out.size (Aside0.out (by assumption : Aside0 (Below w4.heap.size w4 _)))⟩)
end Go.Proofs.YtdapiibllblpbaaDoor.Code
