import Derived.Test.YtdapiibllblpbaaDoorM
import Derived.Deep.RegionHeld3
import Derived.Laws.CopyOwn
namespace Go.Proofs.YtdapiibllblpbaaDoor.Code
open Go.RowKit Go.Proofs.YtdapiibllblpbaaDoorW.PrintWords Go.Proofs.YtdapiibllblpbaaDoorW.PrintLast Go.Proofs.YtdapiibllblpbaaDoorW.PrintMore Go.Proofs.YtdapiibllblpbaaDoor.PCodeAnswers
set_option linter.unusedVariables false
set_option linter.unusedSimpArgs false

def funcR (m : Md) (f : S39) : Bool := !f.f4.any (nope m f)
def RightM (m : Md) : Bool := frameM m && m.funcs.all (funcR m)
/-- Every list within the functions is a small one. -/
def MdZ (m : Md) : Prop := ∀ f ∈ m.funcs, ∀ o ∈ f.f4, o.f8.length ≤ 1000000
theorem rd39_mem (l : List S39) (k : Nat) (hk : k < l.length) : rd_T39 l k ∈ l := by
  unfold rd_T39
  rw [Int.toNat_natCast, List.getD_eq_getElem?_getD, List.getElem?_eq_getElem hk]
  exact List.getElem_mem _
set_option maxRecDepth 100000 in
set_option maxHeartbeats 4000000 in
theorem Right_any (m : Md) (r : MdR) (w : World) (hm : MdC w r m) (hs : MdS m) (hz : MdZ m) :
    Calls Tryd.prog 11 #[.agg (mdW r m).toArray] w fun e w' => e = .returned (.bool (RightM m)) ∧ Below w.heap.size w w' := by
  have hb := below_alloc (Below.refl w.heap.size w) (.cells (mdW r m).toArray 27)
  have HB0 := Aside0.mk hb
  have hn := blk_new w (.cells (mdW r m).toArray 27)
  obtain ⟨w0, hw0⟩ : ∃ w0, w.alloc (.cells (mdW r m).toArray 27) = w0 := ⟨_, rfl⟩
  have CF := Aside0.mk (frame_try m r w0 (hw0 ▸ hm.below hb) hs)
  have HM0 := Aside0.mk (hm.below hb)
  rw [hw0] at HB0 hn HM0
  have HN0 := Aside0.mk hn
  have HS := Aside0.mk hs
  have HZ := Aside0.mk hz
  have hl7 := hs.l7
  clear hb hm hs hz
  have g0 : w0.cell? ⟨w.heap.size, 0, none⟩ = some (.slice r.a0 m.globals.length r.c0) := (blk_cell hn 0).trans rfl
  have g1 : w0.cell? ⟨w.heap.size, 1, none⟩ = some (.slice r.a1 m.structs.length r.c1) := (blk_cell hn 1).trans rfl
  have g2 : w0.cell? ⟨w.heap.size, 2, none⟩ = some (.slice r.a2 m.chans.length r.c2) := (blk_cell hn 2).trans rfl
  have g3 : w0.cell? ⟨w.heap.size, 3, none⟩ = some (.slice r.a3 m.locks.length r.c3) := (blk_cell hn 3).trans rfl
  have g4 : w0.cell? ⟨w.heap.size, 4, none⟩ = some (.slice r.a4 m.inputs.length r.c4) := (blk_cell hn 4).trans rfl
  have g5 : w0.cell? ⟨w.heap.size, 5, none⟩ = some (.slice r.a5 m.sinks.length r.c5) := (blk_cell hn 5).trans rfl
  have g6 : w0.cell? ⟨w.heap.size, 6, none⟩ = some (.slice r.a6 m.hatches.length r.c6) := (blk_cell hn 6).trans rfl
  have g7 : w0.cell? ⟨w.heap.size, 7, none⟩ = some (.slice r.a7 m.funcs.length r.c7) := (blk_cell hn 7).trans rfl
  have g8 : w0.cell? ⟨w.heap.size, 8, none⟩ = some (.slice r.a8 m.threads.length r.c8) := (blk_cell hn 8).trans rfl
  clear hn
  obtain ⟨b0, hb0⟩ : ∃ b, frameM m = b := ⟨_, rfl⟩
  rw [hb0] at CF
  have HF := Aside0.mk hb0
  clear hb0
  go_enter Tryd.func11, Tryd.ntmps11
  go_wp2_with fail
  refine CF.out.mono ?_
  rintro e w1 ⟨rfl, b⟩
  have HB1 := Aside0.mk (below_then HB0.out HB0.out.size b)
  have hn1 := blk_below HN0.out b
  have HN1 := Aside0.mk hn1
  have HM1 := Aside0.mk (HM0.out.below b)
  clear b CF hw0 g0 g1 g2 g3 g4 g5 g6 g7 g8
  cases b0 with
  | false =>
    have HE : Aside0 (RightM m = false) := ⟨by unfold RightM; rw [HF.out]; rfl⟩
    go_wp2_with fail
    go_ret
    exact ⟨by rw [HE.out]; rfl, HB1.out⟩
  | true =>
    have g7 : w1.cell? ⟨w.heap.size, 7, none⟩ = some (.slice r.a7 m.funcs.length r.c7) := (blk_cell hn1 7).trans rfl
    clear hn1
    have hall : m.funcs.all funcOk = true ∧ sizedM m.globals 16 1 2 = true := by
      have := HF.out
      unfold frameM at this
      simp only [Bool.and_eq_true] at this
      exact ⟨this.1, this.2.1.1⟩
    have HAL := Aside0.mk hall.1
    have HG := Aside0.mk hall.2
    clear hall
    have HE : Aside0 (RightM m = m.funcs.all (funcR m)) := ⟨by unfold RightM; rw [HF.out]; rfl⟩
    go_wp2_with fail
    go_loopw [12] (fun i wr => ∃ k : Nat, i = .int .i64 k ∧ k ≤ m.funcs.length ∧ Aside0 (∀ j : Nat, j < k → funcR m (rd_T39 m.funcs j) = true) ∧ Aside0 (wr.heap[w.heap.size]? = some (.cells (mdW r m).toArray 27 (0, 0))) ∧ Aside0 (MdC wr r m) ∧ Aside0 (Below w.heap.size w wr)) (fun i _ => m.funcs.length - (intOf i).toNat)
    case atStart => exact ⟨0, rfl, Nat.zero_le _, ⟨fun j hj => absurd hj (Nat.not_lt_zero j)⟩, HN1, HM1, HB1⟩
    case round =>
      obtain ⟨k, rfl, hk, HO, HN, HM, HB⟩ := hrel
      obtain ⟨wi, rfl⟩ : ∃ wi : World, wi = wr := ⟨_, rfl⟩
      clear g7
      by_cases hlt : k < m.funcs.length
      · obtain ⟨ad, A4, c4, eA, d0, d1, d2, d3, d4, hl4, h4⟩ := at_T39 HM.out.h7 k (by omega) (by omega)
        have HA7 := Aside0.mk eA
        rw [eA]
        clear eA
        rw [Int.toNat_natCast] at d0 d1 d2 d3 d4
        have HFO : Aside0 (funcOk (rd_T39 m.funcs k) = true) := ⟨List.all_eq_true.1 HAL.out _ (rd39_mem _ _ hlt)⟩
        have HFZ : Aside0 (∀ o ∈ (rd_T39 m.funcs k).f4, o.f8.length ≤ 1000000) := ⟨HZ.out _ (rd39_mem _ _ hlt)⟩
        obtain ⟨f, hf⟩ : ∃ f, rd_T39 m.funcs k = f := ⟨_, rfl⟩
        rw [hf] at d0 d1 d2 d3 d4 h4 hl4 HFO HFZ
        have H4 := Aside0.mk h4
        have HFF := Aside0.mk hf
        clear hf h4 hl4
        have hst := store39 wi f.f0 f.f1 f.f2 f.f3 (.slice A4 f.f4.length c4) rfl
        have hlk := hlt
        obtain ⟨o, ho⟩ : ∃ o : Obj, (.cells #[.string f.f0, .int .i64 f.f1, .int .i64 f.f2, .int .i64 f.f3, .slice A4 f.f4.length c4] 39) = o := ⟨_, rfl⟩
        obtain ⟨w2, hw2⟩ : ∃ w2, wi.alloc o = w2 := ⟨_, rfl⟩
        go_wp2_with fail
        have HNm : Aside0 (w2.heap[w.heap.size]? = some (.cells (mdW r m).toArray 27 (0, 0))) := ⟨hw2 ▸ blk_below HN.out (below_alloc (Below.refl wi.heap.size wi) o)⟩
        have HNf : Aside0 (w2.heap[wi.heap.size]? = some (.cells #[.string f.f0, .int .i64 f.f1, .int .i64 f.f2, .int .i64 f.f3, .slice A4 f.f4.length c4] 39 (0, 0))) := ⟨by rw [← hw2, ← ho]; exact blk_new wi _⟩
        have HB2 : Aside0 (Below wi.heap.size wi w2) := ⟨hw2 ▸ below_alloc (Below.refl wi.heap.size wi) o⟩
        have HM2 : Aside0 (MdC w2 r m) := ⟨HM.out.below HB2.out⟩
        have HBB2 : Aside0 (Below w.heap.size w w2) := ⟨below_then HB.out HB.out.size HB2.out⟩
        have CW : Aside0 (∀ W, Aside0 (Below w2.heap.size w2 W) → Calls Tryd.prog 28 #[.agg (mdW r m).toArray] W fun e w' => e = .returned (.int .i64 (wordsM m)) ∧ Below W.heap.size W w') := ⟨fun W h => words_any m r W (HM2.out.below h.out) HS.out HG.out⟩
        have KEEP : Aside0 (∀ w', Aside0 (Below w2.heap.size w2 w') → (fun w' => w'.cell? ⟨w.heap.size, 0, none⟩ = some (.slice r.a0 m.globals.length r.c0) ∧ w'.cell? ⟨w.heap.size, 1, none⟩ = some (.slice r.a1 m.structs.length r.c1) ∧ w'.cell? ⟨w.heap.size, 2, none⟩ = some (.slice r.a2 m.chans.length r.c2) ∧ w'.cell? ⟨w.heap.size, 3, none⟩ = some (.slice r.a3 m.locks.length r.c3) ∧ w'.cell? ⟨w.heap.size, 4, none⟩ = some (.slice r.a4 m.inputs.length r.c4) ∧ w'.cell? ⟨w.heap.size, 5, none⟩ = some (.slice r.a5 m.sinks.length r.c5) ∧ w'.cell? ⟨w.heap.size, 6, none⟩ = some (.slice r.a6 m.hatches.length r.c6) ∧ w'.cell? ⟨w.heap.size, 7, none⟩ = some (.slice r.a7 m.funcs.length r.c7) ∧ w'.cell? ⟨w.heap.size, 8, none⟩ = some (.slice r.a8 m.threads.length r.c8) ∧ w'.cell? ⟨wi.heap.size, 0, none⟩ = some (.string f.f0) ∧ w'.cell? ⟨wi.heap.size, 1, none⟩ = some (.int .i64 f.f1) ∧ w'.cell? ⟨wi.heap.size, 2, none⟩ = some (.int .i64 f.f2) ∧ w'.cell? ⟨wi.heap.size, 3, none⟩ = some (.int .i64 f.f3) ∧ w'.cell? ⟨wi.heap.size, 4, none⟩ = some (.slice A4 f.f4.length c4) ∧ Aside0 (Below w2.heap.size w2 w')) w') := ⟨fun w' h => ⟨(blk_cell (blk_below HNm.out h.out) 0).trans rfl, (blk_cell (blk_below HNm.out h.out) 1).trans rfl, (blk_cell (blk_below HNm.out h.out) 2).trans rfl, (blk_cell (blk_below HNm.out h.out) 3).trans rfl, (blk_cell (blk_below HNm.out h.out) 4).trans rfl, (blk_cell (blk_below HNm.out h.out) 5).trans rfl, (blk_cell (blk_below HNm.out h.out) 6).trans rfl, (blk_cell (blk_below HNm.out h.out) 7).trans rfl, (blk_cell (blk_below HNm.out h.out) 8).trans rfl, (blk_cell (blk_below HNf.out h.out) 0).trans rfl, (blk_cell (blk_below HNf.out h.out) 1).trans rfl, (blk_cell (blk_below HNf.out h.out) 2).trans rfl, (blk_cell (blk_below HNf.out h.out) 3).trans rfl, (blk_cell (blk_below HNf.out h.out) 4).trans rfl, h⟩⟩
        have TH : Aside0 (∀ W W', Aside0 (Below w2.heap.size w2 W) → Below W.heap.size W W' → Aside0 (Below w2.heap.size w2 W')) := ⟨fun W W' h b => ⟨below_then h.out h.out.size b⟩⟩
        have TA : Aside0 (∀ W O, Aside0 (Below w2.heap.size w2 W) → Aside0 (Below w2.heap.size w2 (World.alloc W O))) := ⟨fun W O h => ⟨below_alloc' h.out (Nat.le_refl _) O⟩⟩
        have Z0 : Aside0 (Below w2.heap.size w2 w2.drew) := ⟨(Below.refl w2.heap.size w2).drew⟩
        refine wp_region_noPanic ?_
        refine wp_region_held_drew (S := (fun w' => w'.cell? ⟨w.heap.size, 0, none⟩ = some (.slice r.a0 m.globals.length r.c0) ∧ w'.cell? ⟨w.heap.size, 1, none⟩ = some (.slice r.a1 m.structs.length r.c1) ∧ w'.cell? ⟨w.heap.size, 2, none⟩ = some (.slice r.a2 m.chans.length r.c2) ∧ w'.cell? ⟨w.heap.size, 3, none⟩ = some (.slice r.a3 m.locks.length r.c3) ∧ w'.cell? ⟨w.heap.size, 4, none⟩ = some (.slice r.a4 m.inputs.length r.c4) ∧ w'.cell? ⟨w.heap.size, 5, none⟩ = some (.slice r.a5 m.sinks.length r.c5) ∧ w'.cell? ⟨w.heap.size, 6, none⟩ = some (.slice r.a6 m.hatches.length r.c6) ∧ w'.cell? ⟨w.heap.size, 7, none⟩ = some (.slice r.a7 m.funcs.length r.c7) ∧ w'.cell? ⟨w.heap.size, 8, none⟩ = some (.slice r.a8 m.threads.length r.c8) ∧ w'.cell? ⟨wi.heap.size, 0, none⟩ = some (.string f.f0) ∧ w'.cell? ⟨wi.heap.size, 1, none⟩ = some (.int .i64 f.f1) ∧ w'.cell? ⟨wi.heap.size, 2, none⟩ = some (.int .i64 f.f2) ∧ w'.cell? ⟨wi.heap.size, 3, none⟩ = some (.int .i64 f.f3) ∧ w'.cell? ⟨wi.heap.size, 4, none⟩ = some (.slice A4 f.f4.length c4) ∧ Aside0 (Below w2.heap.size w2 w'))) (by kernel_rfl) (KEEP.out _ Z0) (fun hHeld => ?_)
        refine wpAnyH_take (i := 0) (oi := { dst := some 16, op := Op.load 27 (Operand.tmp 1), type := 27, pos := "code.go:154", after := #[], guard := none }) (v := ?_) rfl (by kernel_rfl) (by kernel_rfl) (by kernel_rfl) (fun _ _ _ h => h) (Or.inl ⟨by rfl, ?_⟩) (by assumption) ?_
        rotate_left
        · first | (intro w hSw; (try dsimp only at hSw); go_simp; done) | (intro w hSw; (try dsimp only at hSw); go_simp; with_reducible rfl)
        try simp only [Act.put, List.setIfInBounds_toArray, List.set_cons_zero, List.set_cons_succ]
        refine wpAnyH_take (i := 1) (oi := { dst := some 17, op := Op.load 39 (Operand.tmp 4), type := 39, pos := "code.go:154", after := #[], guard := none }) (v := ?_) rfl (by kernel_rfl) (by kernel_rfl) (by kernel_rfl) (fun _ _ _ h => h) (Or.inl ⟨by rfl, ?_⟩) (by assumption) ?_
        rotate_left
        · first | (intro w hSw; (try dsimp only at hSw); go_simp; done) | (intro w hSw; (try dsimp only at hSw); go_simp; with_reducible rfl)
        try simp only [Act.put, List.setIfInBounds_toArray, List.set_cons_zero, List.set_cons_succ]
        refine wpAnyH_take (i := 2) (oi := { dst := some 18, op := Op.load 27 (Operand.tmp 1), type := 27, pos := "code.go:154", after := #[], guard := none }) (v := ?_) rfl (by kernel_rfl) (by kernel_rfl) (by kernel_rfl) (fun _ _ _ h => h) (Or.inl ⟨by rfl, ?_⟩) (by assumption) ?_
        rotate_left
        · first | (intro w hSw; (try dsimp only at hSw); go_simp; done) | (intro w hSw; (try dsimp only at hSw); go_simp; with_reducible rfl)
        try simp only [Act.put, List.setIfInBounds_toArray, List.set_cons_zero, List.set_cons_succ]
        refine wpAnyH_ready (rs := [3, 5]) (by kernel_rfl) (by simp) ?_
        refine AllReadyH.cons (o := { dst := some 19, op := Op.call { callee := Callee.value (Operand.func 28), args := #[Operand.tmp 18], argTypes := #[27] }, type := 3, pos := "code.go:154", after := #[{ on := 2, ground := Ground.data }], guard := none }) rfl (fun K hK => ?_) ?_
        · skip
          go_simp
          refine (CW.out _ Z0).mono ?_
          rintro e w3 ⟨rfl, b⟩
          have Z1 := TH.out _ _ Z0 b
          have bw3 := Aside0.mk b
          clear b
          go_wp2_with fail
          refine hK.out _ _ ?_ (fun hHeld => ?_)
          · exact KEEP.out _ Z1
          clear hK K
          try simp only [Act.put, List.setIfInBounds_toArray, List.set_cons_zero, List.set_cons_succ]
          refine wpAnyH_take (i := 4) (oi := { dst := some 20, op := Op.build 55 #[(0, Operand.tmp 16), (1, Operand.tmp 17), (2, Operand.tmp 19)], type := 55, pos := "code.go:154", after := #[{ on := 0, ground := Ground.data }, { on := 1, ground := Ground.data }, { on := 3, ground := Ground.data }], guard := none }) (v := ?_) rfl (by kernel_rfl) (by kernel_rfl) (by kernel_rfl) (fun _ _ _ h => h) (Or.inl ⟨by rfl, ?_⟩) (by assumption) ?_
          rotate_left
          · first | (intro w hSw; (try dsimp only at hSw); go_simp; done) | (intro w hSw; (try dsimp only at hSw); go_simp; with_reducible rfl)
          try simp only [Act.put, List.setIfInBounds_toArray, List.set_cons_zero, List.set_cons_succ]
          refine wpAnyH_ready (rs := [5]) (by kernel_rfl) (by simp) ?_
          refine AllReadyH.cons (o := { dst := some 5, op := Op.alloc 55, type := 0, pos := "code.go:154", after := #[], guard := none }) rfl (fun K hK => ?_) AllReadyH.nil
          go_simp
          have Z4 := TA.out _ (.cells #[.slice none 0 0, .slice none 0 0, .slice none 0 0, .slice none 0 0, .slice none 0 0, .slice none 0 0, .slice none 0 0, .slice none 0 0, .slice none 0 0, .string ⟨#[]⟩, .int .i64 0, .int .i64 0, .int .i64 0, .slice none 0 0, .int .i64 0] 55) Z1
          refine hK.out _ _ ?_ (fun hHeld => ?_)
          · exact KEEP.out _ Z4
          clear hK K
          try simp only [Act.put, List.setIfInBounds_toArray, List.set_cons_zero, List.set_cons_succ]
          have hg := blk_new w3 (.cells #[.slice none 0 0, .slice none 0 0, .slice none 0 0, .slice none 0 0, .slice none 0 0, .slice none 0 0, .slice none 0 0, .slice none 0 0, .slice none 0 0, .string ⟨#[]⟩, .int .i64 0, .int .i64 0, .int .i64 0, .slice none 0 0, .int .i64 0] 55)
          have hsz : w2.heap.size ≤ w3.heap.size := Z1.out.size
          refine wpAnyH_ready (rs := [6]) (by kernel_rfl) (by simp) ?_
          refine AllReadyH.cons (o := { dst := none, op := Op.store 55 (Operand.tmp 5) (Operand.tmp 20), type := 0, pos := "code.go:154", after := #[{ on := 5, ground := Ground.data }, { on := 4, ground := Ground.data }, { on := 3, ground := Ground.chain }, { on := 0, ground := Ground.phase }, { on := 1, ground := Ground.phase }, { on := 2, ground := Ground.phase }, { on := 3, ground := Ground.phase }, { on := 4, ground := Ground.phase }, { on := 5, ground := Ground.phase }], guard := none }) rfl (fun K hK => ?_) AllReadyH.nil
          rw [if_pos (by rfl)]
          refine wp_store_row 55 _ _ rfl w3.heap.size (vwW r m f A4 c4 (wordsM m)).toArray rfl rfl 55 _ hg (by kernel_rfl) (by rfl) (by simp [vwW, mdW]; exact ⟨rfl, rfl, rfl, rfl, rfl, rfl, rfl, rfl, rfl, rfl, rfl, rfl, rfl, rfl, rfl⟩) ?_
          have HV := Aside0.mk (setRow_heap _ _ _ (vwW r m f A4 c4 (wordsM m)).toArray _ _ hg)
          have ZZ := Aside0.mk (below_setRow Z4.out hsz (vwW r m f A4 c4 (wordsM m)).toArray)
          refine hK.out _ _ ?_ (fun hHeld => ?_)
          · exact KEEP.out _ ZZ
          clear hK K
          try simp only [Act.put, List.setIfInBounds_toArray, List.set_cons_zero, List.set_cons_succ]
          generalize World.setRow _ _ _ = w7 at HV ZZ hHeld ⊢
          refine wpAnyH_done (by kernel_rfl) ?_ _
          refine NoPanic.normal ?_
          clear hHeld
          have hv7 := HV.out
          have HM7 : Aside0 (MdC w7 r m) := ⟨HM2.out.below ZZ.out⟩
          have e4 : w7.cell? ⟨wi.heap.size, 4, none⟩ = some (.slice A4 f.f4.length c4) := (blk_cell (blk_below HNf.out ZZ.out) 4).trans rfl
          have hf4 : f.f4.length ≤ 1000000 := by have := ((funcOk_is f).1 HFO.out).2.2.2.2; omega
          have CA := Aside0.mk (any_right r m f A4 c4 w3.heap.size A4 c4 f.f4 w7 hv7 HM7.out HS.out HAL.out HFO.out (Kd.C_below (Kd.C_below H4.out HB2.out) ZZ.out) hf4 hf4 HFZ.out)
          clear hv7
          obtain ⟨b7, hb7⟩ : ∃ b, f.f4.any (nope m f) = b := ⟨_, rfl⟩
          rw [hb7] at CA
          have HB7 : Aside0 (funcR m f = !b7) := ⟨by unfold funcR; rw [hb7]⟩
          clear hb7
          go_wp2_with fail
          refine CA.out.mono ?_
          rintro e w8 ⟨rfl, b⟩
          have Z8 := TH.out _ _ ZZ b
          clear b CA
          cases b7 with
          | true =>
            have HE2 : Aside0 (RightM m = false) := ⟨by
              rw [HE.out, List.all_eq_false]
              exact ⟨_, rd39_mem _ _ hlt, by rw [HFF.out, HB7.out]; decide⟩⟩
            go_wp2_with fail
            go_ret
            exact ⟨by rw [HE2.out]; rfl, below_then HBB2.out HBB2.out.size Z8.out⟩
          | false =>
            have HBx : Aside0 (Below w.heap.size w w8) := ⟨below_then HBB2.out HBB2.out.size Z8.out⟩
            go_wp2_with fail
            go_roundw
            case rel => exact ⟨k + 1, by go_num, hlt, ⟨fun j hj => by
              by_cases e : j = k
              · rw [e, HFF.out, HB7.out]; rfl
              · exact HO.out j (by omega)⟩, ⟨blk_below HNm.out Z8.out⟩, ⟨HM2.out.below Z8.out⟩, HBx⟩
            case measure => simp [intOf]; omega
        · skip
          refine AllReadyH.cons (o := { dst := some 5, op := Op.alloc 55, type := 0, pos := "code.go:154", after := #[], guard := none }) rfl (fun K hK => ?_) AllReadyH.nil
          go_simp
          have Z4 : Aside0 (Below w2.heap.size w2 (w2.alloc (.cells #[.slice none 0 0, .slice none 0 0, .slice none 0 0, .slice none 0 0, .slice none 0 0, .slice none 0 0, .slice none 0 0, .slice none 0 0, .slice none 0 0, .string ⟨#[]⟩, .int .i64 0, .int .i64 0, .int .i64 0, .slice none 0 0, .int .i64 0] 55)).drew) := ⟨(TA.out _ (.cells #[.slice none 0 0, .slice none 0 0, .slice none 0 0, .slice none 0 0, .slice none 0 0, .slice none 0 0, .slice none 0 0, .slice none 0 0, .slice none 0 0, .string ⟨#[]⟩, .int .i64 0, .int .i64 0, .int .i64 0, .slice none 0 0, .int .i64 0] 55) ⟨Below.refl w2.heap.size w2⟩).out.drew⟩
          refine hK.out _ _ ?_ (fun hHeld => ?_)
          · exact KEEP.out _ Z4
          clear hK K
          try simp only [Act.put, List.setIfInBounds_toArray, List.set_cons_zero, List.set_cons_succ]
          refine wpAnyH_ready (rs := [3]) (by kernel_rfl) (by simp) ?_
          refine AllReadyH.cons (o := { dst := some 19, op := Op.call { callee := Callee.value (Operand.func 28), args := #[Operand.tmp 18], argTypes := #[27] }, type := 3, pos := "code.go:154", after := #[{ on := 2, ground := Ground.data }], guard := none }) rfl (fun K hK => ?_) AllReadyH.nil
          go_simp
          refine (CW.out _ Z4).mono ?_
          rintro e w5 ⟨rfl, b⟩
          have Z5 := TH.out _ _ Z4 b
          have bw5 := Aside0.mk b
          clear b
          go_wp2_with fail
          refine hK.out _ _ ?_ (fun hHeld => ?_)
          · exact KEEP.out _ Z5
          clear hK K
          try simp only [Act.put, List.setIfInBounds_toArray, List.set_cons_zero, List.set_cons_succ]
          refine wpAnyH_take (i := 4) (oi := { dst := some 20, op := Op.build 55 #[(0, Operand.tmp 16), (1, Operand.tmp 17), (2, Operand.tmp 19)], type := 55, pos := "code.go:154", after := #[{ on := 0, ground := Ground.data }, { on := 1, ground := Ground.data }, { on := 3, ground := Ground.data }], guard := none }) (v := ?_) rfl (by kernel_rfl) (by kernel_rfl) (by kernel_rfl) (fun _ _ _ h => h) (Or.inl ⟨by rfl, ?_⟩) (by assumption) ?_
          rotate_left
          · first | (intro w hSw; (try dsimp only at hSw); go_simp; done) | (intro w hSw; (try dsimp only at hSw); go_simp; with_reducible rfl)
          try simp only [Act.put, List.setIfInBounds_toArray, List.set_cons_zero, List.set_cons_succ]
          have hg : w5.heap[w2.heap.size]? = some (.cells #[.slice none 0 0, .slice none 0 0, .slice none 0 0, .slice none 0 0, .slice none 0 0, .slice none 0 0, .slice none 0 0, .slice none 0 0, .slice none 0 0, .string ⟨#[]⟩, .int .i64 0, .int .i64 0, .int .i64 0, .slice none 0 0, .int .i64 0] 55 (0, 0)) := blk_below (w := (w2.alloc (.cells #[.slice none 0 0, .slice none 0 0, .slice none 0 0, .slice none 0 0, .slice none 0 0, .slice none 0 0, .slice none 0 0, .slice none 0 0, .slice none 0 0, .string ⟨#[]⟩, .int .i64 0, .int .i64 0, .int .i64 0, .slice none 0 0, .int .i64 0] 55)).drew) (blk_new w2 _) bw5.out
          refine wpAnyH_ready (rs := [6]) (by kernel_rfl) (by simp) ?_
          refine AllReadyH.cons (o := { dst := none, op := Op.store 55 (Operand.tmp 5) (Operand.tmp 20), type := 0, pos := "code.go:154", after := #[{ on := 5, ground := Ground.data }, { on := 4, ground := Ground.data }, { on := 3, ground := Ground.chain }, { on := 0, ground := Ground.phase }, { on := 1, ground := Ground.phase }, { on := 2, ground := Ground.phase }, { on := 3, ground := Ground.phase }, { on := 4, ground := Ground.phase }, { on := 5, ground := Ground.phase }], guard := none }) rfl (fun K hK => ?_) AllReadyH.nil
          rw [if_pos (by rfl)]
          refine wp_store_row 55 _ _ rfl w2.heap.size (vwW r m f A4 c4 (wordsM m)).toArray rfl rfl 55 _ hg (by kernel_rfl) (by rfl) (by simp [vwW, mdW]; exact ⟨rfl, rfl, rfl, rfl, rfl, rfl, rfl, rfl, rfl, rfl, rfl, rfl, rfl, rfl, rfl⟩) ?_
          have HV := Aside0.mk (setRow_heap _ _ _ (vwW r m f A4 c4 (wordsM m)).toArray _ _ hg)
          have ZZ := Aside0.mk (below_setRow Z5.out (Nat.le_refl _) (vwW r m f A4 c4 (wordsM m)).toArray)
          refine hK.out _ _ ?_ (fun hHeld => ?_)
          · exact KEEP.out _ ZZ
          clear hK K
          try simp only [Act.put, List.setIfInBounds_toArray, List.set_cons_zero, List.set_cons_succ]
          generalize World.setRow _ _ _ = w7 at HV ZZ hHeld ⊢
          refine wpAnyH_done (by kernel_rfl) ?_ _
          refine NoPanic.normal ?_
          clear hHeld
          have hv7 := HV.out
          have HM7 : Aside0 (MdC w7 r m) := ⟨HM2.out.below ZZ.out⟩
          have e4 : w7.cell? ⟨wi.heap.size, 4, none⟩ = some (.slice A4 f.f4.length c4) := (blk_cell (blk_below HNf.out ZZ.out) 4).trans rfl
          have hf4 : f.f4.length ≤ 1000000 := by have := ((funcOk_is f).1 HFO.out).2.2.2.2; omega
          have CA := Aside0.mk (any_right r m f A4 c4 w2.heap.size A4 c4 f.f4 w7 hv7 HM7.out HS.out HAL.out HFO.out (Kd.C_below (Kd.C_below H4.out HB2.out) ZZ.out) hf4 hf4 HFZ.out)
          clear hv7
          obtain ⟨b7, hb7⟩ : ∃ b, f.f4.any (nope m f) = b := ⟨_, rfl⟩
          rw [hb7] at CA
          have HB7 : Aside0 (funcR m f = !b7) := ⟨by unfold funcR; rw [hb7]⟩
          clear hb7
          go_wp2_with fail
          refine CA.out.mono ?_
          rintro e w8 ⟨rfl, b⟩
          have Z8 := TH.out _ _ ZZ b
          clear b CA
          cases b7 with
          | true =>
            have HE2 : Aside0 (RightM m = false) := ⟨by
              rw [HE.out, List.all_eq_false]
              exact ⟨_, rd39_mem _ _ hlt, by rw [HFF.out, HB7.out]; decide⟩⟩
            go_wp2_with fail
            go_ret
            exact ⟨by rw [HE2.out]; rfl, below_then HBB2.out HBB2.out.size Z8.out⟩
          | false =>
            have HBx : Aside0 (Below w.heap.size w w8) := ⟨below_then HBB2.out HBB2.out.size Z8.out⟩
            go_wp2_with fail
            go_roundw
            case rel => exact ⟨k + 1, by go_num, hlt, ⟨fun j hj => by
              by_cases e : j = k
              · rw [e, HFF.out, HB7.out]; rfl
              · exact HO.out j (by omega)⟩, ⟨blk_below HNm.out Z8.out⟩, ⟨HM2.out.below Z8.out⟩, HBx⟩
            case measure => simp [intOf]; omega
      · have HE2 : Aside0 (RightM m = true) := ⟨by
          rw [HE.out, List.all_eq_true]
          intro x hx
          obtain ⟨i, hi, rfl⟩ := List.getElem_of_mem hx
          have := HO.out i (by omega)
          unfold rd_T39 at this
          rw [Int.toNat_natCast, List.getD_eq_getElem?_getD, List.getElem?_eq_getElem hi] at this
          exact this⟩
        go_wp2_with fail
        go_ret
        exact ⟨by rw [HE2.out]; rfl, HB.out⟩
end Go.Proofs.YtdapiibllblpbaaDoor.Code
