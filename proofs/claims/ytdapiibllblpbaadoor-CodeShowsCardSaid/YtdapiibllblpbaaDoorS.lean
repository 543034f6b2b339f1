import Derived.Test.YtdapiibllblpbaaDoorR
import Derived.BigRegion
import Derived.StillTailTactics
namespace Go.Proofs.YtdapiibllblpbaaDoor.Code
open Go.RowKit Go.Proofs.YtdapiibllblpbaaDoorW.PrintWords Go.Proofs.YtdapiibllblpbaaDoorW.PrintLast Go.Proofs.YtdapiibllblpbaaDoorW.PrintMore Go.Proofs.YtdapiibllblpbaaDoor.PCodeAnswers
set_option linter.unusedVariables false
set_option linter.unusedSimpArgs false

def ShowM (m : Md) : List UInt8 × Int := if RightM m then (textM m m.funcs.length, 0) else ([], 70)
def namesV : Array Value := (nms.map Value.string).toArray
theorem names_lit : (.cells #[.string ⟨#[]⟩, .string ⟨#[99, 111, 110, 115, 116]⟩, .string ⟨#[105, 110, 112, 117, 116]⟩, .string ⟨#[114, 101, 108, 101, 97, 115, 101]⟩, .string ⟨#[109, 111, 118, 101]⟩, .string ⟨#[117, 110, 97, 114, 121]⟩, .string ⟨#[98, 105, 110, 97, 114, 121]⟩, .string ⟨#[108, 111, 97, 100]⟩, .string ⟨#[115, 116, 111, 114, 101]⟩, .string ⟨#[110, 101, 119]⟩, .string ⟨#[109, 97, 107, 101]⟩, .string ⟨#[103, 101, 116]⟩, .string ⟨#[112, 117, 116]⟩, .string ⟨#[105, 110, 100, 101, 120]⟩, .string ⟨#[101, 108, 101, 109]⟩, .string ⟨#[99, 117, 116]⟩, .string ⟨#[108, 111, 99, 107]⟩, .string ⟨#[117, 110, 108, 111, 99, 107]⟩, .string ⟨#[115, 101, 110, 100]⟩, .string ⟨#[114, 101, 99, 118]⟩, .string ⟨#[111, 117, 116]⟩, .string ⟨#[105, 102]⟩, .string ⟨#[99, 97, 108, 108]⟩, .string ⟨#[114, 101, 116, 117, 114, 110]⟩] 9 : Obj) = .cells namesV 9 := rfl
theorem names_at {w : World} {nb : Nat} (h : w.heap[nb]? = some (.cells namesV 9 (0, 0))) (k : Int) (h0 : 0 ≤ k) (h1 : k < 24) : w.cell? ⟨nb, k.toNat, none⟩ = some (.string (nm k)) := by
  rw [blk_cell h]
  have hl : k.toNat < nms.length := by show k.toNat < 24; omega
  unfold namesV nm
  rw [List.getD_eq_getElem?_getD, List.getElem?_eq_getElem hl]
  simp [hl]
theorem lit_wd (w : World) (H : Nat) (hH : w.heap.size = H) (l : List Wd) (vs : Array Value) (hv : vs = (l.map wdV).toArray) (hl : l.length ≤ 1000000) :
    kWd.C (w.alloc (.cells vs 20)) (some ⟨H, 0, none⟩) l.length l := by
  subst hH hv
  refine Kd.C_of_reads (d := (Wd.num 0)) (h1 := wdV_one) ⟨rfl, by omega, fun hn => ⟨_, rfl, fun j hj => ?_⟩⟩
  rw [add_plain, blk_cell (blk_new w _)]
  simp only [Nat.zero_add, List.getElem?_toArray, List.getElem?_map]
  have hj' : j < l.length := by omega
  rw [List.getElem?_eq_getElem hj']
  simp [List.getD_eq_getElem?_getD, hj']
theorem line_lits (l : List Wd) (w : World) (H : Nat) (hH : w.heap.size = H) (vs : Array Value) (hv : vs = (l.map wdV).toArray) (k : Nat) (hk : k = l.length) (hl : l.length ≤ 1000000) (hok : ∀ x ∈ l, wdOk x) (hsh : ∀ x ∈ l, short x) (ht : Pow10 w) :
    Calls Tryd.prog 40 #[.slice (some ⟨H, 0, none⟩) k k] (w.alloc (.cells vs 20)) fun e w' => e = .returned (.string (lineB l)) ∧ Below w.heap.size w w' := by
  subst hk
  have hb := below_alloc (Below.refl w.heap.size w) (.cells vs 20)
  refine (line_any (some ⟨H, 0, none⟩) l.length l _ (lit_wd w H hH l vs hv hl) (by omega) hok (by have := join_short l hsh; omega) (ht.below hb)).mono ?_
  rintro e w' ⟨h, b⟩
  exact ⟨h, below_then hb hb.size b⟩
theorem info20 : (Tryd.prog.info? 20).map (fun i => (i.zero, i.size, i.bytes)) = some (some .nilIface, 1, 16) := by kernel_rfl
theorem wd_lit (W : World) (l : List Wd) (hl : l.length ≤ 1000000) : kWd.R 20 (W.alloc (.cells (l.map wdV).toArray 20)) W.heap.size (fun _ => True) (.slice (some ⟨W.heap.size, 0, none⟩) l.length l.length) l :=
  Kd.R_of_own (own_lit_of W W.heap.size 20 l (Nat.le_refl _) (by omega)) (fun _ _ => trivial)
theorem cell_to {w w' : World} {a : Addr} {v : Value} (h : w.cell? a = some v) (b : Below w.heap.size w w') : w'.cell? a = some v :=
  (b.cell (World.block_lt_of_cell? w _ h)).trans h
theorem store42 (w : World) (z0 z1 z2 z3 z4 z5 z6 z7 : Int) (v : Value) (z9 z10 z11 : Int) (hv : v.oneCell' = true) : (storeCells ⟨w.heap.size, 0, none⟩ [.int .i64 z0, .int .i64 z1, .int .i64 z2, .int .i64 z3, .int .i64 z4, .int .i64 z5, .int .i64 z6, .int .i64 z7, v, .int .i64 z9, .int .i64 z10, .int .i64 z11] 0).run Tryd.prog (w.alloc (.cells #[.int .i64 0, .int .i64 0, .int .i64 0, .int .i64 0, .int .i64 0, .int .i64 0, .int .i64 0, .int .i64 0, .slice none 0 0, .int .i64 0, .int .i64 0, .int .i64 0] 42)) = .ok () (w.alloc (.cells #[.int .i64 z0, .int .i64 z1, .int .i64 z2, .int .i64 z3, .int .i64 z4, .int .i64 z5, .int .i64 z6, .int .i64 z7, v, .int .i64 z9, .int .i64 z10, .int .i64 z11] 42)) :=
  run_storeCells_new (P := Tryd.prog) w 42 _ #[.int .i64 z0, .int .i64 z1, .int .i64 z2, .int .i64 z3, .int .i64 z4, .int .i64 z5, .int .i64 z6, .int .i64 z7, v, .int .i64 z9, .int .i64 z10, .int .i64 z11] (by kernel_rfl) rfl (by simp [hv]; exact ⟨rfl, rfl, rfl, rfl, rfl, rfl, rfl, rfl, rfl, rfl, rfl⟩)
theorem kind_of (m : Md) (f : S39) (o : S42) (h : rightM m f o = true) : 1 ≤ o.f0 ∧ o.f0 ≤ 23 := by
  have hf : fieldsM m f.f2 (wordsM m) o = true := by
    unfold rightM at h
    rw [Bool.and_eq_true] at h
    exact h.1
  by_cases h1 : 1 ≤ o.f0
  · by_cases h2 : o.f0 ≤ 23
    · exact ⟨h1, h2⟩
    · have e : fieldsM m f.f2 (wordsM m) o = false := by
        unfold fieldsM othersM
        repeat (first | rw [if_neg (by omega)] | rfl)
      rw [e] at hf
      cases hf
  · have e : fieldsM m f.f2 (wordsM m) o = false := by
      unfold fieldsM othersM
      repeat (first | rw [if_neg (by omega)] | rfl)
    rw [e] at hf
    cases hf
set_option maxRecDepth 100000 in
set_option maxHeartbeats 8000000 in
theorem Show_any (m : Md) (r : MdR) (w : World) (hm : MdC w r m) (hs : MdS m) (hz : MdZ m) (hi : MdI m) (ht : Pow10 w) :
    Calls Tryd.prog 18 #[.agg (mdW r m).toArray] w fun e w' => e = .returned (.tuple #[.string ⟨(ShowM m).1.toArray⟩, .int .i64 (ShowM m).2]) ∧ Below w.heap.size w w' := by
  have hb := below_alloc (Below.refl w.heap.size w) (.cells (mdW r m).toArray 27)
  have HB0 := Aside0.mk hb
  have hn := blk_new w (.cells (mdW r m).toArray 27)
  have HN0 := Aside0.mk hn
  have CF := Aside0.mk (Right_any m r _ (hm.below hb) hs hz)
  have HM0 := Aside0.mk (hm.below hb)
  have HT0 := Aside0.mk (ht.below hb)
  have HS := Aside0.mk hs
  have HZ := Aside0.mk hz
  have HI := Aside0.mk hi
  clear hb hm hs hz hi ht
  obtain ⟨w0, hw0⟩ : ∃ w0, w.alloc (.cells (mdW r m).toArray 27) = w0 := ⟨_, rfl⟩
  rw [hw0] at HB0 hn HM0 HN0 CF HT0
  have g0 : w0.cell? ⟨w.heap.size, 0, none⟩ = some (.slice r.a0 m.globals.length r.c0) := (blk_cell hn 0).trans rfl
  have g1 : w0.cell? ⟨w.heap.size, 1, none⟩ = some (.slice r.a1 m.structs.length r.c1) := (blk_cell hn 1).trans rfl
  have g2 : w0.cell? ⟨w.heap.size, 2, none⟩ = some (.slice r.a2 m.chans.length r.c2) := (blk_cell hn 2).trans rfl
  have g3 : w0.cell? ⟨w.heap.size, 3, none⟩ = some (.slice r.a3 m.locks.length r.c3) := (blk_cell hn 3).trans rfl
  have g4 : w0.cell? ⟨w.heap.size, 4, none⟩ = some (.slice r.a4 m.inputs.length r.c4) := (blk_cell hn 4).trans rfl
  have g5 : w0.cell? ⟨w.heap.size, 5, none⟩ = some (.slice r.a5 m.sinks.length r.c5) := (blk_cell hn 5).trans rfl
  have g6 : w0.cell? ⟨w.heap.size, 6, none⟩ = some (.slice r.a6 m.hatches.length r.c6) := (blk_cell hn 6).trans rfl
  have g7 : w0.cell? ⟨w.heap.size, 7, none⟩ = some (.slice r.a7 m.funcs.length r.c7) := (blk_cell hn 7).trans rfl
  have g8 : w0.cell? ⟨w.heap.size, 8, none⟩ = some (.slice r.a8 m.threads.length r.c8) := (blk_cell hn 8).trans rfl
  clear hn
  obtain ⟨b0, hb0⟩ : ∃ b, RightM m = b := ⟨_, rfl⟩
  rw [hb0] at CF
  have HR := Aside0.mk hb0
  clear hb0
  obtain ⟨res, hres⟩ : ∃ x, ShowM m = x := ⟨_, rfl⟩
  have HE : Aside0 (res = if RightM m then (textM m m.funcs.length, 0) else ([], 70)) := ⟨hres.symm⟩
  rw [hres]
  clear hres
  go_enter Tryd.func18, Tryd.ntmps18
  go_wp2_with fail
  refine CF.out.mono ?_
  rintro e w1 ⟨rfl, b⟩
  have HB1 := Aside0.mk (below_then HB0.out HB0.out.size b)
  have hn1 := blk_below HN0.out b
  have HM1 := Aside0.mk (HM0.out.below b)
  have HT1 := Aside0.mk (HT0.out.below b)
  clear b CF hw0 g0 g1 g2 g3 g4 g5 g6 g7 g8
  cases b0 with
  | false =>
    go_wp2_with fail
    go_ret2
    exact ⟨by rw [HE.out, HR.out]; rfl, HB1.out⟩
  | true =>
    have HAL := Aside0.mk (right_frame m HR.out).1
    have hl12 := (right_frame m HR.out).2.2.2.2.2.2.2.1
    have HE2 : Aside0 (res = (textM m m.funcs.length, 0)) := ⟨by rw [HE.out, HR.out]; rfl⟩
    have HNV := names_lit
    obtain ⟨NO, hNO⟩ : ∃ o : Obj, .cells namesV 9 = o := ⟨_, rfl⟩
    rw [hNO] at HNV
    obtain ⟨ws, hws⟩ : ∃ ws, w1.alloc NO = ws := ⟨_, rfl⟩
    have hsz : w1.heap.size + 1 = ws.heap.size := by rw [← hws]; exact (World.size_alloc ..).symm
    have HNB : Aside0 (ws.heap[w1.heap.size]? = some (.cells namesV 9 (0, 0))) := ⟨by rw [← hws, ← hNO]; exact blk_new w1 _⟩
    have b1 : Below w1.heap.size w1 ws := by rw [← hws]; exact below_alloc (Below.refl _ _) _
    have HMs := Aside0.mk (HM1.out.below b1)
    have HTs := Aside0.mk (HT1.out.below b1)
    have HBs := Aside0.mk (below_then HB1.out HB1.out.size b1)
    have hns := blk_below hn1 b1
    obtain ⟨wb, hwb⟩ : ∃ wb, ws.alloc (.cells #[.pointer none, .slice none 0 0] 67) = wb := ⟨_, rfl⟩
    have b2 : Below ws.heap.size ws wb := by rw [← hwb]; exact below_alloc (Below.refl _ _) _
    have HBB := Aside0.mk b2
    have BLD : Aside0 (Bld ws.heap.size [] wb) := ⟨by rw [← hwb]; exact Bld.new ws⟩
    have g7 : wb.cell? ⟨w.heap.size, 7, none⟩ = some (.slice r.a7 m.funcs.length r.c7) := (blk_cell (blk_below hns b2) 7).trans rfl
    clear hn1 hns b1 b2
    go_wp2_with fail
    go_loopw [20] (fun i wr => ∃ k : Nat, i = .int .i64 k ∧ k ≤ m.funcs.length ∧ Aside0 (Bld ws.heap.size (textM m k) wr) ∧ Aside0 (Below ws.heap.size ws wr)) (fun i _ => m.funcs.length - (intOf i).toNat)
    case atStart => exact ⟨0, rfl, Nat.zero_le _, BLD, HBB⟩
    case round =>
      obtain ⟨k, rfl, hk, HBL, HB⟩ := hrel
      obtain ⟨wi, rfl⟩ : ∃ wi : World, wi = wr := ⟨_, rfl⟩
      clear g7 hwb hws
      by_cases hlt : k < m.funcs.length
      · obtain ⟨ad, A4, c4, eA, d0, d1, d2, d3, d4, hl4, h4⟩ := at_T39 HMs.out.h7 k (by omega) (by omega)
        clear hl4
        rw [eA]
        clear eA
        rw [Int.toNat_natCast] at d0 d1 d2 d3 d4
        replace d0 := cell_to d0 HB.out
        replace d1 := cell_to d1 HB.out
        replace d2 := cell_to d2 HB.out
        replace d3 := cell_to d3 HB.out
        replace d4 := cell_to d4 HB.out
        have HFO : Aside0 (funcOk (rd_T39 m.funcs k) = true) := ⟨List.all_eq_true.1 HAL.out _ (rd39_mem _ _ hlt)⟩
        have HFZ : Aside0 (∀ o ∈ (rd_T39 m.funcs k).f4, o.f8.length ≤ 1000000) := ⟨HZ.out _ (rd39_mem _ _ hlt)⟩
        have HFI : Aside0 (∀ o ∈ (rd_T39 m.funcs k).f4, opI o) := ⟨HI.out _ (rd39_mem _ _ hlt)⟩
        have HFR : Aside0 (∀ o ∈ (rd_T39 m.funcs k).f4, rightM m (rd_T39 m.funcs k) o = true) := ⟨by
          have := HR.out
          unfold RightM at this
          rw [Bool.and_eq_true] at this
          have := List.all_eq_true.1 this.2 _ (rd39_mem _ _ hlt)
          unfold funcR at this
          intro o ho
          rw [Bool.not_eq_true', List.any_eq_false] at this
          have := this o ho
          unfold nope at this
          simpa using this⟩
        have HTN : Aside0 (textM m (k + 1) = textM m k ++ fnText k (rd_T39 m.funcs k)) := ⟨textM_next m k⟩
        have HLN : Aside0 ((textM m k).length ≤ k * 100000000000) := ⟨textM_len m HAL.out hl12 HI.out HZ.out k hk⟩
        obtain ⟨f, hf⟩ : ∃ f, rd_T39 m.funcs k = f := ⟨_, rfl⟩
        rw [hf] at d0 d1 d2 d3 d4 h4 HFO HFZ HFI HFR HTN
        have H4 := Aside0.mk h4
        clear hf h4
        have hst := store39 wi f.f0 f.f1 f.f2 f.f3 (.slice A4 f.f4.length c4) rfl
        have hlk := hlt
        obtain ⟨o, ho⟩ : ∃ o : Obj, (.cells #[.string f.f0, .int .i64 f.f1, .int .i64 f.f2, .int .i64 f.f3, .slice A4 f.f4.length c4] 39) = o := ⟨_, rfl⟩
        obtain ⟨w2, hw2⟩ : ∃ w2, wi.alloc o = w2 := ⟨_, rfl⟩
        have hNf : w2.heap[wi.heap.size]? = some (.cells #[.string f.f0, .int .i64 f.f1, .int .i64 f.f2, .int .i64 f.f3, .slice A4 f.f4.length c4] 39 (0, 0)) := by rw [← hw2, ← ho]; exact blk_new wi _
        have b2 : Below wi.heap.size wi w2 := by rw [← hw2]; exact below_alloc (Below.refl _ _) _
        have HNF2 := Aside0.mk hNf
        have HB2 := Aside0.mk (below_then HB.out HB.out.size b2)
        have HBL2 := Aside0.mk (HBL.out.below b2)
        have f1 : w2.cell? ⟨wi.heap.size, 1, none⟩ = some (.int .i64 f.f1) := (blk_cell hNf 1).trans rfl
        have f2 : w2.cell? ⟨wi.heap.size, 2, none⟩ = some (.int .i64 f.f2) := (blk_cell hNf 2).trans rfl
        have f3 : w2.cell? ⟨wi.heap.size, 3, none⟩ = some (.int .i64 f.f3) := (blk_cell hNf 3).trans rfl
        have hsb : ws.heap.size < wi.heap.size := HBL.out.lt
        clear hNf b2
        have CL := Aside0.mk (line_lits (fnL k f) w2 _ rfl #[wdV (.txt ⟨#[102, 117, 110, 99]⟩), wdV (.num k), wdV (.num f.f1), wdV (.num f.f2), wdV (.num f.f3)] rfl 5 rfl (by show (5 : Nat) ≤ 1000000; omega) (fnL_ok k f (by omega) (by omega) HFO.out) (fnL_short k f (by omega) (by omega) HFO.out) (HTs.out.below HB2.out))
        go_wp2_with fail
        refine CL.out.mono ?_
        rintro e w3 ⟨rfl, b⟩
        have HB3 := Aside0.mk (below_then HB2.out HB2.out.size b)
        have HBL3 := Aside0.mk (HBL2.out.below b)
        have HNF3 := Aside0.mk (blk_below HNF2.out b)
        have CWS := Aside0.mk (write_any ws.heap.size (textM m k) (lineL (fnL k f)) w3 HBL3.out (by
          have h1 := line_len _ (fnL_short k f (by omega) (by omega) HFO.out)
          have h3 : (fnL k f).length = 5 := rfl
          have := HLN.out
          omega))
        clear b CL f1 f2 f3
        go_wp2_with fail
        refine CWS.out.mono ?_
        rintro e w4 ⟨rfl, hbl, hbel, hkept⟩
        have HB4 : Aside0 (Below ws.heap.size ws w4) := ⟨HB3.out.trans hbel⟩
        have HBL4 := Aside0.mk hbl
        have HNF4 : Aside0 (w4.heap[wi.heap.size]? = some (.cells #[.string f.f0, .int .i64 f.f1, .int .i64 f.f2, .int .i64 f.f3, .slice A4 f.f4.length c4] 39 (0, 0))) := ⟨hkept _ _ _ HNF3.out (by omega) (by decide)⟩
        have f4 : w4.cell? ⟨wi.heap.size, 4, none⟩ = some (.slice A4 f.f4.length c4) := (blk_cell HNF4.out 4).trans rfl
        have hf4 : f.f4.length ≤ 4096 := ((funcOk_is f).1 HFO.out).2.2.2.2
        clear hbl hbel hkept CWS
        go_wp2_with fail
        go_loopw [43] (fun i wr => ∃ j : Nat, i = .int .i64 j ∧ j ≤ f.f4.length ∧ Aside0 (Bld ws.heap.size (textM m k ++ lineL (fnL k f) ++ opsText f j) wr) ∧ Aside0 (Below ws.heap.size ws wr) ∧ Aside0 (wr.heap[wi.heap.size]? = some (.cells #[.string f.f0, .int .i64 f.f1, .int .i64 f.f2, .int .i64 f.f3, .slice A4 f.f4.length c4] 39 (0, 0)))) (fun i _ => f.f4.length - (intOf i).toNat)
        case atStart => exact ⟨0, rfl, Nat.zero_le _, by rw [show opsText f 0 = [] from rfl, List.append_nil]; exact HBL4, HB4, HNF4⟩
        case round =>
          obtain ⟨j, rfl, hj, HBLj, HBj, HNFj⟩ := hrel
          obtain ⟨wj, rfl⟩ : ∃ wj : World, wj = wr := ⟨_, rfl⟩
          clear f4 hst ho hw2
          by_cases hltj : j < f.f4.length
          · obtain ⟨ad2, A8, c8, eA2, e0, e1, e2, e3, e4, e5, e6, e7, e8, e9, e10, e11, hl8, h8⟩ := at_T42 (Kd.C_below H4.out HBj.out) j (by omega) (by omega)
            clear hl8
            subst eA2
            rw [Int.toNat_natCast] at e0 e1 e2 e3 e4 e5 e6 e7 e8 e9 e10 e11
            have HZO : Aside0 ((rd_T42 f.f4 j).f8.length ≤ 1000000) := ⟨HFZ.out _ (rd42_mem _ _ hltj)⟩
            have HIO : Aside0 (opI (rd_T42 f.f4 j)) := ⟨HFI.out _ (rd42_mem _ _ hltj)⟩
            have hk0 := kind_of m f _ (HFR.out _ (rd42_mem _ _ hltj))
            have HON : Aside0 (opsText f (j + 1) = opsText f j ++ lineL (opL j (rd_T42 f.f4 j))) := ⟨opsText_next f j⟩
            have HOL : Aside0 ((opsText f j).length ≤ j * 22000000) := ⟨opsText_len f hf4 HFI.out HFZ.out j hj⟩
            obtain ⟨p, hp⟩ : ∃ p, rd_T42 f.f4 j = p := ⟨_, rfl⟩
            rw [hp] at e0 e1 e2 e3 e4 e5 e6 e7 e8 e9 e10 e11 h8 HZO HIO hk0 HON
            have H8 := Aside0.mk h8
            clear hp h8
            have hst2 := store42 wj p.f0 p.f1 p.f2 p.f3 p.f4 p.f5 p.f6 p.f7 (.slice A8 p.f8.length c8) p.f9 p.f10 p.f11 rfl
            have hltj2 := hltj
            obtain ⟨ob, hob⟩ : ∃ o : Obj, (.cells #[.int .i64 p.f0, .int .i64 p.f1, .int .i64 p.f2, .int .i64 p.f3, .int .i64 p.f4, .int .i64 p.f5, .int .i64 p.f6, .int .i64 p.f7, .slice A8 p.f8.length c8, .int .i64 p.f9, .int .i64 p.f10, .int .i64 p.f11] 42) = o := ⟨_, rfl⟩
            obtain ⟨wo, hwo⟩ : ∃ wo, wj.alloc ob = wo := ⟨_, rfl⟩
            have hNo : wo.heap[wj.heap.size]? = some (.cells #[.int .i64 p.f0, .int .i64 p.f1, .int .i64 p.f2, .int .i64 p.f3, .int .i64 p.f4, .int .i64 p.f5, .int .i64 p.f6, .int .i64 p.f7, .slice A8 p.f8.length c8, .int .i64 p.f9, .int .i64 p.f10, .int .i64 p.f11] 42 (0, 0)) := by rw [← hwo, ← hob]; exact blk_new wj _
            have bo : Below wj.heap.size wj wo := by rw [← hwo]; exact below_alloc (Below.refl _ _) _
            have HNO2 := Aside0.mk hNo
            have HBo := Aside0.mk (below_then HBj.out HBj.out.size bo)
            have HBLo := Aside0.mk (HBLj.out.below bo)
            have HNFo := Aside0.mk (blk_below HNFj.out bo)
            have H8o := Aside0.mk (Kd.C_below H8.out bo)
            have q0 : wo.cell? ⟨wj.heap.size, 0, none⟩ = some (.int .i64 p.f0) := (blk_cell hNo 0).trans rfl
            have q1 : wo.cell? ⟨wj.heap.size, 1, none⟩ = some (.int .i64 p.f1) := (blk_cell hNo 1).trans rfl
            have q2 : wo.cell? ⟨wj.heap.size, 2, none⟩ = some (.int .i64 p.f2) := (blk_cell hNo 2).trans rfl
            have q3 : wo.cell? ⟨wj.heap.size, 3, none⟩ = some (.int .i64 p.f3) := (blk_cell hNo 3).trans rfl
            have q4 : wo.cell? ⟨wj.heap.size, 4, none⟩ = some (.int .i64 p.f4) := (blk_cell hNo 4).trans rfl
            have q5 : wo.cell? ⟨wj.heap.size, 5, none⟩ = some (.int .i64 p.f5) := (blk_cell hNo 5).trans rfl
            have q6 : wo.cell? ⟨wj.heap.size, 6, none⟩ = some (.int .i64 p.f6) := (blk_cell hNo 6).trans rfl
            have q7 : wo.cell? ⟨wj.heap.size, 7, none⟩ = some (.int .i64 p.f7) := (blk_cell hNo 7).trans rfl
            have k0 : (0 : Int) ≤ p.f0 := by omega
            have k1 : p.f0 < 24 := by omega
            have nf := names_at (blk_below HNB.out HBo.out) p.f0 k0 k1
            have q8 : (wo.alloc (.cells #[.iface 3 (.int .i64 j), .iface 9 (.string (nm p.f0)), .iface 3 (.int .i64 p.f1), .iface 3 (.int .i64 p.f2), .iface 3 (.int .i64 p.f3), .iface 3 (.int .i64 p.f4), .iface 3 (.int .i64 p.f5), .iface 3 (.int .i64 p.f6), .iface 3 (.int .i64 p.f7)] 20)).drew.cell? ⟨wj.heap.size, 8, none⟩ = some (.slice A8 p.f8.length c8) := cell_to ((blk_cell hNo 8).trans rfl) (below_drew (below_alloc (Below.refl _ _) _))
            have VL : Aside0 (kWd.R 20 (wo.alloc (.cells #[.iface 3 (.int .i64 j), .iface 9 (.string (nm p.f0)), .iface 3 (.int .i64 p.f1), .iface 3 (.int .i64 p.f2), .iface 3 (.int .i64 p.f3), .iface 3 (.int .i64 p.f4), .iface 3 (.int .i64 p.f5), .iface 3 (.int .i64 p.f6), .iface 3 (.int .i64 p.f7)] 20)).drew wo.heap.size (fun _ => True) (.slice (some ⟨wo.heap.size, 0, none⟩) 9 9) (opFirst j p)) := ⟨Kd.R_drew (wd_lit wo (opFirst j p) (by show (9 : Nat) ≤ 1000000; omega))⟩
            have BL : Aside0 (Below wo.heap.size wo (wo.alloc (.cells #[.iface 3 (.int .i64 j), .iface 9 (.string (nm p.f0)), .iface 3 (.int .i64 p.f1), .iface 3 (.int .i64 p.f2), .iface 3 (.int .i64 p.f3), .iface 3 (.int .i64 p.f4), .iface 3 (.int .i64 p.f5), .iface 3 (.int .i64 p.f6), .iface 3 (.int .i64 p.f7)] 20)).drew) := ⟨below_drew (below_alloc (Below.refl _ _) _)⟩
            have q8 : (wo.alloc (.cells #[.iface 3 (.int .i64 j), .iface 9 (.string (nm p.f0)), .iface 3 (.int .i64 p.f1), .iface 3 (.int .i64 p.f2), .iface 3 (.int .i64 p.f3), .iface 3 (.int .i64 p.f4), .iface 3 (.int .i64 p.f5), .iface 3 (.int .i64 p.f6), .iface 3 (.int .i64 p.f7)] 20)).drew.cell? ⟨wj.heap.size, 8, none⟩ = some (.slice A8 p.f8.length c8) := cell_to ((blk_cell hNo 8).trans rfl) (below_drew (below_alloc (Below.refl _ _) _))
            have VL : Aside0 (kWd.R 20 (wo.alloc (.cells #[.iface 3 (.int .i64 j), .iface 9 (.string (nm p.f0)), .iface 3 (.int .i64 p.f1), .iface 3 (.int .i64 p.f2), .iface 3 (.int .i64 p.f3), .iface 3 (.int .i64 p.f4), .iface 3 (.int .i64 p.f5), .iface 3 (.int .i64 p.f6), .iface 3 (.int .i64 p.f7)] 20)).drew wo.heap.size (fun _ => True) (.slice (some ⟨wo.heap.size, 0, none⟩) 9 9) (opFirst j p)) := ⟨Kd.R_drew (wd_lit wo (opFirst j p) (by show (9 : Nat) ≤ 1000000; omega))⟩
            have BL : Aside0 (Below wo.heap.size wo (wo.alloc (.cells #[.iface 3 (.int .i64 j), .iface 9 (.string (nm p.f0)), .iface 3 (.int .i64 p.f1), .iface 3 (.int .i64 p.f2), .iface 3 (.int .i64 p.f3), .iface 3 (.int .i64 p.f4), .iface 3 (.int .i64 p.f5), .iface 3 (.int .i64 p.f6), .iface 3 (.int .i64 p.f7)] 20)).drew) := ⟨below_drew (below_alloc (Below.refl _ _) _)⟩
            have q8 : (wo.alloc (.cells #[.iface 3 (.int .i64 j), .iface 9 (.string (nm p.f0)), .iface 3 (.int .i64 p.f1), .iface 3 (.int .i64 p.f2), .iface 3 (.int .i64 p.f3), .iface 3 (.int .i64 p.f4), .iface 3 (.int .i64 p.f5), .iface 3 (.int .i64 p.f6), .iface 3 (.int .i64 p.f7)] 20)).drew.cell? ⟨wj.heap.size, 8, none⟩ = some (.slice A8 p.f8.length c8) := cell_to ((blk_cell hNo 8).trans rfl) (below_drew (below_alloc (Below.refl _ _) _))
            have VL : Aside0 (kWd.R 20 (wo.alloc (.cells #[.iface 3 (.int .i64 j), .iface 9 (.string (nm p.f0)), .iface 3 (.int .i64 p.f1), .iface 3 (.int .i64 p.f2), .iface 3 (.int .i64 p.f3), .iface 3 (.int .i64 p.f4), .iface 3 (.int .i64 p.f5), .iface 3 (.int .i64 p.f6), .iface 3 (.int .i64 p.f7)] 20)).drew wo.heap.size (fun _ => True) (.slice (some ⟨wo.heap.size, 0, none⟩) 9 9) (opFirst j p)) := ⟨Kd.R_drew (wd_lit wo (opFirst j p) (by show (9 : Nat) ≤ 1000000; omega))⟩
            have BL : Aside0 (Below wo.heap.size wo (wo.alloc (.cells #[.iface 3 (.int .i64 j), .iface 9 (.string (nm p.f0)), .iface 3 (.int .i64 p.f1), .iface 3 (.int .i64 p.f2), .iface 3 (.int .i64 p.f3), .iface 3 (.int .i64 p.f4), .iface 3 (.int .i64 p.f5), .iface 3 (.int .i64 p.f6), .iface 3 (.int .i64 p.f7)] 20)).drew) := ⟨below_drew (below_alloc (Below.refl _ _) _)⟩
            have q8 : (wo.alloc (.cells #[.iface 3 (.int .i64 j), .iface 9 (.string (nm p.f0)), .iface 3 (.int .i64 p.f1), .iface 3 (.int .i64 p.f2), .iface 3 (.int .i64 p.f3), .iface 3 (.int .i64 p.f4), .iface 3 (.int .i64 p.f5), .iface 3 (.int .i64 p.f6), .iface 3 (.int .i64 p.f7)] 20)).drew.cell? ⟨wj.heap.size, 8, none⟩ = some (.slice A8 p.f8.length c8) := cell_to ((blk_cell hNo 8).trans rfl) (below_drew (below_alloc (Below.refl _ _) _))
            have VL : Aside0 (kWd.R 20 (wo.alloc (.cells #[.iface 3 (.int .i64 j), .iface 9 (.string (nm p.f0)), .iface 3 (.int .i64 p.f1), .iface 3 (.int .i64 p.f2), .iface 3 (.int .i64 p.f3), .iface 3 (.int .i64 p.f4), .iface 3 (.int .i64 p.f5), .iface 3 (.int .i64 p.f6), .iface 3 (.int .i64 p.f7)] 20)).drew wo.heap.size (fun _ => True) (.slice (some ⟨wo.heap.size, 0, none⟩) 9 9) (opFirst j p)) := ⟨Kd.R_drew (wd_lit wo (opFirst j p) (by show (9 : Nat) ≤ 1000000; omega))⟩
            have BL : Aside0 (Below wo.heap.size wo (wo.alloc (.cells #[.iface 3 (.int .i64 j), .iface 9 (.string (nm p.f0)), .iface 3 (.int .i64 p.f1), .iface 3 (.int .i64 p.f2), .iface 3 (.int .i64 p.f3), .iface 3 (.int .i64 p.f4), .iface 3 (.int .i64 p.f5), .iface 3 (.int .i64 p.f6), .iface 3 (.int .i64 p.f7)] 20)).drew) := ⟨below_drew (below_alloc (Below.refl _ _) _)⟩
            clear hNo bo
            go_wp2_with fail
            go_still_tail 29, (by kernel_rfl)
            go_wp2_with fail
            go_loopw [10, 81] (fun v i wr => ∃ (q : Nat) (xs : List Wd), i = .int .i64 q ∧ q ≤ p.f8.length ∧ Aside0 (xs.length = 9 + q) ∧ Aside0 (xs = opFirst j p ++ (p.f8.take q).map .num) ∧ Aside0 (kWd.R 20 wr wo.heap.size (fun _ => True) v xs) ∧ Aside0 (Below wo.heap.size wo wr)) (fun _ i _ => p.f8.length - (intOf i).toNat)
            case atStart => exact ⟨0, opFirst j p, rfl, Nat.zero_le _, ⟨rfl⟩, ⟨by simp⟩, VL, BL⟩
            case round =>
              obtain ⟨q, xs, rfl, hq, hxl, HXS, HV, HBq⟩ := hrel
              obtain ⟨wq, rfl⟩ : ∃ wq : World, wq = wr := ⟨_, rfl⟩
              obtain ⟨A2, c2, hv, hlc, _⟩ := Kd.R_reads HV.out
              subst hv
              have hz8 := HZO.out
              have hxb : xs.length ≤ 1000010 := by have := hxl.out; omega
              have hzq := HBq.out.size
              clear q8
              by_cases hltq : q < p.f8.length
              · obtain ⟨ad3, eA3, d3⟩ := Kd.at_int (Kd.C_below H8o.out HBq.out) q (by omega) (by omega)
                subst eA3
                rw [Int.toNat_natCast] at d3
                have HX2 : Aside0 (opFirst j p ++ (p.f8.take (q + 1)).map .num = xs ++ [.num (rd p.f8 q)]) := ⟨by
                  rw [HXS.out, List.append_assoc, List.take_succ_eq_append_getElem hltq, List.map_append]
                  congr 2
                  unfold rd
                  rw [Int.toNat_natCast, List.getD_eq_getElem?_getD, List.getElem?_eq_getElem hltq]
                  rfl⟩
                obtain ⟨z, hz⟩ : ∃ z, rd p.f8 q = z := ⟨_, rfl⟩
                rw [hz] at d3 HX2
                clear hz
                go_wp2_with (at_builtin; go_loud (refine Kd.R_append kWd wo.heap.size rfl (.tmp 85) (.tmp 88) 73 20 .nilIface 16 rfl Tryd.underlying73 info20 rfl (by decide) (by decide) (.slice A2 xs.length c2) xs (.num z) [.iface 3 (.int .i64 z)] (fun _ => True) (fun _ => False) rfl rfl rfl (fun _ h => h.elim) (fun _ _ => trivial) HV.out HBq.out hzq (by omega) ?_; intro v1 w5 hv1 hb1 hg1 hat1))
                have V6 := Aside0.mk hv1
                have B6 := Aside0.mk hb1
                clear hv1 hb1 hg1 hat1
                go_wp2
                go_roundw
                case rel => exact ⟨q + 1, _, by go_num, hltq, ⟨by have := hxl.out; simp; omega⟩, ⟨HX2.out.symm⟩, V6, B6⟩
                case measure => simp [intOf]; omega
              · have : q = p.f8.length := by omega
                subst this
                rw [List.take_length] at HXS
                have q0' : wq.cell? ⟨wj.heap.size, 0, none⟩ = some (.int .i64 p.f0) := (blk_cell (blk_below HNO2.out HBq.out) 0).trans rfl
                have q9' : wq.cell? ⟨wj.heap.size, 9, none⟩ = some (.int .i64 p.f9) := (blk_cell (blk_below HNO2.out HBq.out) 9).trans rfl
                clear q0 q1 q2 q3 q4 q5 q6 q7
                by_cases z23 : p.f0 = 23
                · have j23 : (p.f0 != 23) = false := by rw [z23]; rfl
                  have j21 : (p.f0 == 21) = false := by rw [z23]; rfl
                  have HL : Aside0 (xs = opL j p) := ⟨by rw [HXS.out]; unfold opL; simp [z23]⟩
                  have hxs := HL.out
                  subst hxs
                  have V7x := HV
                  clear z23
                  obtain ⟨_, hl7, hC7⟩ := Kd.R_reads' V7x.out
                  have HB7 : Aside0 (Below ws.heap.size ws wq) := ⟨HBo.out.trans (HBq.out.mono HBo.out.size)⟩
                  have HBL7 : Aside0 (Bld ws.heap.size (textM m k ++ lineL (fnL k f) ++ opsText f j) wq) := ⟨HBLo.out.below HBq.out⟩
                  have HNF7 := Aside0.mk (blk_below HNFo.out HBq.out)
                  have hjI : (j : Int) ≤ 1000000000 := by omega
                  have hsh := opL_short j p (by omega) hjI HIO.out
                  have hle := opL_length j p
                  have hz8 := HZO.out
                  have hll := line_len _ hsh
                  have CL := Aside0.mk (line_any A2 c2 (opL j p) wq hC7 (by omega) (opL_ok j p (by omega) hjI HIO.out) (by have := join_short _ hsh; omega) (HTs.out.below HB7.out))
                  have HLE : Aside0 ((lineL (opL j p)).length ≤ 21 * (12 + 1000000) + 1) := ⟨by omega⟩
                  clear hC7 hl7 hsh hle hz8 hll
                  go_wp2_with fail
                  refine CL.out.mono ?_
                  rintro e w8 ⟨rfl, b⟩
                  have HB8 := Aside0.mk (below_then HB7.out HB7.out.size b)
                  have HBL8 := Aside0.mk (HBL7.out.below b)
                  have HNF8 := Aside0.mk (blk_below HNF7.out b)
                  have CWS := Aside0.mk (write_any ws.heap.size (textM m k ++ lineL (fnL k f) ++ opsText f j) (lineL (opL j p)) w8 HBL8.out (by
                    have h1 := line_len _ (fnL_short k f (by omega) (by omega) HFO.out)
                    have h3 : (fnL k f).length = 5 := rfl
                    have h4 := HLN.out
                    have h5 := HOL.out
                    have h6 := HLE.out
                    simp only [List.length_append]
                    omega))
                  clear b CL
                  go_wp2_with fail
                  refine CWS.out.mono ?_
                  rintro e w9 ⟨rfl, hbl, hbel, hkept⟩
                  have HB9 : Aside0 (Below ws.heap.size ws w9) := ⟨HB8.out.trans hbel⟩
                  have HBL9 : Aside0 (Bld ws.heap.size (textM m k ++ lineL (fnL k f) ++ opsText f (j + 1)) w9) := ⟨by rw [HON.out, ← List.append_assoc]; exact hbl⟩
                  have HNF9 : Aside0 (w9.heap[wi.heap.size]? = some (.cells #[.string f.f0, .int .i64 f.f1, .int .i64 f.f2, .int .i64 f.f3, .slice (some ad2) f.f4.length c4] 39 (0, 0))) := ⟨hkept _ _ _ HNF8.out (by omega) (by decide)⟩
                  clear hbl hbel hkept CWS
                  go_wp2_with fail
                  go_roundw
                  case rel => exact ⟨j + 1, by go_num, hltj2, HBL9, HB9, HNF9⟩
                  case measure => simp [intOf]; omega
                · have j23 : (p.f0 != 23) = true := bne_iff_ne.2 z23
                  by_cases z21 : p.f0 = 21
                  · have j21 : (p.f0 == 21) = true := by rw [z21]; rfl
                    have HL : Aside0 (opL j p = (xs ++ [.txt arrow, .num p.f9]) ++ [.num p.f10]) := ⟨by rw [HXS.out]; unfold opL; simp [z21]⟩
                    have q10' : wq.cell? ⟨wj.heap.size, 10, none⟩ = some (.int .i64 p.f10) := (blk_cell (blk_below HNO2.out HBq.out) 10).trans rfl
                    clear z23 z21
                    go_wp2_with (first | (at_builtin; go_loud (refine Kd.R_append_rows kWd wo.heap.size rfl (.tmp 94) (.tmp 99) 73 20 .nilIface 16 rfl Tryd.underlying73 info20 rfl (by decide) (by decide) (.slice A2 xs.length c2) xs [.txt arrow, .num p.f9] (some ⟨wq.heap.size, 0, none⟩) 2 2 (fun _ => True) (fun _ => False) rfl rfl (Kd.R_alloc HV.out _) (lit_wd wq _ rfl [.txt arrow, .num p.f9] _ rfl (by show (2 : Nat) ≤ 1000000; omega)) (fun _ _ h => h) (fun _ h => h.elim) (fun _ _ => trivial) (below_alloc' HBq.out (Nat.le_refl _) _) (Nat.le_trans hzq (by rw [World.size_alloc]; omega)) (by omega) ?_; intro v1 w5 hv1 hb1 hg1 hat1; have hyl : (xs ++ [Wd.txt arrow, Wd.num p.f9]).length ≤ 1000012 := (by simp; omega); generalize hys : xs ++ [Wd.txt arrow, Wd.num p.f9] = ys at hv1 HL hyl; obtain ⟨A3, c3, hv3, hlc3, _⟩ := Kd.R_reads hv1; subst hv3; have V6 := Aside0.mk hv1; have B6 := Aside0.mk hb1; have hz6 := hb1.size; have r0 : w5.cell? ⟨wj.heap.size, 0, none⟩ = some (.int .i64 p.f0) := (blk_cell (blk_below HNO2.out hb1) 0).trans rfl; have r10 : w5.cell? ⟨wj.heap.size, 10, none⟩ = some (.int .i64 p.f10) := (blk_cell (blk_below HNO2.out B6.out) 10).trans rfl; clear hv1 hb1 hg1 hat1 hys q0' q9' q10')) | (at_builtin; go_loud (refine Kd.R_append kWd wo.heap.size rfl (.tmp 104) (.tmp 108) 73 20 .nilIface 16 rfl Tryd.underlying73 info20 rfl (by decide) (by decide) (.slice A3 ys.length c3) ys (.num p.f10) [.iface 3 (.int .i64 p.f10)] (fun _ => True) (fun _ => False) rfl rfl rfl (fun _ h => h.elim) (fun _ _ => trivial) V6.out B6.out hz6 (by omega) ?_; intro v2 w6 hv2 hb2 hg2 hat2)))
                    have V7 : Aside0 (kWd.R 20 w6 wo.heap.size (fun _ => True) v2 (opL j p)) := ⟨by rw [HL.out]; exact hv2⟩
                    have B7 := Aside0.mk hb2
                    clear hv2 hb2 hg2 hat2
                    obtain ⟨A7, c7, hv7, hl7, hC7⟩ := Kd.R_reads V7.out
                    subst hv7
                    have HB7 : Aside0 (Below ws.heap.size ws w6) := ⟨HBo.out.trans (B7.out.mono HBo.out.size)⟩
                    have HBL7 : Aside0 (Bld ws.heap.size (textM m k ++ lineL (fnL k f) ++ opsText f j) w6) := ⟨HBLo.out.below B7.out⟩
                    have HNF7 := Aside0.mk (blk_below HNFo.out B7.out)
                    have hjI : (j : Int) ≤ 1000000000 := by omega
                    have hsh := opL_short j p (by omega) hjI HIO.out
                    have hle := opL_length j p
                    have hz8 := HZO.out
                    have hll := line_len _ hsh
                    have CL := Aside0.mk (line_any A7 c7 (opL j p) w6 hC7 (by omega) (opL_ok j p (by omega) hjI HIO.out) (by have := join_short _ hsh; omega) (HTs.out.below HB7.out))
                    have HLE : Aside0 ((lineL (opL j p)).length ≤ 21 * (12 + 1000000) + 1) := ⟨by omega⟩
                    clear hC7 hl7 hsh hle hz8 hll
                    go_wp2_with fail
                    refine CL.out.mono ?_
                    rintro e w8 ⟨rfl, b⟩
                    have HB8 := Aside0.mk (below_then HB7.out HB7.out.size b)
                    have HBL8 := Aside0.mk (HBL7.out.below b)
                    have HNF8 := Aside0.mk (blk_below HNF7.out b)
                    have CWS := Aside0.mk (write_any ws.heap.size (textM m k ++ lineL (fnL k f) ++ opsText f j) (lineL (opL j p)) w8 HBL8.out (by
                      have h1 := line_len _ (fnL_short k f (by omega) (by omega) HFO.out)
                      have h3 : (fnL k f).length = 5 := rfl
                      have h4 := HLN.out
                      have h5 := HOL.out
                      have h6 := HLE.out
                      simp only [List.length_append]
                      omega))
                    clear b CL
                    go_wp2_with fail
                    refine CWS.out.mono ?_
                    rintro e w9 ⟨rfl, hbl, hbel, hkept⟩
                    have HB9 : Aside0 (Below ws.heap.size ws w9) := ⟨HB8.out.trans hbel⟩
                    have HBL9 : Aside0 (Bld ws.heap.size (textM m k ++ lineL (fnL k f) ++ opsText f (j + 1)) w9) := ⟨by rw [HON.out, ← List.append_assoc]; exact hbl⟩
                    have HNF9 : Aside0 (w9.heap[wi.heap.size]? = some (.cells #[.string f.f0, .int .i64 f.f1, .int .i64 f.f2, .int .i64 f.f3, .slice (some ad2) f.f4.length c4] 39 (0, 0))) := ⟨hkept _ _ _ HNF8.out (by omega) (by decide)⟩
                    clear hbl hbel hkept CWS
                    go_wp2_with fail
                    go_roundw
                    case rel => exact ⟨j + 1, by go_num, hltj2, HBL9, HB9, HNF9⟩
                    case measure => simp [intOf]; omega
                  · have j21 : (p.f0 == 21) = false := beq_eq_false_iff_ne.2 z21
                    have HL : Aside0 (opL j p = xs ++ [.txt arrow, .num p.f9]) := ⟨by rw [HXS.out]; unfold opL; simp [z21, z23]⟩
                    clear z23 z21
                    go_wp2_with (at_builtin; go_loud (refine Kd.R_append_rows kWd wo.heap.size rfl (.tmp 94) (.tmp 99) 73 20 .nilIface 16 rfl Tryd.underlying73 info20 rfl (by decide) (by decide) (.slice A2 xs.length c2) xs [.txt arrow, .num p.f9] (some ⟨wq.heap.size, 0, none⟩) 2 2 (fun _ => True) (fun _ => False) rfl rfl (Kd.R_alloc HV.out _) (lit_wd wq _ rfl [.txt arrow, .num p.f9] _ rfl (by show (2 : Nat) ≤ 1000000; omega)) (fun _ _ h => h) (fun _ h => h.elim) (fun _ _ => trivial) (below_alloc' HBq.out (Nat.le_refl _) _) (Nat.le_trans hzq (by rw [World.size_alloc]; omega)) (by omega) ?_; intro v1 w5 hv1 hb1 hg1 hat1; have r0 : w5.cell? ⟨wj.heap.size, 0, none⟩ = some (.int .i64 p.f0) := (blk_cell (blk_below HNO2.out hb1) 0).trans rfl))
                    have V7 : Aside0 (kWd.R 20 w5 wo.heap.size (fun _ => True) v1 (opL j p)) := ⟨by rw [HL.out]; exact hv1⟩
                    have B7 := Aside0.mk hb1
                    clear hv1 hb1 hg1 hat1 q0' q9' r0
                    obtain ⟨A7, c7, hv7, hl7, hC7⟩ := Kd.R_reads V7.out
                    subst hv7
                    have HB7 : Aside0 (Below ws.heap.size ws w5) := ⟨HBo.out.trans (B7.out.mono HBo.out.size)⟩
                    have HBL7 : Aside0 (Bld ws.heap.size (textM m k ++ lineL (fnL k f) ++ opsText f j) w5) := ⟨HBLo.out.below B7.out⟩
                    have HNF7 := Aside0.mk (blk_below HNFo.out B7.out)
                    have hjI : (j : Int) ≤ 1000000000 := by omega
                    have hsh := opL_short j p (by omega) hjI HIO.out
                    have hle := opL_length j p
                    have hz8 := HZO.out
                    have hll := line_len _ hsh
                    have CL := Aside0.mk (line_any A7 c7 (opL j p) w5 hC7 (by omega) (opL_ok j p (by omega) hjI HIO.out) (by have := join_short _ hsh; omega) (HTs.out.below HB7.out))
                    have HLE : Aside0 ((lineL (opL j p)).length ≤ 21 * (12 + 1000000) + 1) := ⟨by omega⟩
                    clear hC7 hl7 hsh hle hz8 hll
                    go_wp2_with fail
                    refine CL.out.mono ?_
                    rintro e w8 ⟨rfl, b⟩
                    have HB8 := Aside0.mk (below_then HB7.out HB7.out.size b)
                    have HBL8 := Aside0.mk (HBL7.out.below b)
                    have HNF8 := Aside0.mk (blk_below HNF7.out b)
                    have CWS := Aside0.mk (write_any ws.heap.size (textM m k ++ lineL (fnL k f) ++ opsText f j) (lineL (opL j p)) w8 HBL8.out (by
                      have h1 := line_len _ (fnL_short k f (by omega) (by omega) HFO.out)
                      have h3 : (fnL k f).length = 5 := rfl
                      have h4 := HLN.out
                      have h5 := HOL.out
                      have h6 := HLE.out
                      simp only [List.length_append]
                      omega))
                    clear b CL
                    go_wp2_with fail
                    refine CWS.out.mono ?_
                    rintro e w9 ⟨rfl, hbl, hbel, hkept⟩
                    have HB9 : Aside0 (Below ws.heap.size ws w9) := ⟨HB8.out.trans hbel⟩
                    have HBL9 : Aside0 (Bld ws.heap.size (textM m k ++ lineL (fnL k f) ++ opsText f (j + 1)) w9) := ⟨by rw [HON.out, ← List.append_assoc]; exact hbl⟩
                    have HNF9 : Aside0 (w9.heap[wi.heap.size]? = some (.cells #[.string f.f0, .int .i64 f.f1, .int .i64 f.f2, .int .i64 f.f3, .slice (some ad2) f.f4.length c4] 39 (0, 0))) := ⟨hkept _ _ _ HNF8.out (by omega) (by decide)⟩
                    clear hbl hbel hkept CWS
                    go_wp2_with fail
                    go_roundw
                    case rel => exact ⟨j + 1, by go_num, hltj2, HBL9, HB9, HNF9⟩
                    case measure => simp [intOf]; omega
          · have : j = f.f4.length := by omega
            subst this
            have HTX : Aside0 (textM m k ++ lineL (fnL k f) ++ opsText f f.f4.length = textM m (k + 1)) := ⟨by rw [HTN.out]; unfold fnText; rw [List.append_assoc]⟩
            have HBX : Aside0 (Bld ws.heap.size (textM m (k + 1)) wj) := ⟨by rw [← HTX.out]; exact HBLj.out⟩
            go_wp2_with fail
            go_roundw
            case rel => exact ⟨k + 1, by go_num, hlk, HBX, HBj⟩
            case measure => simp [intOf]; omega
      · have : k = m.funcs.length := by omega
        subst this
        have CS := Aside0.mk (string_any ws.heap.size (textM m m.funcs.length) wi HBL.out)
        go_wp2_with fail
        refine CS.out.mono ?_
        rintro e w2 ⟨rfl, b⟩
        have BF := Aside0.mk (below_then HBs.out HBs.out.size (HB.out.trans b))
        clear b CS
        go_wp2_with fail
        go_ret2
        exact ⟨by rw [HE2.out]; rfl, BF.out⟩
end Go.Proofs.YtdapiibllblpbaaDoor.Code
