import Derived.Test.YtdapiibllblpbaaDoorSH
import Derived.Test.YtdapiibllblpbaaDoorSD
namespace Go.Proofs.YtdapiibllblpbaaDoor.Code
open Go.RowKit Go.Proofs.YtdapiibllblpbaaDoorW.PrintWords Go.Proofs.YtdapiibllblpbaaDoorW.PrintLast Go.Proofs.YtdapiibllblpbaaDoorW.PrintMore Go.Proofs.YtdapiibllblpbaaDoor.PCodeAnswers
set_option linter.unusedVariables false
set_option linter.unusedSimpArgs false

/-! ### The document's Show -/
theorem names_store (w : World) : (storeCells ⟨w.heap.size, 0, none⟩ namesV.toList 0).run Tryd.prog (w.alloc (.cells #[Value.string ⟨#[]⟩, Value.string ⟨#[]⟩, Value.string ⟨#[]⟩, Value.string ⟨#[]⟩, Value.string ⟨#[]⟩, Value.string ⟨#[]⟩, Value.string ⟨#[]⟩, Value.string ⟨#[]⟩, Value.string ⟨#[]⟩, Value.string ⟨#[]⟩, Value.string ⟨#[]⟩, Value.string ⟨#[]⟩, Value.string ⟨#[]⟩, Value.string ⟨#[]⟩, Value.string ⟨#[]⟩, Value.string ⟨#[]⟩, Value.string ⟨#[]⟩, Value.string ⟨#[]⟩, Value.string ⟨#[]⟩, Value.string ⟨#[]⟩, Value.string ⟨#[]⟩, Value.string ⟨#[]⟩, Value.string ⟨#[]⟩, Value.string ⟨#[]⟩] 75)) = .ok () (w.alloc (.cells namesV 75)) :=
  run_storeCells_new (P := Tryd.prog) w 75 _ namesV (by kernel_rfl) (by kernel_rfl) (by kernel_rfl)
theorem names_at75 {w : World} {nb : Nat} (h : w.heap[nb]? = some (.cells namesV 75 (0, 0))) (k : Int) (h0 : 0 ≤ k) (h1 : k < 24) : w.cell? ⟨nb, k.toNat, none⟩ = some (.string (nm k)) := by
  rw [blk_cell h]
  have hl : k.toNat < nms.length := by show k.toNat < 24; omega
  unfold namesV nm
  rw [List.getD_eq_getElem?_getD, List.getElem?_eq_getElem hl]
  simp [hl]
theorem int_lit (W : World) (l : List Int) (hl : l.length ≤ 1000000) : (Kd.int .i64).R 3 (W.alloc (.cells (l.map (Value.int .i64)).toArray 3)) W.heap.size (fun _ => True) (.slice (some ⟨W.heap.size, 0, none⟩) l.length l.length) l :=
  Kd.R_of_own (own_lit_of W W.heap.size 3 l (Nat.le_refl _) (by omega)) (fun _ _ => trivial)
theorem byte_lit (W : World) (l : List Int) (hl : l.length ≤ 1000000) : (Kd.int .u8).C (W.alloc (.cells (l.map (Value.int .u8)).toArray 5)) (some ⟨W.heap.size, 0, none⟩) l.length l :=
  (Kd.R_reads' (Kd.R_of_own (enc := Value.int .u8) (h1 := fun _ => rfl) (base := W.heap.size) (ok := fun _ => True) (own_lit_of W W.heap.size 5 l (Nat.le_refl _) (by omega)) (fun _ _ => trivial))).2.2
theorem nl_lit (W : World) : (Kd.int .u8).C (W.alloc (.cells #[.int .u8 10] 5)) (some ⟨W.heap.size, 0, none⟩) 1 (ints [10]) := byte_lit W [10] (by show (1 : Nat) ≤ 1000000; omega)
theorem strOf_ints (l : List UInt8) : strOfNums (ints l) = ⟨l.toArray⟩ := by
  unfold strOfNums ints
  congr 2
  rw [List.map_map]
  conv => rhs; rw [← List.map_id l]
  apply List.map_congr_left
  intro c _
  simp
def opsV (p : S42) : List Int := [p.f1, p.f2, p.f3, p.f4, p.f5, p.f6, p.f7] ++ p.f8
theorem opsV_len (p : S42) : (opsV p).length = 7 + p.f8.length := by unfold opsV; simp; omega
def opTail (p : S42) : List Wd := (if p.f0 ≠ 23 then [.txt arrow, .num p.f9] else []) ++ (if p.f0 = 21 then [.num p.f10] else [])
theorem op_line (j : Int) (p : S42) : lineL (opL j p) = lst (piece (.num j)) ++ tailL [.txt (nm p.f0)] ++ tailL ((opsV p).map .num) ++ tailL (opTail p) ++ [10] := by
  unfold opL opFirst
  simp only [List.cons_append]
  rw [lineL_cons]
  unfold opsV opTail
  simp [tailL]
theorem opsV_ok (p : S42) (h : opI p) : ∀ v ∈ opsV p, wdOk (.num v) := by
  intro v hv
  unfold opsV at hv
  rw [List.mem_append] at hv
  rcases hv with hv | hv
  · exact h.1 v (by simp at hv ⊢; rcases hv with rfl | rfl | rfl | rfl | rfl | rfl | rfl <;> simp)
  · exact h.2 v hv
theorem tail_next (xs : List Int) (q : Nat) (h : q < xs.length) : tailL ((xs.take (q + 1)).map .num) = tailL ((xs.take q).map .num) ++ tailL [.num (xs.getD q 0)] := by
  rw [List.take_succ_eq_append_getElem h, List.map_append, tailL_append]
  congr 2
  rw [List.getD_eq_getElem?_getD, List.getElem?_eq_getElem h]
  rfl
theorem tail_len (xs : List Int) (h : ∀ v ∈ xs, wdOk (.num v)) : (tailL (xs.map .num)).length ≤ 21 * xs.length := by
  unfold tailL
  induction xs with
  | nil => simp
  | cons x t ih =>
    have h1 := short_num x (h x (List.mem_cons_self))
    have h2 := ih (fun v hv => h v (List.mem_cons_of_mem _ hv))
    simp only [List.map_cons, List.flatten_cons, List.length_append, List.length_cons]
    have : (lst (piece (.num x))).length ≤ 20 := h1
    omega
theorem pce_len (v : Int) (h : wdOk (.num v)) : (lst (piece (.num v))).length ≤ 20 := short_num v h
theorem one_len (v : Int) (h : wdOk (.num v)) : (tailL [.num v]).length ≤ 21 := by
  have := tail_len [v] (by simpa using h)
  simpa using this
theorem arrow_len (v : Int) (h : wdOk (.num v)) : (tailL [.txt arrow, .num v]).length ≤ 24 := by
  have := pce_len v h
  simp [tailL, lst, piece, arrow] at this ⊢
  omega
theorem nm_tail (k : Int) : (tailL [.txt (nm k)]).length ≤ 21 := by
  have := nm_len k
  simp [tailL, lst, piece] at this ⊢
  omega
theorem cat_ok (a b : ByteArray) (h : a.size + b.size ≤ 1000) (W : World) : (Op.stringOp .add a b).run Tryd.prog W = .ok (.string (a ++ b)) W := run_string_add_sum W a b (by omega)
theorem itoaB_size (v : Int) (h : wdOk (.num v)) : (itoaB v).size ≤ 20 := by
  have := pce_len v h
  rw [← lst_size]
  exact this
theorem nm_size (k : Int) : (nm k).size ≤ 20 := nm_len k
theorem lit_size (l : List UInt8) : (ByteArray.mk l.toArray).size = l.length := by simp [ByteArray.size]
set_option maxRecDepth 100000 in
set_option maxHeartbeats 40000000 in
theorem showR_any (m : Md) (r : MdR) (w : World) (hm : MdC w r m) (hk : MdK r m) (hs : MdS m) (hz : MdZ m) (hi : MdI m) :
    Calls Tryd.prog 19 #[.agg (mdW r m).toArray] w fun e w' => e = .returned (.tuple #[.string ⟨(ShowM m).1.toArray⟩, .int .i64 (ShowM m).2]) ∧ Below w.heap.size w w' := by
  have hb := below_alloc (Below.refl w.heap.size w) (.cells (mdW r m).toArray 27)
  have HB0 := Aside0.mk hb
  have hn := blk_new w (.cells (mdW r m).toArray 27)
  have HN0 := Aside0.mk hn
  have CF := Aside0.mk (rightR_any m r _ (hm.below hb) hk hs hz)
  have HM0 := Aside0.mk (hm.below hb)
  have HS := Aside0.mk hs
  have HZ := Aside0.mk hz
  have HI := Aside0.mk hi
  clear hb hm hs hz hi hk
  obtain ⟨w0, hw0⟩ : ∃ w0, w.alloc (.cells (mdW r m).toArray 27) = w0 := ⟨_, rfl⟩
  rw [hw0] at HB0 hn HM0 HN0 CF
  have g0 : w0.cell? ⟨w.heap.size, 0, none⟩ = some (.slice r.a0 m.globals.length r.c0) := (blk_cell hn 0).trans rfl
  have g1 : w0.cell? ⟨w.heap.size, 1, none⟩ = some (.slice r.a1 m.structs.length r.c1) := (blk_cell hn 1).trans rfl
  have g2 : w0.cell? ⟨w.heap.size, 2, none⟩ = some (.slice r.a2 m.chans.length r.c2) := (blk_cell hn 2).trans rfl
  have g3 : w0.cell? ⟨w.heap.size, 3, none⟩ = some (.slice r.a3 m.locks.length r.c3) := (blk_cell hn 3).trans rfl
  have g4 : w0.cell? ⟨w.heap.size, 4, none⟩ = some (.slice r.a4 m.inputs.length r.c4) := (blk_cell hn 4).trans rfl
  have g5 : w0.cell? ⟨w.heap.size, 5, none⟩ = some (.slice r.a5 m.sinks.length r.c5) := (blk_cell hn 5).trans rfl
  have g6 : w0.cell? ⟨w.heap.size, 6, none⟩ = some (.slice r.a6 m.hatches.length r.c6) := (blk_cell hn 6).trans rfl
  have g7 : w0.cell? ⟨w.heap.size, 7, none⟩ = some (.slice r.a7 m.funcs.length r.c7) := (blk_cell hn 7).trans rfl
  have g8 : w0.cell? ⟨w.heap.size, 8, none⟩ = some (.slice r.a8 m.threads.length r.c8) := (blk_cell hn 8).trans rfl
  clear hn
  obtain ⟨sI, hsI⟩ : ∃ g : Int → ByteArray, g = itoaB := ⟨_, rfl⟩
  have SI0 := Aside0.mk hsI
  have C42 : Aside0 (∀ (v : Int) (W : World), Aside0 (wdOk (.num v)) → Calls Tryd.prog 42 #[.int .i64 v] W fun e w' => e = .returned (.string (sI v)) ∧ Below W.heap.size W w') := ⟨fun v W h => by rw [hsI]; exact show_any v h.out W⟩
  have SZ : Aside0 (∀ v, wdOk (.num v) → (sI v).size ≤ 20) := ⟨fun v h => by rw [hsI]; exact itoaB_size v h⟩
  clear hsI
  obtain ⟨b0, hb0⟩ : ∃ b, RightM m = b := ⟨_, rfl⟩
  rw [hb0] at CF
  have HR := Aside0.mk hb0
  clear hb0
  obtain ⟨res, hres⟩ : ∃ x, ShowM m = x := ⟨_, rfl⟩
  have HE : Aside0 (res = if RightM m then (textM m m.funcs.length, 0) else ([], 70)) := ⟨hres.symm⟩
  rw [hres]
  clear hres
  go_enter Tryd.func19, Tryd.ntmps19
  go_wp2_with fail
  refine CF.out.mono ?_
  rintro e w1 ⟨rfl, b⟩
  have HB1 := Aside0.mk (below_then HB0.out HB0.out.size b)
  have hn1 := blk_below HN0.out b
  have HM1 := Aside0.mk (HM0.out.below b)
  clear b CF hw0 g0 g1 g2 g3 g4 g5 g6 g7 g8
  cases b0 with
  | false =>
    go_wp2_with fail
    go_ret2
    exact ⟨by rw [HE.out, HR.out]; rfl, HB1.out⟩
  | true =>
    have HAL := Aside0.mk (right_frame m HR.out).1
    have hl12 := (right_frame m HR.out).2.2.2.2.2.2.2.1
    have HE2 : Aside0 (res = (textM m m.funcs.length, 0)) := ⟨by rw [HE.out, HR.out]; rfl⟩
    have hst := names_store w1
    obtain ⟨NO, hNO⟩ : ∃ o : Obj, .cells namesV 75 = o := ⟨_, rfl⟩
    rw [hNO] at hst
    obtain ⟨ws, hws⟩ : ∃ ws, w1.alloc NO = ws := ⟨_, rfl⟩
    rw [hws] at hst
    have hsz : w1.heap.size + 1 = ws.heap.size := by rw [← hws]; exact (World.size_alloc ..).symm
    have HNB : Aside0 (ws.heap[w1.heap.size]? = some (.cells namesV 75 (0, 0))) := ⟨by rw [← hws, ← hNO]; exact blk_new w1 _⟩
    have b1 : Below w1.heap.size w1 ws := by rw [← hws]; exact below_alloc (Below.refl _ _) _
    have HMs := Aside0.mk (HM1.out.below b1)
    have HBs := Aside0.mk (below_then HB1.out HB1.out.size b1)
    have HNs := Aside0.mk (blk_below hn1 b1)
    have LO : Aside0 (TX ws.heap.size (.slice (some ⟨ws.heap.size, 0, none⟩) 0 0) [] (ws.alloc (.cells #[] 5))) := ⟨lit_nil (Kd.int .u8) 5 ws ws.heap.size (Nat.le_refl _)⟩
    have BO := Aside0.mk (below_alloc (Below.refl ws.heap.size ws) (.cells #[] 5))
    have TT : Aside0 (textM m 0 = []) := ⟨rfl⟩
    clear hn1 b1
    go_wp2_with (refine wpList_build_is rfl 75 _ rfl namesV (by as_aux_lemma => kernel_rfl) ?_)
    clear hst
    go_loopw [5, 6] (fun tv i wr => ∃ k : Nat, i = .int .i64 k ∧ k ≤ m.funcs.length ∧ Aside0 (TX ws.heap.size tv (textM m k) wr) ∧ Aside0 (Below ws.heap.size ws wr)) (fun _ i _ => m.funcs.length - (intOf i).toNat)
    case atStart => exact ⟨0, rfl, Nat.zero_le _, ⟨by rw [TT.out]; exact LO.out⟩, BO⟩
    case round =>
      clear LO BO TT
      obtain ⟨k, rfl, hk, HX, HB⟩ := hrel
      obtain ⟨wi, rfl⟩ : ∃ wi : World, wi = wr := ⟨_, rfl⟩
      obtain ⟨tv, rfl⟩ : ∃ tv : Value, tv = u5 := ⟨_, rfl⟩
      have g7 : wi.cell? ⟨w.heap.size, 7, none⟩ = some (.slice r.a7 m.funcs.length r.c7) := (blk_cell (blk_below HNs.out HB.out) 7).trans rfl
      by_cases hlt : k < m.funcs.length
      · obtain ⟨ad, A4, c4, eA, d0, d1, d2, d3, d4, hl4, h4⟩ := at_T39 HMs.out.h7 k (by omega) (by omega)
        clear hl4
        rw [eA] at g7
        rw [eA]
        clear eA
        rw [Int.toNat_natCast] at d0 d1 d2 d3 d4
        replace d0 := cell_to d0 HB.out
        replace d1 := cell_to d1 HB.out
        replace d2 := cell_to d2 HB.out
        replace d3 := cell_to d3 HB.out
        replace d4 := cell_to d4 HB.out
        have HFO : Aside0 (funcOk (rd_T39 m.funcs k) = true) := ⟨List.all_eq_true.1 HAL.out _ (rd39_mem _ _ hlt)⟩
        have HFZ : Aside0 (∀ o ∈ (rd_T39 m.funcs k).f4, o.f8.length ≤ 1000000) := ⟨HZ.out _ (rd39_mem _ _ hlt)⟩
        have HFI : Aside0 (∀ o ∈ (rd_T39 m.funcs k).f4, opI o) := ⟨HI.out _ (rd39_mem _ _ hlt)⟩
        have HFR : Aside0 (∀ o ∈ (rd_T39 m.funcs k).f4, rightM m (rd_T39 m.funcs k) o = true) := ⟨by
          have := HR.out
          unfold RightM at this
          rw [Bool.and_eq_true] at this
          have := List.all_eq_true.1 this.2 _ (rd39_mem _ _ hlt)
          unfold funcR at this
          intro o ho
          rw [Bool.not_eq_true', List.any_eq_false] at this
          have := this o ho
          unfold nope at this
          simpa using this⟩
        have HTN : Aside0 (textM m (k + 1) = textM m k ++ fnText k (rd_T39 m.funcs k)) := ⟨textM_next m k⟩
        have HLN : Aside0 ((textM m k).length ≤ k * 100000000000) := ⟨textM_len m HAL.out hl12 HI.out HZ.out k hk⟩
        obtain ⟨f, hf⟩ : ∃ f, rd_T39 m.funcs k = f := ⟨_, rfl⟩
        rw [hf] at d0 d1 d2 d3 d4 h4 HFO HFZ HFI HFR HTN
        have H4 := Aside0.mk h4
        clear hf h4
        have hst := store39 wi f.f0 f.f1 f.f2 f.f3 (.slice A4 f.f4.length c4) rfl
        have hlk := hlt
        have HOKS : Aside0 (∀ x ∈ fnL k f, wdOk x) := ⟨fnL_ok k f (by omega) (by omega) HFO.out⟩
        obtain ⟨o, ho⟩ : ∃ o : Obj, (.cells #[.string f.f0, .int .i64 f.f1, .int .i64 f.f2, .int .i64 f.f3, .slice A4 f.f4.length c4] 39) = o := ⟨_, rfl⟩
        obtain ⟨w2, hw2⟩ : ∃ w2, wi.alloc o = w2 := ⟨_, rfl⟩
        have hNf : w2.heap[wi.heap.size]? = some (.cells #[.string f.f0, .int .i64 f.f1, .int .i64 f.f2, .int .i64 f.f3, .slice A4 f.f4.length c4] 39 (0, 0)) := by rw [← hw2, ← ho]; exact blk_new wi _
        have b2 : Below wi.heap.size wi w2 := by rw [← hw2]; exact below_alloc (Below.refl _ _) _
        have HNF2 := Aside0.mk hNf
        have HB2 := Aside0.mk (below_then HB.out HB.out.size b2)
        have HX2 := Aside0.mk (HX.out.below b2)
        clear hNf b2
        have K0 : Aside0 (wdOk (.num (k : Int))) := ⟨ok_small _ (by omega) (by omega)⟩
        have K1 : Aside0 (wdOk (.num f.f1)) := ⟨HOKS.out _ (by simp [fnL])⟩
        have K2 : Aside0 (wdOk (.num f.f2)) := ⟨HOKS.out _ (by simp [fnL])⟩
        have K3 : Aside0 (wdOk (.num f.f3)) := ⟨HOKS.out _ (by simp [fnL])⟩
        have KF : Aside0 (∀ w' : World, Aside0 (w'.heap[wi.heap.size]? = some (.cells #[.string f.f0, .int .i64 f.f1, .int .i64 f.f2, .int .i64 f.f3, .slice A4 f.f4.length c4] 39 (0, 0))) → (fun w' : World => w'.cell? ⟨wi.heap.size, 1, none⟩ = some (.int .i64 f.f1) ∧ w'.cell? ⟨wi.heap.size, 2, none⟩ = some (.int .i64 f.f2) ∧ w'.cell? ⟨wi.heap.size, 3, none⟩ = some (.int .i64 f.f3)) w') := ⟨fun w' h => ⟨(blk_cell h.out 1).trans rfl, (blk_cell h.out 2).trans rfl, (blk_cell h.out 3).trans rfl⟩⟩
        have FW : Aside0 (∀ W : World, Aside0 (Below w2.heap.size w2 W) → Aside0 (W.heap[wi.heap.size]? = some (.cells #[.string f.f0, .int .i64 f.f1, .int .i64 f.f2, .int .i64 f.f3, .slice A4 f.f4.length c4] 39 (0, 0)))) := ⟨fun W h => ⟨blk_below HNF2.out h.out⟩⟩
        have F9 : Aside0 (∀ W w9 : World, Aside0 (Below w2.heap.size w2 W) → Aside0 (K5 W w9) → Aside0 (w9.heap[wi.heap.size]? = some (.cells #[.string f.f0, .int .i64 f.f1, .int .i64 f.f2, .int .i64 f.f3, .slice A4 f.f4.length c4] 39 (0, 0)))) := ⟨fun W w9 h k9 => ⟨k9.out.keep _ _ _ _ (blk_below HNF2.out h.out) (by decide)⟩⟩
        have TH : Aside0 (∀ W W' : World, Aside0 (Below w2.heap.size w2 W) → Below W.heap.size W W' → Aside0 (Below w2.heap.size w2 W')) := ⟨fun W W' h b => ⟨below_then h.out h.out.size b⟩⟩
        have TB : Aside0 (∀ W s, Aside0 (Below w2.heap.size w2 W) → Aside0 (Below w2.heap.size w2 (Lib.bytesWorld W 5 s))) := ⟨fun W s h => ⟨bytes_below h.out h.out.size 5 s⟩⟩
        have TXW : Aside0 (∀ W : World, Aside0 (Below w2.heap.size w2 W) → TX ws.heap.size tv (textM m k) W) := ⟨fun W h => HX2.out.below h.out⟩
        have TBS : Aside0 (∀ W : World, Aside0 (Below w2.heap.size w2 W) → Below ws.heap.size ws W) := ⟨fun W h => below_then HB2.out HB2.out.size h.out⟩
        have LL : Aside0 ((lineL (fnL k f)).length ≤ 200) := ⟨by
          have h1 := line_len _ (fnL_short k f (by omega) (by omega) HFO.out)
          have h3 : (fnL k f).length = 5 := rfl
          omega⟩
        have LT : Aside0 ((textM m k).length + (lineL (fnL k f)).length ≤ 140737488355328) := ⟨by
          have := LL.out
          have := HLN.out
          omega⟩
        have HCB : Aside0 (∀ (s : ByteArray) (y : List UInt8) (W : World), lst s = y → y.length ≤ 10000000000 → (Kd.int .u8).C (Lib.bytesWorld W 5 s) (some ⟨W.heap.size, 0, none⟩) s.size (ints y)) := ⟨fun s y W h hl => by
          subst h
          exact bytes_C W s (by rw [lst_size] at hl; omega)⟩
        have kb := fun (s : ByteArray) (W : World) => print_bytes (P := Tryd.prog) 9 65 5 Tryd.underlying9 Tryd.underlying65 Tryd.underlying5 s W
        obtain ⟨t1, ht1⟩ : ∃ t : ByteArray, t = (⟨#[102, 117, 110, 99, 32]⟩ : ByteArray) ++ (sI k) := ⟨_, rfl⟩
        have E1 := Aside0.mk ht1
        have T1 : Aside0 (t1.size ≤ 25) := ⟨by have h1 := SZ.out _ K0.out; have h2 : (ByteArray.mk #[102, 117, 110, 99, 32]).size = 5 := rfl; rw [ht1, ByteArray.size_append]; omega⟩
        have q1 : ∀ W : World, (Op.stringOp .add (⟨#[102, 117, 110, 99, 32]⟩ : ByteArray) (sI k)).run Tryd.prog W = .ok (.string t1) W := fun W => by have h1 := SZ.out _ K0.out; have h2 : (ByteArray.mk #[102, 117, 110, 99, 32]).size = 5 := rfl; rw [ht1]; exact cat_ok _ _ (by omega) W
        clear ht1
        obtain ⟨t2, ht2⟩ : ∃ t : ByteArray, t = t1 ++ (⟨#[32]⟩ : ByteArray) := ⟨_, rfl⟩
        have E2 := Aside0.mk ht2
        have T2 : Aside0 (t2.size ≤ 26) := ⟨by have h1 : (ByteArray.mk #[32]).size = 1 := rfl; have h2 := T1.out; rw [ht2, ByteArray.size_append]; omega⟩
        have q2 : ∀ W : World, (Op.stringOp .add t1 (⟨#[32]⟩ : ByteArray)).run Tryd.prog W = .ok (.string t2) W := fun W => by have h1 : (ByteArray.mk #[32]).size = 1 := rfl; have h2 := T1.out; rw [ht2]; exact cat_ok _ _ (by omega) W
        clear ht2
        obtain ⟨t3, ht3⟩ : ∃ t : ByteArray, t = t2 ++ (sI f.f1) := ⟨_, rfl⟩
        have E3 := Aside0.mk ht3
        have T3 : Aside0 (t3.size ≤ 46) := ⟨by have h1 := SZ.out _ K1.out; have h2 := T2.out; rw [ht3, ByteArray.size_append]; omega⟩
        have q3 : ∀ W : World, (Op.stringOp .add t2 (sI f.f1)).run Tryd.prog W = .ok (.string t3) W := fun W => by have h1 := SZ.out _ K1.out; have h2 := T2.out; rw [ht3]; exact cat_ok _ _ (by omega) W
        clear ht3
        obtain ⟨t4, ht4⟩ : ∃ t : ByteArray, t = t3 ++ (⟨#[32]⟩ : ByteArray) := ⟨_, rfl⟩
        have E4 := Aside0.mk ht4
        have T4 : Aside0 (t4.size ≤ 47) := ⟨by have h1 : (ByteArray.mk #[32]).size = 1 := rfl; have h2 := T3.out; rw [ht4, ByteArray.size_append]; omega⟩
        have q4 : ∀ W : World, (Op.stringOp .add t3 (⟨#[32]⟩ : ByteArray)).run Tryd.prog W = .ok (.string t4) W := fun W => by have h1 : (ByteArray.mk #[32]).size = 1 := rfl; have h2 := T3.out; rw [ht4]; exact cat_ok _ _ (by omega) W
        clear ht4
        obtain ⟨t5, ht5⟩ : ∃ t : ByteArray, t = t4 ++ (sI f.f2) := ⟨_, rfl⟩
        have E5 := Aside0.mk ht5
        have T5 : Aside0 (t5.size ≤ 67) := ⟨by have h1 := SZ.out _ K2.out; have h2 := T4.out; rw [ht5, ByteArray.size_append]; omega⟩
        have q5 : ∀ W : World, (Op.stringOp .add t4 (sI f.f2)).run Tryd.prog W = .ok (.string t5) W := fun W => by have h1 := SZ.out _ K2.out; have h2 := T4.out; rw [ht5]; exact cat_ok _ _ (by omega) W
        clear ht5
        obtain ⟨t6, ht6⟩ : ∃ t : ByteArray, t = t5 ++ (⟨#[32]⟩ : ByteArray) := ⟨_, rfl⟩
        have E6 := Aside0.mk ht6
        have T6 : Aside0 (t6.size ≤ 68) := ⟨by have h1 : (ByteArray.mk #[32]).size = 1 := rfl; have h2 := T5.out; rw [ht6, ByteArray.size_append]; omega⟩
        have q6 : ∀ W : World, (Op.stringOp .add t5 (⟨#[32]⟩ : ByteArray)).run Tryd.prog W = .ok (.string t6) W := fun W => by have h1 : (ByteArray.mk #[32]).size = 1 := rfl; have h2 := T5.out; rw [ht6]; exact cat_ok _ _ (by omega) W
        clear ht6
        obtain ⟨t7, ht7⟩ : ∃ t : ByteArray, t = t6 ++ (sI f.f3) := ⟨_, rfl⟩
        have E7 := Aside0.mk ht7
        have T7 : Aside0 (t7.size ≤ 88) := ⟨by have h1 := SZ.out _ K3.out; have h2 := T6.out; rw [ht7, ByteArray.size_append]; omega⟩
        have q7 : ∀ W : World, (Op.stringOp .add t6 (sI f.f3)).run Tryd.prog W = .ok (.string t7) W := fun W => by have h1 := SZ.out _ K3.out; have h2 := T6.out; rw [ht7]; exact cat_ok _ _ (by omega) W
        clear ht7
        obtain ⟨t8, ht8⟩ : ∃ t : ByteArray, t = t7 ++ (⟨#[10]⟩ : ByteArray) := ⟨_, rfl⟩
        have E8 := Aside0.mk ht8
        have T8 : Aside0 (t8.size ≤ 89) := ⟨by have h1 : (ByteArray.mk #[10]).size = 1 := rfl; have h2 := T7.out; rw [ht8, ByteArray.size_append]; omega⟩
        have q8 : ∀ W : World, (Op.stringOp .add t7 (⟨#[10]⟩ : ByteArray)).run Tryd.prog W = .ok (.string t8) W := fun W => by have h1 : (ByteArray.mk #[10]).size = 1 := rfl; have h2 := T7.out; rw [ht8]; exact cat_ok _ _ (by omega) W
        clear ht8
        have FL : Aside0 (lst t8 = lineL (fnL k f)) := ⟨by rw [E8.out, E7.out, E6.out, E5.out, E4.out, E3.out, E2.out, E1.out, SI0.out]; exact fn_line k f⟩
        clear E1 T1 E2 T2 E3 T3 E4 T4 E5 T5 E6 T6 E7 T7 E8 T8
        have Z0 : Aside0 (Below w2.heap.size w2 w2.drew) := ⟨(Below.refl w2.heap.size w2).drew⟩
        have Z00 : Aside0 (Below w2.heap.size w2 w2) := ⟨Below.refl w2.heap.size w2⟩
        go_wp2_with fail
        refine wp_region_held_drew (S := (fun w' : World => w'.cell? ⟨wi.heap.size, 1, none⟩ = some (.int .i64 f.f1) ∧ w'.cell? ⟨wi.heap.size, 2, none⟩ = some (.int .i64 f.f2) ∧ w'.cell? ⟨wi.heap.size, 3, none⟩ = some (.int .i64 f.f3))) (by kernel_rfl) (KF.out _ (FW.out _ Z0)) (fun hHeld => ?_)
        refine wpAnyH_take (i := 0) (oi := { dst := some 29, op := Op.move (Operand.tmp 5), type := 65, pos := "ref.go:170", after := #[], guard := none }) (v := ?_) rfl (by kernel_rfl) (by kernel_rfl) (by kernel_rfl) (fun _ _ _ h => h) (Or.inl ⟨by rfl, ?_⟩) (by assumption) ?_
        rotate_left
        · first | (intro w hSw; (try dsimp only at hSw); go_simp; done) | (intro w hSw; (try dsimp only at hSw); go_simp; with_reducible rfl)
        try simp only [Act.put, List.setIfInBounds_toArray, List.set_cons_zero, List.set_cons_succ]
        refine wpAnyH_take (i := 1) (oi := { dst := some 30, op := Op.move (Operand.tmp 6), type := 3, pos := "ref.go:170", after := #[], guard := none }) (v := ?_) rfl (by kernel_rfl) (by kernel_rfl) (by kernel_rfl) (fun _ _ _ h => h) (Or.inl ⟨by rfl, ?_⟩) (by assumption) ?_
        rotate_left
        · first | (intro w hSw; (try dsimp only at hSw); go_simp; done) | (intro w hSw; (try dsimp only at hSw); go_simp; with_reducible rfl)
        try simp only [Act.put, List.setIfInBounds_toArray, List.set_cons_zero, List.set_cons_succ]
        refine wpAnyH_take (i := 5) (oi := { dst := some 34, op := Op.fieldAddr 39 (Operand.tmp 7) 1, type := 0, pos := "ref.go:170", after := #[], guard := none }) (v := ?_) rfl (by kernel_rfl) (by kernel_rfl) (by kernel_rfl) (fun _ _ _ h => h) (Or.inl ⟨by rfl, ?_⟩) (by assumption) ?_
        rotate_left
        · first | (intro w hSw; (try dsimp only at hSw); go_simp; done) | (intro w hSw; (try dsimp only at hSw); go_simp; with_reducible rfl)
        try simp only [Act.put, List.setIfInBounds_toArray, List.set_cons_zero, List.set_cons_succ]
        refine wpAnyH_take (i := 6) (oi := { dst := some 35, op := Op.load 3 (Operand.tmp 34), type := 3, pos := "ref.go:170", after := #[{ on := 5, ground := Ground.data }], guard := none }) (v := ?_) rfl (by kernel_rfl) (by kernel_rfl) (by kernel_rfl) (fun _ _ _ h => h) (Or.inl ⟨by rfl, ?_⟩) (by assumption) ?_
        rotate_left
        · first | (intro w hSw; (try dsimp only at hSw); go_simp; done) | (intro w hSw; (try dsimp only at hSw); go_simp; with_reducible rfl)
        try simp only [Act.put, List.setIfInBounds_toArray, List.set_cons_zero, List.set_cons_succ]
        refine wpAnyH_take (i := 10) (oi := { dst := some 39, op := Op.fieldAddr 39 (Operand.tmp 7) 2, type := 0, pos := "ref.go:170", after := #[], guard := none }) (v := ?_) rfl (by kernel_rfl) (by kernel_rfl) (by kernel_rfl) (fun _ _ _ h => h) (Or.inl ⟨by rfl, ?_⟩) (by assumption) ?_
        rotate_left
        · first | (intro w hSw; (try dsimp only at hSw); go_simp; done) | (intro w hSw; (try dsimp only at hSw); go_simp; with_reducible rfl)
        try simp only [Act.put, List.setIfInBounds_toArray, List.set_cons_zero, List.set_cons_succ]
        refine wpAnyH_take (i := 11) (oi := { dst := some 40, op := Op.load 3 (Operand.tmp 39), type := 3, pos := "ref.go:170", after := #[{ on := 10, ground := Ground.data }], guard := none }) (v := ?_) rfl (by kernel_rfl) (by kernel_rfl) (by kernel_rfl) (fun _ _ _ h => h) (Or.inl ⟨by rfl, ?_⟩) (by assumption) ?_
        rotate_left
        · first | (intro w hSw; (try dsimp only at hSw); go_simp; done) | (intro w hSw; (try dsimp only at hSw); go_simp; with_reducible rfl)
        try simp only [Act.put, List.setIfInBounds_toArray, List.set_cons_zero, List.set_cons_succ]
        refine wpAnyH_take (i := 15) (oi := { dst := some 44, op := Op.fieldAddr 39 (Operand.tmp 7) 3, type := 0, pos := "ref.go:170", after := #[], guard := none }) (v := ?_) rfl (by kernel_rfl) (by kernel_rfl) (by kernel_rfl) (fun _ _ _ h => h) (Or.inl ⟨by rfl, ?_⟩) (by assumption) ?_
        rotate_left
        · first | (intro w hSw; (try dsimp only at hSw); go_simp; done) | (intro w hSw; (try dsimp only at hSw); go_simp; with_reducible rfl)
        try simp only [Act.put, List.setIfInBounds_toArray, List.set_cons_zero, List.set_cons_succ]
        refine wpAnyH_take (i := 16) (oi := { dst := some 45, op := Op.load 3 (Operand.tmp 44), type := 3, pos := "ref.go:170", after := #[{ on := 15, ground := Ground.data }], guard := none }) (v := ?_) rfl (by kernel_rfl) (by kernel_rfl) (by kernel_rfl) (fun _ _ _ h => h) (Or.inl ⟨by rfl, ?_⟩) (by assumption) ?_
        rotate_left
        · first | (intro w hSw; (try dsimp only at hSw); go_simp; done) | (intro w hSw; (try dsimp only at hSw); go_simp; with_reducible rfl)
        try simp only [Act.put, List.setIfInBounds_toArray, List.set_cons_zero, List.set_cons_succ]
        refine wpAnyH_ready (rs := [2]) (by kernel_rfl) (by simp) ?_
        refine AllReadyH.cons (o := { dst := some 31, op := Op.call { callee := Callee.value (Operand.func 42), args := #[Operand.tmp 30], argTypes := #[3] }, type := 9, pos := "ref.go:170", after := #[{ on := 1, ground := Ground.data }], guard := none }) rfl (fun K hK => ?_) AllReadyH.nil
        go_simp
        refine (C42.out k _ K0).mono ?_
        rintro e x1 ⟨rfl, b⟩
        have z1 := TH.out _ _ Z0 b
        clear b
        go_wp2_with fail
        refine hK.out _ _ ?_ (fun hHeld => ?_)
        · exact KF.out _ (FW.out _ z1)
        clear hK K
        try simp only [Act.put, List.setIfInBounds_toArray, List.set_cons_zero, List.set_cons_succ]
        refine wpAnyH_take (i := 3) (oi := { dst := some 32, op := Op.binOp BinOp.add 9 (Operand.const (Value.string { data := #[102, 117, 110, 99, 32] })) (Operand.tmp 31) 9, type := 9, pos := "ref.go:170", after := #[{ on := 2, ground := Ground.data }], guard := none }) (v := ?_) rfl (by kernel_rfl) (by kernel_rfl) (by kernel_rfl) (fun _ _ _ h => h) (Or.inl ⟨by rfl, ?_⟩) (by assumption) ?_
        rotate_left
        · first | (intro w hSw; (try dsimp only at hSw); go_simp; done) | (intro w hSw; (try dsimp only at hSw); go_simp; with_reducible rfl)
        try simp only [Act.put, List.setIfInBounds_toArray, List.set_cons_zero, List.set_cons_succ]
        refine wpAnyH_take (i := 4) (oi := { dst := some 33, op := Op.binOp BinOp.add 9 (Operand.tmp 32) (Operand.const (Value.string { data := #[32] })) 9, type := 9, pos := "ref.go:170", after := #[{ on := 3, ground := Ground.data }], guard := none }) (v := ?_) rfl (by kernel_rfl) (by kernel_rfl) (by kernel_rfl) (fun _ _ _ h => h) (Or.inl ⟨by rfl, ?_⟩) (by assumption) ?_
        rotate_left
        · first | (intro w hSw; (try dsimp only at hSw); go_simp; done) | (intro w hSw; (try dsimp only at hSw); go_simp; with_reducible rfl)
        try simp only [Act.put, List.setIfInBounds_toArray, List.set_cons_zero, List.set_cons_succ]
        refine wpAnyH_ready (rs := [7]) (by kernel_rfl) (by simp) ?_
        refine AllReadyH.cons (o := { dst := some 36, op := Op.call { callee := Callee.value (Operand.func 42), args := #[Operand.tmp 35], argTypes := #[3] }, type := 9, pos := "ref.go:170", after := #[{ on := 6, ground := Ground.data }, { on := 2, ground := Ground.chain }], guard := none }) rfl (fun K hK => ?_) AllReadyH.nil
        go_simp
        refine (C42.out f.f1 _ K1).mono ?_
        rintro e x2 ⟨rfl, b⟩
        have z2 := TH.out _ _ z1 b
        clear b
        go_wp2_with fail
        refine hK.out _ _ ?_ (fun hHeld => ?_)
        · exact KF.out _ (FW.out _ z2)
        clear hK K
        try simp only [Act.put, List.setIfInBounds_toArray, List.set_cons_zero, List.set_cons_succ]
        refine wpAnyH_take (i := 8) (oi := { dst := some 37, op := Op.binOp BinOp.add 9 (Operand.tmp 33) (Operand.tmp 36) 9, type := 9, pos := "ref.go:170", after := #[{ on := 4, ground := Ground.data }, { on := 7, ground := Ground.data }], guard := none }) (v := ?_) rfl (by kernel_rfl) (by kernel_rfl) (by kernel_rfl) (fun _ _ _ h => h) (Or.inl ⟨by rfl, ?_⟩) (by assumption) ?_
        rotate_left
        · first | (intro w hSw; (try dsimp only at hSw); go_simp; done) | (intro w hSw; (try dsimp only at hSw); go_simp; with_reducible rfl)
        try simp only [Act.put, List.setIfInBounds_toArray, List.set_cons_zero, List.set_cons_succ]
        refine wpAnyH_take (i := 9) (oi := { dst := some 38, op := Op.binOp BinOp.add 9 (Operand.tmp 37) (Operand.const (Value.string { data := #[32] })) 9, type := 9, pos := "ref.go:170", after := #[{ on := 8, ground := Ground.data }], guard := none }) (v := ?_) rfl (by kernel_rfl) (by kernel_rfl) (by kernel_rfl) (fun _ _ _ h => h) (Or.inl ⟨by rfl, ?_⟩) (by assumption) ?_
        rotate_left
        · first | (intro w hSw; (try dsimp only at hSw); go_simp; done) | (intro w hSw; (try dsimp only at hSw); go_simp; with_reducible rfl)
        try simp only [Act.put, List.setIfInBounds_toArray, List.set_cons_zero, List.set_cons_succ]
        refine wpAnyH_ready (rs := [12]) (by kernel_rfl) (by simp) ?_
        refine AllReadyH.cons (o := { dst := some 41, op := Op.call { callee := Callee.value (Operand.func 42), args := #[Operand.tmp 40], argTypes := #[3] }, type := 9, pos := "ref.go:170", after := #[{ on := 11, ground := Ground.data }, { on := 7, ground := Ground.chain }], guard := none }) rfl (fun K hK => ?_) AllReadyH.nil
        go_simp
        refine (C42.out f.f2 _ K2).mono ?_
        rintro e x3 ⟨rfl, b⟩
        have z3 := TH.out _ _ z2 b
        clear b
        go_wp2_with fail
        refine hK.out _ _ ?_ (fun hHeld => ?_)
        · exact KF.out _ (FW.out _ z3)
        clear hK K
        try simp only [Act.put, List.setIfInBounds_toArray, List.set_cons_zero, List.set_cons_succ]
        refine wpAnyH_take (i := 13) (oi := { dst := some 42, op := Op.binOp BinOp.add 9 (Operand.tmp 38) (Operand.tmp 41) 9, type := 9, pos := "ref.go:170", after := #[{ on := 9, ground := Ground.data }, { on := 12, ground := Ground.data }], guard := none }) (v := ?_) rfl (by kernel_rfl) (by kernel_rfl) (by kernel_rfl) (fun _ _ _ h => h) (Or.inl ⟨by rfl, ?_⟩) (by assumption) ?_
        rotate_left
        · first | (intro w hSw; (try dsimp only at hSw); go_simp; done) | (intro w hSw; (try dsimp only at hSw); go_simp; with_reducible rfl)
        try simp only [Act.put, List.setIfInBounds_toArray, List.set_cons_zero, List.set_cons_succ]
        refine wpAnyH_take (i := 14) (oi := { dst := some 43, op := Op.binOp BinOp.add 9 (Operand.tmp 42) (Operand.const (Value.string { data := #[32] })) 9, type := 9, pos := "ref.go:170", after := #[{ on := 13, ground := Ground.data }], guard := none }) (v := ?_) rfl (by kernel_rfl) (by kernel_rfl) (by kernel_rfl) (fun _ _ _ h => h) (Or.inl ⟨by rfl, ?_⟩) (by assumption) ?_
        rotate_left
        · first | (intro w hSw; (try dsimp only at hSw); go_simp; done) | (intro w hSw; (try dsimp only at hSw); go_simp; with_reducible rfl)
        try simp only [Act.put, List.setIfInBounds_toArray, List.set_cons_zero, List.set_cons_succ]
        refine wpAnyH_ready (rs := [17]) (by kernel_rfl) (by simp) ?_
        refine AllReadyH.cons (o := { dst := some 46, op := Op.call { callee := Callee.value (Operand.func 42), args := #[Operand.tmp 45], argTypes := #[3] }, type := 9, pos := "ref.go:170", after := #[{ on := 16, ground := Ground.data }, { on := 12, ground := Ground.chain }], guard := none }) rfl (fun K hK => ?_) AllReadyH.nil
        go_simp
        refine (C42.out f.f3 _ K3).mono ?_
        rintro e x4 ⟨rfl, b⟩
        have z4 := TH.out _ _ z3 b
        clear b
        go_wp2_with fail
        refine hK.out _ _ ?_ (fun hHeld => ?_)
        · exact KF.out _ (FW.out _ z4)
        clear hK K
        try simp only [Act.put, List.setIfInBounds_toArray, List.set_cons_zero, List.set_cons_succ]
        refine wpAnyH_take (i := 18) (oi := { dst := some 47, op := Op.binOp BinOp.add 9 (Operand.tmp 43) (Operand.tmp 46) 9, type := 9, pos := "ref.go:170", after := #[{ on := 14, ground := Ground.data }, { on := 17, ground := Ground.data }], guard := none }) (v := ?_) rfl (by kernel_rfl) (by kernel_rfl) (by kernel_rfl) (fun _ _ _ h => h) (Or.inl ⟨by rfl, ?_⟩) (by assumption) ?_
        rotate_left
        · first | (intro w hSw; (try dsimp only at hSw); go_simp; done) | (intro w hSw; (try dsimp only at hSw); go_simp; with_reducible rfl)
        try simp only [Act.put, List.setIfInBounds_toArray, List.set_cons_zero, List.set_cons_succ]
        refine wpAnyH_take (i := 19) (oi := { dst := some 48, op := Op.binOp BinOp.add 9 (Operand.tmp 47) (Operand.const (Value.string { data := #[10] })) 9, type := 9, pos := "ref.go:170", after := #[{ on := 18, ground := Ground.data }], guard := none }) (v := ?_) rfl (by kernel_rfl) (by kernel_rfl) (by kernel_rfl) (fun _ _ _ h => h) (Or.inl ⟨by rfl, ?_⟩) (by assumption) ?_
        rotate_left
        · first | (intro w hSw; (try dsimp only at hSw); go_simp; done) | (intro w hSw; (try dsimp only at hSw); go_simp; with_reducible rfl)
        try simp only [Act.put, List.setIfInBounds_toArray, List.set_cons_zero, List.set_cons_succ]
        refine wpAnyH_ready (rs := [20]) (by kernel_rfl) (by simp) ?_
        refine AllReadyH.cons (o := { dst := some 49, op := Op.convert 9 65 (Operand.tmp 48), type := 65, pos := "ref.go:170", after := #[{ on := 19, ground := Ground.data }], guard := none }) rfl (fun K hK => ?_) AllReadyH.nil
        go_simp
        refine hK.out _ _ ?_ (fun hHeld => ?_)
        · exact KF.out _ (FW.out _ (TB.out _ _ z4))
        clear hK K
        try simp only [Act.put, List.setIfInBounds_toArray, List.set_cons_zero, List.set_cons_succ]
        refine wpAnyH_ready (rs := [21]) (by kernel_rfl) (by simp) ?_
        refine AllReadyH.cons (o := { dst := some 50, op := Op.call { callee := Callee.builtin Builtin.append, args := #[Operand.tmp 29, Operand.tmp 49], argTypes := #[65, 65] }, type := 65, pos := "ref.go:170", after := #[{ on := 0, ground := Ground.data }, { on := 20, ground := Ground.data }, { on := 17, ground := Ground.chain }], guard := none }) rfl (fun K hK => ?_) AllReadyH.nil
        refine tx_step (B := ws.heap.size) (w0 := ws) rfl (.tmp 29) (.tmp 49) rfl tv (textM m k) rfl _ _ _ rfl (lineL (fnL k f)) (TXW.out _ (TB.out _ _ z4)) (HCB.out _ _ _ FL.out (by have := LL.out; omega)) (TBS.out _ (TB.out _ _ z4)) (TBS.out _ (TB.out _ _ z4)).size LT.out ?_
        intro v9 w9 HX9 HB9 HK9
        have HF9 := F9.out _ _ (TB.out _ _ z4) HK9
        refine hK.out _ _ ?_ (fun hHeld => ?_)
        · exact KF.out _ HF9
        clear hK K
        try simp only [Act.put, List.setIfInBounds_toArray, List.set_cons_zero, List.set_cons_succ]
        refine wpAnyH_take (i := 22) (oi := { dst := some 5, op := Op.assign (Operand.tmp 50), type := 65, pos := "ref.go:170", after := #[{ on := 21, ground := Ground.data }, { on := 21, ground := Ground.chain }, { on := 0, ground := Ground.phase }, { on := 1, ground := Ground.phase }, { on := 2, ground := Ground.phase }, { on := 3, ground := Ground.phase }, { on := 4, ground := Ground.phase }, { on := 5, ground := Ground.phase }, { on := 6, ground := Ground.phase }, { on := 7, ground := Ground.phase }, { on := 8, ground := Ground.phase }, { on := 9, ground := Ground.phase }, { on := 10, ground := Ground.phase }, { on := 11, ground := Ground.phase }, { on := 12, ground := Ground.phase }, { on := 13, ground := Ground.phase }, { on := 14, ground := Ground.phase }, { on := 15, ground := Ground.phase }, { on := 16, ground := Ground.phase }, { on := 17, ground := Ground.phase }, { on := 18, ground := Ground.phase }, { on := 19, ground := Ground.phase }, { on := 20, ground := Ground.phase }, { on := 21, ground := Ground.phase }], guard := none }) (v := ?_) rfl (by kernel_rfl) (by kernel_rfl) (by kernel_rfl) (fun _ _ _ h => h) (Or.inl ⟨by rfl, ?_⟩) (by assumption) ?_
        rotate_left
        · first | (intro w hSw; (try dsimp only at hSw); go_simp; done) | (intro w hSw; (try dsimp only at hSw); go_simp; with_reducible rfl)
        try simp only [Act.put, List.setIfInBounds_toArray, List.set_cons_zero, List.set_cons_succ]
        refine wpAnyH_done (by kernel_rfl) ?_ _
        clear z1 z2 z3 z4
        have HNF9 : Aside0 (w9.heap[wi.heap.size]? = some (.cells #[.string f.f0, .int .i64 f.f1, .int .i64 f.f2, .int .i64 f.f3, .slice A4 f.f4.length c4] 39 (0, 0))) := HF9
        have f4 : w9.cell? ⟨wi.heap.size, 4, none⟩ = some (.slice A4 f.f4.length c4) := (blk_cell HNF9.out 4).trans rfl
        have hf4 : f.f4.length ≤ 4096 := ((funcOk_is f).1 HFO.out).2.2.2.2
        have HX0 : Aside0 (TX ws.heap.size v9 (textM m k ++ lineL (fnL k f) ++ opsText f 0) w9) := ⟨by rw [show opsText f 0 = [] from rfl, List.append_nil]; exact HX9.out⟩
        clear q1 q2 q3 q4 q5 q6 q7 q8 FL HF9 HK9 HX9 K0 K1 K2 K3 KF FW F9 TH TB TXW TBS Z0 Z00 HNF2 HB2 HX2 HX HB HOKS
        go_wp2_with fail
        go_loopw [5, 8] (fun tv i wr => ∃ j : Nat, i = .int .i64 j ∧ j ≤ f.f4.length ∧ Aside0 (TX ws.heap.size tv (textM m k ++ lineL (fnL k f) ++ opsText f j) wr) ∧ Aside0 (Below ws.heap.size ws wr) ∧ Aside0 (wr.heap[wi.heap.size]? = some (.cells #[.string f.f0, .int .i64 f.f1, .int .i64 f.f2, .int .i64 f.f3, .slice A4 f.f4.length c4] 39 (0, 0)))) (fun _ i _ => f.f4.length - (intOf i).toNat)
        case atStart => exact ⟨0, rfl, Nat.zero_le _, HX0, HB9, HNF9⟩
        case round =>
          obtain ⟨j, rfl, hj, HXj, HBj, HNFj⟩ := hrel
          obtain ⟨wj, rfl⟩ : ∃ wj : World, wj = wr := ⟨_, rfl⟩
          obtain ⟨tj, rfl⟩ : ∃ tj : Value, tj = u5 := ⟨_, rfl⟩
          clear f4 hst ho hw2 HX0 HB9 HNF9
          have f4 : wj.cell? ⟨wi.heap.size, 4, none⟩ = some (.slice A4 f.f4.length c4) := (blk_cell HNFj.out 4).trans rfl
          by_cases hltj : j < f.f4.length
          · obtain ⟨ad2, A8, c8, eA2, e0, e1, e2, e3, e4, e5, e6, e7, e8, e9, e10, e11, hl8, h8⟩ := at_T42 (Kd.C_below H4.out HBj.out) j (by omega) (by omega)
            clear hl8
            subst eA2
            rw [Int.toNat_natCast] at e0 e1 e2 e3 e4 e5 e6 e7 e8 e9 e10 e11
            have HZO : Aside0 ((rd_T42 f.f4 j).f8.length ≤ 1000000) := ⟨HFZ.out _ (rd42_mem _ _ hltj)⟩
            have HIO : Aside0 (opI (rd_T42 f.f4 j)) := ⟨HFI.out _ (rd42_mem _ _ hltj)⟩
            have hk0 := kind_of m f _ (HFR.out _ (rd42_mem _ _ hltj))
            have HON : Aside0 (opsText f (j + 1) = opsText f j ++ lineL (opL j (rd_T42 f.f4 j))) := ⟨opsText_next f j⟩
            have HOL : Aside0 ((opsText f j).length ≤ j * 22000000) := ⟨opsText_len f hf4 HFI.out HFZ.out j hj⟩
            obtain ⟨p, hp⟩ : ∃ p, rd_T42 f.f4 j = p := ⟨_, rfl⟩
            rw [hp] at e0 e1 e2 e3 e4 e5 e6 e7 e8 e9 e10 e11 h8 HZO HIO hk0 HON
            have H8 := Aside0.mk h8
            clear hp h8
            have hst2 := store42 wj p.f0 p.f1 p.f2 p.f3 p.f4 p.f5 p.f6 p.f7 (.slice A8 p.f8.length c8) p.f9 p.f10 p.f11 rfl
            have hltj2 := hltj
            obtain ⟨ob, hob⟩ : ∃ o : Obj, (.cells #[.int .i64 p.f0, .int .i64 p.f1, .int .i64 p.f2, .int .i64 p.f3, .int .i64 p.f4, .int .i64 p.f5, .int .i64 p.f6, .int .i64 p.f7, .slice A8 p.f8.length c8, .int .i64 p.f9, .int .i64 p.f10, .int .i64 p.f11] 42) = o := ⟨_, rfl⟩
            obtain ⟨wo, hwo⟩ : ∃ wo, wj.alloc ob = wo := ⟨_, rfl⟩
            have hNo : wo.heap[wj.heap.size]? = some (.cells #[.int .i64 p.f0, .int .i64 p.f1, .int .i64 p.f2, .int .i64 p.f3, .int .i64 p.f4, .int .i64 p.f5, .int .i64 p.f6, .int .i64 p.f7, .slice A8 p.f8.length c8, .int .i64 p.f9, .int .i64 p.f10, .int .i64 p.f11] 42 (0, 0)) := by rw [← hwo, ← hob]; exact blk_new wj _
            have bo : Below wj.heap.size wj wo := by rw [← hwo]; exact below_alloc (Below.refl _ _) _
            have HNOo : Aside0 (wo.heap[wj.heap.size]? = some (.cells #[.int .i64 p.f0, .int .i64 p.f1, .int .i64 p.f2, .int .i64 p.f3, .int .i64 p.f4, .int .i64 p.f5, .int .i64 p.f6, .int .i64 p.f7, .slice A8 p.f8.length c8, .int .i64 p.f9, .int .i64 p.f10, .int .i64 p.f11] 42 (0, 0))) := ⟨hNo⟩
            have HXo : Aside0 (TX ws.heap.size tj (textM m k ++ lineL (fnL k f) ++ opsText f j) wo) := ⟨HXj.out.below bo⟩
            have HBo : Aside0 (Below ws.heap.size ws wo) := ⟨below_then HBj.out HBj.out.size bo⟩
            have HNFo : Aside0 (wo.heap[wi.heap.size]? = some (.cells #[.string f.f0, .int .i64 f.f1, .int .i64 f.f2, .int .i64 f.f3, .slice (some ad2) f.f4.length c4] 39 (0, 0))) := ⟨blk_below HNFj.out bo⟩
            have H8o := Aside0.mk (Kd.C_below H8.out bo)
            have q1 : wo.cell? ⟨wj.heap.size, 1, none⟩ = some (.int .i64 p.f1) := (blk_cell hNo 1).trans rfl
            have q2 : wo.cell? ⟨wj.heap.size, 2, none⟩ = some (.int .i64 p.f2) := (blk_cell hNo 2).trans rfl
            have q3 : wo.cell? ⟨wj.heap.size, 3, none⟩ = some (.int .i64 p.f3) := (blk_cell hNo 3).trans rfl
            have q4 : wo.cell? ⟨wj.heap.size, 4, none⟩ = some (.int .i64 p.f4) := (blk_cell hNo 4).trans rfl
            have q5 : wo.cell? ⟨wj.heap.size, 5, none⟩ = some (.int .i64 p.f5) := (blk_cell hNo 5).trans rfl
            have q6 : wo.cell? ⟨wj.heap.size, 6, none⟩ = some (.int .i64 p.f6) := (blk_cell hNo 6).trans rfl
            have q7 : wo.cell? ⟨wj.heap.size, 7, none⟩ = some (.int .i64 p.f7) := (blk_cell hNo 7).trans rfl
            have k0 : (0 : Int) ≤ p.f0 := by omega
            have k1 : p.f0 < 24 := by omega
            have ba : Below wo.heap.size wo (wo.alloc (.cells #[.int .i64 p.f1, .int .i64 p.f2, .int .i64 p.f3, .int .i64 p.f4, .int .i64 p.f5, .int .i64 p.f6, .int .i64 p.f7] 3)) := below_alloc (Below.refl _ _) _
            have q8 : (wo.alloc (.cells #[.int .i64 p.f1, .int .i64 p.f2, .int .i64 p.f3, .int .i64 p.f4, .int .i64 p.f5, .int .i64 p.f6, .int .i64 p.f7] 3)).cell? ⟨wj.heap.size, 8, none⟩ = some (.slice A8 p.f8.length c8) := (blk_cell (blk_below HNOo.out ba) 8).trans rfl
            have VL : Aside0 ((Kd.int .i64).R 3 (wo.alloc (.cells #[.int .i64 p.f1, .int .i64 p.f2, .int .i64 p.f3, .int .i64 p.f4, .int .i64 p.f5, .int .i64 p.f6, .int .i64 p.f7] 3)) wo.heap.size (fun _ => True) (.slice (some ⟨wo.heap.size, 0, none⟩) 7 7) [p.f1, p.f2, p.f3, p.f4, p.f5, p.f6, p.f7]) := ⟨int_lit wo [p.f1, p.f2, p.f3, p.f4, p.f5, p.f6, p.f7] (by show (7 : Nat) ≤ 1000000; omega)⟩
            have BL : Aside0 (Below wo.heap.size wo (wo.alloc (.cells #[.int .i64 p.f1, .int .i64 p.f2, .int .i64 p.f3, .int .i64 p.f4, .int .i64 p.f5, .int .i64 p.f6, .int .i64 p.f7] 3))) := ⟨ba⟩
            have H8a := Aside0.mk (Kd.C_below H8o.out ba)
            clear hNo bo ba
            have hz8 := HZO.out
            have HTL : Aside0 ((textM m k ++ lineL (fnL k f) ++ opsText f j).length ≤ 2000000000000) := ⟨by have := LL.out; have := HLN.out; have := HOL.out; simp only [List.length_append]; omega⟩
            have HHL : Aside0 ((lst (piece (.num (j : Int))) ++ tailL [.txt (nm p.f0)]).length ≤ 41) := ⟨by have := pce_len (j : Int) (ok_small _ (by omega) (by omega)); have := nm_tail p.f0; simp only [List.length_append]; omega⟩
            have HVL : Aside0 ((tailL ((opsV p).map .num)).length ≤ 21 * 1000007) := ⟨by have := tail_len (opsV p) (opsV_ok p HIO.out); rw [opsV_len] at this; omega⟩
            have KJ : Aside0 (wdOk (.num (j : Int))) := ⟨ok_small _ (by omega) (by omega)⟩
            go_wp2_with (at_builtin; go_loud (refine Kd.R_append_rows (Kd.int .i64) (w0 := wo) wo.heap.size rfl (.tmp 78) (.tmp 80) 25 3 (.int .i64 0) 8 rfl Tryd.underlying25 info3 rfl (by decide) (by decide) (.slice (some ⟨wo.heap.size, 0, none⟩) 7 7) [p.f1, p.f2, p.f3, p.f4, p.f5, p.f6, p.f7] p.f8 A8 p.f8.length c8 (fun _ => True) (fun _ => False) rfl rfl VL.out H8a.out (fun _ _ h => h) (fun _ h => h.elim) (fun _ _ => trivial) BL.out BL.out.size (by have := HZO.out; simp only [List.length_cons, List.length_nil]; omega) ?_; intro v10 wv hv1 hb1 hg1 hat1))
            have HV1 : Aside0 ((Kd.int .i64).R 3 wv wo.heap.size (fun _ => True) v10 (opsV p)) := ⟨hv1⟩
            have HXv : Aside0 (TX ws.heap.size tj (textM m k ++ lineL (fnL k f) ++ opsText f j) wv) := ⟨HXo.out.below hb1⟩
            have HBv : Aside0 (Below ws.heap.size ws wv) := ⟨below_then HBo.out HBo.out.size hb1⟩
            have HNFv : Aside0 (wv.heap[wi.heap.size]? = some (.cells #[.string f.f0, .int .i64 f.f1, .int .i64 f.f2, .int .i64 f.f3, .slice (some ad2) f.f4.length c4] 39 (0, 0))) := ⟨blk_below HNFo.out hb1⟩
            have HNOv : Aside0 (wv.heap[wj.heap.size]? = some (.cells #[.int .i64 p.f0, .int .i64 p.f1, .int .i64 p.f2, .int .i64 p.f3, .int .i64 p.f4, .int .i64 p.f5, .int .i64 p.f6, .int .i64 p.f7, .slice A8 p.f8.length c8, .int .i64 p.f9, .int .i64 p.f10, .int .i64 p.f11] 42 (0, 0))) := ⟨blk_below HNOo.out hb1⟩
            clear hv1 hb1 hg1 hat1 q1 q2 q3 q4 q5 q6 q7 q8 VL BL H8a
            obtain ⟨A10, c10, hv10, hl10, hC10⟩ := Kd.R_reads HV1.out
            subst hv10
            clear hC10
            have nfv := names_at75 (blk_below HNB.out HBv.out) p.f0 k0 k1
            have NFW : Aside0 (∀ W : World, Aside0 (Below wv.heap.size wv W) → (fun w' : World => w'.cell? ⟨wj.heap.size, 0, none⟩ = some (.int .i64 p.f0) ∧ w'.cell? ⟨w1.heap.size, p.f0.toNat, none⟩ = some (.string (nm p.f0))) W) := ⟨fun W h => ⟨(blk_cell (blk_below HNOv.out h.out) 0).trans rfl, names_at75 (blk_below HNB.out (below_then HBv.out HBv.out.size h.out)) p.f0 k0 k1⟩⟩
            have TH : Aside0 (∀ W W' : World, Aside0 (Below wv.heap.size wv W) → Below W.heap.size W W' → Aside0 (Below wv.heap.size wv W')) := ⟨fun W W' h b => ⟨below_then h.out h.out.size b⟩⟩
            have TB : Aside0 (∀ W s, Aside0 (Below wv.heap.size wv W) → Aside0 (Below wv.heap.size wv (Lib.bytesWorld W 5 s))) := ⟨fun W s h => ⟨bytes_below h.out h.out.size 5 s⟩⟩
            have TXW : Aside0 (∀ W : World, Aside0 (Below wv.heap.size wv W) → TX ws.heap.size tj (textM m k ++ lineL (fnL k f) ++ opsText f j) W) := ⟨fun W h => HXv.out.below h.out⟩
            have TBS : Aside0 (∀ W : World, Aside0 (Below wv.heap.size wv W) → Below ws.heap.size ws W) := ⟨fun W h => below_then HBv.out HBv.out.size h.out⟩
            have Z0 : Aside0 (Below wv.heap.size wv wv.drew) := ⟨(Below.refl wv.heap.size wv).drew⟩
            have Z00 : Aside0 (Below wv.heap.size wv wv) := ⟨Below.refl wv.heap.size wv⟩
            have LT16 : Aside0 ((textM m k ++ lineL (fnL k f) ++ opsText f j).length + (lst (piece (.num (j : Int))) ++ tailL [.txt (nm p.f0)]).length ≤ 140737488355328) := ⟨by have := HTL.out; have := HHL.out; omega⟩
            have KG : Aside0 (∀ w' : World, Aside0 (w'.heap[wj.heap.size]? = some (.cells #[.int .i64 p.f0, .int .i64 p.f1, .int .i64 p.f2, .int .i64 p.f3, .int .i64 p.f4, .int .i64 p.f5, .int .i64 p.f6, .int .i64 p.f7, .slice A8 p.f8.length c8, .int .i64 p.f9, .int .i64 p.f10, .int .i64 p.f11] 42 (0, 0)) ∧ w'.heap[w1.heap.size]? = some (.cells namesV 75 (0, 0))) → (fun w' : World => w'.cell? ⟨wj.heap.size, 0, none⟩ = some (.int .i64 p.f0) ∧ w'.cell? ⟨w1.heap.size, p.f0.toNat, none⟩ = some (.string (nm p.f0))) w') := ⟨fun w' h => ⟨(blk_cell h.out.1 0).trans rfl, names_at75 h.out.2 p.f0 k0 k1⟩⟩
            have GN16 : Aside0 (∀ W w9 : World, Aside0 (Below wv.heap.size wv W) → Aside0 (K5 W w9) → Aside0 (w9.heap[wj.heap.size]? = some (.cells #[.int .i64 p.f0, .int .i64 p.f1, .int .i64 p.f2, .int .i64 p.f3, .int .i64 p.f4, .int .i64 p.f5, .int .i64 p.f6, .int .i64 p.f7, .slice A8 p.f8.length c8, .int .i64 p.f9, .int .i64 p.f10, .int .i64 p.f11] 42 (0, 0)) ∧ w9.heap[w1.heap.size]? = some (.cells namesV 75 (0, 0)))) := ⟨fun W w9 h k9 => ⟨k9.out.keep _ _ _ _ (blk_below HNOv.out h.out) (by decide), k9.out.keep _ _ _ _ (blk_below HNB.out (below_then HBv.out HBv.out.size h.out)) (by decide)⟩⟩
            have G16 : Aside0 (∀ W w9 : World, Aside0 (Below wv.heap.size wv W) → Aside0 (K5 W w9) → Aside0 (w9.heap[wi.heap.size]? = some (.cells #[.string f.f0, .int .i64 f.f1, .int .i64 f.f2, .int .i64 f.f3, .slice (some ad2) f.f4.length c4] 39 (0, 0)) ∧ w9.heap[wj.heap.size]? = some (.cells #[.int .i64 p.f0, .int .i64 p.f1, .int .i64 p.f2, .int .i64 p.f3, .int .i64 p.f4, .int .i64 p.f5, .int .i64 p.f6, .int .i64 p.f7, .slice A8 p.f8.length c8, .int .i64 p.f9, .int .i64 p.f10, .int .i64 p.f11] 42 (0, 0)) ∧ (Kd.int .i64).R 3 w9 wo.heap.size (fun _ => True) (.slice A10 (opsV p).length c10) (opsV p))) := ⟨fun W w9 h k9 => ⟨k9.out.keep _ _ _ _ (blk_below HNFv.out h.out) (by decide), k9.out.keep _ _ _ _ (blk_below HNOv.out h.out) (by decide), k9.out.row (Kd.R_below HV1.out h.out)⟩⟩
            obtain ⟨t1, ht1⟩ : ∃ t : ByteArray, t = sI j ++ (⟨#[32]⟩ : ByteArray) := ⟨_, rfl⟩
            have T1 : t1.size ≤ 21 := by have h1 := SZ.out _ KJ.out; have h2 : (ByteArray.mk #[32]).size = 1 := rfl; rw [ht1, ByteArray.size_append]; omega
            have q1 : ∀ W : World, (Op.stringOp .add (sI j) (⟨#[32]⟩ : ByteArray)).run Tryd.prog W = .ok (.string t1) W := fun W => by have h1 := SZ.out _ KJ.out; have h2 : (ByteArray.mk #[32]).size = 1 := rfl; rw [ht1]; exact cat_ok _ _ (by omega) W
            obtain ⟨t2, ht2⟩ : ∃ t : ByteArray, t = t1 ++ nm p.f0 := ⟨_, rfl⟩
            have q2 : ∀ W : World, (Op.stringOp .add t1 (nm p.f0)).run Tryd.prog W = .ok (.string t2) W := fun W => by have h1 := nm_size p.f0; rw [ht2]; exact cat_ok _ _ (by omega) W
            have FL2 : Aside0 (lst t2 = lst (piece (.num (j : Int))) ++ tailL [.txt (nm p.f0)]) := ⟨by rw [ht2, ht1, SI0.out]; exact op_head j p.f0⟩
            clear ht1 ht2 T1
            go_wp2_with fail
            refine wp_region_held_drew (S := (fun w' : World => w'.cell? ⟨wj.heap.size, 0, none⟩ = some (.int .i64 p.f0) ∧ w'.cell? ⟨w1.heap.size, p.f0.toNat, none⟩ = some (.string (nm p.f0)))) (by kernel_rfl) (NFW.out _ Z0) (fun hHeld => ?_)
            refine wpAnyH_take (i := 0) (oi := { dst := some 82, op := Op.move (Operand.tmp 5), type := 65, pos := "ref.go:175", after := #[], guard := none }) (v := ?_) rfl (by kernel_rfl) (by kernel_rfl) (by kernel_rfl) (fun _ _ _ h => h) (Or.inl ⟨by rfl, ?_⟩) (by assumption) ?_
            rotate_left
            · first | (intro w hSw; (try dsimp only at hSw); go_simp; done) | (intro w hSw; (try dsimp only at hSw); go_simp; with_reducible rfl)
            try simp only [Act.put, List.setIfInBounds_toArray, List.set_cons_zero, List.set_cons_succ]
            refine wpAnyH_take (i := 1) (oi := { dst := some 83, op := Op.move (Operand.tmp 8), type := 3, pos := "ref.go:175", after := #[], guard := none }) (v := ?_) rfl (by kernel_rfl) (by kernel_rfl) (by kernel_rfl) (fun _ _ _ h => h) (Or.inl ⟨by rfl, ?_⟩) (by assumption) ?_
            rotate_left
            · first | (intro w hSw; (try dsimp only at hSw); go_simp; done) | (intro w hSw; (try dsimp only at hSw); go_simp; with_reducible rfl)
            try simp only [Act.put, List.setIfInBounds_toArray, List.set_cons_zero, List.set_cons_succ]
            refine wpAnyH_take (i := 4) (oi := { dst := some 86, op := Op.fieldAddr 42 (Operand.tmp 9) 0, type := 0, pos := "ref.go:175", after := #[], guard := none }) (v := ?_) rfl (by kernel_rfl) (by kernel_rfl) (by kernel_rfl) (fun _ _ _ h => h) (Or.inl ⟨by rfl, ?_⟩) (by assumption) ?_
            rotate_left
            · first | (intro w hSw; (try dsimp only at hSw); go_simp; done) | (intro w hSw; (try dsimp only at hSw); go_simp; with_reducible rfl)
            try simp only [Act.put, List.setIfInBounds_toArray, List.set_cons_zero, List.set_cons_succ]
            refine wpAnyH_take (i := 5) (oi := { dst := some 87, op := Op.load 3 (Operand.tmp 86), type := 3, pos := "ref.go:175", after := #[{ on := 4, ground := Ground.data }], guard := none }) (v := ?_) rfl (by kernel_rfl) (by kernel_rfl) (by kernel_rfl) (fun _ _ _ h => h) (Or.inl ⟨by rfl, ?_⟩) (by assumption) ?_
            rotate_left
            · first | (intro w hSw; (try dsimp only at hSw); go_simp; done) | (intro w hSw; (try dsimp only at hSw); go_simp; with_reducible rfl)
            try simp only [Act.put, List.setIfInBounds_toArray, List.set_cons_zero, List.set_cons_succ]
            refine wpAnyH_take (i := 6) (oi := { dst := some 88, op := Op.indexAddr 75 (Operand.tmp 4) (Operand.tmp 87), type := 0, pos := "ref.go:175", after := #[{ on := 5, ground := Ground.data }], guard := none }) (v := ?_) rfl (by kernel_rfl) (by kernel_rfl) (by kernel_rfl) (fun _ _ _ h => h) (Or.inl ⟨by rfl, ?_⟩) (by assumption) ?_
            rotate_left
            · first | (intro w hSw; (try dsimp only at hSw); go_simp; done) | (intro w hSw; (try dsimp only at hSw); go_simp; with_reducible rfl)
            try simp only [Act.put, List.setIfInBounds_toArray, List.set_cons_zero, List.set_cons_succ]
            refine wpAnyH_take (i := 7) (oi := { dst := some 89, op := Op.load 9 (Operand.tmp 88), type := 9, pos := "ref.go:175", after := #[{ on := 6, ground := Ground.data }], guard := none }) (v := ?_) rfl (by kernel_rfl) (by kernel_rfl) (by kernel_rfl) (fun _ _ _ h => h) (Or.inl ⟨by rfl, ?_⟩) (by assumption) ?_
            rotate_left
            · first | (intro w hSw; (try dsimp only at hSw); go_simp; done) | (intro w hSw; (try dsimp only at hSw); go_simp; with_reducible rfl)
            try simp only [Act.put, List.setIfInBounds_toArray, List.set_cons_zero, List.set_cons_succ]
            refine wpAnyH_ready (rs := [2]) (by kernel_rfl) (by simp) ?_
            refine AllReadyH.cons (o := { dst := some 84, op := Op.call { callee := Callee.value (Operand.func 42), args := #[Operand.tmp 83], argTypes := #[3] }, type := 9, pos := "ref.go:175", after := #[{ on := 1, ground := Ground.data }], guard := none }) rfl (fun K hK => ?_) AllReadyH.nil
            go_simp
            refine (C42.out j _ KJ).mono ?_
            rintro e x1 ⟨rfl, b⟩
            have z1 := TH.out _ _ Z0 b
            clear b
            go_wp2_with fail
            refine hK.out _ _ ?_ (fun hHeld => ?_)
            · exact NFW.out _ z1
            clear hK K
            try simp only [Act.put, List.setIfInBounds_toArray, List.set_cons_zero, List.set_cons_succ]
            refine wpAnyH_take (i := 3) (oi := { dst := some 85, op := Op.binOp BinOp.add 9 (Operand.tmp 84) (Operand.const (Value.string { data := #[32] })) 9, type := 9, pos := "ref.go:175", after := #[{ on := 2, ground := Ground.data }], guard := none }) (v := ?_) rfl (by kernel_rfl) (by kernel_rfl) (by kernel_rfl) (fun _ _ _ h => h) (Or.inl ⟨by rfl, ?_⟩) (by assumption) ?_
            rotate_left
            · first | (intro w hSw; (try dsimp only at hSw); go_simp; done) | (intro w hSw; (try dsimp only at hSw); go_simp; with_reducible rfl)
            try simp only [Act.put, List.setIfInBounds_toArray, List.set_cons_zero, List.set_cons_succ]
            refine wpAnyH_take (i := 8) (oi := { dst := some 90, op := Op.binOp BinOp.add 9 (Operand.tmp 85) (Operand.tmp 89) 9, type := 9, pos := "ref.go:175", after := #[{ on := 3, ground := Ground.data }, { on := 7, ground := Ground.data }], guard := none }) (v := ?_) rfl (by kernel_rfl) (by kernel_rfl) (by kernel_rfl) (fun _ _ _ h => h) (Or.inl ⟨by rfl, ?_⟩) (by assumption) ?_
            rotate_left
            · first | (intro w hSw; (try dsimp only at hSw); go_simp; done) | (intro w hSw; (try dsimp only at hSw); go_simp; with_reducible rfl)
            try simp only [Act.put, List.setIfInBounds_toArray, List.set_cons_zero, List.set_cons_succ]
            refine wpAnyH_ready (rs := [9]) (by kernel_rfl) (by simp) ?_
            refine AllReadyH.cons (o := { dst := some 91, op := Op.convert 9 65 (Operand.tmp 90), type := 65, pos := "ref.go:175", after := #[{ on := 8, ground := Ground.data }], guard := none }) rfl (fun K hK => ?_) AllReadyH.nil
            go_simp
            refine hK.out _ _ ?_ (fun hHeld => ?_)
            · exact NFW.out _ (TB.out _ _ z1)
            clear hK K
            try simp only [Act.put, List.setIfInBounds_toArray, List.set_cons_zero, List.set_cons_succ]
            refine wpAnyH_ready (rs := [10]) (by kernel_rfl) (by simp) ?_
            refine AllReadyH.cons (o := { dst := some 92, op := Op.call { callee := Callee.builtin Builtin.append, args := #[Operand.tmp 82, Operand.tmp 91], argTypes := #[65, 65] }, type := 65, pos := "ref.go:175", after := #[{ on := 0, ground := Ground.data }, { on := 9, ground := Ground.data }, { on := 2, ground := Ground.chain }], guard := none }) rfl (fun K hK => ?_) AllReadyH.nil
            refine tx_step (B := ws.heap.size) (w0 := ws) rfl (.tmp 82) (.tmp 91) rfl tj (textM m k ++ lineL (fnL k f) ++ opsText f j) rfl _ _ _ rfl (lst (piece (.num (j : Int))) ++ tailL [.txt (nm p.f0)]) (TXW.out _ (TB.out _ _ z1)) (HCB.out _ _ _ FL2.out (by have := HHL.out; omega)) (TBS.out _ (TB.out _ _ z1)) (TBS.out _ (TB.out _ _ z1)).size LT16.out ?_
            intro v16 w16 HX16 HB16 HK16
            have HG16 := G16.out _ _ (TB.out _ _ z1) HK16
            have HN16 := GN16.out _ _ (TB.out _ _ z1) HK16
            refine hK.out _ _ ?_ (fun hHeld => ?_)
            · exact KG.out _ HN16
            clear hK K
            try simp only [Act.put, List.setIfInBounds_toArray, List.set_cons_zero, List.set_cons_succ]
            refine wpAnyH_take (i := 11) (oi := { dst := some 5, op := Op.assign (Operand.tmp 92), type := 65, pos := "ref.go:175", after := #[{ on := 10, ground := Ground.data }, { on := 10, ground := Ground.chain }, { on := 0, ground := Ground.phase }, { on := 1, ground := Ground.phase }, { on := 2, ground := Ground.phase }, { on := 3, ground := Ground.phase }, { on := 4, ground := Ground.phase }, { on := 5, ground := Ground.phase }, { on := 6, ground := Ground.phase }, { on := 7, ground := Ground.phase }, { on := 8, ground := Ground.phase }, { on := 9, ground := Ground.phase }, { on := 10, ground := Ground.phase }], guard := none }) (v := ?_) rfl (by kernel_rfl) (by kernel_rfl) (by kernel_rfl) (fun _ _ _ h => h) (Or.inl ⟨by rfl, ?_⟩) (by assumption) ?_
            rotate_left
            · first | (intro w hSw; (try dsimp only at hSw); go_simp; done) | (intro w hSw; (try dsimp only at hSw); go_simp; with_reducible rfl)
            try simp only [Act.put, List.setIfInBounds_toArray, List.set_cons_zero, List.set_cons_succ]
            refine wpAnyH_done (by kernel_rfl) ?_ _
            clear z1
            have HNF16 : Aside0 (w16.heap[wi.heap.size]? = some (.cells #[.string f.f0, .int .i64 f.f1, .int .i64 f.f2, .int .i64 f.f3, .slice (some ad2) f.f4.length c4] 39 (0, 0))) := ⟨HG16.out.1⟩
            have HNO16 : Aside0 (w16.heap[wj.heap.size]? = some (.cells #[.int .i64 p.f0, .int .i64 p.f1, .int .i64 p.f2, .int .i64 p.f3, .int .i64 p.f4, .int .i64 p.f5, .int .i64 p.f6, .int .i64 p.f7, .slice A8 p.f8.length c8, .int .i64 p.f9, .int .i64 p.f10, .int .i64 p.f11] 42 (0, 0))) := ⟨HG16.out.2.1⟩
            have HV16 : Aside0 ((Kd.int .i64).R 3 w16 wo.heap.size (fun _ => True) (.slice A10 (opsV p).length c10) (opsV p)) := ⟨HG16.out.2.2⟩
            have HX16b : Aside0 (TX ws.heap.size v16 (textM m k ++ lineL (fnL k f) ++ opsText f j ++ (lst (piece (.num (j : Int))) ++ tailL [.txt (nm p.f0)]) ++ tailL (((opsV p).take 0).map .num)) w16) := ⟨by rw [List.take_zero]; exact (by rw [show tailL (List.map Wd.num []) = [] from rfl, List.append_nil]; exact HX16.out)⟩
            clear KG GN16 HN16 q1 q2 FL2 HG16 HK16 HX16 NFW TH TB TXW TBS Z0 Z00 G16 HXv HBv HNFv HNOv HV1 HXo HBo HNFo HNOo HXj HBj HNFj nfv
            go_wp2_with fail
            go_loopw [5, 11] (fun tv i wr => ∃ q : Nat, i = .int .i64 q ∧ q ≤ (opsV p).length ∧ Aside0 (TX ws.heap.size tv (textM m k ++ lineL (fnL k f) ++ opsText f j ++ (lst (piece (.num (j : Int))) ++ tailL [.txt (nm p.f0)]) ++ tailL (((opsV p).take q).map .num)) wr) ∧ Aside0 (Below ws.heap.size ws wr) ∧ Aside0 (wr.heap[wi.heap.size]? = some (.cells #[.string f.f0, .int .i64 f.f1, .int .i64 f.f2, .int .i64 f.f3, .slice (some ad2) f.f4.length c4] 39 (0, 0))) ∧ Aside0 (wr.heap[wj.heap.size]? = some (.cells #[.int .i64 p.f0, .int .i64 p.f1, .int .i64 p.f2, .int .i64 p.f3, .int .i64 p.f4, .int .i64 p.f5, .int .i64 p.f6, .int .i64 p.f7, .slice A8 p.f8.length c8, .int .i64 p.f9, .int .i64 p.f10, .int .i64 p.f11] 42 (0, 0))) ∧ Aside0 ((Kd.int .i64).R 3 wr wo.heap.size (fun _ => True) (.slice A10 (opsV p).length c10) (opsV p))) (fun _ i _ => (opsV p).length - (intOf i).toNat)
            case atStart => exact ⟨0, rfl, Nat.zero_le _, HX16b, HB16, HNF16, HNO16, HV16⟩
            case round =>
              obtain ⟨q, rfl, hq, HXq, HBq, HNFq, HNOq, HVq⟩ := hrel
              obtain ⟨wq, rfl⟩ : ∃ wq : World, wq = wr := ⟨_, rfl⟩
              obtain ⟨tq, rfl⟩ : ∃ tq : Value, tq = u5 := ⟨_, rfl⟩
              clear HX16b HB16 HNF16 HNO16 HV16
              have hql : (opsV p).length ≤ 1000007 := by rw [opsV_len]; omega
              have HQL : Aside0 ((tailL (((opsV p).take q).map .num)).length ≤ 21 * 1000007) := ⟨by have := tail_len ((opsV p).take q) (fun v hv => opsV_ok p HIO.out v (List.mem_of_mem_take hv)); have hm := List.length_take_le q (opsV p); omega⟩
              by_cases hltq : q < (opsV p).length
              · obtain ⟨ad3, eA3, d3⟩ := Kd.at_int (Kd.R_reads' HVq.out).2.2 q (by omega) (by omega)
                subst eA3
                rw [Int.toNat_natCast] at d3
                have HNX : Aside0 (tailL (((opsV p).take (q + 1)).map .num) = tailL (((opsV p).take q).map .num) ++ tailL [.num (rd (opsV p) q)]) := ⟨by have := tail_next (opsV p) q hltq; unfold rd; rw [Int.toNat_natCast]; exact this⟩
                have KZ : Aside0 (wdOk (.num (rd (opsV p) q))) := ⟨opsV_ok p HIO.out _ (by unfold rd; rw [Int.toNat_natCast, List.getD_eq_getElem?_getD, List.getElem?_eq_getElem hltq]; exact List.getElem_mem hltq)⟩
                obtain ⟨z, hz⟩ : ∃ z, rd (opsV p) q = z := ⟨_, rfl⟩
                rw [hz] at d3 HNX KZ
                clear hz
                go_wp2_with fail
                obtain ⟨tr, htr⟩ : ∃ t : ByteArray, t = (⟨#[32]⟩ : ByteArray) ++ sI z := ⟨_, rfl⟩
                have FLr : Aside0 (lst tr = tailL [.num z]) := ⟨by rw [htr, SI0.out]; exact op_num z⟩
                have qr : ∀ W : World, (Op.stringOp .add (⟨#[32]⟩ : ByteArray) (sI z)).run Tryd.prog W = .ok (.string tr) W := fun W => by have h1 := SZ.out _ KZ.out; have h2 : (ByteArray.mk #[32]).size = 1 := rfl; rw [htr]; exact cat_ok _ _ (by omega) W
                clear htr
                refine (C42.out z _ ⟨KZ.out⟩).mono ?_
                rintro e wrm ⟨rfl, bb⟩
                have b5 := bytes_below bb bb.size 5 tr
                have HXrm : Aside0 (TX ws.heap.size tq (textM m k ++ lineL (fnL k f) ++ opsText f j ++ (lst (piece (.num (j : Int))) ++ tailL [.txt (nm p.f0)]) ++ tailL (((opsV p).take q).map .num)) (Lib.bytesWorld wrm 5 tr)) := ⟨HXq.out.below b5⟩
                have HBrm : Aside0 (Below ws.heap.size ws (Lib.bytesWorld wrm 5 tr)) := ⟨below_then HBq.out HBq.out.size b5⟩
                have HNFrm : Aside0 ((Lib.bytesWorld wrm 5 tr).heap[wi.heap.size]? = some (.cells #[.string f.f0, .int .i64 f.f1, .int .i64 f.f2, .int .i64 f.f3, .slice (some ad2) f.f4.length c4] 39 (0, 0))) := ⟨blk_below HNFq.out b5⟩
                have HNOrm : Aside0 ((Lib.bytesWorld wrm 5 tr).heap[wj.heap.size]? = some (.cells #[.int .i64 p.f0, .int .i64 p.f1, .int .i64 p.f2, .int .i64 p.f3, .int .i64 p.f4, .int .i64 p.f5, .int .i64 p.f6, .int .i64 p.f7, .slice A8 p.f8.length c8, .int .i64 p.f9, .int .i64 p.f10, .int .i64 p.f11] 42 (0, 0))) := ⟨blk_below HNOq.out b5⟩
                have HVrm : Aside0 ((Kd.int .i64).R 3 (Lib.bytesWorld wrm 5 tr) wo.heap.size (fun _ => True) (.slice (some ad3) (opsV p).length c10) (opsV p)) := ⟨Kd.R_below HVq.out b5⟩
                have HCrm := Aside0.mk (HCB.out _ _ wrm FLr.out (by have := one_len z (KZ.out); omega))
                have HLrm : Aside0 (((textM m k ++ lineL (fnL k f) ++ opsText f j ++ (lst (piece (.num (j : Int))) ++ tailL [.txt (nm p.f0)]) ++ tailL (((opsV p).take q).map .num))).length + (tailL [.num z]).length ≤ 140737488355328) := ⟨by have := one_len z (KZ.out); have := HTL.out; have := HHL.out; have := HVL.out; have := HQL.out; simp only [List.length_append] at *; omega⟩
                clear bb b5
                go_wp2_with (at_builtin; refine tx_app (B := ws.heap.size) (w0 := ws) (.tmp 99) (.tmp 106) rfl rfl tq (textM m k ++ lineL (fnL k f) ++ opsText f j ++ (lst (piece (.num (j : Int))) ++ tailL [.txt (nm p.f0)]) ++ tailL (((opsV p).take q).map .num)) rfl _ _ _ rfl (tailL [.num z]) HXrm.out HCrm.out HBrm.out HBrm.out.size HLrm.out ?_; intro vr wr HXr HBr HKr; have HNFr : Aside0 (wr.heap[wi.heap.size]? = some (.cells #[.string f.f0, .int .i64 f.f1, .int .i64 f.f2, .int .i64 f.f3, .slice (some ad2) f.f4.length c4] 39 (0, 0))) := ⟨HKr.out.keep _ _ _ _ HNFrm.out (by decide)⟩; have HNOr : Aside0 (wr.heap[wj.heap.size]? = some (.cells #[.int .i64 p.f0, .int .i64 p.f1, .int .i64 p.f2, .int .i64 p.f3, .int .i64 p.f4, .int .i64 p.f5, .int .i64 p.f6, .int .i64 p.f7, .slice A8 p.f8.length c8, .int .i64 p.f9, .int .i64 p.f10, .int .i64 p.f11] 42 (0, 0))) := ⟨HKr.out.keep _ _ _ _ HNOrm.out (by decide)⟩; have HVr : Aside0 ((Kd.int .i64).R 3 wr wo.heap.size (fun _ => True) (.slice (some ad3) (opsV p).length c10) (opsV p)) := ⟨HKr.out.row HVrm.out⟩)
                have HXF : Aside0 (TX ws.heap.size vr (textM m k ++ lineL (fnL k f) ++ opsText f j ++ (lst (piece (.num (j : Int))) ++ tailL [.txt (nm p.f0)]) ++ tailL (((opsV p).take (q + 1)).map .num)) wr) := ⟨by rw [HNX.out, ← List.append_assoc]; exact HXr.out⟩
                go_roundw
                case rel => exact ⟨q + 1, by go_num, hltq, HXF, HBr, HNFr, HNOr, HVr⟩
                case measure => simp [intOf]; omega
              · have : q = (opsV p).length := by omega
                subst this
                rw [List.take_length] at HXq HQL
                have r0 : wq.cell? ⟨wj.heap.size, 0, none⟩ = some (.int .i64 p.f0) := (blk_cell HNOq.out 0).trans rfl
                have r9 : wq.cell? ⟨wj.heap.size, 9, none⟩ = some (.int .i64 p.f9) := (blk_cell HNOq.out 9).trans rfl
                have HOL2 := Aside0.mk (op_line j p)
                by_cases z23 : p.f0 = 23
                · have j23 : (p.f0 != 23) = false := by rw [z23]; rfl
                  have j21 : (p.f0 == 21) = false := by rw [z23]; rfl
                  have HOT : Aside0 (lineL (opL j p) = lst (piece (.num (j : Int))) ++ tailL [.txt (nm p.f0)] ++ tailL ((opsV p).map .num) ++ [10]) := ⟨by rw [HOL2.out]; unfold opTail; simp [tailL, z23]⟩
                  have HLZq : Aside0 (((textM m k ++ lineL (fnL k f) ++ opsText f j ++ (lst (piece (.num (j : Int))) ++ tailL [.txt (nm p.f0)]) ++ tailL ((opsV p).map .num))).length + [(10 : UInt8)].length ≤ 140737488355328) := ⟨by have := HTL.out; have := HHL.out; have := HVL.out;  simp only [List.length_append, List.length_cons, List.length_nil] at *; omega⟩
                  clear z23 r9
                  go_wp2_with (at_builtin; go_loud (refine tx_app (B := ws.heap.size) (w0 := ws) (.tmp 128) (.tmp 129) rfl rfl tq (textM m k ++ lineL (fnL k f) ++ opsText f j ++ (lst (piece (.num (j : Int))) ++ tailL [.txt (nm p.f0)]) ++ tailL ((opsV p).map .num)) rfl _ _ _ rfl [10] (HXq.out.below (below_alloc (Below.refl _ _) _)) (nl_lit wq) (below_alloc' HBq.out (Nat.le_refl _) _) (Nat.le_trans HBq.out.size (by rw [World.size_alloc]; omega)) HLZq.out ?_; intro vz wz HXz HBz HKz; have HNFz : Aside0 (wz.heap[wi.heap.size]? = some (.cells #[.string f.f0, .int .i64 f.f1, .int .i64 f.f2, .int .i64 f.f3, .slice (some ad2) f.f4.length c4] 39 (0, 0))) := ⟨HKz.out.keep _ _ _ _ (blk_below HNFq.out (below_alloc (Below.refl _ _) _)) (by decide)⟩))
                  have HXZ : Aside0 (TX ws.heap.size vz (textM m k ++ lineL (fnL k f) ++ opsText f (j + 1)) wz) := ⟨by rw [HON.out, HOT.out]; simpa [List.append_assoc] using HXz.out⟩
                  go_roundw
                  case rel => exact ⟨j + 1, by go_num, hltj2, HXZ, HBz, HNFz⟩
                  case measure => simp [intOf]; omega
                · have j23 : (p.f0 != 23) = true := bne_iff_ne.2 z23
                  by_cases z21 : p.f0 = 21
                  · have j21 : (p.f0 == 21) = true := by rw [z21]; rfl
                    have HOT : Aside0 (lineL (opL j p) = lst (piece (.num (j : Int))) ++ tailL [.txt (nm p.f0)] ++ tailL ((opsV p).map .num) ++ tailL [.txt arrow, .num p.f9] ++ tailL [.num p.f10] ++ [10]) := ⟨by rw [HOL2.out]; unfold opTail; simp [tailL, z21]⟩
                    have KA : Aside0 (wdOk (.num p.f9)) := ⟨HIO.out.1 _ (by simp)⟩
                    have KB : Aside0 (wdOk (.num p.f10)) := ⟨HIO.out.1 _ (by simp)⟩
                    clear z23 z21
                    go_wp2_with fail
                    obtain ⟨ty, hty⟩ : ∃ t : ByteArray, t = (⟨#[32, 45, 62, 32]⟩ : ByteArray) ++ sI p.f9 := ⟨_, rfl⟩
                    have FLy : Aside0 (lst ty = tailL [.txt arrow, .num p.f9]) := ⟨by rw [hty, SI0.out]; exact op_arrow p.f9⟩
                    have qy : ∀ W : World, (Op.stringOp .add (⟨#[32, 45, 62, 32]⟩ : ByteArray) (sI p.f9)).run Tryd.prog W = .ok (.string ty) W := fun W => by have h1 := SZ.out _ KA.out; have h2 : (ByteArray.mk #[32, 45, 62, 32]).size = 4 := rfl; rw [hty]; exact cat_ok _ _ (by omega) W
                    clear hty
                    refine (C42.out p.f9 _ ⟨KA.out⟩).mono ?_
                    rintro e wym ⟨rfl, bb⟩
                    have b5 := bytes_below bb bb.size 5 ty
                    have HXym : Aside0 (TX ws.heap.size tq (textM m k ++ lineL (fnL k f) ++ opsText f j ++ (lst (piece (.num (j : Int))) ++ tailL [.txt (nm p.f0)]) ++ tailL ((opsV p).map .num)) (Lib.bytesWorld wym 5 ty)) := ⟨HXq.out.below b5⟩
                    have HBym : Aside0 (Below ws.heap.size ws (Lib.bytesWorld wym 5 ty)) := ⟨below_then HBq.out HBq.out.size b5⟩
                    have HNFym : Aside0 ((Lib.bytesWorld wym 5 ty).heap[wi.heap.size]? = some (.cells #[.string f.f0, .int .i64 f.f1, .int .i64 f.f2, .int .i64 f.f3, .slice (some ad2) f.f4.length c4] 39 (0, 0))) := ⟨blk_below HNFq.out b5⟩
                    have HNOym : Aside0 ((Lib.bytesWorld wym 5 ty).heap[wj.heap.size]? = some (.cells #[.int .i64 p.f0, .int .i64 p.f1, .int .i64 p.f2, .int .i64 p.f3, .int .i64 p.f4, .int .i64 p.f5, .int .i64 p.f6, .int .i64 p.f7, .slice A8 p.f8.length c8, .int .i64 p.f9, .int .i64 p.f10, .int .i64 p.f11] 42 (0, 0))) := ⟨blk_below HNOq.out b5⟩
                    have HVym : Aside0 ((Kd.int .i64).R 3 (Lib.bytesWorld wym 5 ty) wo.heap.size (fun _ => True) (.slice A10 (opsV p).length c10) (opsV p)) := ⟨Kd.R_below HVq.out b5⟩
                    have HCym := Aside0.mk (HCB.out _ _ wym FLy.out (by have := arrow_len p.f9 (KA.out); omega))
                    have HLym : Aside0 (((textM m k ++ lineL (fnL k f) ++ opsText f j ++ (lst (piece (.num (j : Int))) ++ tailL [.txt (nm p.f0)]) ++ tailL ((opsV p).map .num))).length + (tailL [.txt arrow, .num p.f9]).length ≤ 140737488355328) := ⟨by have := arrow_len p.f9 (KA.out); have := HTL.out; have := HHL.out; have := HVL.out; have := HQL.out; simp only [List.length_append] at *; omega⟩
                    clear bb b5
                    go_wp2_with (at_builtin; refine tx_app (B := ws.heap.size) (w0 := ws) (.tmp 111) (.tmp 116) rfl rfl tq (textM m k ++ lineL (fnL k f) ++ opsText f j ++ (lst (piece (.num (j : Int))) ++ tailL [.txt (nm p.f0)]) ++ tailL ((opsV p).map .num)) rfl _ _ _ rfl (tailL [.txt arrow, .num p.f9]) HXym.out HCym.out HBym.out HBym.out.size HLym.out ?_; intro vy wy HXy HBy HKy; have HNFy : Aside0 (wy.heap[wi.heap.size]? = some (.cells #[.string f.f0, .int .i64 f.f1, .int .i64 f.f2, .int .i64 f.f3, .slice (some ad2) f.f4.length c4] 39 (0, 0))) := ⟨HKy.out.keep _ _ _ _ HNFym.out (by decide)⟩; have HNOy : Aside0 (wy.heap[wj.heap.size]? = some (.cells #[.int .i64 p.f0, .int .i64 p.f1, .int .i64 p.f2, .int .i64 p.f3, .int .i64 p.f4, .int .i64 p.f5, .int .i64 p.f6, .int .i64 p.f7, .slice A8 p.f8.length c8, .int .i64 p.f9, .int .i64 p.f10, .int .i64 p.f11] 42 (0, 0))) := ⟨HKy.out.keep _ _ _ _ HNOym.out (by decide)⟩; have HVy : Aside0 ((Kd.int .i64).R 3 wy wo.heap.size (fun _ => True) (.slice A10 (opsV p).length c10) (opsV p)) := ⟨HKy.out.row HVym.out⟩; have s0 : wy.cell? ⟨wj.heap.size, 0, none⟩ = some (.int .i64 p.f0) := (blk_cell HNOy.out 0).trans rfl; have s10 : wy.cell? ⟨wj.heap.size, 10, none⟩ = some (.int .i64 p.f10) := (blk_cell HNOy.out 10).trans rfl; clear r0 r9)
                    obtain ⟨tx, htx⟩ : ∃ t : ByteArray, t = (⟨#[32]⟩ : ByteArray) ++ sI p.f10 := ⟨_, rfl⟩
                    have FLx : Aside0 (lst tx = tailL [.num p.f10]) := ⟨by rw [htx, SI0.out]; exact op_num p.f10⟩
                    have qx : ∀ W : World, (Op.stringOp .add (⟨#[32]⟩ : ByteArray) (sI p.f10)).run Tryd.prog W = .ok (.string tx) W := fun W => by have h1 := SZ.out _ KB.out; have h2 : (ByteArray.mk #[32]).size = 1 := rfl; rw [htx]; exact cat_ok _ _ (by omega) W
                    clear htx
                    refine (C42.out p.f10 _ ⟨KB.out⟩).mono ?_
                    rintro e wxm ⟨rfl, bb⟩
                    have b5 := bytes_below bb bb.size 5 tx
                    have HXxm : Aside0 (TX ws.heap.size vy (textM m k ++ lineL (fnL k f) ++ opsText f j ++ (lst (piece (.num (j : Int))) ++ tailL [.txt (nm p.f0)]) ++ tailL ((opsV p).map .num) ++ tailL [.txt arrow, .num p.f9]) (Lib.bytesWorld wxm 5 tx)) := ⟨HXy.out.below b5⟩
                    have HBxm : Aside0 (Below ws.heap.size ws (Lib.bytesWorld wxm 5 tx)) := ⟨below_then HBy.out HBy.out.size b5⟩
                    have HNFxm : Aside0 ((Lib.bytesWorld wxm 5 tx).heap[wi.heap.size]? = some (.cells #[.string f.f0, .int .i64 f.f1, .int .i64 f.f2, .int .i64 f.f3, .slice (some ad2) f.f4.length c4] 39 (0, 0))) := ⟨blk_below HNFy.out b5⟩
                    have HNOxm : Aside0 ((Lib.bytesWorld wxm 5 tx).heap[wj.heap.size]? = some (.cells #[.int .i64 p.f0, .int .i64 p.f1, .int .i64 p.f2, .int .i64 p.f3, .int .i64 p.f4, .int .i64 p.f5, .int .i64 p.f6, .int .i64 p.f7, .slice A8 p.f8.length c8, .int .i64 p.f9, .int .i64 p.f10, .int .i64 p.f11] 42 (0, 0))) := ⟨blk_below HNOy.out b5⟩
                    have HVxm : Aside0 ((Kd.int .i64).R 3 (Lib.bytesWorld wxm 5 tx) wo.heap.size (fun _ => True) (.slice A10 (opsV p).length c10) (opsV p)) := ⟨Kd.R_below HVy.out b5⟩
                    have HCxm := Aside0.mk (HCB.out _ _ wxm FLx.out (by have := one_len p.f10 (KB.out); omega))
                    have HLxm : Aside0 (((textM m k ++ lineL (fnL k f) ++ opsText f j ++ (lst (piece (.num (j : Int))) ++ tailL [.txt (nm p.f0)]) ++ tailL ((opsV p).map .num) ++ tailL [.txt arrow, .num p.f9])).length + (tailL [.num p.f10]).length ≤ 140737488355328) := ⟨by have := one_len p.f10 (KB.out); have := HTL.out; have := HHL.out; have := HVL.out; have := HQL.out; have := arrow_len p.f9 KA.out; simp only [List.length_append] at *; omega⟩
                    clear bb b5
                    go_wp2_with (first | (at_builtin; refine tx_app (B := ws.heap.size) (w0 := ws) (.tmp 121) (.tmp 126) rfl rfl vy (textM m k ++ lineL (fnL k f) ++ opsText f j ++ (lst (piece (.num (j : Int))) ++ tailL [.txt (nm p.f0)]) ++ tailL ((opsV p).map .num) ++ tailL [.txt arrow, .num p.f9]) rfl _ _ _ rfl (tailL [.num p.f10]) HXxm.out HCxm.out HBxm.out HBxm.out.size HLxm.out ?_; intro vx wx HXx HBx HKx; have HNFx : Aside0 (wx.heap[wi.heap.size]? = some (.cells #[.string f.f0, .int .i64 f.f1, .int .i64 f.f2, .int .i64 f.f3, .slice (some ad2) f.f4.length c4] 39 (0, 0))) := ⟨HKx.out.keep _ _ _ _ HNFxm.out (by decide)⟩; have HNOx : Aside0 (wx.heap[wj.heap.size]? = some (.cells #[.int .i64 p.f0, .int .i64 p.f1, .int .i64 p.f2, .int .i64 p.f3, .int .i64 p.f4, .int .i64 p.f5, .int .i64 p.f6, .int .i64 p.f7, .slice A8 p.f8.length c8, .int .i64 p.f9, .int .i64 p.f10, .int .i64 p.f11] 42 (0, 0))) := ⟨HKx.out.keep _ _ _ _ HNOxm.out (by decide)⟩; have HVx : Aside0 ((Kd.int .i64).R 3 wx wo.heap.size (fun _ => True) (.slice A10 (opsV p).length c10) (opsV p)) := ⟨HKx.out.row HVxm.out⟩; have HLZx : Aside0 (((textM m k ++ lineL (fnL k f) ++ opsText f j ++ (lst (piece (.num (j : Int))) ++ tailL [.txt (nm p.f0)]) ++ tailL ((opsV p).map .num) ++ tailL [.txt arrow, .num p.f9] ++ tailL [.num p.f10])).length + [(10 : UInt8)].length ≤ 140737488355328) := ⟨by have := HTL.out; have := HHL.out; have := HVL.out; have := arrow_len p.f9 KA.out; have := one_len p.f10 KB.out; simp only [List.length_append, List.length_cons, List.length_nil] at *; omega⟩; clear s0 s10) | (at_builtin; go_loud (refine tx_app (B := ws.heap.size) (w0 := ws) (.tmp 128) (.tmp 129) rfl rfl vx (textM m k ++ lineL (fnL k f) ++ opsText f j ++ (lst (piece (.num (j : Int))) ++ tailL [.txt (nm p.f0)]) ++ tailL ((opsV p).map .num) ++ tailL [.txt arrow, .num p.f9] ++ tailL [.num p.f10]) rfl _ _ _ rfl [10] (HXx.out.below (below_alloc (Below.refl _ _) _)) (nl_lit wx) (below_alloc' HBx.out (Nat.le_refl _) _) (Nat.le_trans HBx.out.size (by rw [World.size_alloc]; omega)) HLZx.out ?_; intro vz wz HXz HBz HKz; have HNFz : Aside0 (wz.heap[wi.heap.size]? = some (.cells #[.string f.f0, .int .i64 f.f1, .int .i64 f.f2, .int .i64 f.f3, .slice (some ad2) f.f4.length c4] 39 (0, 0))) := ⟨HKz.out.keep _ _ _ _ (blk_below HNFx.out (below_alloc (Below.refl _ _) _)) (by decide)⟩)))
                    have HXZ : Aside0 (TX ws.heap.size vz (textM m k ++ lineL (fnL k f) ++ opsText f (j + 1)) wz) := ⟨by rw [HON.out, HOT.out]; simpa [List.append_assoc] using HXz.out⟩
                    go_roundw
                    case rel => exact ⟨j + 1, by go_num, hltj2, HXZ, HBz, HNFz⟩
                    case measure => simp [intOf]; omega
                  · have j21 : (p.f0 == 21) = false := beq_eq_false_iff_ne.2 z21
                    have HOT : Aside0 (lineL (opL j p) = lst (piece (.num (j : Int))) ++ tailL [.txt (nm p.f0)] ++ tailL ((opsV p).map .num) ++ tailL [.txt arrow, .num p.f9] ++ [10]) := ⟨by rw [HOL2.out]; unfold opTail; simp [tailL, z21, z23]⟩
                    have KA : Aside0 (wdOk (.num p.f9)) := ⟨HIO.out.1 _ (by simp)⟩
                    clear z23 z21
                    go_wp2_with fail
                    obtain ⟨ty, hty⟩ : ∃ t : ByteArray, t = (⟨#[32, 45, 62, 32]⟩ : ByteArray) ++ sI p.f9 := ⟨_, rfl⟩
                    have FLy : Aside0 (lst ty = tailL [.txt arrow, .num p.f9]) := ⟨by rw [hty, SI0.out]; exact op_arrow p.f9⟩
                    have qy : ∀ W : World, (Op.stringOp .add (⟨#[32, 45, 62, 32]⟩ : ByteArray) (sI p.f9)).run Tryd.prog W = .ok (.string ty) W := fun W => by have h1 := SZ.out _ KA.out; have h2 : (ByteArray.mk #[32, 45, 62, 32]).size = 4 := rfl; rw [hty]; exact cat_ok _ _ (by omega) W
                    clear hty
                    refine (C42.out p.f9 _ ⟨KA.out⟩).mono ?_
                    rintro e wym ⟨rfl, bb⟩
                    have b5 := bytes_below bb bb.size 5 ty
                    have HXym : Aside0 (TX ws.heap.size tq (textM m k ++ lineL (fnL k f) ++ opsText f j ++ (lst (piece (.num (j : Int))) ++ tailL [.txt (nm p.f0)]) ++ tailL ((opsV p).map .num)) (Lib.bytesWorld wym 5 ty)) := ⟨HXq.out.below b5⟩
                    have HBym : Aside0 (Below ws.heap.size ws (Lib.bytesWorld wym 5 ty)) := ⟨below_then HBq.out HBq.out.size b5⟩
                    have HNFym : Aside0 ((Lib.bytesWorld wym 5 ty).heap[wi.heap.size]? = some (.cells #[.string f.f0, .int .i64 f.f1, .int .i64 f.f2, .int .i64 f.f3, .slice (some ad2) f.f4.length c4] 39 (0, 0))) := ⟨blk_below HNFq.out b5⟩
                    have HNOym : Aside0 ((Lib.bytesWorld wym 5 ty).heap[wj.heap.size]? = some (.cells #[.int .i64 p.f0, .int .i64 p.f1, .int .i64 p.f2, .int .i64 p.f3, .int .i64 p.f4, .int .i64 p.f5, .int .i64 p.f6, .int .i64 p.f7, .slice A8 p.f8.length c8, .int .i64 p.f9, .int .i64 p.f10, .int .i64 p.f11] 42 (0, 0))) := ⟨blk_below HNOq.out b5⟩
                    have HVym : Aside0 ((Kd.int .i64).R 3 (Lib.bytesWorld wym 5 ty) wo.heap.size (fun _ => True) (.slice A10 (opsV p).length c10) (opsV p)) := ⟨Kd.R_below HVq.out b5⟩
                    have HCym := Aside0.mk (HCB.out _ _ wym FLy.out (by have := arrow_len p.f9 (KA.out); omega))
                    have HLym : Aside0 (((textM m k ++ lineL (fnL k f) ++ opsText f j ++ (lst (piece (.num (j : Int))) ++ tailL [.txt (nm p.f0)]) ++ tailL ((opsV p).map .num))).length + (tailL [.txt arrow, .num p.f9]).length ≤ 140737488355328) := ⟨by have := arrow_len p.f9 (KA.out); have := HTL.out; have := HHL.out; have := HVL.out; have := HQL.out; simp only [List.length_append] at *; omega⟩
                    clear bb b5
                    go_wp2_with (first | (at_builtin; refine tx_app (B := ws.heap.size) (w0 := ws) (.tmp 111) (.tmp 116) rfl rfl tq (textM m k ++ lineL (fnL k f) ++ opsText f j ++ (lst (piece (.num (j : Int))) ++ tailL [.txt (nm p.f0)]) ++ tailL ((opsV p).map .num)) rfl _ _ _ rfl (tailL [.txt arrow, .num p.f9]) HXym.out HCym.out HBym.out HBym.out.size HLym.out ?_; intro vy wy HXy HBy HKy; have HNFy : Aside0 (wy.heap[wi.heap.size]? = some (.cells #[.string f.f0, .int .i64 f.f1, .int .i64 f.f2, .int .i64 f.f3, .slice (some ad2) f.f4.length c4] 39 (0, 0))) := ⟨HKy.out.keep _ _ _ _ HNFym.out (by decide)⟩; have HNOy : Aside0 (wy.heap[wj.heap.size]? = some (.cells #[.int .i64 p.f0, .int .i64 p.f1, .int .i64 p.f2, .int .i64 p.f3, .int .i64 p.f4, .int .i64 p.f5, .int .i64 p.f6, .int .i64 p.f7, .slice A8 p.f8.length c8, .int .i64 p.f9, .int .i64 p.f10, .int .i64 p.f11] 42 (0, 0))) := ⟨HKy.out.keep _ _ _ _ HNOym.out (by decide)⟩; have HVy : Aside0 ((Kd.int .i64).R 3 wy wo.heap.size (fun _ => True) (.slice A10 (opsV p).length c10) (opsV p)) := ⟨HKy.out.row HVym.out⟩; have s0 : wy.cell? ⟨wj.heap.size, 0, none⟩ = some (.int .i64 p.f0) := (blk_cell HNOy.out 0).trans rfl; have HLZy : Aside0 (((textM m k ++ lineL (fnL k f) ++ opsText f j ++ (lst (piece (.num (j : Int))) ++ tailL [.txt (nm p.f0)]) ++ tailL ((opsV p).map .num) ++ tailL [.txt arrow, .num p.f9])).length + [(10 : UInt8)].length ≤ 140737488355328) := ⟨by have := HTL.out; have := HHL.out; have := HVL.out; have := arrow_len p.f9 KA.out; simp only [List.length_append, List.length_cons, List.length_nil] at *; omega⟩; clear r0 r9) | (at_builtin; go_loud (refine tx_app (B := ws.heap.size) (w0 := ws) (.tmp 128) (.tmp 129) rfl rfl vy (textM m k ++ lineL (fnL k f) ++ opsText f j ++ (lst (piece (.num (j : Int))) ++ tailL [.txt (nm p.f0)]) ++ tailL ((opsV p).map .num) ++ tailL [.txt arrow, .num p.f9]) rfl _ _ _ rfl [10] (HXy.out.below (below_alloc (Below.refl _ _) _)) (nl_lit wy) (below_alloc' HBy.out (Nat.le_refl _) _) (Nat.le_trans HBy.out.size (by rw [World.size_alloc]; omega)) HLZy.out ?_; intro vz wz HXz HBz HKz; have HNFz : Aside0 (wz.heap[wi.heap.size]? = some (.cells #[.string f.f0, .int .i64 f.f1, .int .i64 f.f2, .int .i64 f.f3, .slice (some ad2) f.f4.length c4] 39 (0, 0))) := ⟨HKz.out.keep _ _ _ _ (blk_below HNFy.out (below_alloc (Below.refl _ _) _)) (by decide)⟩)))
                    have HXZ : Aside0 (TX ws.heap.size vz (textM m k ++ lineL (fnL k f) ++ opsText f (j + 1)) wz) := ⟨by rw [HON.out, HOT.out]; simpa [List.append_assoc] using HXz.out⟩
                    go_roundw
                    case rel => exact ⟨j + 1, by go_num, hltj2, HXZ, HBz, HNFz⟩
                    case measure => simp [intOf]; omega
          · have : j = f.f4.length := by omega
            subst this
            have HXT : Aside0 (TX ws.heap.size tj (textM m (k + 1)) wj) := ⟨by rw [show textM m (k + 1) = textM m k ++ lineL (fnL k f) ++ opsText f f.f4.length from (by rw [HTN.out]; unfold fnText; rw [List.append_assoc])]; exact HXj.out⟩
            go_wp2_with fail
            go_roundw
            case rel => exact ⟨k + 1, by go_num, hlk, HXT, HBj⟩
            case measure => simp [intOf]; omega
      · have : k = m.funcs.length := by omega
        subst this
        obtain ⟨AX, cX, hvX, hlX, hCX⟩ := Kd.R_reads HX.out
        subst hvX
        have BF := Aside0.mk (below_then HBs.out HBs.out.size HB.out)
        have HCX := Aside0.mk hCX
        clear hCX
        have kstr := Kd.C_string (P := Tryd.prog) (src := 65) (dst := 9) (e := 5) (c := cX) Tryd.underlying65 Tryd.underlying5 Tryd.underlying9 HCX.out
        rw [strOf_ints] at kstr
        obtain ⟨S, hS⟩ : ∃ s : ByteArray, (⟨(textM m m.funcs.length).toArray⟩ : ByteArray) = s := ⟨_, rfl⟩
        rw [hS] at kstr
        have HS3 := Aside0.mk hS
        clear hS
        go_wp2_with fail
        go_ret2
        exact ⟨by rw [HE2.out, ← HS3.out]; rfl, BF.out⟩
end Go.Proofs.YtdapiibllblpbaaDoor.Code
