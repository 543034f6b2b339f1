import Derived.Test.YtdapiibllblpbaaDoorE
import Derived.Deep.WholeRow
namespace Go.Proofs.YtdapiibllblpbaaDoor.Code
open Go.RowKit Go.Proofs.YtdapiibllblpbaaDoorW.PrintWords Go.Proofs.YtdapiibllblpbaaDoorW.PrintLast Go.Proofs.YtdapiibllblpbaaDoorW.PrintMore Go.Proofs.YtdapiibllblpbaaDoor.PCodeAnswers
set_option linter.unusedVariables false
set_option linter.unusedSimpArgs false

/-! ### words -/
def sumF (l : List S46) : Int := (l.map (·.f1)).foldl (· + ·) 0
theorem store46 (w : World) (s : ByteArray) (n : Int) : (storeCells ⟨w.heap.size, 0, none⟩ [.string s, .int .i64 n] 0).run Tryd.prog (w.alloc (.cells #[.string ⟨#[]⟩, .int .i64 0] 46)) = .ok () (w.alloc (.cells #[.string s, .int .i64 n] 46)) :=
  run_storeCells_new (P := Tryd.prog) w 46 _ #[.string s, .int .i64 n] (by kernel_rfl) rfl (by simp; exact ⟨rfl, rfl⟩)
theorem store39 (w : World) (s : ByteArray) (p r q : Int) (v : Value) (hv : v.oneCell' = true) : (storeCells ⟨w.heap.size, 0, none⟩ [.string s, .int .i64 p, .int .i64 r, .int .i64 q, v] 0).run Tryd.prog (w.alloc (.cells #[.string ⟨#[]⟩, .int .i64 0, .int .i64 0, .int .i64 0, .slice none 0 0] 39)) = .ok () (w.alloc (.cells #[.string s, .int .i64 p, .int .i64 r, .int .i64 q, v] 39)) :=
  run_storeCells_new (P := Tryd.prog) w 39 _ #[.string s, .int .i64 p, .int .i64 r, .int .i64 q, v] (by kernel_rfl) rfl (by simp [hv]; exact ⟨rfl, rfl, rfl, rfl⟩)
/-! ### frame -/
def funcOk (f : S39) : Bool := below 1025 [f.f2] && (below (f.f2 + 1) [f.f1] && (below 3 [f.f3] && (decide ((f.f4.length : Int) ≠ 0) && decide ((f.f4.length : Int) ≤ 4096))))
def opsF (l : List S39) : Int := (l.map fun f => (f.f4.length : Int)).foldl (· + ·) 0
def opsM (m : Md) : Int := opsF m.funcs
def frameM (m : Md) : Bool :=
  m.funcs.all funcOk && ((sizedM m.globals 16 1 2 && (sizedM m.structs 4 0 16 && sizedM m.chans 4 1 4)) &&
    ((decide (m.locks.length ≤ 8) && (decide (m.inputs.length ≤ 8) && (decide (m.sinks.length ≤ 4) && decide (m.hatches.length ≤ 8)))) &&
     (decide (1 ≤ m.funcs.length) && (decide (m.funcs.length ≤ 12) && (decide (m.threads.length ≤ 4) && (decide (opsM m ≤ 4096) && !m.threads.any (wrongT m)))))))
theorem below_one (most n : Int) (w : World) (H : Nat) (hH : w.heap.size = H) :
    Calls Tryd.prog 43 #[.int .i64 most, .slice (some ⟨H, 0, none⟩) 1 1] (w.alloc (.cells #[.int .i64 n] 3)) fun e w' => e = .returned (.bool (below most [n])) ∧ Below w.heap.size w w' := by
  subst hH
  have hb := below_alloc (Below.refl w.heap.size w) (.cells #[.int .i64 n] 3)
  refine (below_list most (some ⟨w.heap.size, 0, none⟩) 1 [n] (w.alloc (.cells #[.int .i64 n] 3)) (lit_ints w _ rfl [n] _ rfl (by simp)) (by simp)).mono ?_
  rintro e w' ⟨h, b⟩
  exact ⟨h, below_then hb hb.size b⟩
theorem funcOk_is (f : S39) : funcOk f = true ↔ (0 ≤ f.f2 ∧ f.f2 < 1025) ∧ (0 ≤ f.f1 ∧ f.f1 < f.f2 + 1) ∧ (0 ≤ f.f3 ∧ f.f3 < 3) ∧ f.f4.length ≠ 0 ∧ f.f4.length ≤ 4096 := by
  unfold funcOk below
  simp only [List.all_cons, List.all_nil, Bool.and_true, Bool.and_eq_true, decide_eq_true_eq]
  constructor <;> intro h <;> (refine ⟨⟨?_, ?_⟩, ⟨?_, ?_⟩, ⟨?_, ?_⟩, ?_, ?_⟩) <;> omega
theorem foldl_add (l : List Int) (a : Int) : l.foldl (· + ·) a = a + l.foldl (· + ·) 0 := by
  induction l generalizing a with
  | nil => simp
  | cons x l ih => simp only [List.foldl_cons]; rw [ih, ih (0 + x)]; omega
theorem opsF_cons (x : S39) (l : List S39) : opsF (x :: l) = (x.f4.length : Int) + opsF l := by
  unfold opsF
  rw [List.map_cons, List.foldl_cons, foldl_add]
  omega
theorem sum_of (l : List S39) (h : l.all funcOk = true) : 0 ≤ opsF l ∧ opsF l ≤ 4096 * l.length := by
  induction l with
  | nil => simp [opsF]
  | cons x l ih =>
    rw [List.all_cons, Bool.and_eq_true] at h
    have h1 := ((funcOk_is x).1 h.1).2.2.2.2
    have h2 := ih h.2
    rw [opsF_cons]
    simp only [List.length_cons]
    omega
theorem sum_next (l : List S39) (k : Nat) (hk : k < l.length) : opsF (l.take (k + 1)) = opsF (l.take k) + ((rd_T39 l k).f4.length : Int) := by
  have : rd_T39 l k = l[k] := by unfold rd_T39; rw [List.getD_eq_getElem?_getD]; simp [hk]
  rw [this, List.take_succ_eq_append_getElem hk]
  unfold opsF
  rw [List.map_append, List.foldl_append]
  rfl
theorem all_next (l : List S39) (k : Nat) (hk : k < l.length) (h : (l.take k).all funcOk = true) (h2 : funcOk (rd_T39 l k) = true) : (l.take (k + 1)).all funcOk = true := by
  have : rd_T39 l k = l[k] := by unfold rd_T39; rw [List.getD_eq_getElem?_getD]; simp [hk]
  rw [this] at h2
  rw [List.take_succ_eq_append_getElem hk, List.all_append, h]
  simp [h2]
theorem frame_bad (m : Md) (k : Nat) (hk : k < m.funcs.length) (h : funcOk (rd_T39 m.funcs k) = false) : frameM m = false := by
  have : rd_T39 m.funcs k = m.funcs[k] := by unfold rd_T39; rw [List.getD_eq_getElem?_getD]; simp [hk]
  rw [this] at h
  have : m.funcs.all funcOk = false := by
    rw [List.all_eq_false]
    exact ⟨m.funcs[k], List.getElem_mem hk, by simp [h]⟩
  unfold frameM
  rw [this]
  rfl
def lensM (m : Md) : Prop := m.locks.length ≤ 8 ∧ m.inputs.length ≤ 8 ∧ m.sinks.length ≤ 4 ∧ m.hatches.length ≤ 8 ∧ 1 ≤ m.funcs.length ∧ m.funcs.length ≤ 12 ∧ m.threads.length ≤ 4 ∧ opsM m ≤ 4096
theorem frame_no (m : Md) (h : ¬ lensM m) : frameM m = false := by
  cases e : frameM m with
  | false => rfl
  | true =>
    refine absurd ?_ h
    unfold frameM at e
    simp only [Bool.and_eq_true, decide_eq_true_eq] at e
    obtain ⟨_, _, ⟨a, b, c, d⟩, p, q, r, s, _⟩ := e
    exact ⟨a, b, c, d, p, q, r, s⟩
theorem frame_yes (m : Md) (h : lensM m) (h1 : m.funcs.all funcOk = true) (h2 : sizedM m.globals 16 1 2 = true) (h3 : sizedM m.structs 4 0 16 = true) (h4 : sizedM m.chans 4 1 4 = true) : frameM m = !m.threads.any (wrongT m) := by
  obtain ⟨a, b, c, d, p, q, r, s⟩ := h
  unfold frameM
  rw [h1, h2, h3, h4, decide_eq_true a, decide_eq_true b, decide_eq_true c, decide_eq_true d, decide_eq_true p, decide_eq_true q, decide_eq_true r, decide_eq_true s]
  rfl
set_option maxHeartbeats 4000000 in
theorem frame_try (m : Md) (r : MdR) (w : World) (hm : MdC w r m) (hs : MdS m) :
    Calls Tryd.prog 27 #[.agg (mdW r m).toArray] w fun e w' => e = .returned (.bool (frameM m)) ∧ Below w.heap.size w w' := by
  have hb := below_alloc (Below.refl w.heap.size w) (.cells (mdW r m).toArray 27)
  have HB0 := Aside0.mk hb
  have HN0 := Aside0.mk (blk_new w (.cells (mdW r m).toArray 27))
  have HM0 := Aside0.mk (hm.below hb)
  have HS := Aside0.mk hs
  have hl7 := hs.l7
  have c7 : (w.alloc (.cells (mdW r m).toArray 27)).cell? ⟨w.heap.size, 7, none⟩ = some (.slice r.a7 m.funcs.length r.c7) := (blk_cell (blk_new w _) 7).trans rfl
  clear hb hm hs
  go_enter Tryd.func27, Tryd.ntmps27
  go_wp2_with fail
  go_loopw [12, 3] (fun i n wr => ∃ k : Nat, i = .int .i64 k ∧ n = .int .i64 (opsF (m.funcs.take k)) ∧ k ≤ m.funcs.length ∧ Aside0 ((m.funcs.take k).all funcOk = true) ∧ Aside0 (wr.heap[w.heap.size]? = some (.cells (mdW r m).toArray 27 (0, 0))) ∧ Aside0 (MdC wr r m) ∧ Aside0 (Below w.heap.size w wr)) (fun i _ _ => m.funcs.length - (intOf i).toNat)
  case atStart => exact ⟨0, rfl, rfl, Nat.zero_le _, ⟨rfl⟩, HN0, HM0, HB0⟩
  case round =>
    obtain ⟨k, rfl, rfl, hk, HO, HN, HM, HB⟩ := hrel
    obtain ⟨wi, rfl⟩ : ∃ wi : World, wi = wr := ⟨_, rfl⟩
    clear c7
    by_cases hlt : k < m.funcs.length
    · obtain ⟨ad, A4, c4, eA, d0, d1, d2, d3, d4, hl4, h4⟩ := at_T39 HM.out.h7 k (by omega) (by omega)
      clear hl4 h4
      rw [eA]
      clear eA
      rw [Int.toNat_natCast] at d0 d1 d2 d3 d4
      obtain ⟨f, hf⟩ : ∃ f, rd_T39 m.funcs k = f := ⟨_, rfl⟩
      rw [hf] at d0 d1 d2 d3 d4
      have HF := Aside0.mk hf
      clear hf
      have hst := store39 wi f.f0 f.f1 f.f2 f.f3 (.slice A4 f.f4.length c4) rfl
      obtain ⟨o, ho⟩ : ∃ o : Obj, (.cells #[.string f.f0, .int .i64 f.f1, .int .i64 f.f2, .int .i64 f.f3, .slice A4 f.f4.length c4] 39) = o := ⟨_, rfl⟩
      have e1 : (wi.alloc o).heap.size = wi.heap.size + 1 := World.size_alloc ..
      have H1 := Aside0.mk (below_one 1025 f.f2 (wi.alloc o) (wi.heap.size + 1) e1)
      have hN : (wi.alloc o).heap[wi.heap.size]? = some (.cells #[.string f.f0, .int .i64 f.f1, .int .i64 f.f2, .int .i64 f.f3, .slice A4 f.f4.length c4] 39) := by rw [ho]; exact blk_new wi o
      have f2 : (wi.alloc o).cell? ⟨wi.heap.size, 2, none⟩ = some (.int .i64 f.f2) := (blk_cell hN 2).trans rfl
      have HNF := Aside0.mk hN
      have HBF := Aside0.mk (below_alloc' HB.out (Nat.le_refl _) o)
      have HBi := Aside0.mk (below_alloc (Below.refl wi.heap.size wi) o)
      clear hN
      have hlk := hlt
      have HFB : Aside0 (funcOk f = false → frameM m = false) := ⟨fun h => frame_bad m k hlk (by rw [HF.out]; exact h)⟩
      have HFI := Aside0.mk (funcOk_is f)
      obtain ⟨b1, hb1⟩ : ∃ b, below 1025 [f.f2] = b := ⟨_, rfl⟩
      rw [hb1] at H1
      have HB1 := Aside0.mk hb1
      clear hb1
      cases b1 with
      | false =>
        have HE : Aside0 (frameM m = false) := ⟨HFB.out (by unfold funcOk; rw [HB1.out]; rfl)⟩
        go_wp2_with fail
        refine H1.out.mono ?_
        rintro e w2 ⟨rfl, b2⟩
        have B2 := Aside0.mk (below_then HBF.out HBF.out.size b2)
        clear b2
        go_wp2_with fail
        go_ret
        exact ⟨by rw [HE.out]; rfl, B2.out⟩
      | true =>
        have r2 : 0 ≤ f.f2 ∧ f.f2 < 1025 := by have := HB1.out; simp [below] at this; exact this
        have hw : IntKind.i64.wrap (f.f2 + 1) = f.f2 + 1 := IntWalk.i64_in _ (by omega)
        have HR2 := Aside0.mk r2
        clear r2
        go_wp2_with fail
        refine H1.out.mono ?_
        rintro e w2 ⟨rfl, b2⟩
        have hN2 := blk_below HNF.out b2
        have HNF2 := Aside0.mk hN2
        have B2 := Aside0.mk (below_then HBF.out HBF.out.size b2)
        have B2i := Aside0.mk (below_then HBi.out HBi.out.size b2)
        clear b2 f2 H1 hst
        have g2 : w2.cell? ⟨wi.heap.size, 2, none⟩ = some (.int .i64 f.f2) := (blk_cell hN2 2).trans rfl
        have g1 : w2.cell? ⟨wi.heap.size, 1, none⟩ = some (.int .i64 f.f1) := (blk_cell hN2 1).trans rfl
        clear hN2
        obtain ⟨b, hb⟩ : ∃ b, below (f.f2 + 1) [f.f1] = b := ⟨_, rfl⟩
        have H2 := Aside0.mk (below_one (f.f2 + 1) f.f1 w2 _ rfl)
        rw [hb] at H2
        have HB2 := Aside0.mk hb
        clear hb
        cases b with
        | false =>
          have HE : Aside0 (frameM m = false) := ⟨HFB.out (by unfold funcOk; rw [HB1.out, HB2.out]; rfl)⟩
          go_wp2_with fail
          refine H2.out.mono ?_
          rintro e w3 ⟨rfl, b3⟩
          have B3 := Aside0.mk (below_then B2.out B2.out.size b3)
          clear b3
          go_wp2_with fail
          go_ret
          exact ⟨by rw [HE.out]; rfl, B3.out⟩
        | true =>
          go_wp2_with fail
          refine H2.out.mono ?_
          rintro e w3 ⟨rfl, b3⟩
          have hN3 := blk_below HNF2.out b3
          have HNF3 := Aside0.mk hN3
          have B3 := Aside0.mk (below_then B2.out B2.out.size b3)
          have B3i := Aside0.mk (below_then B2i.out B2i.out.size b3)
          clear b3 g1 g2 H2
          have g3 : w3.cell? ⟨wi.heap.size, 3, none⟩ = some (.int .i64 f.f3) := (blk_cell hN3 3).trans rfl
          clear hN3
          obtain ⟨b, hb⟩ : ∃ b, below 3 [f.f3] = b := ⟨_, rfl⟩
          have H3 := Aside0.mk (below_one 3 f.f3 w3 _ rfl)
          rw [hb] at H3
          have HB3 := Aside0.mk hb
          clear hb
          cases b with
          | false =>
            have HE : Aside0 (frameM m = false) := ⟨HFB.out (by unfold funcOk; rw [HB1.out, HB2.out, HB3.out]; rfl)⟩
            go_wp2_with fail
            refine H3.out.mono ?_
            rintro e w4 ⟨rfl, b4⟩
            have B4 := Aside0.mk (below_then B3.out B3.out.size b4)
            clear b4
            go_wp2_with fail
            go_ret
            exact ⟨by rw [HE.out]; rfl, B4.out⟩
          | true =>
            go_wp2_with fail
            refine H3.out.mono ?_
            rintro e w4 ⟨rfl, b4⟩
            have hN4 := blk_below HNF3.out b4
            have HNF4 := Aside0.mk hN4
            have B4 := Aside0.mk (below_then B3.out B3.out.size b4)
            have B4i := Aside0.mk (below_then B3i.out B3i.out.size b4)
            clear b4 g3 H3
            have g4 : w4.cell? ⟨wi.heap.size, 4, none⟩ = some (.slice A4 f.f4.length c4) := (blk_cell hN4 4).trans rfl
            clear hN4
            by_cases z1 : f.f4.length = 0
            · have HE : Aside0 (frameM m = false) := ⟨HFB.out (by unfold funcOk; rw [HB1.out, HB2.out, HB3.out, z1]; rfl)⟩
              rw [z1] at g4
              go_wp2_with fail
              go_ret
              exact ⟨by rw [HE.out]; rfl, B4.out⟩
            · have z1' : (f.f4.length : Int) ≠ 0 := by omega
              by_cases z2 : f.f4.length ≤ 4096
              · obtain ⟨n, hn⟩ : ∃ n, opsF (m.funcs.take k) = n := ⟨_, rfl⟩
                have hs2 := sum_of _ HO.out
                rw [hn] at hs2
                have hlt2 : (m.funcs.take k).length ≤ 1000000 := by have := List.length_take_le k m.funcs; omega
                have hw2 : IntKind.i64.wrap (n + (f.f4.length : Int)) = n + (f.f4.length : Int) := IntWalk.i64_in _ (by omega)
                have HNS := Aside0.mk hn
                have HFO : Aside0 (funcOk f = true) := ⟨(HFI.out).2 ⟨HR2.out, by have := HB2.out; simp [below] at this; omega, by have := HB3.out; simp [below] at this; omega, z1, z2⟩⟩
                rw [hn]
                clear hs2 hn hlt2
                have z3 : ¬ ((f.f4.length : Int) > 4096) := by omega
                have z4 : (f.f4.length : Int) ≤ 4096 := by omega
                have zb : ((f.f4.length : Int) == 0) = false := by rw [beq_eq_false_iff_ne]; exact z1'
                go_wp2_with fail
                go_roundw
                case rel => exact ⟨k + 1, by go_num, by rw [sum_next _ _ hlt, HF.out, HNS.out], hlt, ⟨all_next _ _ hlt HO.out (by rw [HF.out]; exact HFO.out)⟩, ⟨blk_below HN.out B4i.out⟩, ⟨HM.out.below B4i.out⟩, B4⟩
                case measure => simp [intOf]; omega
              · have z2' : (f.f4.length : Int) > 4096 := by omega
                have HE : Aside0 (frameM m = false) := ⟨HFB.out (by unfold funcOk; rw [HB1.out, HB2.out, HB3.out, decide_eq_true z1', decide_eq_false (by omega)]; rfl)⟩
                go_wp2_with fail
                go_ret
                exact ⟨by rw [HE.out]; rfl, B4.out⟩
    · have hkk : k = m.funcs.length := by omega
      subst hkk
      rw [List.take_length] at HO
      rw [List.take_length]
      have hs2 := sum_of _ HO.out
      have hall := HO.out
      obtain ⟨n, hn⟩ : ∃ n, opsF m.funcs = n := ⟨_, rfl⟩
      rw [hn] at hs2
      rw [hn]
      have HNS := Aside0.mk hn
      clear hn
      have hN := HN.out
      have g0 : wi.cell? ⟨w.heap.size, 0, none⟩ = some (.slice r.a0 m.globals.length r.c0) := (blk_cell hN 0).trans rfl
      have g1 : wi.cell? ⟨w.heap.size, 1, none⟩ = some (.slice r.a1 m.structs.length r.c1) := (blk_cell hN 1).trans rfl
      have g2 : wi.cell? ⟨w.heap.size, 2, none⟩ = some (.slice r.a2 m.chans.length r.c2) := (blk_cell hN 2).trans rfl
      clear hN
      have H0 := Aside0.mk (sized_any r.a0 r.c0 m.globals 16 1 2 wi HM.out.h0 HS.out.l0)
      obtain ⟨b, hb⟩ : ∃ b, sizedM m.globals 16 1 2 = b := ⟨_, rfl⟩
      rw [hb] at H0
      have HB0' := Aside0.mk hb
      clear hb
      cases b with
      | false =>
        have HE : Aside0 (frameM m = false) := ⟨by unfold frameM; rw [HB0'.out]; simp⟩
        go_wp2_with fail
        refine H0.out.mono ?_
        rintro e w2 ⟨rfl, b2⟩
        have hN2 := blk_below HN.out b2
        have HN2 := Aside0.mk hN2
        have B2 := Aside0.mk (below_then HB.out HB.out.size b2)
        clear b2
        have g3 : w2.cell? ⟨w.heap.size, 3, none⟩ = some (.slice r.a3 m.locks.length r.c3) := (blk_cell hN2 3).trans rfl
        have g4 : w2.cell? ⟨w.heap.size, 4, none⟩ = some (.slice r.a4 m.inputs.length r.c4) := (blk_cell hN2 4).trans rfl
        have g5 : w2.cell? ⟨w.heap.size, 5, none⟩ = some (.slice r.a5 m.sinks.length r.c5) := (blk_cell hN2 5).trans rfl
        have g6 : w2.cell? ⟨w.heap.size, 6, none⟩ = some (.slice r.a6 m.hatches.length r.c6) := (blk_cell hN2 6).trans rfl
        have g7 : w2.cell? ⟨w.heap.size, 7, none⟩ = some (.slice r.a7 m.funcs.length r.c7) := (blk_cell hN2 7).trans rfl
        have g8 : w2.cell? ⟨w.heap.size, 8, none⟩ = some (.slice r.a8 m.threads.length r.c8) := (blk_cell hN2 8).trans rfl
        clear hN2
        go_wp2_with fail
        all_goals (go_ret; exact ⟨by rw [HE.out]; rfl, B2.out⟩)
      | true =>
        go_wp2_with fail
        refine H0.out.mono ?_
        rintro e w2 ⟨rfl, b2⟩
        have hN2 := blk_below HN.out b2
        have HM2 := Aside0.mk (HM.out.below b2)
        have HN2 := Aside0.mk hN2
        have B2 := Aside0.mk (below_then HB.out HB.out.size b2)
        clear b2 g0 g1 g2 H0
        have g1 : w2.cell? ⟨w.heap.size, 1, none⟩ = some (.slice r.a1 m.structs.length r.c1) := (blk_cell hN2 1).trans rfl
        clear hN2
        have H1 := Aside0.mk (sized_any r.a1 r.c1 m.structs 4 0 16 w2 HM2.out.h1 HS.out.l1)
        obtain ⟨b, hb⟩ : ∃ b, sizedM m.structs 4 0 16 = b := ⟨_, rfl⟩
        rw [hb] at H1
        have HB1' := Aside0.mk hb
        clear hb
        cases b with
        | false =>
          have HE : Aside0 (frameM m = false) := ⟨by unfold frameM; rw [HB1'.out]; simp⟩
          go_wp2_with fail
          refine H1.out.mono ?_
          rintro e w3 ⟨rfl, b3⟩
          have hN3 := blk_below HN2.out b3
          have B3 := Aside0.mk (below_then B2.out B2.out.size b3)
          clear b3
          have g3 : w3.cell? ⟨w.heap.size, 3, none⟩ = some (.slice r.a3 m.locks.length r.c3) := (blk_cell hN3 3).trans rfl
          have g4 : w3.cell? ⟨w.heap.size, 4, none⟩ = some (.slice r.a4 m.inputs.length r.c4) := (blk_cell hN3 4).trans rfl
          have g5 : w3.cell? ⟨w.heap.size, 5, none⟩ = some (.slice r.a5 m.sinks.length r.c5) := (blk_cell hN3 5).trans rfl
          have g6 : w3.cell? ⟨w.heap.size, 6, none⟩ = some (.slice r.a6 m.hatches.length r.c6) := (blk_cell hN3 6).trans rfl
          have g7 : w3.cell? ⟨w.heap.size, 7, none⟩ = some (.slice r.a7 m.funcs.length r.c7) := (blk_cell hN3 7).trans rfl
          have g8 : w3.cell? ⟨w.heap.size, 8, none⟩ = some (.slice r.a8 m.threads.length r.c8) := (blk_cell hN3 8).trans rfl
          clear hN3
          go_wp2_with fail
          all_goals (go_ret; exact ⟨by rw [HE.out]; rfl, B3.out⟩)
        | true =>
          go_wp2_with fail
          refine H1.out.mono ?_
          rintro e w3 ⟨rfl, b3⟩
          have hN3 := blk_below HN2.out b3
          have HM3 := Aside0.mk (HM2.out.below b3)
          have HN3 := Aside0.mk hN3
          have B3 := Aside0.mk (below_then B2.out B2.out.size b3)
          clear b3 g1 H1
          have g2 : w3.cell? ⟨w.heap.size, 2, none⟩ = some (.slice r.a2 m.chans.length r.c2) := (blk_cell hN3 2).trans rfl
          clear hN3
          have H2 := Aside0.mk (sized_any r.a2 r.c2 m.chans 4 1 4 w3 HM3.out.h2 HS.out.l2)
          obtain ⟨b, hb⟩ : ∃ b, sizedM m.chans 4 1 4 = b := ⟨_, rfl⟩
          rw [hb] at H2
          have HB2' := Aside0.mk hb
          clear hb
          cases b with
          | false =>
            have HE : Aside0 (frameM m = false) := ⟨by unfold frameM; rw [HB2'.out]; simp⟩
            go_wp2_with fail
            refine H2.out.mono ?_
            rintro e w4 ⟨rfl, b4⟩
            have hN4 := blk_below HN3.out b4
            have B4 := Aside0.mk (below_then B3.out B3.out.size b4)
            clear b4
            have g3 : w4.cell? ⟨w.heap.size, 3, none⟩ = some (.slice r.a3 m.locks.length r.c3) := (blk_cell hN4 3).trans rfl
            have g4 : w4.cell? ⟨w.heap.size, 4, none⟩ = some (.slice r.a4 m.inputs.length r.c4) := (blk_cell hN4 4).trans rfl
            have g5 : w4.cell? ⟨w.heap.size, 5, none⟩ = some (.slice r.a5 m.sinks.length r.c5) := (blk_cell hN4 5).trans rfl
            have g6 : w4.cell? ⟨w.heap.size, 6, none⟩ = some (.slice r.a6 m.hatches.length r.c6) := (blk_cell hN4 6).trans rfl
            have g7 : w4.cell? ⟨w.heap.size, 7, none⟩ = some (.slice r.a7 m.funcs.length r.c7) := (blk_cell hN4 7).trans rfl
            have g8 : w4.cell? ⟨w.heap.size, 8, none⟩ = some (.slice r.a8 m.threads.length r.c8) := (blk_cell hN4 8).trans rfl
            clear hN4
            go_wp2_with fail
            all_goals (go_ret; exact ⟨by rw [HE.out]; rfl, B4.out⟩)
          | true =>
            go_wp2_with fail
            refine H2.out.mono ?_
            rintro e w4 ⟨rfl, b4⟩
            have hN4 := blk_below HN3.out b4
            have HN4 := Aside0.mk hN4
            have HM4 := Aside0.mk (HM3.out.below b4)
            have B4 := Aside0.mk (below_then B3.out B3.out.size b4)
            clear b4 g2 H2
            have g3 : w4.cell? ⟨w.heap.size, 3, none⟩ = some (.slice r.a3 m.locks.length r.c3) := (blk_cell hN4 3).trans rfl
            have g4 : w4.cell? ⟨w.heap.size, 4, none⟩ = some (.slice r.a4 m.inputs.length r.c4) := (blk_cell hN4 4).trans rfl
            have g5 : w4.cell? ⟨w.heap.size, 5, none⟩ = some (.slice r.a5 m.sinks.length r.c5) := (blk_cell hN4 5).trans rfl
            have g6 : w4.cell? ⟨w.heap.size, 6, none⟩ = some (.slice r.a6 m.hatches.length r.c6) := (blk_cell hN4 6).trans rfl
            have g7 : w4.cell? ⟨w.heap.size, 7, none⟩ = some (.slice r.a7 m.funcs.length r.c7) := (blk_cell hN4 7).trans rfl
            have g8 : w4.cell? ⟨w.heap.size, 8, none⟩ = some (.slice r.a8 m.threads.length r.c8) := (blk_cell hN4 8).trans rfl
            clear hN4
            have HW := Aside0.mk (any_wrong m r w.heap.size r.a8 r.c8 m.threads w4 HN4.out HM4.out HS.out HM4.out.h8 HS.out.l8)
            have HL : Aside0 (opsM m = n) := HNS
            clear hs2 hall hl7 hk hlt
            have HNO := Aside0.mk (frame_no m)
            have HYES := Aside0.mk (frame_yes m · HO.out HB0'.out HB1'.out HB2'.out)
            by_cases hL : lensM m
            · have HE := Aside0.mk (HYES.out hL)
              unfold lensM at hL
              rw [HL.out] at hL
              obtain ⟨q1, q2, q3, q4, q5, q6, q7, q8⟩ := hL
              have q1' : (m.locks.length : Int) ≤ 8 := by omega
              have q2' : (m.inputs.length : Int) ≤ 8 := by omega
              have q3' : (m.sinks.length : Int) ≤ 4 := by omega
              have q4' : (m.hatches.length : Int) ≤ 8 := by omega
              have q5' : (m.funcs.length : Int) ≥ 1 := by omega
              have q6' : (m.funcs.length : Int) ≤ 12 := by omega
              have q7' : (m.threads.length : Int) ≤ 4 := by omega
              go_wp2_with fail
              refine HW.out.mono ?_
              rintro e w5 ⟨rfl, b5⟩
              have B5 := Aside0.mk (below_then B4.out B4.out.size b5)
              clear b5
              go_wp2_with fail
              go_ret
              exact ⟨by rw [HE.out]; rfl, B5.out⟩
            · have HE := Aside0.mk (HNO.out hL)
              have HLN : Aside0 (¬ (m.locks.length ≤ 8 ∧ m.inputs.length ≤ 8 ∧ m.sinks.length ≤ 4 ∧ m.hatches.length ≤ 8 ∧ 1 ≤ m.funcs.length ∧ m.funcs.length ≤ 12 ∧ m.threads.length ≤ 4 ∧ n ≤ 4096)) := by
                unfold lensM at hL
                rw [HL.out] at hL
                exact ⟨hL⟩
              clear hL
              go_wp2_with fail
              all_goals first
                | (go_ret; exact ⟨by rw [HE.out]; rfl, B4.out⟩)
                | (exfalso; have hno := HLN.out; omega)
end Go.Proofs.YtdapiibllblpbaaDoor.Code
