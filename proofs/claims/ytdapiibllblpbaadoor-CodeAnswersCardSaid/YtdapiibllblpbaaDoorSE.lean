import Derived.Test.YtdapiibllblpbaaDoorSD
namespace Go.Proofs.YtdapiibllblpbaaDoor.Code
open Go.RowKit Go.Proofs.YtdapiibllblpbaaDoorW.PrintWords Go.Proofs.YtdapiibllblpbaaDoorW.PrintLast Go.Proofs.YtdapiibllblpbaaDoorW.PrintMore Go.Proofs.YtdapiibllblpbaaDoor.PCodeAnswers
set_option linter.unusedVariables false
set_option linter.unusedSimpArgs false

theorem RightM_all {m : Md} (h : RightM m = true) : m.funcs.all funcOk = true ∧ sizedM m.globals 16 1 2 = true ∧ m.funcs.length ≤ 12 := by
  unfold RightM frameM at h
  simp only [Bool.and_eq_true, decide_eq_true_eq] at h
  obtain ⟨⟨a, ⟨b, _⟩, _, _, d2, _⟩, _⟩ := h
  exact ⟨a, b, d2⟩
set_option maxHeartbeats 2000000 in
theorem WordsR_any (m : Md) (r : MdR) (w : World) (hm : MdC w r m) (hk : MdK r m) (hs : MdS m) (hz : MdZ m) :
    Calls Tryd.prog 14 #[.agg (mdW r m).toArray] w fun e w' => e = .returned (.int .i64 (WordsM m)) ∧ Below w.heap.size w w' := by
  have hb := below_alloc (Below.refl w.heap.size w) (.cells (mdW r m).toArray 27)
  have HN0 := Aside0.mk (blk_new w (.cells (mdW r m).toArray 27))
  obtain ⟨w0, hw0⟩ : ∃ w0, w.alloc (.cells (mdW r m).toArray 27) = w0 := ⟨_, rfl⟩
  have HM0 := Aside0.mk (hm.below hb)
  have HB0 := Aside0.mk hb
  rw [hw0] at HB0 HN0 HM0
  have HK := Aside0.mk hk
  have HS := Aside0.mk hs
  have HZ := Aside0.mk hz
  have q7 := hs.l7
  clear hb hm hs hz hk
  have g0 : w0.cell? ⟨w.heap.size, 0, none⟩ = some (.slice r.a0 m.globals.length r.c0) := (blk_cell HN0.out 0).trans rfl
  have g1 : w0.cell? ⟨w.heap.size, 1, none⟩ = some (.slice r.a1 m.structs.length r.c1) := (blk_cell HN0.out 1).trans rfl
  have g2 : w0.cell? ⟨w.heap.size, 2, none⟩ = some (.slice r.a2 m.chans.length r.c2) := (blk_cell HN0.out 2).trans rfl
  have g3 : w0.cell? ⟨w.heap.size, 3, none⟩ = some (.slice r.a3 m.locks.length r.c3) := (blk_cell HN0.out 3).trans rfl
  have g4 : w0.cell? ⟨w.heap.size, 4, none⟩ = some (.slice r.a4 m.inputs.length r.c4) := (blk_cell HN0.out 4).trans rfl
  have g5 : w0.cell? ⟨w.heap.size, 5, none⟩ = some (.slice r.a5 m.sinks.length r.c5) := (blk_cell HN0.out 5).trans rfl
  have g6 : w0.cell? ⟨w.heap.size, 6, none⟩ = some (.slice r.a6 m.hatches.length r.c6) := (blk_cell HN0.out 6).trans rfl
  have g7 : w0.cell? ⟨w.heap.size, 7, none⟩ = some (.slice r.a7 m.funcs.length r.c7) := (blk_cell HN0.out 7).trans rfl
  have g8 : w0.cell? ⟨w.heap.size, 8, none⟩ = some (.slice r.a8 m.threads.length r.c8) := (blk_cell HN0.out 8).trans rfl
  have CR := Aside0.mk (rightR_any m r w0 HM0.out HK.out HS.out HZ.out)
  obtain ⟨b, hb⟩ : ∃ b, RightM m = b := ⟨_, rfl⟩
  rw [hb] at CR
  obtain ⟨res, hres⟩ : ∃ x, WordsM m = x := ⟨_, rfl⟩
  have HE : Aside0 (res = if RightM m then wordsM m else 0) := ⟨hres.symm⟩
  rw [hres]
  have HRB := Aside0.mk hb
  clear hres hb
  go_enter Tryd.func14, Tryd.ntmps14
  go_wp2_with fail
  refine CR.out.mono ?_
  rintro e w1 ⟨rfl, d⟩
  have HB1 := Aside0.mk (below_then HB0.out HB0.out.size d)
  have HN1 := Aside0.mk (blk_below HN0.out d)
  have HM1 := Aside0.mk (HM0.out.below d)
  clear d CR hw0 g0 g1 g2 g3 g4 g5 g6 g7 g8
  have g0 : w1.cell? ⟨w.heap.size, 0, none⟩ = some (.slice r.a0 m.globals.length r.c0) := (blk_cell HN1.out 0).trans rfl
  have g1 : w1.cell? ⟨w.heap.size, 1, none⟩ = some (.slice r.a1 m.structs.length r.c1) := (blk_cell HN1.out 1).trans rfl
  have g2 : w1.cell? ⟨w.heap.size, 2, none⟩ = some (.slice r.a2 m.chans.length r.c2) := (blk_cell HN1.out 2).trans rfl
  have g3 : w1.cell? ⟨w.heap.size, 3, none⟩ = some (.slice r.a3 m.locks.length r.c3) := (blk_cell HN1.out 3).trans rfl
  have g4 : w1.cell? ⟨w.heap.size, 4, none⟩ = some (.slice r.a4 m.inputs.length r.c4) := (blk_cell HN1.out 4).trans rfl
  have g5 : w1.cell? ⟨w.heap.size, 5, none⟩ = some (.slice r.a5 m.sinks.length r.c5) := (blk_cell HN1.out 5).trans rfl
  have g6 : w1.cell? ⟨w.heap.size, 6, none⟩ = some (.slice r.a6 m.hatches.length r.c6) := (blk_cell HN1.out 6).trans rfl
  have g7 : w1.cell? ⟨w.heap.size, 7, none⟩ = some (.slice r.a7 m.funcs.length r.c7) := (blk_cell HN1.out 7).trans rfl
  have g8 : w1.cell? ⟨w.heap.size, 8, none⟩ = some (.slice r.a8 m.threads.length r.c8) := (blk_cell HN1.out 8).trans rfl
  cases b with
  | false =>
    have RF : Aside0 (res = 0) := ⟨by rw [HE.out, HRB.out]; rfl⟩
    go_wp2_with fail
    go_ret
    exact ⟨by rw [RF.out]; rfl, HB1.out⟩
  | true =>
    have CW := Aside0.mk (wordsR_any m r w1 HM1.out HK.out HS.out (RightM_all HRB.out).2.1)
    have RF : Aside0 (res = wordsM m) := ⟨by rw [HE.out, HRB.out]; rfl⟩
    go_wp2_with fail
    refine CW.out.mono ?_
    rintro e w2 ⟨rfl, d⟩
    go_wp2_with fail
    go_ret
    exact ⟨by rw [RF.out]; rfl, below_then HB1.out HB1.out.size d⟩
set_option maxHeartbeats 4000000 in
theorem SizeR_any (m : Md) (r : MdR) (w : World) (hm : MdC w r m) (hk : MdK r m) (hs : MdS m) (hz : MdZ m) :
    Calls Tryd.prog 16 #[.agg (mdW r m).toArray] w fun e w' => e = .returned (.int .i64 (SizeM m)) ∧ Below w.heap.size w w' := by
  have hb := below_alloc (Below.refl w.heap.size w) (.cells (mdW r m).toArray 27)
  have HN0 := Aside0.mk (blk_new w (.cells (mdW r m).toArray 27))
  obtain ⟨w0, hw0⟩ : ∃ w0, w.alloc (.cells (mdW r m).toArray 27) = w0 := ⟨_, rfl⟩
  have HM0 := Aside0.mk (hm.below hb)
  have HB0 := Aside0.mk hb
  rw [hw0] at HB0 HN0 HM0
  have HK := Aside0.mk hk
  have HS := Aside0.mk hs
  have HZ := Aside0.mk hz
  have q7 := hs.l7
  clear hb hm hs hz hk
  obtain ⟨b, hb⟩ : ∃ b, RightM m = b := ⟨_, rfl⟩
  obtain ⟨res, hres⟩ : ∃ x, SizeM m = x := ⟨_, rfl⟩
  have HE : Aside0 (res = if RightM m then opsM m else 0) := ⟨hres.symm⟩
  rw [hres]
  have HRB := Aside0.mk hb
  clear hres hb
  go_enter Tryd.func16, Tryd.ntmps16
  go_wp2_with fail
  clear hw0
  go_loopw [3, 4] (fun n i wr => ∃ (k : Nat) (q : Int), i = .int .i64 k ∧ n = .int .i64 q ∧ k ≤ m.funcs.length ∧ 0 ≤ q ∧ q ≤ 4096 * k ∧ Aside0 (q = opsF (m.funcs.take k)) ∧ Aside0 (0 < k → b = true) ∧ Aside0 (Below w0.heap.size w0 wr)) (fun n i _ => m.funcs.length - (intOf i).toNat)
  case atStart => exact ⟨0, 0, rfl, rfl, Nat.zero_le _, by omega, by omega, ⟨rfl⟩, ⟨fun h => absurd h (Nat.lt_irrefl 0)⟩, ⟨Below.refl _ _⟩⟩
  case round =>
    obtain ⟨k, q, rfl, rfl, hk, hq0, hq1, HQ, HP, HB⟩ := hrel
    obtain ⟨wi, rfl⟩ : ∃ wi : World, wi = wr := ⟨_, rfl⟩
    have HNI := Aside0.mk (blk_below HN0.out HB.out)
    have HMI := Aside0.mk (HM0.out.below HB.out)
    have HBW := Aside0.mk (below_then HB0.out HB0.out.size HB.out)
    have g0 : wi.cell? ⟨w.heap.size, 0, none⟩ = some (.slice r.a0 m.globals.length r.c0) := (blk_cell HNI.out 0).trans rfl
    have g1 : wi.cell? ⟨w.heap.size, 1, none⟩ = some (.slice r.a1 m.structs.length r.c1) := (blk_cell HNI.out 1).trans rfl
    have g2 : wi.cell? ⟨w.heap.size, 2, none⟩ = some (.slice r.a2 m.chans.length r.c2) := (blk_cell HNI.out 2).trans rfl
    have g3 : wi.cell? ⟨w.heap.size, 3, none⟩ = some (.slice r.a3 m.locks.length r.c3) := (blk_cell HNI.out 3).trans rfl
    have g4 : wi.cell? ⟨w.heap.size, 4, none⟩ = some (.slice r.a4 m.inputs.length r.c4) := (blk_cell HNI.out 4).trans rfl
    have g5 : wi.cell? ⟨w.heap.size, 5, none⟩ = some (.slice r.a5 m.sinks.length r.c5) := (blk_cell HNI.out 5).trans rfl
    have g6 : wi.cell? ⟨w.heap.size, 6, none⟩ = some (.slice r.a6 m.hatches.length r.c6) := (blk_cell HNI.out 6).trans rfl
    have g7 : wi.cell? ⟨w.heap.size, 7, none⟩ = some (.slice r.a7 m.funcs.length r.c7) := (blk_cell HNI.out 7).trans rfl
    have g8 : wi.cell? ⟨w.heap.size, 8, none⟩ = some (.slice r.a8 m.threads.length r.c8) := (blk_cell HNI.out 8).trans rfl
    by_cases hlt : k < m.funcs.length
    · have CR := Aside0.mk (rightR_any m r wi HMI.out HK.out HS.out HZ.out)
      rw [HRB.out] at CR
      go_wp2_with fail
      refine CR.out.mono ?_
      rintro e w1 ⟨rfl, d⟩
      have HB1 := Aside0.mk (below_then HB.out HB.out.size d)
      have HN1 := Aside0.mk (blk_below HNI.out d)
      have HM1 := Aside0.mk (HMI.out.below d)
      have HBX := Aside0.mk (below_then HBW.out HBW.out.size d)
      clear d CR g0 g1 g2 g3 g4 g5 g6 g7 g8
      have g7 : w1.cell? ⟨w.heap.size, 7, none⟩ = some (.slice r.a7 m.funcs.length r.c7) := (blk_cell HN1.out 7).trans rfl
      cases b with
      | false =>
        have hk0 : k = 0 := by
          rcases Nat.eq_zero_or_pos k with h | h
          · exact h
          · exact absurd (HP.out h) (by simp)
        have RF : Aside0 (res = q) := ⟨by rw [HE.out, HRB.out, HQ.out, hk0]; rfl⟩
        clear hk0
        go_wp2_with fail
        go_ret
        exact ⟨by rw [RF.out]; rfl, HBX.out⟩
      | true =>
        obtain ⟨ad, A4, c4, eA, e0, e1, e2, e3, e4, el, eC⟩ := at_T39 HM1.out.h7 (k : Int) (by omega) (by omega)
        rw [Int.toNat_natCast] at e0 e1 e2 e3 e4
        rw [eA] at g7
        have hok := (funcOk_is _).1 (List.all_eq_true.1 (RightM_all HRB.out).1 _ (rd39_mem m.funcs k hlt))
        have hfl := hok.2.2.2.2
        have h12 := (RightM_all HRB.out).2.2
        have HTK := Aside0.mk (sum_next m.funcs k hlt)
        obtain ⟨f, hf⟩ : ∃ f, rd_T39 m.funcs (k : Int) = f := ⟨_, rfl⟩
        rw [hf] at e0 e1 e2 e3 e4 HTK hfl
        clear eA el eC hok hf e0 e1 e2 e3
        have HQ1 : Aside0 (q + (f.f4.length : Int) = opsF (m.funcs.take (k + 1))) := ⟨by rw [HTK.out, HQ.out]⟩
        go_wp2_with fail
        go_roundw
        case rel => exact ⟨k + 1, q + f.f4.length, by go_num, rfl, by omega, by omega, by omega, HQ1, ⟨fun _ => by first | trivial | rfl⟩, HB1⟩
        case measure => simp [intOf]; omega
    · have hkl : k = m.funcs.length := by omega
      have RF : Aside0 (res = q) := ⟨by
        rw [HE.out, HQ.out, hkl, List.take_length]
        rcases Nat.eq_zero_or_pos k with h | h
        · have h0 : m.funcs = [] := List.length_eq_zero_iff.1 (by omega)
          unfold opsM
          rw [h0]
          simp [opsF]
        · rw [HRB.out, HP.out h]
          rfl⟩
      clear hkl
      go_wp2_with fail
      go_ret
      exact ⟨by rw [RF.out]; rfl, HBW.out⟩

/-! ### SameModule: of two readings of one module -/
theorem sameSizedR (A1 A2 : Option Addr) (c1 c2 : Nat) (l : List S46) (w : World) (h1 : Kd.C k46 w A1 l.length l) (k1 : l.length ≤ c1) (h2 : Kd.C k46 w A2 l.length l) (k2 : l.length ≤ c2) (hl : l.length ≤ 1000000) :
    Calls Tryd.prog 35 #[.slice A1 l.length c1, .slice A2 l.length c2] w fun e w' => e = .returned (.bool true) ∧ Drawn0 w w' := by
  have key : ∀ (d i : Nat), i + d = l.length → ∃ k, portcullisref00_sameSized.l0 k l l i = some true := by
    intro d
    induction d with
    | zero =>
      intro i h
      refine ⟨1, ?_⟩
      simp only [portcullisref00_sameSized.l0]
      rw [if_neg (by omega)]
    | succ d ih =>
      intro i h
      obtain ⟨k, hk⟩ := ih (i + 1) (by omega)
      refine ⟨k + 1, ?_⟩
      simp only [portcullisref00_sameSized.l0]
      have e2 : wrap64 ((i : Int) + 1) = (i : Int) + 1 := by unfold wrap64; omega
      rw [if_pos (by omega), if_pos (by omega), if_pos (by omega), if_neg (by simp), e2]
      exact_mod_cast hk
  obtain ⟨k, hk⟩ := key l.length 0 (by omega)
  exact portcullisref00_sameSized.calls k A1 c1 l A2 c2 l true w h1 k1 h2 k2 (by unfold portcullisref00_sameSized.f; rw [if_pos rfl]; exact hk)
theorem sameTextsR (A1 A2 : Option Addr) (c1 c2 : Nat) (l : List ByteArray) (w : World) (h1 : Kd.C Kd.string w A1 l.length l) (k1 : l.length ≤ c1) (h2 : Kd.C Kd.string w A2 l.length l) (k2 : l.length ≤ c2) (hl : l.length ≤ 1000000) :
    Calls Tryd.prog 36 #[.slice A1 l.length c1, .slice A2 l.length c2] w fun e w' => e = .returned (.bool true) ∧ Drawn0 w w' := by
  have key : ∀ (d i : Nat), i + d = l.length → ∃ k, portcullisref00_SameTexts.l0 k l l i = some true := by
    intro d
    induction d with
    | zero =>
      intro i h
      refine ⟨1, ?_⟩
      simp only [portcullisref00_SameTexts.l0]
      rw [if_neg (by omega)]
    | succ d ih =>
      intro i h
      obtain ⟨k, hk⟩ := ih (i + 1) (by omega)
      refine ⟨k + 1, ?_⟩
      simp only [portcullisref00_SameTexts.l0]
      have e2 : wrap64 ((i : Int) + 1) = (i : Int) + 1 := by unfold wrap64; omega
      rw [if_pos (by omega), if_pos (by omega), if_pos (by omega), if_pos trivial, e2]
      exact_mod_cast hk
  obtain ⟨k, hk⟩ := key l.length 0 (by omega)
  exact portcullisref00_SameTexts.calls k A1 c1 l A2 c2 l true w h1 k1 h2 k2 (by unfold portcullisref00_SameTexts.f; rw [if_pos rfl]; exact hk)
theorem sameIntsR (A1 A2 : Option Addr) (c1 c2 : Nat) (l : List Int) (w : World) (h1 : Kd.C (Kd.int .i64) w A1 l.length l) (k1 : l.length ≤ c1) (h2 : Kd.C (Kd.int .i64) w A2 l.length l) (k2 : l.length ≤ c2) (hl : l.length ≤ 1000000) :
    Calls Tryd.prog 37 #[.slice A1 l.length c1, .slice A2 l.length c2] w fun e w' => e = .returned (.bool true) ∧ Drawn0 w w' := by
  have key : ∀ (d i : Nat), i + d = l.length → ∃ k, portcullisref00_SameInts.l0 k l l i = some true := by
    intro d
    induction d with
    | zero =>
      intro i h
      refine ⟨1, ?_⟩
      simp only [portcullisref00_SameInts.l0]
      rw [if_neg (by omega)]
    | succ d ih =>
      intro i h
      obtain ⟨k, hk⟩ := ih (i + 1) (by omega)
      refine ⟨k + 1, ?_⟩
      simp only [portcullisref00_SameInts.l0]
      have e2 : wrap64 ((i : Int) + 1) = (i : Int) + 1 := by unfold wrap64; omega
      rw [if_pos (by omega), if_pos (by omega), if_pos (by omega), if_pos trivial, e2]
      exact_mod_cast hk
  obtain ⟨k, hk⟩ := key l.length 0 (by omega)
  exact portcullisref00_SameInts.calls k A1 c1 l A2 c2 l true w h1 k1 h2 k2 (by unfold portcullisref00_SameInts.f; rw [if_pos rfl]; exact hk)
set_option maxHeartbeats 4000000 in
theorem sameOpR (o : S42) (A1 A2 : Option Addr) (c1 c2 : Nat) (w : World) (h1 : Kd.C (Kd.int .i64) w A1 o.f8.length o.f8) (k1 : o.f8.length ≤ c1) (h2 : Kd.C (Kd.int .i64) w A2 o.f8.length o.f8) (k2 : o.f8.length ≤ c2) (hl : o.f8.length ≤ 1000000) :
    Calls Tryd.prog 38 #[.agg #[.int .i64 o.f0, .int .i64 o.f1, .int .i64 o.f2, .int .i64 o.f3, .int .i64 o.f4, .int .i64 o.f5, .int .i64 o.f6, .int .i64 o.f7, .slice A1 o.f8.length c1, .int .i64 o.f9, .int .i64 o.f10, .int .i64 o.f11], .agg #[.int .i64 o.f0, .int .i64 o.f1, .int .i64 o.f2, .int .i64 o.f3, .int .i64 o.f4, .int .i64 o.f5, .int .i64 o.f6, .int .i64 o.f7, .slice A2 o.f8.length c2, .int .i64 o.f9, .int .i64 o.f10, .int .i64 o.f11]] w fun e w' => e = .returned (.bool true) ∧ Below w.heap.size w w' := by
  have HB : Aside0 (Below w.heap.size w ((w.alloc (.cells #[.int .i64 o.f0, .int .i64 o.f1, .int .i64 o.f2, .int .i64 o.f3, .int .i64 o.f4, .int .i64 o.f5, .int .i64 o.f6, .int .i64 o.f7, .slice A1 o.f8.length c1, .int .i64 o.f9, .int .i64 o.f10, .int .i64 o.f11] 42)).alloc (.cells #[.int .i64 o.f0, .int .i64 o.f1, .int .i64 o.f2, .int .i64 o.f3, .int .i64 o.f4, .int .i64 o.f5, .int .i64 o.f6, .int .i64 o.f7, .slice A2 o.f8.length c2, .int .i64 o.f9, .int .i64 o.f10, .int .i64 o.f11] 42))) := ⟨below_alloc (below_alloc (Below.refl _ _) _) _⟩
  have H1 : Aside0 (((w.alloc (.cells #[.int .i64 o.f0, .int .i64 o.f1, .int .i64 o.f2, .int .i64 o.f3, .int .i64 o.f4, .int .i64 o.f5, .int .i64 o.f6, .int .i64 o.f7, .slice A1 o.f8.length c1, .int .i64 o.f9, .int .i64 o.f10, .int .i64 o.f11] 42)).alloc (.cells #[.int .i64 o.f0, .int .i64 o.f1, .int .i64 o.f2, .int .i64 o.f3, .int .i64 o.f4, .int .i64 o.f5, .int .i64 o.f6, .int .i64 o.f7, .slice A2 o.f8.length c2, .int .i64 o.f9, .int .i64 o.f10, .int .i64 o.f11] 42)).heap[w.heap.size]? = some (.cells #[.int .i64 o.f0, .int .i64 o.f1, .int .i64 o.f2, .int .i64 o.f3, .int .i64 o.f4, .int .i64 o.f5, .int .i64 o.f6, .int .i64 o.f7, .slice A1 o.f8.length c1, .int .i64 o.f9, .int .i64 o.f10, .int .i64 o.f11] 42 (0, 0))) := ⟨blk_alloc (blk_new w _) _⟩
  have H2 : Aside0 (((w.alloc (.cells #[.int .i64 o.f0, .int .i64 o.f1, .int .i64 o.f2, .int .i64 o.f3, .int .i64 o.f4, .int .i64 o.f5, .int .i64 o.f6, .int .i64 o.f7, .slice A1 o.f8.length c1, .int .i64 o.f9, .int .i64 o.f10, .int .i64 o.f11] 42)).alloc (.cells #[.int .i64 o.f0, .int .i64 o.f1, .int .i64 o.f2, .int .i64 o.f3, .int .i64 o.f4, .int .i64 o.f5, .int .i64 o.f6, .int .i64 o.f7, .slice A2 o.f8.length c2, .int .i64 o.f9, .int .i64 o.f10, .int .i64 o.f11] 42)).heap[w.heap.size + 1]? = some (.cells #[.int .i64 o.f0, .int .i64 o.f1, .int .i64 o.f2, .int .i64 o.f3, .int .i64 o.f4, .int .i64 o.f5, .int .i64 o.f6, .int .i64 o.f7, .slice A2 o.f8.length c2, .int .i64 o.f9, .int .i64 o.f10, .int .i64 o.f11] 42 (0, 0))) := ⟨by
    have := blk_new (w.alloc (.cells #[.int .i64 o.f0, .int .i64 o.f1, .int .i64 o.f2, .int .i64 o.f3, .int .i64 o.f4, .int .i64 o.f5, .int .i64 o.f6, .int .i64 o.f7, .slice A1 o.f8.length c1, .int .i64 o.f9, .int .i64 o.f10, .int .i64 o.f11] 42)) (.cells #[.int .i64 o.f0, .int .i64 o.f1, .int .i64 o.f2, .int .i64 o.f3, .int .i64 o.f4, .int .i64 o.f5, .int .i64 o.f6, .int .i64 o.f7, .slice A2 o.f8.length c2, .int .i64 o.f9, .int .i64 o.f10, .int .i64 o.f11] 42)
    simpa using this⟩
  obtain ⟨w0, hw0⟩ : ∃ w0, (w.alloc (.cells #[.int .i64 o.f0, .int .i64 o.f1, .int .i64 o.f2, .int .i64 o.f3, .int .i64 o.f4, .int .i64 o.f5, .int .i64 o.f6, .int .i64 o.f7, .slice A1 o.f8.length c1, .int .i64 o.f9, .int .i64 o.f10, .int .i64 o.f11] 42)).alloc (.cells #[.int .i64 o.f0, .int .i64 o.f1, .int .i64 o.f2, .int .i64 o.f3, .int .i64 o.f4, .int .i64 o.f5, .int .i64 o.f6, .int .i64 o.f7, .slice A2 o.f8.length c2, .int .i64 o.f9, .int .i64 o.f10, .int .i64 o.f11] 42) = w0 := ⟨_, rfl⟩
  rw [hw0] at HB H1 H2
  have CI := Aside0.mk (sameIntsR A1 A2 c1 c2 o.f8 w0 (Kd.C_below h1 HB.out) k1 (Kd.C_below h2 HB.out) k2 hl)
  clear h1 h2
  have a0 : w0.cell? ⟨w.heap.size, 0, none⟩ = some (.int .i64 o.f0) := (blk_cell H1.out 0).trans rfl
  have a1 : w0.cell? ⟨w.heap.size, 1, none⟩ = some (.int .i64 o.f1) := (blk_cell H1.out 1).trans rfl
  have a2 : w0.cell? ⟨w.heap.size, 2, none⟩ = some (.int .i64 o.f2) := (blk_cell H1.out 2).trans rfl
  have a3 : w0.cell? ⟨w.heap.size, 3, none⟩ = some (.int .i64 o.f3) := (blk_cell H1.out 3).trans rfl
  have a4 : w0.cell? ⟨w.heap.size, 4, none⟩ = some (.int .i64 o.f4) := (blk_cell H1.out 4).trans rfl
  have a5 : w0.cell? ⟨w.heap.size, 5, none⟩ = some (.int .i64 o.f5) := (blk_cell H1.out 5).trans rfl
  have a6 : w0.cell? ⟨w.heap.size, 6, none⟩ = some (.int .i64 o.f6) := (blk_cell H1.out 6).trans rfl
  have a7 : w0.cell? ⟨w.heap.size, 7, none⟩ = some (.int .i64 o.f7) := (blk_cell H1.out 7).trans rfl
  have a8 : w0.cell? ⟨w.heap.size, 8, none⟩ = some (.slice A1 o.f8.length c1) := (blk_cell H1.out 8).trans rfl
  have a9 : w0.cell? ⟨w.heap.size, 9, none⟩ = some (.int .i64 o.f9) := (blk_cell H1.out 9).trans rfl
  have a10 : w0.cell? ⟨w.heap.size, 10, none⟩ = some (.int .i64 o.f10) := (blk_cell H1.out 10).trans rfl
  have a11 : w0.cell? ⟨w.heap.size, 11, none⟩ = some (.int .i64 o.f11) := (blk_cell H1.out 11).trans rfl
  have b0 : w0.cell? ⟨w.heap.size + 1, 0, none⟩ = some (.int .i64 o.f0) := (blk_cell H2.out 0).trans rfl
  have b1 : w0.cell? ⟨w.heap.size + 1, 1, none⟩ = some (.int .i64 o.f1) := (blk_cell H2.out 1).trans rfl
  have b2 : w0.cell? ⟨w.heap.size + 1, 2, none⟩ = some (.int .i64 o.f2) := (blk_cell H2.out 2).trans rfl
  have b3 : w0.cell? ⟨w.heap.size + 1, 3, none⟩ = some (.int .i64 o.f3) := (blk_cell H2.out 3).trans rfl
  have b4 : w0.cell? ⟨w.heap.size + 1, 4, none⟩ = some (.int .i64 o.f4) := (blk_cell H2.out 4).trans rfl
  have b5 : w0.cell? ⟨w.heap.size + 1, 5, none⟩ = some (.int .i64 o.f5) := (blk_cell H2.out 5).trans rfl
  have b6 : w0.cell? ⟨w.heap.size + 1, 6, none⟩ = some (.int .i64 o.f6) := (blk_cell H2.out 6).trans rfl
  have b7 : w0.cell? ⟨w.heap.size + 1, 7, none⟩ = some (.int .i64 o.f7) := (blk_cell H2.out 7).trans rfl
  have b8 : w0.cell? ⟨w.heap.size + 1, 8, none⟩ = some (.slice A2 o.f8.length c2) := (blk_cell H2.out 8).trans rfl
  have b9 : w0.cell? ⟨w.heap.size + 1, 9, none⟩ = some (.int .i64 o.f9) := (blk_cell H2.out 9).trans rfl
  have b10 : w0.cell? ⟨w.heap.size + 1, 10, none⟩ = some (.int .i64 o.f10) := (blk_cell H2.out 10).trans rfl
  have b11 : w0.cell? ⟨w.heap.size + 1, 11, none⟩ = some (.int .i64 o.f11) := (blk_cell H2.out 11).trans rfl
  go_enter Tryd.func38, Tryd.ntmps38
  go_wp2_with fail
  refine CI.out.mono ?_
  rintro e w1 ⟨rfl, d⟩
  have HB1 := Aside0.mk (below_then HB.out HB.out.size d.below)
  have H11 := Aside0.mk (blk_below H1.out d.below)
  have H21 := Aside0.mk (blk_below H2.out d.below)
  clear d CI hw0 a0 b0 a1 b1 a2 b2 a3 b3 a4 b4 a5 b5 a6 b6 a7 b7 a8 b8 a9 b9 a10 b10 a11 b11
  have a9 : w1.cell? ⟨w.heap.size, 9, none⟩ = some (.int .i64 o.f9) := (blk_cell H11.out 9).trans rfl
  have b9 : w1.cell? ⟨w.heap.size + 1, 9, none⟩ = some (.int .i64 o.f9) := (blk_cell H21.out 9).trans rfl
  have a10 : w1.cell? ⟨w.heap.size, 10, none⟩ = some (.int .i64 o.f10) := (blk_cell H11.out 10).trans rfl
  have b10 : w1.cell? ⟨w.heap.size + 1, 10, none⟩ = some (.int .i64 o.f10) := (blk_cell H21.out 10).trans rfl
  have a11 : w1.cell? ⟨w.heap.size, 11, none⟩ = some (.int .i64 o.f11) := (blk_cell H11.out 11).trans rfl
  have b11 : w1.cell? ⟨w.heap.size + 1, 11, none⟩ = some (.int .i64 o.f11) := (blk_cell H21.out 11).trans rfl
  go_wp2_with fail
  go_ret
  exact ⟨rfl, HB1.out⟩
/-- Two readings of one module, boxed. -/
structure TW (w w0 : World) (r r2 : MdR) (m : Md) : Prop where
  b1 : w0.heap[w.heap.size]? = some (.cells (mdW r m).toArray 27 (0, 0))
  b2 : w0.heap[w.heap.size + 1]? = some (.cells (mdW r2 m).toArray 27 (0, 0))
  bel : Below w.heap.size w w0
  m1 : MdC w0 r m
  m2 : MdC w0 r2 m
theorem TW.below {w w0 w1 : World} {r r2 : MdR} {m : Md} (h : TW w w0 r r2 m) (b : Below w0.heap.size w0 w1) : TW w w1 r r2 m :=
  ⟨blk_below h.b1 b, blk_below h.b2 b, below_then h.bel h.bel.size b, h.m1.below b, h.m2.below b⟩
set_option maxRecDepth 100000 in
set_option maxHeartbeats 20000000 in
theorem sameModR (m : Md) (r r2 : MdR) (w : World) (hm : MdC w r m) (hk : MdK r m) (hm2 : MdC w r2 m) (hk2 : MdK r2 m) (hs : MdS m) (hz : MdZ m) (hfl : MdF m) :
    Calls Tryd.prog 17 #[.agg (mdW r m).toArray, .agg (mdW r2 m).toArray] w fun e w' => e = .returned (.bool true) ∧ Below w.heap.size w w' := by
  have hb : Below w.heap.size w ((w.alloc (.cells (mdW r m).toArray 27)).alloc (.cells (mdW r2 m).toArray 27)) := below_alloc (below_alloc (Below.refl _ _) _) _
  have HX : Aside0 (TW w ((w.alloc (.cells (mdW r m).toArray 27)).alloc (.cells (mdW r2 m).toArray 27)) r r2 m) := ⟨⟨blk_alloc (blk_new w _) _, by
    have := blk_new (w.alloc (.cells (mdW r m).toArray 27)) (.cells (mdW r2 m).toArray 27)
    simpa using this, hb, hm.below hb, hm2.below hb⟩⟩
  obtain ⟨w0, hw0⟩ : ∃ w0, (w.alloc (.cells (mdW r m).toArray 27)).alloc (.cells (mdW r2 m).toArray 27) = w0 := ⟨_, rfl⟩
  rw [hw0] at HX
  have HK := Aside0.mk hk
  have HK2 := Aside0.mk hk2
  have HS := Aside0.mk hs
  have HZ := Aside0.mk hz
  have HFL := Aside0.mk hfl
  have q7 := hs.l7
  clear hb hm hm2 hs hz hk hk2 hfl
  have g0 : w0.cell? ⟨w.heap.size, 0, none⟩ = some (.slice r.a0 m.globals.length r.c0) := (blk_cell HX.out.b1 0).trans rfl
  have h0 : w0.cell? ⟨w.heap.size + 1, 0, none⟩ = some (.slice r2.a0 m.globals.length r2.c0) := (blk_cell HX.out.b2 0).trans rfl
  have g1 : w0.cell? ⟨w.heap.size, 1, none⟩ = some (.slice r.a1 m.structs.length r.c1) := (blk_cell HX.out.b1 1).trans rfl
  have h1 : w0.cell? ⟨w.heap.size + 1, 1, none⟩ = some (.slice r2.a1 m.structs.length r2.c1) := (blk_cell HX.out.b2 1).trans rfl
  have g2 : w0.cell? ⟨w.heap.size, 2, none⟩ = some (.slice r.a2 m.chans.length r.c2) := (blk_cell HX.out.b1 2).trans rfl
  have h2 : w0.cell? ⟨w.heap.size + 1, 2, none⟩ = some (.slice r2.a2 m.chans.length r2.c2) := (blk_cell HX.out.b2 2).trans rfl
  have g3 : w0.cell? ⟨w.heap.size, 3, none⟩ = some (.slice r.a3 m.locks.length r.c3) := (blk_cell HX.out.b1 3).trans rfl
  have h3 : w0.cell? ⟨w.heap.size + 1, 3, none⟩ = some (.slice r2.a3 m.locks.length r2.c3) := (blk_cell HX.out.b2 3).trans rfl
  have g4 : w0.cell? ⟨w.heap.size, 4, none⟩ = some (.slice r.a4 m.inputs.length r.c4) := (blk_cell HX.out.b1 4).trans rfl
  have h4 : w0.cell? ⟨w.heap.size + 1, 4, none⟩ = some (.slice r2.a4 m.inputs.length r2.c4) := (blk_cell HX.out.b2 4).trans rfl
  have g5 : w0.cell? ⟨w.heap.size, 5, none⟩ = some (.slice r.a5 m.sinks.length r.c5) := (blk_cell HX.out.b1 5).trans rfl
  have h5 : w0.cell? ⟨w.heap.size + 1, 5, none⟩ = some (.slice r2.a5 m.sinks.length r2.c5) := (blk_cell HX.out.b2 5).trans rfl
  have g6 : w0.cell? ⟨w.heap.size, 6, none⟩ = some (.slice r.a6 m.hatches.length r.c6) := (blk_cell HX.out.b1 6).trans rfl
  have h6 : w0.cell? ⟨w.heap.size + 1, 6, none⟩ = some (.slice r2.a6 m.hatches.length r2.c6) := (blk_cell HX.out.b2 6).trans rfl
  have g7 : w0.cell? ⟨w.heap.size, 7, none⟩ = some (.slice r.a7 m.funcs.length r.c7) := (blk_cell HX.out.b1 7).trans rfl
  have h7 : w0.cell? ⟨w.heap.size + 1, 7, none⟩ = some (.slice r2.a7 m.funcs.length r2.c7) := (blk_cell HX.out.b2 7).trans rfl
  have g8 : w0.cell? ⟨w.heap.size, 8, none⟩ = some (.slice r.a8 m.threads.length r.c8) := (blk_cell HX.out.b1 8).trans rfl
  have h8 : w0.cell? ⟨w.heap.size + 1, 8, none⟩ = some (.slice r2.a8 m.threads.length r2.c8) := (blk_cell HX.out.b2 8).trans rfl
  go_enter Tryd.func17, Tryd.ntmps17
  have C0 := Aside0.mk (sameSizedR r.a0 r2.a0 r.c0 r2.c0 m.globals w0 HX.out.m1.h0 HK.out.k0 HX.out.m2.h0 HK2.out.k0 HS.out.l0)
  go_wp2_with fail
  refine C0.out.mono ?_
  rintro e x1 ⟨rfl, d⟩
  have HX := Aside0.mk (HX.out.below d.below)
  clear d C0 hw0 g0 h0 g1 h1 g2 h2 g3 h3 g4 h4 g5 h5 g6 h6 g7 h7 g8 h8
  have g0 : x1.cell? ⟨w.heap.size, 0, none⟩ = some (.slice r.a0 m.globals.length r.c0) := (blk_cell HX.out.b1 0).trans rfl
  have h0 : x1.cell? ⟨w.heap.size + 1, 0, none⟩ = some (.slice r2.a0 m.globals.length r2.c0) := (blk_cell HX.out.b2 0).trans rfl
  have g1 : x1.cell? ⟨w.heap.size, 1, none⟩ = some (.slice r.a1 m.structs.length r.c1) := (blk_cell HX.out.b1 1).trans rfl
  have h1 : x1.cell? ⟨w.heap.size + 1, 1, none⟩ = some (.slice r2.a1 m.structs.length r2.c1) := (blk_cell HX.out.b2 1).trans rfl
  have g2 : x1.cell? ⟨w.heap.size, 2, none⟩ = some (.slice r.a2 m.chans.length r.c2) := (blk_cell HX.out.b1 2).trans rfl
  have h2 : x1.cell? ⟨w.heap.size + 1, 2, none⟩ = some (.slice r2.a2 m.chans.length r2.c2) := (blk_cell HX.out.b2 2).trans rfl
  have g3 : x1.cell? ⟨w.heap.size, 3, none⟩ = some (.slice r.a3 m.locks.length r.c3) := (blk_cell HX.out.b1 3).trans rfl
  have h3 : x1.cell? ⟨w.heap.size + 1, 3, none⟩ = some (.slice r2.a3 m.locks.length r2.c3) := (blk_cell HX.out.b2 3).trans rfl
  have g4 : x1.cell? ⟨w.heap.size, 4, none⟩ = some (.slice r.a4 m.inputs.length r.c4) := (blk_cell HX.out.b1 4).trans rfl
  have h4 : x1.cell? ⟨w.heap.size + 1, 4, none⟩ = some (.slice r2.a4 m.inputs.length r2.c4) := (blk_cell HX.out.b2 4).trans rfl
  have g5 : x1.cell? ⟨w.heap.size, 5, none⟩ = some (.slice r.a5 m.sinks.length r.c5) := (blk_cell HX.out.b1 5).trans rfl
  have h5 : x1.cell? ⟨w.heap.size + 1, 5, none⟩ = some (.slice r2.a5 m.sinks.length r2.c5) := (blk_cell HX.out.b2 5).trans rfl
  have g6 : x1.cell? ⟨w.heap.size, 6, none⟩ = some (.slice r.a6 m.hatches.length r.c6) := (blk_cell HX.out.b1 6).trans rfl
  have h6 : x1.cell? ⟨w.heap.size + 1, 6, none⟩ = some (.slice r2.a6 m.hatches.length r2.c6) := (blk_cell HX.out.b2 6).trans rfl
  have g7 : x1.cell? ⟨w.heap.size, 7, none⟩ = some (.slice r.a7 m.funcs.length r.c7) := (blk_cell HX.out.b1 7).trans rfl
  have h7 : x1.cell? ⟨w.heap.size + 1, 7, none⟩ = some (.slice r2.a7 m.funcs.length r2.c7) := (blk_cell HX.out.b2 7).trans rfl
  have g8 : x1.cell? ⟨w.heap.size, 8, none⟩ = some (.slice r.a8 m.threads.length r.c8) := (blk_cell HX.out.b1 8).trans rfl
  have h8 : x1.cell? ⟨w.heap.size + 1, 8, none⟩ = some (.slice r2.a8 m.threads.length r2.c8) := (blk_cell HX.out.b2 8).trans rfl
  have C1 := Aside0.mk (sameSizedR r.a1 r2.a1 r.c1 r2.c1 m.structs x1 HX.out.m1.h1 HK.out.k1 HX.out.m2.h1 HK2.out.k1 HS.out.l1)
  go_wp2_with fail
  refine C1.out.mono ?_
  rintro e x2 ⟨rfl, d⟩
  have HX := Aside0.mk (HX.out.below d.below)
  clear d C1  g0 h0 g1 h1 g2 h2 g3 h3 g4 h4 g5 h5 g6 h6 g7 h7 g8 h8
  have g0 : x2.cell? ⟨w.heap.size, 0, none⟩ = some (.slice r.a0 m.globals.length r.c0) := (blk_cell HX.out.b1 0).trans rfl
  have h0 : x2.cell? ⟨w.heap.size + 1, 0, none⟩ = some (.slice r2.a0 m.globals.length r2.c0) := (blk_cell HX.out.b2 0).trans rfl
  have g1 : x2.cell? ⟨w.heap.size, 1, none⟩ = some (.slice r.a1 m.structs.length r.c1) := (blk_cell HX.out.b1 1).trans rfl
  have h1 : x2.cell? ⟨w.heap.size + 1, 1, none⟩ = some (.slice r2.a1 m.structs.length r2.c1) := (blk_cell HX.out.b2 1).trans rfl
  have g2 : x2.cell? ⟨w.heap.size, 2, none⟩ = some (.slice r.a2 m.chans.length r.c2) := (blk_cell HX.out.b1 2).trans rfl
  have h2 : x2.cell? ⟨w.heap.size + 1, 2, none⟩ = some (.slice r2.a2 m.chans.length r2.c2) := (blk_cell HX.out.b2 2).trans rfl
  have g3 : x2.cell? ⟨w.heap.size, 3, none⟩ = some (.slice r.a3 m.locks.length r.c3) := (blk_cell HX.out.b1 3).trans rfl
  have h3 : x2.cell? ⟨w.heap.size + 1, 3, none⟩ = some (.slice r2.a3 m.locks.length r2.c3) := (blk_cell HX.out.b2 3).trans rfl
  have g4 : x2.cell? ⟨w.heap.size, 4, none⟩ = some (.slice r.a4 m.inputs.length r.c4) := (blk_cell HX.out.b1 4).trans rfl
  have h4 : x2.cell? ⟨w.heap.size + 1, 4, none⟩ = some (.slice r2.a4 m.inputs.length r2.c4) := (blk_cell HX.out.b2 4).trans rfl
  have g5 : x2.cell? ⟨w.heap.size, 5, none⟩ = some (.slice r.a5 m.sinks.length r.c5) := (blk_cell HX.out.b1 5).trans rfl
  have h5 : x2.cell? ⟨w.heap.size + 1, 5, none⟩ = some (.slice r2.a5 m.sinks.length r2.c5) := (blk_cell HX.out.b2 5).trans rfl
  have g6 : x2.cell? ⟨w.heap.size, 6, none⟩ = some (.slice r.a6 m.hatches.length r.c6) := (blk_cell HX.out.b1 6).trans rfl
  have h6 : x2.cell? ⟨w.heap.size + 1, 6, none⟩ = some (.slice r2.a6 m.hatches.length r2.c6) := (blk_cell HX.out.b2 6).trans rfl
  have g7 : x2.cell? ⟨w.heap.size, 7, none⟩ = some (.slice r.a7 m.funcs.length r.c7) := (blk_cell HX.out.b1 7).trans rfl
  have h7 : x2.cell? ⟨w.heap.size + 1, 7, none⟩ = some (.slice r2.a7 m.funcs.length r2.c7) := (blk_cell HX.out.b2 7).trans rfl
  have g8 : x2.cell? ⟨w.heap.size, 8, none⟩ = some (.slice r.a8 m.threads.length r.c8) := (blk_cell HX.out.b1 8).trans rfl
  have h8 : x2.cell? ⟨w.heap.size + 1, 8, none⟩ = some (.slice r2.a8 m.threads.length r2.c8) := (blk_cell HX.out.b2 8).trans rfl
  have C2 := Aside0.mk (sameSizedR r.a2 r2.a2 r.c2 r2.c2 m.chans x2 HX.out.m1.h2 HK.out.k2 HX.out.m2.h2 HK2.out.k2 HS.out.l2)
  go_wp2_with fail
  refine C2.out.mono ?_
  rintro e x3 ⟨rfl, d⟩
  have HX := Aside0.mk (HX.out.below d.below)
  clear d C2  g0 h0 g1 h1 g2 h2 g3 h3 g4 h4 g5 h5 g6 h6 g7 h7 g8 h8
  have g0 : x3.cell? ⟨w.heap.size, 0, none⟩ = some (.slice r.a0 m.globals.length r.c0) := (blk_cell HX.out.b1 0).trans rfl
  have h0 : x3.cell? ⟨w.heap.size + 1, 0, none⟩ = some (.slice r2.a0 m.globals.length r2.c0) := (blk_cell HX.out.b2 0).trans rfl
  have g1 : x3.cell? ⟨w.heap.size, 1, none⟩ = some (.slice r.a1 m.structs.length r.c1) := (blk_cell HX.out.b1 1).trans rfl
  have h1 : x3.cell? ⟨w.heap.size + 1, 1, none⟩ = some (.slice r2.a1 m.structs.length r2.c1) := (blk_cell HX.out.b2 1).trans rfl
  have g2 : x3.cell? ⟨w.heap.size, 2, none⟩ = some (.slice r.a2 m.chans.length r.c2) := (blk_cell HX.out.b1 2).trans rfl
  have h2 : x3.cell? ⟨w.heap.size + 1, 2, none⟩ = some (.slice r2.a2 m.chans.length r2.c2) := (blk_cell HX.out.b2 2).trans rfl
  have g3 : x3.cell? ⟨w.heap.size, 3, none⟩ = some (.slice r.a3 m.locks.length r.c3) := (blk_cell HX.out.b1 3).trans rfl
  have h3 : x3.cell? ⟨w.heap.size + 1, 3, none⟩ = some (.slice r2.a3 m.locks.length r2.c3) := (blk_cell HX.out.b2 3).trans rfl
  have g4 : x3.cell? ⟨w.heap.size, 4, none⟩ = some (.slice r.a4 m.inputs.length r.c4) := (blk_cell HX.out.b1 4).trans rfl
  have h4 : x3.cell? ⟨w.heap.size + 1, 4, none⟩ = some (.slice r2.a4 m.inputs.length r2.c4) := (blk_cell HX.out.b2 4).trans rfl
  have g5 : x3.cell? ⟨w.heap.size, 5, none⟩ = some (.slice r.a5 m.sinks.length r.c5) := (blk_cell HX.out.b1 5).trans rfl
  have h5 : x3.cell? ⟨w.heap.size + 1, 5, none⟩ = some (.slice r2.a5 m.sinks.length r2.c5) := (blk_cell HX.out.b2 5).trans rfl
  have g6 : x3.cell? ⟨w.heap.size, 6, none⟩ = some (.slice r.a6 m.hatches.length r.c6) := (blk_cell HX.out.b1 6).trans rfl
  have h6 : x3.cell? ⟨w.heap.size + 1, 6, none⟩ = some (.slice r2.a6 m.hatches.length r2.c6) := (blk_cell HX.out.b2 6).trans rfl
  have g7 : x3.cell? ⟨w.heap.size, 7, none⟩ = some (.slice r.a7 m.funcs.length r.c7) := (blk_cell HX.out.b1 7).trans rfl
  have h7 : x3.cell? ⟨w.heap.size + 1, 7, none⟩ = some (.slice r2.a7 m.funcs.length r2.c7) := (blk_cell HX.out.b2 7).trans rfl
  have g8 : x3.cell? ⟨w.heap.size, 8, none⟩ = some (.slice r.a8 m.threads.length r.c8) := (blk_cell HX.out.b1 8).trans rfl
  have h8 : x3.cell? ⟨w.heap.size + 1, 8, none⟩ = some (.slice r2.a8 m.threads.length r2.c8) := (blk_cell HX.out.b2 8).trans rfl
  have C3 := Aside0.mk (sameTextsR r.a3 r2.a3 r.c3 r2.c3 m.locks x3 HX.out.m1.h3 HK.out.k3 HX.out.m2.h3 HK2.out.k3 HS.out.l3)
  go_wp2_with fail
  refine C3.out.mono ?_
  rintro e x4 ⟨rfl, d⟩
  have HX := Aside0.mk (HX.out.below d.below)
  clear d C3  g0 h0 g1 h1 g2 h2 g3 h3 g4 h4 g5 h5 g6 h6 g7 h7 g8 h8
  have g0 : x4.cell? ⟨w.heap.size, 0, none⟩ = some (.slice r.a0 m.globals.length r.c0) := (blk_cell HX.out.b1 0).trans rfl
  have h0 : x4.cell? ⟨w.heap.size + 1, 0, none⟩ = some (.slice r2.a0 m.globals.length r2.c0) := (blk_cell HX.out.b2 0).trans rfl
  have g1 : x4.cell? ⟨w.heap.size, 1, none⟩ = some (.slice r.a1 m.structs.length r.c1) := (blk_cell HX.out.b1 1).trans rfl
  have h1 : x4.cell? ⟨w.heap.size + 1, 1, none⟩ = some (.slice r2.a1 m.structs.length r2.c1) := (blk_cell HX.out.b2 1).trans rfl
  have g2 : x4.cell? ⟨w.heap.size, 2, none⟩ = some (.slice r.a2 m.chans.length r.c2) := (blk_cell HX.out.b1 2).trans rfl
  have h2 : x4.cell? ⟨w.heap.size + 1, 2, none⟩ = some (.slice r2.a2 m.chans.length r2.c2) := (blk_cell HX.out.b2 2).trans rfl
  have g3 : x4.cell? ⟨w.heap.size, 3, none⟩ = some (.slice r.a3 m.locks.length r.c3) := (blk_cell HX.out.b1 3).trans rfl
  have h3 : x4.cell? ⟨w.heap.size + 1, 3, none⟩ = some (.slice r2.a3 m.locks.length r2.c3) := (blk_cell HX.out.b2 3).trans rfl
  have g4 : x4.cell? ⟨w.heap.size, 4, none⟩ = some (.slice r.a4 m.inputs.length r.c4) := (blk_cell HX.out.b1 4).trans rfl
  have h4 : x4.cell? ⟨w.heap.size + 1, 4, none⟩ = some (.slice r2.a4 m.inputs.length r2.c4) := (blk_cell HX.out.b2 4).trans rfl
  have g5 : x4.cell? ⟨w.heap.size, 5, none⟩ = some (.slice r.a5 m.sinks.length r.c5) := (blk_cell HX.out.b1 5).trans rfl
  have h5 : x4.cell? ⟨w.heap.size + 1, 5, none⟩ = some (.slice r2.a5 m.sinks.length r2.c5) := (blk_cell HX.out.b2 5).trans rfl
  have g6 : x4.cell? ⟨w.heap.size, 6, none⟩ = some (.slice r.a6 m.hatches.length r.c6) := (blk_cell HX.out.b1 6).trans rfl
  have h6 : x4.cell? ⟨w.heap.size + 1, 6, none⟩ = some (.slice r2.a6 m.hatches.length r2.c6) := (blk_cell HX.out.b2 6).trans rfl
  have g7 : x4.cell? ⟨w.heap.size, 7, none⟩ = some (.slice r.a7 m.funcs.length r.c7) := (blk_cell HX.out.b1 7).trans rfl
  have h7 : x4.cell? ⟨w.heap.size + 1, 7, none⟩ = some (.slice r2.a7 m.funcs.length r2.c7) := (blk_cell HX.out.b2 7).trans rfl
  have g8 : x4.cell? ⟨w.heap.size, 8, none⟩ = some (.slice r.a8 m.threads.length r.c8) := (blk_cell HX.out.b1 8).trans rfl
  have h8 : x4.cell? ⟨w.heap.size + 1, 8, none⟩ = some (.slice r2.a8 m.threads.length r2.c8) := (blk_cell HX.out.b2 8).trans rfl
  have C4 := Aside0.mk (sameTextsR r.a4 r2.a4 r.c4 r2.c4 m.inputs x4 HX.out.m1.h4 HK.out.k4 HX.out.m2.h4 HK2.out.k4 HS.out.l4)
  go_wp2_with fail
  refine C4.out.mono ?_
  rintro e x5 ⟨rfl, d⟩
  have HX := Aside0.mk (HX.out.below d.below)
  clear d C4  g0 h0 g1 h1 g2 h2 g3 h3 g4 h4 g5 h5 g6 h6 g7 h7 g8 h8
  have g0 : x5.cell? ⟨w.heap.size, 0, none⟩ = some (.slice r.a0 m.globals.length r.c0) := (blk_cell HX.out.b1 0).trans rfl
  have h0 : x5.cell? ⟨w.heap.size + 1, 0, none⟩ = some (.slice r2.a0 m.globals.length r2.c0) := (blk_cell HX.out.b2 0).trans rfl
  have g1 : x5.cell? ⟨w.heap.size, 1, none⟩ = some (.slice r.a1 m.structs.length r.c1) := (blk_cell HX.out.b1 1).trans rfl
  have h1 : x5.cell? ⟨w.heap.size + 1, 1, none⟩ = some (.slice r2.a1 m.structs.length r2.c1) := (blk_cell HX.out.b2 1).trans rfl
  have g2 : x5.cell? ⟨w.heap.size, 2, none⟩ = some (.slice r.a2 m.chans.length r.c2) := (blk_cell HX.out.b1 2).trans rfl
  have h2 : x5.cell? ⟨w.heap.size + 1, 2, none⟩ = some (.slice r2.a2 m.chans.length r2.c2) := (blk_cell HX.out.b2 2).trans rfl
  have g3 : x5.cell? ⟨w.heap.size, 3, none⟩ = some (.slice r.a3 m.locks.length r.c3) := (blk_cell HX.out.b1 3).trans rfl
  have h3 : x5.cell? ⟨w.heap.size + 1, 3, none⟩ = some (.slice r2.a3 m.locks.length r2.c3) := (blk_cell HX.out.b2 3).trans rfl
  have g4 : x5.cell? ⟨w.heap.size, 4, none⟩ = some (.slice r.a4 m.inputs.length r.c4) := (blk_cell HX.out.b1 4).trans rfl
  have h4 : x5.cell? ⟨w.heap.size + 1, 4, none⟩ = some (.slice r2.a4 m.inputs.length r2.c4) := (blk_cell HX.out.b2 4).trans rfl
  have g5 : x5.cell? ⟨w.heap.size, 5, none⟩ = some (.slice r.a5 m.sinks.length r.c5) := (blk_cell HX.out.b1 5).trans rfl
  have h5 : x5.cell? ⟨w.heap.size + 1, 5, none⟩ = some (.slice r2.a5 m.sinks.length r2.c5) := (blk_cell HX.out.b2 5).trans rfl
  have g6 : x5.cell? ⟨w.heap.size, 6, none⟩ = some (.slice r.a6 m.hatches.length r.c6) := (blk_cell HX.out.b1 6).trans rfl
  have h6 : x5.cell? ⟨w.heap.size + 1, 6, none⟩ = some (.slice r2.a6 m.hatches.length r2.c6) := (blk_cell HX.out.b2 6).trans rfl
  have g7 : x5.cell? ⟨w.heap.size, 7, none⟩ = some (.slice r.a7 m.funcs.length r.c7) := (blk_cell HX.out.b1 7).trans rfl
  have h7 : x5.cell? ⟨w.heap.size + 1, 7, none⟩ = some (.slice r2.a7 m.funcs.length r2.c7) := (blk_cell HX.out.b2 7).trans rfl
  have g8 : x5.cell? ⟨w.heap.size, 8, none⟩ = some (.slice r.a8 m.threads.length r.c8) := (blk_cell HX.out.b1 8).trans rfl
  have h8 : x5.cell? ⟨w.heap.size + 1, 8, none⟩ = some (.slice r2.a8 m.threads.length r2.c8) := (blk_cell HX.out.b2 8).trans rfl
  have C5 := Aside0.mk (sameTextsR r.a5 r2.a5 r.c5 r2.c5 m.sinks x5 HX.out.m1.h5 HK.out.k5 HX.out.m2.h5 HK2.out.k5 HS.out.l5)
  go_wp2_with fail
  refine C5.out.mono ?_
  rintro e x6 ⟨rfl, d⟩
  have HX := Aside0.mk (HX.out.below d.below)
  clear d C5  g0 h0 g1 h1 g2 h2 g3 h3 g4 h4 g5 h5 g6 h6 g7 h7 g8 h8
  have g0 : x6.cell? ⟨w.heap.size, 0, none⟩ = some (.slice r.a0 m.globals.length r.c0) := (blk_cell HX.out.b1 0).trans rfl
  have h0 : x6.cell? ⟨w.heap.size + 1, 0, none⟩ = some (.slice r2.a0 m.globals.length r2.c0) := (blk_cell HX.out.b2 0).trans rfl
  have g1 : x6.cell? ⟨w.heap.size, 1, none⟩ = some (.slice r.a1 m.structs.length r.c1) := (blk_cell HX.out.b1 1).trans rfl
  have h1 : x6.cell? ⟨w.heap.size + 1, 1, none⟩ = some (.slice r2.a1 m.structs.length r2.c1) := (blk_cell HX.out.b2 1).trans rfl
  have g2 : x6.cell? ⟨w.heap.size, 2, none⟩ = some (.slice r.a2 m.chans.length r.c2) := (blk_cell HX.out.b1 2).trans rfl
  have h2 : x6.cell? ⟨w.heap.size + 1, 2, none⟩ = some (.slice r2.a2 m.chans.length r2.c2) := (blk_cell HX.out.b2 2).trans rfl
  have g3 : x6.cell? ⟨w.heap.size, 3, none⟩ = some (.slice r.a3 m.locks.length r.c3) := (blk_cell HX.out.b1 3).trans rfl
  have h3 : x6.cell? ⟨w.heap.size + 1, 3, none⟩ = some (.slice r2.a3 m.locks.length r2.c3) := (blk_cell HX.out.b2 3).trans rfl
  have g4 : x6.cell? ⟨w.heap.size, 4, none⟩ = some (.slice r.a4 m.inputs.length r.c4) := (blk_cell HX.out.b1 4).trans rfl
  have h4 : x6.cell? ⟨w.heap.size + 1, 4, none⟩ = some (.slice r2.a4 m.inputs.length r2.c4) := (blk_cell HX.out.b2 4).trans rfl
  have g5 : x6.cell? ⟨w.heap.size, 5, none⟩ = some (.slice r.a5 m.sinks.length r.c5) := (blk_cell HX.out.b1 5).trans rfl
  have h5 : x6.cell? ⟨w.heap.size + 1, 5, none⟩ = some (.slice r2.a5 m.sinks.length r2.c5) := (blk_cell HX.out.b2 5).trans rfl
  have g6 : x6.cell? ⟨w.heap.size, 6, none⟩ = some (.slice r.a6 m.hatches.length r.c6) := (blk_cell HX.out.b1 6).trans rfl
  have h6 : x6.cell? ⟨w.heap.size + 1, 6, none⟩ = some (.slice r2.a6 m.hatches.length r2.c6) := (blk_cell HX.out.b2 6).trans rfl
  have g7 : x6.cell? ⟨w.heap.size, 7, none⟩ = some (.slice r.a7 m.funcs.length r.c7) := (blk_cell HX.out.b1 7).trans rfl
  have h7 : x6.cell? ⟨w.heap.size + 1, 7, none⟩ = some (.slice r2.a7 m.funcs.length r2.c7) := (blk_cell HX.out.b2 7).trans rfl
  have g8 : x6.cell? ⟨w.heap.size, 8, none⟩ = some (.slice r.a8 m.threads.length r.c8) := (blk_cell HX.out.b1 8).trans rfl
  have h8 : x6.cell? ⟨w.heap.size + 1, 8, none⟩ = some (.slice r2.a8 m.threads.length r2.c8) := (blk_cell HX.out.b2 8).trans rfl
  have C6 := Aside0.mk (sameTextsR r.a6 r2.a6 r.c6 r2.c6 m.hatches x6 HX.out.m1.h6 HK.out.k6 HX.out.m2.h6 HK2.out.k6 HS.out.l6)
  go_wp2_with fail
  refine C6.out.mono ?_
  rintro e x7 ⟨rfl, d⟩
  have HX := Aside0.mk (HX.out.below d.below)
  clear d C6  g0 h0 g1 h1 g2 h2 g3 h3 g4 h4 g5 h5 g6 h6 g7 h7 g8 h8
  have g0 : x7.cell? ⟨w.heap.size, 0, none⟩ = some (.slice r.a0 m.globals.length r.c0) := (blk_cell HX.out.b1 0).trans rfl
  have h0 : x7.cell? ⟨w.heap.size + 1, 0, none⟩ = some (.slice r2.a0 m.globals.length r2.c0) := (blk_cell HX.out.b2 0).trans rfl
  have g1 : x7.cell? ⟨w.heap.size, 1, none⟩ = some (.slice r.a1 m.structs.length r.c1) := (blk_cell HX.out.b1 1).trans rfl
  have h1 : x7.cell? ⟨w.heap.size + 1, 1, none⟩ = some (.slice r2.a1 m.structs.length r2.c1) := (blk_cell HX.out.b2 1).trans rfl
  have g2 : x7.cell? ⟨w.heap.size, 2, none⟩ = some (.slice r.a2 m.chans.length r.c2) := (blk_cell HX.out.b1 2).trans rfl
  have h2 : x7.cell? ⟨w.heap.size + 1, 2, none⟩ = some (.slice r2.a2 m.chans.length r2.c2) := (blk_cell HX.out.b2 2).trans rfl
  have g3 : x7.cell? ⟨w.heap.size, 3, none⟩ = some (.slice r.a3 m.locks.length r.c3) := (blk_cell HX.out.b1 3).trans rfl
  have h3 : x7.cell? ⟨w.heap.size + 1, 3, none⟩ = some (.slice r2.a3 m.locks.length r2.c3) := (blk_cell HX.out.b2 3).trans rfl
  have g4 : x7.cell? ⟨w.heap.size, 4, none⟩ = some (.slice r.a4 m.inputs.length r.c4) := (blk_cell HX.out.b1 4).trans rfl
  have h4 : x7.cell? ⟨w.heap.size + 1, 4, none⟩ = some (.slice r2.a4 m.inputs.length r2.c4) := (blk_cell HX.out.b2 4).trans rfl
  have g5 : x7.cell? ⟨w.heap.size, 5, none⟩ = some (.slice r.a5 m.sinks.length r.c5) := (blk_cell HX.out.b1 5).trans rfl
  have h5 : x7.cell? ⟨w.heap.size + 1, 5, none⟩ = some (.slice r2.a5 m.sinks.length r2.c5) := (blk_cell HX.out.b2 5).trans rfl
  have g6 : x7.cell? ⟨w.heap.size, 6, none⟩ = some (.slice r.a6 m.hatches.length r.c6) := (blk_cell HX.out.b1 6).trans rfl
  have h6 : x7.cell? ⟨w.heap.size + 1, 6, none⟩ = some (.slice r2.a6 m.hatches.length r2.c6) := (blk_cell HX.out.b2 6).trans rfl
  have g7 : x7.cell? ⟨w.heap.size, 7, none⟩ = some (.slice r.a7 m.funcs.length r.c7) := (blk_cell HX.out.b1 7).trans rfl
  have h7 : x7.cell? ⟨w.heap.size + 1, 7, none⟩ = some (.slice r2.a7 m.funcs.length r2.c7) := (blk_cell HX.out.b2 7).trans rfl
  have g8 : x7.cell? ⟨w.heap.size, 8, none⟩ = some (.slice r.a8 m.threads.length r.c8) := (blk_cell HX.out.b1 8).trans rfl
  have h8 : x7.cell? ⟨w.heap.size + 1, 8, none⟩ = some (.slice r2.a8 m.threads.length r2.c8) := (blk_cell HX.out.b2 8).trans rfl
  have C8 := Aside0.mk (sameIntsR r.a8 r2.a8 r.c8 r2.c8 m.threads x7 HX.out.m1.h8 HK.out.k8 HX.out.m2.h8 HK2.out.k8 HS.out.l8)
  go_wp2_with fail
  refine C8.out.mono ?_
  rintro e x8 ⟨rfl, d⟩
  have HX := Aside0.mk (HX.out.below d.below)
  clear d C8  g0 h0 g1 h1 g2 h2 g3 h3 g4 h4 g5 h5 g6 h6 g7 h7 g8 h8
  have g0 : x8.cell? ⟨w.heap.size, 0, none⟩ = some (.slice r.a0 m.globals.length r.c0) := (blk_cell HX.out.b1 0).trans rfl
  have h0 : x8.cell? ⟨w.heap.size + 1, 0, none⟩ = some (.slice r2.a0 m.globals.length r2.c0) := (blk_cell HX.out.b2 0).trans rfl
  have g1 : x8.cell? ⟨w.heap.size, 1, none⟩ = some (.slice r.a1 m.structs.length r.c1) := (blk_cell HX.out.b1 1).trans rfl
  have h1 : x8.cell? ⟨w.heap.size + 1, 1, none⟩ = some (.slice r2.a1 m.structs.length r2.c1) := (blk_cell HX.out.b2 1).trans rfl
  have g2 : x8.cell? ⟨w.heap.size, 2, none⟩ = some (.slice r.a2 m.chans.length r.c2) := (blk_cell HX.out.b1 2).trans rfl
  have h2 : x8.cell? ⟨w.heap.size + 1, 2, none⟩ = some (.slice r2.a2 m.chans.length r2.c2) := (blk_cell HX.out.b2 2).trans rfl
  have g3 : x8.cell? ⟨w.heap.size, 3, none⟩ = some (.slice r.a3 m.locks.length r.c3) := (blk_cell HX.out.b1 3).trans rfl
  have h3 : x8.cell? ⟨w.heap.size + 1, 3, none⟩ = some (.slice r2.a3 m.locks.length r2.c3) := (blk_cell HX.out.b2 3).trans rfl
  have g4 : x8.cell? ⟨w.heap.size, 4, none⟩ = some (.slice r.a4 m.inputs.length r.c4) := (blk_cell HX.out.b1 4).trans rfl
  have h4 : x8.cell? ⟨w.heap.size + 1, 4, none⟩ = some (.slice r2.a4 m.inputs.length r2.c4) := (blk_cell HX.out.b2 4).trans rfl
  have g5 : x8.cell? ⟨w.heap.size, 5, none⟩ = some (.slice r.a5 m.sinks.length r.c5) := (blk_cell HX.out.b1 5).trans rfl
  have h5 : x8.cell? ⟨w.heap.size + 1, 5, none⟩ = some (.slice r2.a5 m.sinks.length r2.c5) := (blk_cell HX.out.b2 5).trans rfl
  have g6 : x8.cell? ⟨w.heap.size, 6, none⟩ = some (.slice r.a6 m.hatches.length r.c6) := (blk_cell HX.out.b1 6).trans rfl
  have h6 : x8.cell? ⟨w.heap.size + 1, 6, none⟩ = some (.slice r2.a6 m.hatches.length r2.c6) := (blk_cell HX.out.b2 6).trans rfl
  have g7 : x8.cell? ⟨w.heap.size, 7, none⟩ = some (.slice r.a7 m.funcs.length r.c7) := (blk_cell HX.out.b1 7).trans rfl
  have h7 : x8.cell? ⟨w.heap.size + 1, 7, none⟩ = some (.slice r2.a7 m.funcs.length r2.c7) := (blk_cell HX.out.b2 7).trans rfl
  have g8 : x8.cell? ⟨w.heap.size, 8, none⟩ = some (.slice r.a8 m.threads.length r.c8) := (blk_cell HX.out.b1 8).trans rfl
  have h8 : x8.cell? ⟨w.heap.size + 1, 8, none⟩ = some (.slice r2.a8 m.threads.length r2.c8) := (blk_cell HX.out.b2 8).trans rfl
  go_wp2_with fail
  clear g0 h0 g1 h1 g2 h2 g3 h3 g4 h4 g5 h5 g6 h6 g7 h7 g8 h8
  go_loopw [5] (fun i wr => ∃ k : Nat, i = .int .i64 k ∧ k ≤ m.funcs.length ∧ Aside0 (TW w wr r r2 m)) (fun i _ => m.funcs.length - (intOf i).toNat)
  case atStart => exact ⟨0, rfl, Nat.zero_le _, HX⟩
  case round =>
    clear HX
    obtain ⟨k, rfl, hk, HX⟩ := hrel
    obtain ⟨wi, rfl⟩ : ∃ wi : World, wi = wr := ⟨_, rfl⟩
    have g7 : wi.cell? ⟨w.heap.size, 7, none⟩ = some (.slice r.a7 m.funcs.length r.c7) := (blk_cell HX.out.b1 7).trans rfl
    have h7 : wi.cell? ⟨w.heap.size + 1, 7, none⟩ = some (.slice r2.a7 m.funcs.length r2.c7) := (blk_cell HX.out.b2 7).trans rfl
    by_cases hlt : k < m.funcs.length
    · obtain ⟨ad, A4, c4, eA, e0, e1, e2, e3, e4, el, eC⟩ := at_T39 HX.out.m1.h7 (k : Int) (by omega) (by omega)
      obtain ⟨ad', A4', c4', eA', e0', e1', e2', e3', e4', el', eC'⟩ := at_T39 HX.out.m2.h7 (k : Int) (by omega) (by omega)
      rw [Int.toNat_natCast] at e0 e1 e2 e3 e4 e0' e1' e2' e3' e4'
      rw [eA] at g7
      rw [eA'] at h7
      have HZF := Aside0.mk (HZ.out _ (rd39_mem m.funcs k hlt))
      have hfl := HFL.out _ (rd39_mem m.funcs k hlt)
      obtain ⟨f, hf⟩ : ∃ f, rd_T39 m.funcs (k : Int) = f := ⟨_, rfl⟩
      rw [hf] at e0 e1 e2 e3 e4 e0' e1' e2' e3' e4' eC eC' HZF hfl
      have hst := store39 wi f.f0 f.f1 f.f2 f.f3 (.slice A4 f.f4.length c4) rfl
      have ba := below_alloc (Below.refl wi.heap.size wi) (.cells #[.string f.f0, .int .i64 f.f1, .int .i64 f.f2, .int .i64 f.f3, .slice A4 f.f4.length c4] 39)
      have bn := blk_new wi (.cells #[.string f.f0, .int .i64 f.f1, .int .i64 f.f2, .int .i64 f.f3, .slice A4 f.f4.length c4] 39)
      obtain ⟨wa, hwa⟩ : ∃ wa, wi.alloc (.cells #[.string f.f0, .int .i64 f.f1, .int .i64 f.f2, .int .i64 f.f3, .slice A4 f.f4.length c4] 39) = wa := ⟨_, rfl⟩
      rw [hwa] at ba bn hst
      have hst2 := store39 wa f.f0 f.f1 f.f2 f.f3 (.slice A4' f.f4.length c4') rfl
      have ba2 := below_alloc (Below.refl wa.heap.size wa) (.cells #[.string f.f0, .int .i64 f.f1, .int .i64 f.f2, .int .i64 f.f3, .slice A4' f.f4.length c4'] 39)
      have bn2 := blk_new wa (.cells #[.string f.f0, .int .i64 f.f1, .int .i64 f.f2, .int .i64 f.f3, .slice A4' f.f4.length c4'] 39)
      obtain ⟨wb, hwb⟩ : ∃ wb, wa.alloc (.cells #[.string f.f0, .int .i64 f.f1, .int .i64 f.f2, .int .i64 f.f3, .slice A4' f.f4.length c4'] 39) = wb := ⟨_, rfl⟩
      rw [hwb] at ba2 bn2 hst2
      have hia := HX.out.below ba
      have h7a : wa.cell? ⟨w.heap.size + 1, 7, none⟩ = some (.slice (some ad') m.funcs.length r2.c7) := (ba.cell (World.block_lt_of_cell? _ _ h7)).trans h7
      have e0a := (ba.cell (World.block_lt_of_cell? _ _ e0')).trans e0'
      have e1a := (ba.cell (World.block_lt_of_cell? _ _ e1')).trans e1'
      have e2a := (ba.cell (World.block_lt_of_cell? _ _ e2')).trans e2'
      have e3a := (ba.cell (World.block_lt_of_cell? _ _ e3')).trans e3'
      have e4a := (ba.cell (World.block_lt_of_cell? _ _ e4')).trans e4'
      have bn1 := blk_below bn ba2
      have N1 := Aside0.mk bn1
      have N2 := Aside0.mk bn2
      have HXB := Aside0.mk (hia.below ba2)
      have E1 := Aside0.mk (Kd.C_below (Kd.C_below eC ba) ba2)
      have E2 := Aside0.mk (Kd.C_below (Kd.C_below eC' ba) ba2)
      have bsz : Aside0 (wi.heap.size < wb.heap.size ∧ wa.heap.size < wb.heap.size) := ⟨blk_lt bn1, blk_lt bn2⟩
      have p0 : wb.cell? ⟨wi.heap.size, 0, none⟩ = some (.string f.f0) := (blk_cell bn1 0).trans rfl
      have p1 : wb.cell? ⟨wi.heap.size, 1, none⟩ = some (.int .i64 f.f1) := (blk_cell bn1 1).trans rfl
      have p2 : wb.cell? ⟨wi.heap.size, 2, none⟩ = some (.int .i64 f.f2) := (blk_cell bn1 2).trans rfl
      have p3 : wb.cell? ⟨wi.heap.size, 3, none⟩ = some (.int .i64 f.f3) := (blk_cell bn1 3).trans rfl
      have p4 : wb.cell? ⟨wi.heap.size, 4, none⟩ = some (.slice A4 f.f4.length c4) := (blk_cell bn1 4).trans rfl
      have s0 : wb.cell? ⟨wa.heap.size, 0, none⟩ = some (.string f.f0) := (blk_cell bn2 0).trans rfl
      have s1 : wb.cell? ⟨wa.heap.size, 1, none⟩ = some (.int .i64 f.f1) := (blk_cell bn2 1).trans rfl
      have s2 : wb.cell? ⟨wa.heap.size, 2, none⟩ = some (.int .i64 f.f2) := (blk_cell bn2 2).trans rfl
      have s3 : wb.cell? ⟨wa.heap.size, 3, none⟩ = some (.int .i64 f.f3) := (blk_cell bn2 3).trans rfl
      have s4 : wb.cell? ⟨wa.heap.size, 4, none⟩ = some (.slice A4' f.f4.length c4') := (blk_cell bn2 4).trans rfl
      clear eA eA' el el' eC eC' hf ba ba2 bn bn1 bn2 hia
      go_wp2_with fail
      clear p0 p1 p2 p3 p4 s0 s1 s2 s3 s4 g7 h7 h7a e0 e1 e2 e3 e4 e0' e1' e2' e3' e4' e0a e1a e2a e3a e4a hst hst2 hwa hwb
      obtain ⟨n1, hn1⟩ : ∃ n1, wi.heap.size = n1 := ⟨_, rfl⟩
      obtain ⟨n2, hn2⟩ : ∃ n2, wa.heap.size = n2 := ⟨_, rfl⟩
      rw [hn1] at N1 bsz ⊢
      rw [hn2] at N2 bsz ⊢
      clear hn1 hn2
      go_loopw [8] (fun i wr => ∃ b : Nat, i = .int .i64 b ∧ b ≤ f.f4.length ∧ Aside0 (Below wb.heap.size wb wr)) (fun i _ => f.f4.length - (intOf i).toNat)
      case atStart => exact ⟨0, rfl, Nat.zero_le _, ⟨Below.refl _ _⟩⟩
      case round =>
        obtain ⟨b, rfl, hb, HB⟩ := hrel
        obtain ⟨wq, rfl⟩ : ∃ wi : World, wi = wr := ⟨_, rfl⟩
        have p4 : wq.cell? ⟨n1, 4, none⟩ = some (.slice A4 f.f4.length c4) := (blk_cell (blk_below N1.out HB.out) 4).trans rfl
        have s4 : wq.cell? ⟨n2, 4, none⟩ = some (.slice A4' f.f4.length c4') := (blk_cell (blk_below N2.out HB.out) 4).trans rfl
        by_cases hlb : b < f.f4.length
        · obtain ⟨ad9, A9, c9, eB, o0, o1, o2, o3, o4, o5, o6, o7, o8, o9, o10, o11, ol, oC⟩ := at_T42 (Kd.C_below E1.out HB.out) (b : Int) (by omega) (by omega)
          obtain ⟨ad9', A9', c9', eB', o0', o1', o2', o3', o4', o5', o6', o7', o8', o9', o10', o11', ol', oC'⟩ := at_T42 (Kd.C_below E2.out HB.out) (b : Int) (by omega) (by omega)
          rw [Int.toNat_natCast] at o0 o1 o2 o3 o4 o5 o6 o7 o8 o9 o10 o11 o0' o1' o2' o3' o4' o5' o6' o7' o8' o9' o10' o11'
          rw [eB] at p4
          rw [eB'] at s4
          have hol := HZF.out _ (rd42_mem f.f4 b hlb)
          obtain ⟨o, ho⟩ : ∃ o, rd_T42 f.f4 (b : Int) = o := ⟨_, rfl⟩
          rw [ho] at o0 o1 o2 o3 o4 o5 o6 o7 o8 o9 o10 o11 ol oC o0' o1' o2' o3' o4' o5' o6' o7' o8' o9' o10' o11' ol' oC' hol
          have bd := Aside0.mk (below_drew (Below.refl wq.heap.size wq))
          have CO := Aside0.mk (sameOpR o A9 A9' c9 c9' wq.drew (Kd.C_below oC bd.out) ol (Kd.C_below oC' bd.out) ol' hol)
          clear ho oC oC' ol ol' eB eB' hol
          go_wp2_with fail
          go_still_tail 10, (by kernel_rfl)
          go_wp2_with fail
          refine CO.out.mono ?_
          rintro e w9 ⟨rfl, b9⟩
          have HB9 := Aside0.mk (below_then HB.out HB.out.size (below_then bd.out (Nat.le_refl _) b9))
          clear b9 CO bd o0 o1 o2 o3 o4 o5 o6 o7 o8 o9 o10 o11 o0' o1' o2' o3' o4' o5' o6' o7' o8' o9' o10' o11' p4 s4
          go_wp2_with fail
          go_roundw
          case rel => exact ⟨b + 1, by go_num, by omega, HB9⟩
          case measure => simp [intOf]; omega
        · have HX1 := Aside0.mk (HXB.out.below HB.out)
          go_wp2_with fail
          go_roundw
          case rel => exact ⟨k + 1, by go_num, by omega, HX1⟩
          case measure => simp [intOf]; omega
    · have HBX := HX.out.bel
      have HBX := Aside0.mk HBX
      go_wp2_with fail
      go_ret
      exact ⟨rfl, HBX.out⟩
end Go.Proofs.YtdapiibllblpbaaDoor.Code
