import Derived.Test.YtdapiibllblpbaaDoorSB
import Derived.Deep.QuietTactic
import Derived.BigQuiet
import Derived.Deep.DeepCutAuto
import Derived.Deep.CutBlock
namespace Go.Proofs.YtdapiibllblpbaaDoor.Code
open Go.RowKit Go.Proofs.YtdapiibllblpbaaDoorW.PrintWords Go.Proofs.YtdapiibllblpbaaDoorW.PrintLast Go.Proofs.YtdapiibllblpbaaDoorW.PrintMore Go.Proofs.YtdapiibllblpbaaDoor.PCodeAnswers
set_option linter.unusedVariables false
set_option linter.unusedSimpArgs false

theorem fnAt_mem (m : Md) (i : Int) (h0 : 0 ≤ i) (h1 : i < m.funcs.length) : fnAt m i ∈ m.funcs := by
  unfold fnAt
  rw [List.getD_eq_getElem?_getD, List.getElem?_eq_getElem (by omega)]
  exact List.getElem_mem _
/-- The three boxes. -/
structure OB (w w0 : World) (r : MdR) (m : Md) (f : S39) (A4 : Option Addr) (c4 : Nat) (o : S42) (A : Option Addr) (c : Nat) : Prop where
  hm : w0.heap[w.heap.size]? = some (.cells (mdW r m).toArray 27 (0, 0))
  hf : w0.heap[w.heap.size + 1]? = some (.cells #[.string f.f0, .int .i64 f.f1, .int .i64 f.f2, .int .i64 f.f3, .slice A4 f.f4.length c4] 39 (0, 0))
  ho : w0.heap[w.heap.size + 2]? = some (.cells (opW o A c).toArray 42 (0, 0))
  hb : Below w.heap.size w w0
theorem OB.below {w w0 w1 : World} {r : MdR} {m : Md} {f : S39} {A4 : Option Addr} {c4 : Nat} {o : S42} {A : Option Addr} {c : Nat} (h : OB w w0 r m f A4 c4 o A c) (b : Below w0.heap.size w0 w1) : OB w w1 r m f A4 c4 o A c :=
  ⟨blk_below h.hm b, blk_below h.hf b, blk_below h.ho b, below_then h.hb h.hb.size b⟩
theorem OB.start (w : World) (r : MdR) (m : Md) (f : S39) (A4 : Option Addr) (c4 : Nat) (o : S42) (A : Option Addr) (c : Nat) :
    OB w (((w.alloc (.cells (mdW r m).toArray 27)).alloc (.cells #[.string f.f0, .int .i64 f.f1, .int .i64 f.f2, .int .i64 f.f3, .slice A4 f.f4.length c4] 39)).alloc (.cells (opW o A c).toArray 42)) r m f A4 c4 o A c := by
  refine ⟨blk_alloc (blk_alloc (blk_new w _) _) _, blk_alloc ?_ _, ?_, below_alloc (below_alloc (below_alloc (Below.refl _ _) _) _) _⟩
  · have := blk_new (w.alloc (.cells (mdW r m).toArray 27)) (.cells #[.string f.f0, .int .i64 f.f1, .int .i64 f.f2, .int .i64 f.f3, .slice A4 f.f4.length c4] 39)
    simpa using this
  · have := blk_new ((w.alloc (.cells (mdW r m).toArray 27)).alloc (.cells #[.string f.f0, .int .i64 f.f1, .int .i64 f.f2, .int .i64 f.f3, .slice A4 f.f4.length c4] 39)) (.cells (opW o A c).toArray 42)
    simpa using this
theorem vs_cell (o : S42) (i : Nat) (h : i < 7) : (#[Value.int .i64 o.f1, .int .i64 o.f2, .int .i64 o.f3, .int .i64 o.f4, .int .i64 o.f5, .int .i64 o.f6, .int .i64 o.f7] : Array Value)[i]? = some (.int .i64 ((vsL o).getD i 0)) := by
  have : i = 0 ∨ i = 1 ∨ i = 2 ∨ i = 3 ∨ i = 4 ∨ i = 5 ∨ i = 6 := by omega
  rcases this with rfl | rfl | rfl | rfl | rfl | rfl | rfl <;> rfl
def K3 (P Q R : Prop) : Prop := P ∧ Q ∧ R
set_option maxRecDepth 100000 in
set_option maxHeartbeats 40000000 in
theorem opR_any (m : Md) (r : MdR) (f : S39) (A4 : Option Addr) (c4 : Nat) (o : S42) (A : Option Addr) (c : Nat) (w : World) (hm : MdC w r m) (hk : MdK r m) (hs : MdS m) (hg : sizedM m.globals 16 1 2 = true) (hall : m.funcs.all funcOk = true) (hf : funcOk f = true)
    (ha : Kd.C (Kd.int .i64) w A o.f8.length o.f8) (hal : o.f8.length ≤ 1000000) :
    Calls Tryd.prog 33 #[.agg (mdW r m).toArray, .agg #[.string f.f0, .int .i64 f.f1, .int .i64 f.f2, .int .i64 f.f3, .slice A4 f.f4.length c4], .agg (opW o A c).toArray] w fun e w' => e = .returned (.bool (refOp m f o)) ∧ Below w.heap.size w w' := by
  obtain ⟨res, hres⟩ : ∃ res, refOp m f o = res := ⟨_, rfl⟩
  have HR := Aside0.mk hres
  rw [hres]
  clear hres
  have s0 := OB.start w r m f A4 c4 o A c
  obtain ⟨w0, hw0⟩ : ∃ w0, (((w.alloc (.cells (mdW r m).toArray 27)).alloc (.cells #[.string f.f0, .int .i64 f.f1, .int .i64 f.f2, .int .i64 f.f3, .slice A4 f.f4.length c4] 39)).alloc (.cells (opW o A c).toArray 42)) = w0 := ⟨_, rfl⟩
  rw [hw0] at s0
  have O0 := Aside0.mk s0
  have HM := Aside0.mk (hm.below s0.hb)
  have HA := Aside0.mk (Kd.C_below ha s0.hb)
  have HK := Aside0.mk hk
  have HS := Aside0.mk hs
  have HG := Aside0.mk hg
  have HALL := Aside0.mk hall
  have hfo : (0 ≤ f.f2 ∧ f.f2 ≤ 1024) ∧ (0 ≤ f.f1 ∧ f.f1 ≤ f.f2) ∧ (0 ≤ f.f3 ∧ f.f3 ≤ 2) ∧ (f.f4.length : Int) ≠ 0 ∧ (f.f4.length : Int) ≤ 4096 := by
    unfold funcOk below at hf
    simp only [List.all_cons, List.all_nil, Bool.and_true, Bool.and_eq_true, decide_eq_true_eq] at hf
    omega
  obtain ⟨⟨hr0, hr1⟩, ⟨hp0, hp1⟩, ⟨ht0, ht1⟩, hcl0, hcl1⟩ := hfo
  have HCL := Aside0.mk hcl0
  have o0 : w0.cell? ⟨w.heap.size + 2, 0, none⟩ = some (.int .i64 o.f0) := (blk_cell O0.out.ho 0).trans rfl
  have SH := Aside0.mk (Shape_any o.f0 w0)
  clear s0 hm hk hs hg hall hf ha hcl0
  go_enter Tryd.func33, Tryd.ntmps33
  go_wp2_with fail
  refine SH.out.mono ?_
  rintro e w1 ⟨rfl, b1⟩
  have O1 := Aside0.mk (O0.out.below b1)
  have HM1 := Aside0.mk (HM.out.below b1)
  have HA1 := Aside0.mk (Kd.C_below HA.out b1)
  clear b1 hw0 o0 SH
  by_cases hkk : 1 ≤ o.f0 ∧ o.f0 ≤ 23
  · have hs7 := shB_len o.f0 hkk
    have HKK := Aside0.mk hkk
    obtain ⟨s, hs⟩ : ∃ s, shB o.f0 = s := ⟨_, rfl⟩
    have HSB := Aside0.mk hs
    rw [hs] at hs7 ⊢
    have hne : s.toList.isEmpty = false := by
      rw [Lib.toList_data]
      cases h : s.data.toList with
      | nil =>
        have : s.size = 0 := by
          show s.data.size = 0
          rw [← Array.length_toList, h]
          rfl
        omega
      | cons x l => rfl
    have hne2 : (!s.toList.isEmpty) = true := by rw [hne]; rfl
    have hne3 : ¬ s.toList = [] := fun h => by rw [h] at hne; simp at hne
    have HS7 := Aside0.mk hs7
    have hsl : 7 ≤ s.size := by omega
    clear hs hs7 hkk
    have o1 : w1.cell? ⟨w.heap.size + 2, 1, none⟩ = some (.int .i64 o.f1) := (blk_cell O1.out.ho 1).trans rfl
    have o2 : w1.cell? ⟨w.heap.size + 2, 2, none⟩ = some (.int .i64 o.f2) := (blk_cell O1.out.ho 2).trans rfl
    have o3 : w1.cell? ⟨w.heap.size + 2, 3, none⟩ = some (.int .i64 o.f3) := (blk_cell O1.out.ho 3).trans rfl
    have o4 : w1.cell? ⟨w.heap.size + 2, 4, none⟩ = some (.int .i64 o.f4) := (blk_cell O1.out.ho 4).trans rfl
    have o5 : w1.cell? ⟨w.heap.size + 2, 5, none⟩ = some (.int .i64 o.f5) := (blk_cell O1.out.ho 5).trans rfl
    have o6 : w1.cell? ⟨w.heap.size + 2, 6, none⟩ = some (.int .i64 o.f6) := (blk_cell O1.out.ho 6).trans rfl
    have o7 : w1.cell? ⟨w.heap.size + 2, 7, none⟩ = some (.int .i64 o.f7) := (blk_cell O1.out.ho 7).trans rfl
    obtain ⟨w2, hw2⟩ : ∃ w2, w1.alloc (.cells #[.int .i64 o.f1, .int .i64 o.f2, .int .i64 o.f3, .int .i64 o.f4, .int .i64 o.f5, .int .i64 o.f6, .int .i64 o.f7] 82) = w2 := ⟨_, rfl⟩
    have B2 : Aside0 (Below w1.heap.size w1 w2) := ⟨by rw [← hw2]; exact below_alloc (Below.refl _ _) _⟩
    have V2 : Aside0 (w2.heap[w1.heap.size]? = some (.cells #[.int .i64 o.f1, .int .i64 o.f2, .int .i64 o.f3, .int .i64 o.f4, .int .i64 o.f5, .int .i64 o.f6, .int .i64 o.f7] 82 (0, 0))) := ⟨by rw [← hw2]; exact blk_new _ _⟩
    have O2 := Aside0.mk (O1.out.below B2.out)
    have HM2 := Aside0.mk (HM1.out.below B2.out)
    have HA2 := Aside0.mk (Kd.C_below HA1.out B2.out)
    clear HM HA O0
    go_wp2_with fail
    clear o1 o2 o3 o4 o5 o6 o7 hne hne2 hne3 hw2 HM1 HA1 O1 B2
    obtain ⟨vb, hvb⟩ : ∃ vb, w1.heap.size = vb := ⟨_, rfl⟩
    rw [hvb] at V2 ⊢
    clear hvb
    go_loopw [9] (fun x wr => ∃ i : Nat, x = .int .i64 i ∧ i ≤ 7 ∧ Aside0 (∀ j < i, fitS m f.f2 ((shape o.f0).getD j .any) ((vsL o).getD j 0) = true) ∧ Aside0 (Below w2.heap.size w2 wr)) (fun x _ => 7 - (intOf x).toNat)
    case atStart => exact ⟨0, rfl, by omega, ⟨fun j hj => absurd hj (Nat.not_lt_zero j)⟩, ⟨Below.refl _ _⟩⟩
    case round =>
      obtain ⟨i, rfl, hi7, HJ, HB⟩ := hrel
      obtain ⟨wi, rfl⟩ : ∃ wi : World, wi = wr := ⟨_, rfl⟩
      by_cases hi : i < 7
      · obtain ⟨ch, hch, hc1, hc2⟩ := shL_at o.f0 HKK.out i hi
        have hsi : i < s.size := by omega
        have hcs : s[i] = ch := by
          have := shB_get o.f0 i (by rw [HSB.out]; exact hsi) ch hc1
          simpa [HSB.out] using this
        have hcn : ((s[i].toNat : Nat) : Int) = (ch.toNat : Int) := by rw [hcs]
        obtain ⟨v, hv⟩ : ∃ v, (vsL o).getD i 0 = v := ⟨_, rfl⟩
        have c0 : wi.cell? ⟨vb, i, none⟩ = some (.int .i64 v) := (blk_cell (blk_below V2.out HB.out) i).trans (by rw [vs_cell o i hi, hv])
        have NEXT : Aside0 (fitS m f.f2 (ofL ch) v = true → ∀ j < i + 1, fitS m f.f2 ((shape o.f0).getD j .any) ((vsL o).getD j 0) = true) := ⟨fun h j hj => by
          by_cases e : j = i
          · rw [e, hc2, hv]; exact h
          · exact HJ.out j (by omega)⟩
        have STOP : Aside0 (fitS m f.f2 (ofL ch) v = false → res = false) := ⟨fun h => by
          rw [← HR.out]
          exact ref_no_fit m f o HKK.out i hi (by rw [hc2, hv]; exact h)⟩
        have OI := Aside0.mk (O2.out.below HB.out)
        have HMI := Aside0.mk (HM2.out.below HB.out)
        clear hc1 hc2 hcs hv HJ
        simp only [lets, List.mem_cons, List.not_mem_nil, or_false] at hch
        rcases hch with rfl | rfl | rfl | rfl | rfl | rfl | rfl | rfl | rfl | rfl | rfl | rfl | rfl | rfl | rfl | rfl
        · as_aux_lemma =>
          have hcn : ((s[i].toNat : Nat) : Int) = 46 := hcn
          have hfit : fitS m f.f2 (ofL 46) v = (decide (0 ≤ v) && decide (v < 1)) := rfl
          by_cases hlo : 0 ≤ v
          · by_cases hhi : v < 1
            · have NX := Aside0.mk (NEXT.out (by rw [hfit, decide_eq_true hlo, decide_eq_true hhi]; rfl))
              clear hfit
              go_wp2_with fail
              go_roundw
              case rel => exact ⟨i + 1, by go_num, by omega, NX, HB⟩
              case measure => simp [intOf]; omega
            · have ST := Aside0.mk (STOP.out (by rw [hfit, decide_eq_false hhi, Bool.and_false]))
              clear hfit
              go_wp2_with fail
              go_ret
              exact ⟨by rw [ST.out]; rfl, below_then O2.out.hb O2.out.hb.size HB.out⟩
          · have ST := Aside0.mk (STOP.out (by rw [hfit, decide_eq_false hlo, Bool.false_and]))
            have hlo : v < 0 := by omega
            clear hfit
            go_wp2_with fail
            go_ret
            exact ⟨by rw [ST.out]; rfl, below_then O2.out.hb O2.out.hb.size HB.out⟩
        · as_aux_lemma =>
          have hcn : ((s[i].toNat : Nat) : Int) = 114 := hcn
          have hfit : fitS m f.f2 (ofL 114) v = (decide (0 ≤ v) && decide (v < f.f2)) := rfl
          have g0 : wi.cell? ⟨w.heap.size + 1, 2, none⟩ = some (.int .i64 f.f2) := (blk_cell OI.out.hf 2).trans rfl
          by_cases hlo : 0 ≤ v
          · by_cases hhi : v < f.f2
            · have NX := Aside0.mk (NEXT.out (by rw [hfit, decide_eq_true hlo, decide_eq_true hhi]; rfl))
              clear hfit
              go_wp2_with fail
              go_roundw
              case rel => exact ⟨i + 1, by go_num, by omega, NX, HB⟩
              case measure => simp [intOf]; omega
            · have ST := Aside0.mk (STOP.out (by rw [hfit, decide_eq_false hhi, Bool.and_false]))
              clear hfit
              go_wp2_with fail
              go_ret
              exact ⟨by rw [ST.out]; rfl, below_then O2.out.hb O2.out.hb.size HB.out⟩
          · have ST := Aside0.mk (STOP.out (by rw [hfit, decide_eq_false hlo, Bool.false_and]))
            have hlo : v < 0 := by omega
            clear hfit
            go_wp2_with fail
            go_ret
            exact ⟨by rw [ST.out]; rfl, below_then O2.out.hb O2.out.hb.size HB.out⟩
        · as_aux_lemma =>
          have hcn : ((s[i].toNat : Nat) : Int) = 105 := hcn
          have hfit : fitS m f.f2 (ofL 105) v = (decide (0 ≤ v) && decide (v < (m.inputs.length : Int))) := rfl
          have g4 : wi.cell? ⟨w.heap.size, 4, none⟩ = some (.slice r.a4 m.inputs.length r.c4) := (blk_cell OI.out.hm 4).trans rfl
          have hmx : m.inputs.length ≤ 1000000 := HS.out.l4
          by_cases hlo : 0 ≤ v
          · by_cases hhi : v < (m.inputs.length : Int)
            · have NX := Aside0.mk (NEXT.out (by rw [hfit, decide_eq_true hlo, decide_eq_true hhi]; rfl))
              clear hfit
              go_wp2_with fail
              go_roundw
              case rel => exact ⟨i + 1, by go_num, by omega, NX, HB⟩
              case measure => simp [intOf]; omega
            · have ST := Aside0.mk (STOP.out (by rw [hfit, decide_eq_false hhi, Bool.and_false]))
              clear hfit
              go_wp2_with fail
              go_ret
              exact ⟨by rw [ST.out]; rfl, below_then O2.out.hb O2.out.hb.size HB.out⟩
          · have ST := Aside0.mk (STOP.out (by rw [hfit, decide_eq_false hlo, Bool.false_and]))
            have hlo : v < 0 := by omega
            clear hfit
            go_wp2_with fail
            go_ret
            exact ⟨by rw [ST.out]; rfl, below_then O2.out.hb O2.out.hb.size HB.out⟩
        · as_aux_lemma =>
          have hcn : ((s[i].toNat : Nat) : Int) = 104 := hcn
          have hfit : fitS m f.f2 (ofL 104) v = (decide (0 ≤ v) && decide (v < (m.hatches.length : Int))) := rfl
          have g6 : wi.cell? ⟨w.heap.size, 6, none⟩ = some (.slice r.a6 m.hatches.length r.c6) := (blk_cell OI.out.hm 6).trans rfl
          have hmx : m.hatches.length ≤ 1000000 := HS.out.l6
          by_cases hlo : 0 ≤ v
          · by_cases hhi : v < (m.hatches.length : Int)
            · have NX := Aside0.mk (NEXT.out (by rw [hfit, decide_eq_true hlo, decide_eq_true hhi]; rfl))
              clear hfit
              go_wp2_with fail
              go_roundw
              case rel => exact ⟨i + 1, by go_num, by omega, NX, HB⟩
              case measure => simp [intOf]; omega
            · have ST := Aside0.mk (STOP.out (by rw [hfit, decide_eq_false hhi, Bool.and_false]))
              clear hfit
              go_wp2_with fail
              go_ret
              exact ⟨by rw [ST.out]; rfl, below_then O2.out.hb O2.out.hb.size HB.out⟩
          · have ST := Aside0.mk (STOP.out (by rw [hfit, decide_eq_false hlo, Bool.false_and]))
            have hlo : v < 0 := by omega
            clear hfit
            go_wp2_with fail
            go_ret
            exact ⟨by rw [ST.out]; rfl, below_then O2.out.hb O2.out.hb.size HB.out⟩
        · as_aux_lemma =>
          have hcn : ((s[i].toNat : Nat) : Int) = 119 := hcn
          have hfit : fitS m f.f2 (ofL 119) v = (decide (0 ≤ v) && decide (v < wordsM m)) := rfl
          have g0 : wi.cell? ⟨w.heap.size, 0, none⟩ = some (.slice r.a0 m.globals.length r.c0) := (blk_cell OI.out.hm 0).trans rfl
          have g1 : wi.cell? ⟨w.heap.size, 1, none⟩ = some (.slice r.a1 m.structs.length r.c1) := (blk_cell OI.out.hm 1).trans rfl
          have g2 : wi.cell? ⟨w.heap.size, 2, none⟩ = some (.slice r.a2 m.chans.length r.c2) := (blk_cell OI.out.hm 2).trans rfl
          have g3 : wi.cell? ⟨w.heap.size, 3, none⟩ = some (.slice r.a3 m.locks.length r.c3) := (blk_cell OI.out.hm 3).trans rfl
          have g4 : wi.cell? ⟨w.heap.size, 4, none⟩ = some (.slice r.a4 m.inputs.length r.c4) := (blk_cell OI.out.hm 4).trans rfl
          have g5 : wi.cell? ⟨w.heap.size, 5, none⟩ = some (.slice r.a5 m.sinks.length r.c5) := (blk_cell OI.out.hm 5).trans rfl
          have g6 : wi.cell? ⟨w.heap.size, 6, none⟩ = some (.slice r.a6 m.hatches.length r.c6) := (blk_cell OI.out.hm 6).trans rfl
          have g7 : wi.cell? ⟨w.heap.size, 7, none⟩ = some (.slice r.a7 m.funcs.length r.c7) := (blk_cell OI.out.hm 7).trans rfl
          have g8 : wi.cell? ⟨w.heap.size, 8, none⟩ = some (.slice r.a8 m.threads.length r.c8) := (blk_cell OI.out.hm 8).trans rfl
          have WC := Aside0.mk (wordsR_any m r wi HMI.out HK.out HS.out HG.out)
          obtain ⟨wn, hwn⟩ : ∃ wn, wordsM m = wn := ⟨_, rfl⟩
          rw [hwn] at WC hfit
          clear hwn
          have hfit := Aside0.mk hfit
          go_wp2_with fail
          refine WC.out.mono ?_
          rintro e w3 ⟨rfl, b3⟩
          have HB3 := Aside0.mk (below_then HB.out HB.out.size b3)
          have c0 : w3.cell? ⟨vb, i, none⟩ = some (.int .i64 v) := (b3.cell (World.block_lt_of_cell? _ _ c0)).trans c0
          have OI := Aside0.mk (OI.out.below b3)
          clear b3 g0 g1 g2 g3 g4 g5 g6 g7 g8
          have hfit := hfit.out
          by_cases hlo : 0 ≤ v
          · by_cases hhi : v < wn
            · have NX := Aside0.mk (NEXT.out (by rw [hfit, decide_eq_true hlo, decide_eq_true hhi]; rfl))
              clear hfit
              go_wp2_with fail
              go_roundw
              case rel => exact ⟨i + 1, by go_num, by omega, NX, HB3⟩
              case measure => simp [intOf]; omega
            · have ST := Aside0.mk (STOP.out (by rw [hfit, decide_eq_false hhi, Bool.and_false]))
              clear hfit
              go_wp2_with fail
              go_ret
              exact ⟨by rw [ST.out]; rfl, below_then O2.out.hb O2.out.hb.size HB3.out⟩
          · have ST := Aside0.mk (STOP.out (by rw [hfit, decide_eq_false hlo, Bool.false_and]))
            have hlo : v < 0 := by omega
            clear hfit
            go_wp2_with fail
            go_ret
            exact ⟨by rw [ST.out]; rfl, below_then O2.out.hb O2.out.hb.size HB3.out⟩
        · as_aux_lemma =>
          have hcn : ((s[i].toNat : Nat) : Int) = 115 := hcn
          have hfit : fitS m f.f2 (ofL 115) v = (decide (0 ≤ v) && decide (v < (m.structs.length : Int))) := rfl
          have g1 : wi.cell? ⟨w.heap.size, 1, none⟩ = some (.slice r.a1 m.structs.length r.c1) := (blk_cell OI.out.hm 1).trans rfl
          have hmx : m.structs.length ≤ 1000000 := HS.out.l1
          by_cases hlo : 0 ≤ v
          · by_cases hhi : v < (m.structs.length : Int)
            · have NX := Aside0.mk (NEXT.out (by rw [hfit, decide_eq_true hlo, decide_eq_true hhi]; rfl))
              clear hfit
              go_wp2_with fail
              go_roundw
              case rel => exact ⟨i + 1, by go_num, by omega, NX, HB⟩
              case measure => simp [intOf]; omega
            · have ST := Aside0.mk (STOP.out (by rw [hfit, decide_eq_false hhi, Bool.and_false]))
              clear hfit
              go_wp2_with fail
              go_ret
              exact ⟨by rw [ST.out]; rfl, below_then O2.out.hb O2.out.hb.size HB.out⟩
          · have ST := Aside0.mk (STOP.out (by rw [hfit, decide_eq_false hlo, Bool.false_and]))
            have hlo : v < 0 := by omega
            clear hfit
            go_wp2_with fail
            go_ret
            exact ⟨by rw [ST.out]; rfl, below_then O2.out.hb O2.out.hb.size HB.out⟩
        · as_aux_lemma =>
          have hcn : ((s[i].toNat : Nat) : Int) = 108 := hcn
          have hfit : fitS m f.f2 (ofL 108) v = (decide (0 ≤ v) && decide (v < (m.locks.length : Int))) := rfl
          have g3 : wi.cell? ⟨w.heap.size, 3, none⟩ = some (.slice r.a3 m.locks.length r.c3) := (blk_cell OI.out.hm 3).trans rfl
          have hmx : m.locks.length ≤ 1000000 := HS.out.l3
          by_cases hlo : 0 ≤ v
          · by_cases hhi : v < (m.locks.length : Int)
            · have NX := Aside0.mk (NEXT.out (by rw [hfit, decide_eq_true hlo, decide_eq_true hhi]; rfl))
              clear hfit
              go_wp2_with fail
              go_roundw
              case rel => exact ⟨i + 1, by go_num, by omega, NX, HB⟩
              case measure => simp [intOf]; omega
            · have ST := Aside0.mk (STOP.out (by rw [hfit, decide_eq_false hhi, Bool.and_false]))
              clear hfit
              go_wp2_with fail
              go_ret
              exact ⟨by rw [ST.out]; rfl, below_then O2.out.hb O2.out.hb.size HB.out⟩
          · have ST := Aside0.mk (STOP.out (by rw [hfit, decide_eq_false hlo, Bool.false_and]))
            have hlo : v < 0 := by omega
            clear hfit
            go_wp2_with fail
            go_ret
            exact ⟨by rw [ST.out]; rfl, below_then O2.out.hb O2.out.hb.size HB.out⟩
        · as_aux_lemma =>
          have hcn : ((s[i].toNat : Nat) : Int) = 99 := hcn
          have hfit : fitS m f.f2 (ofL 99) v = (decide (0 ≤ v) && decide (v < (m.chans.length : Int))) := rfl
          have g2 : wi.cell? ⟨w.heap.size, 2, none⟩ = some (.slice r.a2 m.chans.length r.c2) := (blk_cell OI.out.hm 2).trans rfl
          have hmx : m.chans.length ≤ 1000000 := HS.out.l2
          by_cases hlo : 0 ≤ v
          · by_cases hhi : v < (m.chans.length : Int)
            · have NX := Aside0.mk (NEXT.out (by rw [hfit, decide_eq_true hlo, decide_eq_true hhi]; rfl))
              clear hfit
              go_wp2_with fail
              go_roundw
              case rel => exact ⟨i + 1, by go_num, by omega, NX, HB⟩
              case measure => simp [intOf]; omega
            · have ST := Aside0.mk (STOP.out (by rw [hfit, decide_eq_false hhi, Bool.and_false]))
              clear hfit
              go_wp2_with fail
              go_ret
              exact ⟨by rw [ST.out]; rfl, below_then O2.out.hb O2.out.hb.size HB.out⟩
          · have ST := Aside0.mk (STOP.out (by rw [hfit, decide_eq_false hlo, Bool.false_and]))
            have hlo : v < 0 := by omega
            clear hfit
            go_wp2_with fail
            go_ret
            exact ⟨by rw [ST.out]; rfl, below_then O2.out.hb O2.out.hb.size HB.out⟩
        · as_aux_lemma =>
          have hcn : ((s[i].toNat : Nat) : Int) = 111 := hcn
          have hfit : fitS m f.f2 (ofL 111) v = (decide (0 ≤ v) && decide (v < (m.sinks.length : Int))) := rfl
          have g5 : wi.cell? ⟨w.heap.size, 5, none⟩ = some (.slice r.a5 m.sinks.length r.c5) := (blk_cell OI.out.hm 5).trans rfl
          have hmx : m.sinks.length ≤ 1000000 := HS.out.l5
          by_cases hlo : 0 ≤ v
          · by_cases hhi : v < (m.sinks.length : Int)
            · have NX := Aside0.mk (NEXT.out (by rw [hfit, decide_eq_true hlo, decide_eq_true hhi]; rfl))
              clear hfit
              go_wp2_with fail
              go_roundw
              case rel => exact ⟨i + 1, by go_num, by omega, NX, HB⟩
              case measure => simp [intOf]; omega
            · have ST := Aside0.mk (STOP.out (by rw [hfit, decide_eq_false hhi, Bool.and_false]))
              clear hfit
              go_wp2_with fail
              go_ret
              exact ⟨by rw [ST.out]; rfl, below_then O2.out.hb O2.out.hb.size HB.out⟩
          · have ST := Aside0.mk (STOP.out (by rw [hfit, decide_eq_false hlo, Bool.false_and]))
            have hlo : v < 0 := by omega
            clear hfit
            go_wp2_with fail
            go_ret
            exact ⟨by rw [ST.out]; rfl, below_then O2.out.hb O2.out.hb.size HB.out⟩
        · as_aux_lemma =>
          have hcn : ((s[i].toNat : Nat) : Int) = 102 := hcn
          have hfit : fitS m f.f2 (ofL 102) v = (decide (0 ≤ v) && decide (v < (m.funcs.length : Int))) := rfl
          have g7 : wi.cell? ⟨w.heap.size, 7, none⟩ = some (.slice r.a7 m.funcs.length r.c7) := (blk_cell OI.out.hm 7).trans rfl
          have hmx : m.funcs.length ≤ 1000000 := HS.out.l7
          by_cases hlo : 0 ≤ v
          · by_cases hhi : v < (m.funcs.length : Int)
            · have NX := Aside0.mk (NEXT.out (by rw [hfit, decide_eq_true hlo, decide_eq_true hhi]; rfl))
              clear hfit
              go_wp2_with fail
              go_roundw
              case rel => exact ⟨i + 1, by go_num, by omega, NX, HB⟩
              case measure => simp [intOf]; omega
            · have ST := Aside0.mk (STOP.out (by rw [hfit, decide_eq_false hhi, Bool.and_false]))
              clear hfit
              go_wp2_with fail
              go_ret
              exact ⟨by rw [ST.out]; rfl, below_then O2.out.hb O2.out.hb.size HB.out⟩
          · have ST := Aside0.mk (STOP.out (by rw [hfit, decide_eq_false hlo, Bool.false_and]))
            have hlo : v < 0 := by omega
            clear hfit
            go_wp2_with fail
            go_ret
            exact ⟨by rw [ST.out]; rfl, below_then O2.out.hb O2.out.hb.size HB.out⟩
        · as_aux_lemma =>
          have hcn : ((s[i].toNat : Nat) : Int) = 107 := hcn
          have hfit : fitS m f.f2 (ofL 107) v = (decide (0 ≤ v) && decide (v < 2)) := rfl
          by_cases hlo : 0 ≤ v
          · by_cases hhi : v < 2
            · have NX := Aside0.mk (NEXT.out (by rw [hfit, decide_eq_true hlo, decide_eq_true hhi]; rfl))
              clear hfit
              go_wp2_with fail
              go_roundw
              case rel => exact ⟨i + 1, by go_num, by omega, NX, HB⟩
              case measure => simp [intOf]; omega
            · have ST := Aside0.mk (STOP.out (by rw [hfit, decide_eq_false hhi, Bool.and_false]))
              clear hfit
              go_wp2_with fail
              go_ret
              exact ⟨by rw [ST.out]; rfl, below_then O2.out.hb O2.out.hb.size HB.out⟩
          · have ST := Aside0.mk (STOP.out (by rw [hfit, decide_eq_false hlo, Bool.false_and]))
            have hlo : v < 0 := by omega
            clear hfit
            go_wp2_with fail
            go_ret
            exact ⟨by rw [ST.out]; rfl, below_then O2.out.hb O2.out.hb.size HB.out⟩
        · as_aux_lemma =>
          have hcn : ((s[i].toNat : Nat) : Int) = 117 := hcn
          have hfit : fitS m f.f2 (ofL 117) v = (decide (1 ≤ v) && decide (v < 3)) := rfl
          by_cases hlo : 1 ≤ v
          · by_cases hhi : v < 3
            · have NX := Aside0.mk (NEXT.out (by rw [hfit, decide_eq_true hlo, decide_eq_true hhi]; rfl))
              clear hfit
              go_wp2_with fail
              go_roundw
              case rel => exact ⟨i + 1, by go_num, by omega, NX, HB⟩
              case measure => simp [intOf]; omega
            · have ST := Aside0.mk (STOP.out (by rw [hfit, decide_eq_false hhi, Bool.and_false]))
              clear hfit
              go_wp2_with fail
              go_ret
              exact ⟨by rw [ST.out]; rfl, below_then O2.out.hb O2.out.hb.size HB.out⟩
          · have ST := Aside0.mk (STOP.out (by rw [hfit, decide_eq_false hlo, Bool.false_and]))
            have hlo : v < 1 := by omega
            clear hfit
            go_wp2_with fail
            go_ret
            exact ⟨by rw [ST.out]; rfl, below_then O2.out.hb O2.out.hb.size HB.out⟩
        · as_aux_lemma =>
          have hcn : ((s[i].toNat : Nat) : Int) = 98 := hcn
          have hfit : fitS m f.f2 (ofL 98) v = (decide (1 ≤ v) && decide (v < 12)) := rfl
          by_cases hlo : 1 ≤ v
          · by_cases hhi : v < 12
            · have NX := Aside0.mk (NEXT.out (by rw [hfit, decide_eq_true hlo, decide_eq_true hhi]; rfl))
              clear hfit
              go_wp2_with fail
              go_roundw
              case rel => exact ⟨i + 1, by go_num, by omega, NX, HB⟩
              case measure => simp [intOf]; omega
            · have ST := Aside0.mk (STOP.out (by rw [hfit, decide_eq_false hhi, Bool.and_false]))
              clear hfit
              go_wp2_with fail
              go_ret
              exact ⟨by rw [ST.out]; rfl, below_then O2.out.hb O2.out.hb.size HB.out⟩
          · have ST := Aside0.mk (STOP.out (by rw [hfit, decide_eq_false hlo, Bool.false_and]))
            have hlo : v < 1 := by omega
            clear hfit
            go_wp2_with fail
            go_ret
            exact ⟨by rw [ST.out]; rfl, below_then O2.out.hb O2.out.hb.size HB.out⟩
        · as_aux_lemma =>
          have hcn : ((s[i].toNat : Nat) : Int) = 103 := hcn
          have hfit : fitS m f.f2 (ofL 103) v = (decide (0 ≤ v) && decide (v < 16)) := rfl
          by_cases hlo : 0 ≤ v
          · by_cases hhi : v < 16
            · have NX := Aside0.mk (NEXT.out (by rw [hfit, decide_eq_true hlo, decide_eq_true hhi]; rfl))
              clear hfit
              go_wp2_with fail
              go_roundw
              case rel => exact ⟨i + 1, by go_num, by omega, NX, HB⟩
              case measure => simp [intOf]; omega
            · have ST := Aside0.mk (STOP.out (by rw [hfit, decide_eq_false hhi, Bool.and_false]))
              clear hfit
              go_wp2_with fail
              go_ret
              exact ⟨by rw [ST.out]; rfl, below_then O2.out.hb O2.out.hb.size HB.out⟩
          · have ST := Aside0.mk (STOP.out (by rw [hfit, decide_eq_false hlo, Bool.false_and]))
            have hlo : v < 0 := by omega
            clear hfit
            go_wp2_with fail
            go_ret
            exact ⟨by rw [ST.out]; rfl, below_then O2.out.hb O2.out.hb.size HB.out⟩
        · as_aux_lemma =>
          have hcn : ((s[i].toNat : Nat) : Int) = 100 := hcn
          have NX := Aside0.mk (NEXT.out rfl)
          go_wp2_with fail
          go_roundw
          case rel => exact ⟨i + 1, by go_num, by omega, NX, HB⟩
          case measure => simp [intOf]; omega
        · as_aux_lemma =>
          have hcn : ((s[i].toNat : Nat) : Int) = 110 := hcn
          have NX := Aside0.mk (NEXT.out rfl)
          go_wp2_with fail
          go_roundw
          case rel => exact ⟨i + 1, by go_num, by omega, NX, HB⟩
          case measure => simp [intOf]; omega
      · have hI : i = 7 := by omega
        subst hI
        rw [show ((7 : Nat) : Int) = 7 from rfl]
        have OI := Aside0.mk (O2.out.below HB.out)
        have HMI := Aside0.mk (HM2.out.below HB.out)
        have HAI := Aside0.mk (Kd.C_below HA2.out HB.out)
        have HRX : Aside0 (res = (xM m f o && (decide ((o.f8.length : Int) = needM m f o) && (below f.f2 o.f8 && nextM f o)))) := ⟨by rw [← HR.out, ref_fit m f o HKK.out HJ.out]⟩
        have o0 : wi.cell? ⟨w.heap.size + 2, 0, none⟩ = some (.int .i64 o.f0) := (blk_cell OI.out.ho 0).trans rfl
        have o1 : wi.cell? ⟨w.heap.size + 2, 1, none⟩ = some (.int .i64 o.f1) := (blk_cell OI.out.ho 1).trans rfl
        have o2 : wi.cell? ⟨w.heap.size + 2, 2, none⟩ = some (.int .i64 o.f2) := (blk_cell OI.out.ho 2).trans rfl
        have o7 : wi.cell? ⟨w.heap.size + 2, 7, none⟩ = some (.int .i64 o.f7) := (blk_cell OI.out.ho 7).trans rfl
        go_upto_block 3 with fail
        go_cut [12] (fun a wx => ∃ na : Int, a = .int .i64 na ∧ Aside0 (needM m f o = na) ∧ Aside0 (xM m f o = true) ∧ Aside0 (Below w2.heap.size w2 wx))
        case first =>
          as_aux_lemma =>
            by_cases hk10 : o.f0 = 10 ∨ o.f0 = 15
            · by_cases h12 : o.f1 = o.f2
              · have ST : Aside0 (res = false) := ⟨by rw [HRX.out]; unfold xM; rw [if_pos hk10, h12]; simp⟩
                have h12b : (o.f1 == o.f2) = true := beq_iff_eq.2 h12
                clear h12
                rcases hk10 with hk | hk
                · have d10 : (o.f0 == 10) = true := beq_iff_eq.2 hk
                  clear hk
                  go_wp2_with fail
                  go_ret
                  exact ⟨by rw [ST.out]; rfl, below_then O2.out.hb O2.out.hb.size HB.out⟩
                · have d10 : (o.f0 == 10) = false := beq_eq_false_iff_ne.2 (by omega)
                  have d15 : (o.f0 == 15) = true := beq_iff_eq.2 hk
                  clear hk
                  go_wp2_with fail
                  go_ret
                  exact ⟨by rw [ST.out]; rfl, below_then O2.out.hb O2.out.hb.size HB.out⟩
              · have HXT : Aside0 (xM m f o = true) := ⟨by unfold xM; rw [if_pos hk10]; simpa using h12⟩
                have HNA : Aside0 (needM m f o = 0) := ⟨by unfold needM; rw [if_neg (by omega), if_neg (by omega)]⟩
                have h12b : (o.f1 == o.f2) = false := beq_eq_false_iff_ne.2 h12
                clear h12
                have hkl : 10 ≤ o.f0 ∧ o.f0 ≤ 15 := by omega
                have hkn : ¬ o.f0 = 22 := by omega
                have HKL := Aside0.mk hkl
                rcases hk10 with hk | hk
                · have d10 : (o.f0 == 10) = true := beq_iff_eq.2 hk
                  clear hk hkl hkn
                  go_wp2_with fail
                  go_meet
                  case rel => exact ⟨_, rfl, HNA, HXT, HB⟩
                · have d10 : (o.f0 == 10) = false := beq_eq_false_iff_ne.2 (by omega)
                  have d15 : (o.f0 == 15) = true := beq_iff_eq.2 hk
                  clear hk hkl hkn
                  go_wp2_with fail
                  go_meet
                  case rel => exact ⟨_, rfl, HNA, HXT, HB⟩
            · have d10 : (o.f0 == 10) = false := beq_eq_false_iff_ne.2 (by omega)
              have d15 : (o.f0 == 15) = false := beq_eq_false_iff_ne.2 (by omega)
              by_cases hk22 : o.f0 = 22
              · have hfit0 := HJ.out 0 (by omega)
                rw [hk22] at hfit0
                have hfit1 : (decide (0 ≤ o.f1) && decide (o.f1 < (m.funcs.length : Int))) = true := hfit0
                simp only [Bool.and_eq_true, decide_eq_true_eq] at hfit1
                obtain ⟨n, hn⟩ : ∃ n : Nat, o.f1 = n := ⟨o.f1.toNat, by omega⟩
                have hnl : (n : Int) < m.funcs.length := by omega
                have hl7 : m.funcs.length ≤ 1000000 := HS.out.l7
                have hgm : funcOk (rd_T39 m.funcs (n : Int)) = true := List.all_eq_true.1 HALL.out _ (rd39_mem m.funcs n (by omega))
                obtain ⟨adg, Ag, cg, eA, e0, e1, e2, e3, e4, el, eC⟩ := at_T39 HMI.out.h7 (n : Int) (by omega) (by omega)
                rw [Int.toNat_natCast] at e0 e1 e2 e3 e4
                have hgf : fnAt m o.f1 = rd_T39 m.funcs (n : Int) := by rw [hn]; rfl
                obtain ⟨g, hg⟩ : ∃ g, rd_T39 m.funcs (n : Int) = g := ⟨_, rfl⟩
                rw [hg] at hgm hgf e0 e1 e2 e3 e4
                have hgo : 0 ≤ g.f3 ∧ g.f3 ≤ 2 := by
                  unfold funcOk below at hgm
                  simp only [List.all_cons, List.all_nil, Bool.and_true, Bool.and_eq_true, decide_eq_true_eq] at hgm
                  omega
                have g7 : wi.cell? ⟨w.heap.size, 7, none⟩ = some (.slice (some adg) m.funcs.length r.c7) := by
                  rw [← eA]
                  exact (blk_cell OI.out.hm 7).trans rfl
                have gr : wi.cell? ⟨w.heap.size + 1, 2, none⟩ = some (.int .i64 f.f2) := (blk_cell OI.out.hf 2).trans rfl
                rw [hn] at o1
                obtain ⟨k2, hk2⟩ : ∃ k, o.f2 = k := ⟨_, rfl⟩
                obtain ⟨k7, hk7⟩ : ∃ k, o.f7 = k := ⟨_, rfl⟩
                obtain ⟨g3, hg3⟩ : ∃ k, g.f3 = k := ⟨_, rfl⟩
                obtain ⟨na, hna⟩ : ∃ k, g.f1 = k := ⟨_, rfl⟩
                have HXM : Aside0 (xM m f o = ((decide (k7 = 0) && decide (k2 = -1)) || (decide (k7 = g3) && (decide (k7 ≠ 0) && (decide (0 ≤ k2) && (decide (k2 < f.f2) && decide (k2 ≤ f.f2 - k7))))))) := ⟨by
                  unfold xM
                  rw [if_neg hk10, if_pos hk22, hgf, hk2, hk7, hg3]⟩
                have HNA : Aside0 (needM m f o = na) := ⟨by unfold needM; rw [if_pos hk22, hgf, hna]⟩
                have d22 : (o.f0 == 22) = true := beq_iff_eq.2 hk22
                have H23 : Aside0 (o.f0 = 23 → False) := ⟨fun h => by omega⟩
                have H21 : Aside0 (o.f0 = 21 → False) := ⟨fun h => by omega⟩
                rw [hk2] at o2
                rw [hk7] at o7
                rw [hg3] at e3 hgo
                rw [hna] at e1
                have ba := Aside0.mk (below_alloc (Below.refl wi.heap.size wi) (.cells #[.string g.f0, .int .i64 na, .int .i64 g.f2, .int .i64 g3, .slice Ag g.f4.length cg] 39))
                obtain ⟨wa, hwa⟩ : ∃ wa, wi.alloc (.cells #[.string g.f0, .int .i64 na, .int .i64 g.f2, .int .i64 g3, .slice Ag g.f4.length cg] 39) = wa := ⟨_, rfl⟩
                have q1 : wa.cell? ⟨wi.heap.size, 1, none⟩ = some (.int .i64 na) := by rw [← hwa]; exact (blk_cell (blk_new wi _) 1).trans rfl
                have q3 : wa.cell? ⟨wi.heap.size, 3, none⟩ = some (.int .i64 g3) := by rw [← hwa]; exact (blk_cell (blk_new wi _) 3).trans rfl
                rw [hwa] at ba
                have OA := Aside0.mk (OI.out.below ba.out)
                have HAA := Aside0.mk (Kd.C_below HAI.out ba.out)
                have BA := Aside0.mk (below_then HB.out HB.out.size ba.out)
                have a2 : wa.cell? ⟨w.heap.size + 2, 2, none⟩ = some (.int .i64 k2) := (blk_cell OA.out.ho 2).trans (by rw [← hk2]; rfl)
                have a7 : wa.cell? ⟨w.heap.size + 2, 7, none⟩ = some (.int .i64 k7) := (blk_cell OA.out.ho 7).trans (by rw [← hk7]; rfl)
                have ar : wa.cell? ⟨w.heap.size + 1, 2, none⟩ = some (.int .i64 f.f2) := (blk_cell OA.out.hf 2).trans rfl
                clear hk22 hk10 hfit0 hfit1 hgm hgf hg hg3 hna hk2 hk7 el eC hn eA
                by_cases h70 : k7 = 0
                · have b70 : (k7 == 0) = true := beq_iff_eq.2 h70
                  by_cases h2m : k2 = -1
                  · have b2m : (k2 == -1) = true := beq_iff_eq.2 h2m
                    have HXT : Aside0 (xM m f o = true) := ⟨by rw [HXM.out, h70, h2m]; rfl⟩
                    clear h70 h2m
                    go_wp2_with fail
                    go_meet
                    case rel => exact ⟨_, rfl, HNA, HXT, BA⟩
                  · have b2m : (k2 == -1) = false := beq_eq_false_iff_ne.2 h2m
                    have ST : Aside0 (res = false) := ⟨by rw [HRX.out, HXM.out]; simp [h70, h2m]⟩
                    by_cases h73 : k7 = g3
                    · have b73 : (k7 != g3) = false := by simp [h73]
                      have b73' : (k7 == g3) = true := beq_iff_eq.2 h73
                      clear h70 h2m h73
                      go_wp2_with fail
                      go_ret
                      exact ⟨by rw [ST.out]; rfl, below_then O2.out.hb O2.out.hb.size BA.out⟩
                    · have b73 : (k7 != g3) = true := by simp [h73]
                      have b73' : (k7 == g3) = false := beq_eq_false_iff_ne.2 h73
                      clear h70 h2m h73
                      go_wp2_with fail
                      go_ret
                      exact ⟨by rw [ST.out]; rfl, below_then O2.out.hb O2.out.hb.size BA.out⟩
                · have b70 : (k7 == 0) = false := beq_eq_false_iff_ne.2 h70
                  by_cases h73 : k7 = g3
                  · have b73 : (k7 != g3) = false := by simp [h73]
                    have b73' : (k7 == g3) = true := beq_iff_eq.2 h73
                    have hk70 : 0 ≤ k7 ∧ k7 ≤ 2 := by omega
                    obtain ⟨hk71, hk72⟩ := hk70
                    by_cases hlast : (0 ≤ k2 ∧ k2 < f.f2) ∧ k2 ≤ f.f2 - k7
                    · have HXT : Aside0 (xM m f o = true) := ⟨by rw [HXM.out]; simp [h70, h73, hlast.1.1, hlast.1.2]; rw [← h73]; simp [h70]; omega⟩
                      obtain ⟨⟨hl1, hl2⟩, hl3⟩ := hlast
                      clear h70 h73
                      go_wp2_with fail
                      go_meet
                      case rel => exact ⟨_, rfl, HNA, HXT, BA⟩
                    · have ST : Aside0 (res = false) := ⟨by
                        rw [HRX.out, HXM.out]
                        have : (decide (0 ≤ k2) && (decide (k2 < f.f2) && decide (k2 ≤ f.f2 - k7))) = false := by
                          rw [Bool.eq_false_iff]
                          simp only [Bool.and_eq_true, decide_eq_true_eq, ne_eq]
                          omega
                        rw [this]
                        simp [h70]⟩
                      by_cases hl1 : k2 < 0
                      · clear h70 h73 hlast
                        go_wp2_with fail
                        go_ret
                        exact ⟨by rw [ST.out]; rfl, below_then O2.out.hb O2.out.hb.size BA.out⟩
                      · by_cases hl2 : f.f2 ≤ k2
                        · clear h70 h73 hlast
                          go_wp2_with fail
                          go_ret
                          exact ⟨by rw [ST.out]; rfl, below_then O2.out.hb O2.out.hb.size BA.out⟩
                        · have hl3 : f.f2 - k7 < k2 := by omega
                          clear h70 h73 hlast
                          go_wp2_with fail
                          go_ret
                          exact ⟨by rw [ST.out]; rfl, below_then O2.out.hb O2.out.hb.size BA.out⟩
                  · have b73 : (k7 != g3) = true := by simp [h73]
                    have b73' : (k7 == g3) = false := beq_eq_false_iff_ne.2 h73
                    have ST : Aside0 (res = false) := ⟨by rw [HRX.out, HXM.out]; simp [h70, h73]⟩
                    clear h70 h73
                    go_wp2_with fail
                    go_ret
                    exact ⟨by rw [ST.out]; rfl, below_then O2.out.hb O2.out.hb.size BA.out⟩
              · have d22 : (o.f0 == 22) = false := beq_eq_false_iff_ne.2 hk22
                have HXT : Aside0 (xM m f o = true) := ⟨by unfold xM; rw [if_neg hk10, if_neg hk22]⟩
                by_cases hk23 : o.f0 = 23
                · have d23 : (o.f0 == 23) = true := beq_iff_eq.2 hk23
                  have gr : wi.cell? ⟨w.heap.size + 1, 3, none⟩ = some (.int .i64 f.f3) := (blk_cell OI.out.hf 3).trans rfl
                  have HNA : Aside0 (needM m f o = f.f3) := ⟨by unfold needM; rw [if_neg hk22, if_pos hk23]⟩
                  have H23 : Aside0 (o.f0 = 23) := ⟨hk23⟩
                  clear hk10 hk22 hk23
                  go_wp2_with fail
                  go_meet
                  case rel => exact ⟨_, rfl, HNA, HXT, HB⟩
                · have d23 : (o.f0 == 23) = false := beq_eq_false_iff_ne.2 hk23
                  have HNA : Aside0 (needM m f o = 0) := ⟨by unfold needM; rw [if_neg hk22, if_neg hk23]⟩
                  have H23 : Aside0 (o.f0 = 23 → False) := ⟨hk23⟩
                  clear hk10 hk22 hk23
                  go_wp2_with fail
                  go_meet
                  case rel => exact ⟨_, rfl, HNA, HXT, HB⟩
        case rest =>
          as_aux_lemma =>
            obtain ⟨na, rfl, HNA, HXT, HBC⟩ := hcut
            clear OI HAI HMI HB o0 o1 o2 o7
            have HB := HBC
            have OI := Aside0.mk (O2.out.below HB.out)
            have HAI := Aside0.mk (Kd.C_below HA2.out HB.out)
            obtain ⟨wz, rfl⟩ : ∃ wz : World, wz = wc := ⟨_, rfl⟩
            have HRY : Aside0 (res = (decide ((o.f8.length : Int) = na) && (below f.f2 o.f8 && nextM f o))) := ⟨by rw [HRX.out, HXT.out, HNA.out, Bool.true_and]⟩
            have BZ := Aside0.mk (below_then O2.out.hb O2.out.hb.size HB.out)
            have o8 : wz.cell? ⟨w.heap.size + 2, 8, none⟩ = some (.slice A o.f8.length c) := (blk_cell OI.out.ho 8).trans rfl
            by_cases hl : (o.f8.length : Int) = na
            · have hlb : ((o.f8.length : Int) != na) = false := by simp [hl]
              have hlb' : ((o.f8.length : Int) == na) = true := beq_iff_eq.2 hl
              have HRZ : Aside0 (res = (below f.f2 o.f8 && nextM f o)) := ⟨by rw [HRY.out, decide_eq_true hl, Bool.true_and]⟩
              clear hl
              go_wp2_with fail
              clear hlb hlb' o8
              go_loopw [6, 15] (fun y x wr => ∃ i : Nat, x = .int .i64 i ∧ i ≤ o.f8.length ∧ Aside0 (∀ j : Nat, j < i → below f.f2 [rd o.f8 j] = true) ∧ Aside0 (Below wz.heap.size wz wr)) (fun y x _ => o.f8.length - (intOf x).toNat)
              case atStart => exact ⟨0, rfl, Nat.zero_le _, ⟨fun j hj => absurd hj (Nat.not_lt_zero j)⟩, ⟨Below.refl _ _⟩⟩
              case round =>
                obtain ⟨i, rfl, hi, HJ, HBR⟩ := hrel
                obtain ⟨wi, rfl⟩ : ∃ wi : World, wi = wr := ⟨_, rfl⟩
                have OR := Aside0.mk (OI.out.below HBR.out)
                have BW := Aside0.mk (below_then BZ.out BZ.out.size HBR.out)
                have o8 : wi.cell? ⟨w.heap.size + 2, 8, none⟩ = some (.slice A o.f8.length c) := (blk_cell OR.out.ho 8).trans rfl
                by_cases hlt : i < o.f8.length
                · obtain ⟨ad, eA, c0⟩ := Kd.at_int (Kd.C_below HAI.out HBR.out) (i : Int) (by omega) (by omega)
                  rw [Int.toNat_natCast] at c0
                  rw [eA] at o8
                  clear eA
                  have gr : wi.cell? ⟨w.heap.size + 1, 2, none⟩ = some (.int .i64 f.f2) := (blk_cell OR.out.hf 2).trans rfl
                  obtain ⟨v, hv⟩ : ∃ v, rd o.f8 (i : Int) = v := ⟨_, rfl⟩
                  have HBT : Aside0 (below f.f2 [rd o.f8 (i : Int)] = (decide (0 ≤ v) && decide (v < f.f2))) := ⟨by rw [hv]; simp [below]⟩
                  have STOP : Aside0 (below f.f2 [rd o.f8 (i : Int)] = false → res = false) := ⟨fun h => by
                    rw [HRZ.out]
                    have : below f.f2 o.f8 = false := by
                      rw [← Bool.not_eq_true]
                      intro ht
                      unfold below at ht h
                      rw [List.all_eq_true] at ht
                      have := ht (rd o.f8 (i : Int)) (by
                        unfold rd
                        rw [Int.toNat_natCast, List.getD_eq_getElem?_getD, List.getElem?_eq_getElem hlt]
                        exact List.getElem_mem _)
                      simp only [List.all_cons, List.all_nil, Bool.and_true] at h
                      rw [h] at this
                      cases this
                    rw [this, Bool.false_and]⟩
                  rw [hv] at c0
                  clear hv
                  by_cases hlo : 0 ≤ v
                  · by_cases hhi : v < f.f2
                    · have HJ1 : Aside0 (∀ j : Nat, j < i + 1 → below f.f2 [rd o.f8 j] = true) := ⟨fun j hj => by
                        by_cases e : j = i
                        · rw [e, HBT.out, decide_eq_true hlo, decide_eq_true hhi]; rfl
                        · exact HJ.out j (by omega)⟩
                      have hin : (i : Int) < o.f8.length := by omega
                      go_wp2_with fail
                      go_quiet (fail)
                      go_wp2_with fail
                      go_roundw
                      case rel => exact ⟨i + 1, by go_num, by omega, HJ1, ⟨below_then HBR.out HBR.out.size (pw_below_drewN (Below.refl _ _) _)⟩⟩
                      case measure => simp [intOf]; omega
                    · have RF := Aside0.mk (STOP.out (by rw [HBT.out, decide_eq_false hhi, Bool.and_false]))
                      have hin : (i : Int) < o.f8.length := by omega
                      go_wp2_with fail
                      go_quiet (fail)
                      go_wp2_with fail
                      go_ret
                      exact ⟨by rw [RF.out]; rfl, below_then BW.out BW.out.size (pw_below_drewN (Below.refl _ _) _)⟩
                  · have RF := Aside0.mk (STOP.out (by rw [HBT.out, decide_eq_false hlo, Bool.false_and]))
                    have hlo : v < 0 := by omega
                    have hin : (i : Int) < o.f8.length := by omega
                    go_wp2_with fail
                    go_quiet (fail)
                    go_wp2_with fail
                    go_ret
                    exact ⟨by rw [RF.out]; rfl, below_then BW.out BW.out.size (pw_below_drewN (Below.refl _ _) _)⟩
                · have HBL : Aside0 (below f.f2 o.f8 = true) := ⟨by
                    unfold below
                    rw [List.all_eq_true]
                    intro x hx
                    obtain ⟨j, hj, rfl⟩ := List.getElem_of_mem hx
                    have := HJ.out j (by omega)
                    unfold below rd at this
                    rw [Int.toNat_natCast, List.getD_eq_getElem?_getD, List.getElem?_eq_getElem hj] at this
                    simpa using this⟩
                  have HRN : Aside0 (res = nextM f o) := ⟨by rw [HRZ.out, HBL.out, Bool.true_and]⟩
                  have o0 : wi.cell? ⟨w.heap.size + 2, 0, none⟩ = some (.int .i64 o.f0) := (blk_cell OR.out.ho 0).trans rfl
                  have o9 : wi.cell? ⟨w.heap.size + 2, 9, none⟩ = some (.int .i64 o.f9) := (blk_cell OR.out.ho 9).trans rfl
                  have o10 : wi.cell? ⟨w.heap.size + 2, 10, none⟩ = some (.int .i64 o.f10) := (blk_cell OR.out.ho 10).trans rfl
                  have gl : wi.cell? ⟨w.heap.size + 1, 4, none⟩ = some (.slice A4 f.f4.length c4) := (blk_cell OR.out.hf 4).trans rfl
                  have hcl2 : f.f4.length ≤ 4096 := by omega
                  by_cases h23 : o.f0 = 23
                  ·    have d23 : (o.f0 == 23) = true := beq_iff_eq.2 h23
                       by_cases h9 : o.f9 = 0
                       · have d9 : (o.f9 == 0) = true := beq_iff_eq.2 h9
                         by_cases h10 : o.f10 = 0
                         · have d10 : (o.f10 == 0) = true := beq_iff_eq.2 h10
                           have RF : Aside0 (res = true) := ⟨by rw [HRN.out]; unfold nextM; rw [if_pos h23, h9, h10]; rfl⟩
                           clear h23 h9 h10
                           go_wp2_with fail
                           go_ret
                           exact ⟨by rw [RF.out]; rfl, BW.out⟩
                         · have d10 : (o.f10 == 0) = false := beq_eq_false_iff_ne.2 h10
                           have RF : Aside0 (res = false) := ⟨by rw [HRN.out]; unfold nextM; rw [if_pos h23, decide_eq_false h10, Bool.and_false]⟩
                           clear h23 h9 h10
                           go_wp2_with fail
                           go_ret
                           exact ⟨by rw [RF.out]; rfl, BW.out⟩
                       · have d9 : (o.f9 == 0) = false := beq_eq_false_iff_ne.2 h9
                         have RF : Aside0 (res = false) := ⟨by rw [HRN.out]; unfold nextM; rw [if_pos h23, decide_eq_false h9, Bool.false_and]⟩
                         clear h23 h9
                         go_wp2_with fail
                         go_ret
                         exact ⟨by rw [RF.out]; rfl, BW.out⟩
                  ·    have d23 : (o.f0 == 23) = false := beq_eq_false_iff_ne.2 h23
                       by_cases h9 : 0 ≤ o.f9
                       · by_cases h9' : o.f9 < f.f4.length
                         · by_cases h21 : o.f0 = 21
                           ·    have d21 : (o.f0 == 21) = true := beq_iff_eq.2 h21
                                have d21' : (o.f0 != 21) = false := by simp [h21]
                                by_cases h10 : 0 ≤ o.f10
                                · by_cases h10' : o.f10 < f.f4.length
                                  · have RF : Aside0 (res = true) := ⟨by rw [HRN.out]; unfold nextM; rw [if_neg h23, decide_eq_true h9, decide_eq_true h9', if_pos h21, decide_eq_true h10, decide_eq_true h10']; rfl⟩
                                    clear h23 h21
                                    go_wp2_with fail
                                    go_ret
                                    exact ⟨by rw [RF.out]; rfl, BW.out⟩
                                  · have RF : Aside0 (res = false) := ⟨by rw [HRN.out]; unfold nextM; rw [if_neg h23, decide_eq_true h9, decide_eq_true h9', if_pos h21, decide_eq_true h10, decide_eq_false h10']; rfl⟩
                                    clear h23 h21
                                    go_wp2_with fail
                                    go_ret
                                    exact ⟨by rw [RF.out]; rfl, BW.out⟩
                                · have RF : Aside0 (res = false) := ⟨by rw [HRN.out]; unfold nextM; rw [if_neg h23, decide_eq_true h9, decide_eq_true h9', if_pos h21, decide_eq_false h10]; rfl⟩
                                  clear h23 h21
                                  have h10 : o.f10 < 0 := by omega
                                  go_wp2_with fail
                                  go_ret
                                  exact ⟨by rw [RF.out]; rfl, BW.out⟩
                           · have d21 : (o.f0 == 21) = false := beq_eq_false_iff_ne.2 h21
                             have d21' : (o.f0 != 21) = true := by simp [h21]
                             by_cases h10 : o.f10 = 0
                             · have d10 : (o.f10 == 0) = true := beq_iff_eq.2 h10
                               have RF : Aside0 (res = true) := ⟨by rw [HRN.out]; unfold nextM; rw [if_neg h23, decide_eq_true h9, decide_eq_true h9', if_neg h21, decide_eq_true h10]; rfl⟩
                               clear h23 h21 h10
                               go_wp2_with fail
                               go_ret
                               exact ⟨by rw [RF.out]; rfl, BW.out⟩
                             · have d10 : (o.f10 == 0) = false := beq_eq_false_iff_ne.2 h10
                               have RF : Aside0 (res = false) := ⟨by rw [HRN.out]; unfold nextM; rw [if_neg h23, decide_eq_true h9, decide_eq_true h9', if_neg h21, decide_eq_false h10]; rfl⟩
                               clear h23 h21 h10
                               go_wp2_with fail
                               go_ret
                               exact ⟨by rw [RF.out]; rfl, BW.out⟩
                         · have RF : Aside0 (res = false) := ⟨by rw [HRN.out]; unfold nextM; rw [if_neg h23, decide_eq_true h9, decide_eq_false h9']; rfl⟩
                           clear h23
                           go_wp2_with fail
                           go_ret
                           exact ⟨by rw [RF.out]; rfl, BW.out⟩
                       · have RF : Aside0 (res = false) := ⟨by rw [HRN.out]; unfold nextM; rw [if_neg h23, decide_eq_false h9]; rfl⟩
                         clear h23
                         have h9 : o.f9 < 0 := by omega
                         go_wp2_with fail
                         go_ret
                         exact ⟨by rw [RF.out]; rfl, BW.out⟩
            · have hlb : ((o.f8.length : Int) != na) = true := by simp [hl]
              have hlb' : ((o.f8.length : Int) == na) = false := beq_eq_false_iff_ne.2 hl
              have RF : Aside0 (res = false) := ⟨by rw [HRY.out, decide_eq_false hl, Bool.false_and]⟩
              clear hl
              go_wp2_with fail
              go_ret
              exact ⟨by rw [RF.out]; rfl, BZ.out⟩
  · have e : (shB o.f0).data.toList = [] := by unfold shB; rw [shL_no _ hkk]
    have HF := Aside0.mk (ref_no_kind m f o hkk)
    clear hkk
    obtain ⟨s, hs⟩ : ∃ s, shB o.f0 = s := ⟨_, rfl⟩
    rw [hs] at e ⊢
    clear hs
    have hne : s.toList = [] := by rw [Lib.toList_data, e]
    have hne1 : s.toList.isEmpty = true := by rw [hne]; rfl
    have hne2 : (!s.toList.isEmpty) = false := by rw [hne1]; rfl
    clear e
    go_wp2_with fail
    go_ret
    exact ⟨by rw [← HR.out, HF.out]; rfl, O1.out.hb⟩
end Go.Proofs.YtdapiibllblpbaaDoor.Code
