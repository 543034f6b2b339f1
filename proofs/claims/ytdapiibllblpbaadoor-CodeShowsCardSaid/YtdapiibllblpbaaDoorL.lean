import Derived.Test.YtdapiibllblpbaaDoorK
namespace Go.Proofs.YtdapiibllblpbaaDoor.Code
open Go.RowKit Go.Proofs.YtdapiibllblpbaaDoorW.PrintWords Go.Proofs.YtdapiibllblpbaaDoorW.PrintLast Go.Proofs.YtdapiibllblpbaaDoorW.PrintMore Go.Proofs.YtdapiibllblpbaaDoor.PCodeAnswers
set_option linter.unusedVariables false
set_option linter.unusedSimpArgs false

def nope (m : Md) (f : S39) (o : S42) : Bool := !rightM m f o
set_option maxRecDepth 100000 in
set_option maxHeartbeats 2000000 in
theorem clos_right (r : MdR) (m : Md) (f : S39) (A4 : Option Addr) (c4 : Nat) (o : S42) (A : Option Addr) (c : Nat) (nb : Nat) (w : World) (hv : w.heap[nb]? = some (.cells (vwW r m f A4 c4 (wordsM m)).toArray 55 (0, 0))) (hm : MdC w r m) (hs : MdS m) (hall : m.funcs.all funcOk = true) (hf : funcOk f = true) (ha : Kd.C (Kd.int .i64) w A o.f8.length o.f8) (hal : o.f8.length ≤ 1000000) (hcl : f.f4.length ≤ 1000000) :
    Calls Tryd.prog 30 #[.agg (opW o A c).toArray, .pointer (some ⟨nb, 0, none⟩)] w fun e w' => e = .returned (.bool (nope m f o)) ∧ Below w.heap.size w w' := by
  have hb := below_alloc (Below.refl w.heap.size w) (.cells (opW o A c).toArray 42)
  have HB := Aside0.mk hb
  have ho := blk_new w (.cells (opW o A c).toArray 42)
  have hv2 := blk_below hv hb
  have C0 := Aside0.mk (right_any r m f A4 c4 o A c _ (hm.below hb) hs hall hf (Kd.C_below ha hb) hal hcl)
  clear hm hs hall hf ha hb hv
  obtain ⟨w0, hw0⟩ : ∃ w0, w.alloc (.cells (opW o A c).toArray 42) = w0 := ⟨_, rfl⟩
  rw [hw0] at HB ho hv2 C0
  have v0 : w0.cell? ⟨nb, 0, none⟩ = some (.slice r.a0 m.globals.length r.c0) := (blk_cell hv2 0).trans rfl
  have v1 : w0.cell? ⟨nb, 1, none⟩ = some (.slice r.a1 m.structs.length r.c1) := (blk_cell hv2 1).trans rfl
  have v2 : w0.cell? ⟨nb, 2, none⟩ = some (.slice r.a2 m.chans.length r.c2) := (blk_cell hv2 2).trans rfl
  have v3 : w0.cell? ⟨nb, 3, none⟩ = some (.slice r.a3 m.locks.length r.c3) := (blk_cell hv2 3).trans rfl
  have v4 : w0.cell? ⟨nb, 4, none⟩ = some (.slice r.a4 m.inputs.length r.c4) := (blk_cell hv2 4).trans rfl
  have v5 : w0.cell? ⟨nb, 5, none⟩ = some (.slice r.a5 m.sinks.length r.c5) := (blk_cell hv2 5).trans rfl
  have v6 : w0.cell? ⟨nb, 6, none⟩ = some (.slice r.a6 m.hatches.length r.c6) := (blk_cell hv2 6).trans rfl
  have v7 : w0.cell? ⟨nb, 7, none⟩ = some (.slice r.a7 m.funcs.length r.c7) := (blk_cell hv2 7).trans rfl
  have v8 : w0.cell? ⟨nb, 8, none⟩ = some (.slice r.a8 m.threads.length r.c8) := (blk_cell hv2 8).trans rfl
  have v9 : w0.cell? ⟨nb, 9, none⟩ = some (.string f.f0) := (blk_cell hv2 9).trans rfl
  have v10 : w0.cell? ⟨nb, 10, none⟩ = some (.int .i64 f.f1) := (blk_cell hv2 10).trans rfl
  have v11 : w0.cell? ⟨nb, 11, none⟩ = some (.int .i64 f.f2) := (blk_cell hv2 11).trans rfl
  have v12 : w0.cell? ⟨nb, 12, none⟩ = some (.int .i64 f.f3) := (blk_cell hv2 12).trans rfl
  have v13 : w0.cell? ⟨nb, 13, none⟩ = some (.slice A4 f.f4.length c4) := (blk_cell hv2 13).trans rfl
  have v14 : w0.cell? ⟨nb, 14, none⟩ = some (.int .i64 (wordsM m)) := (blk_cell hv2 14).trans rfl
  have o0 : w0.cell? ⟨w.heap.size, 0, none⟩ = some (.int .i64 o.f0) := (blk_cell ho 0).trans rfl
  have o1 : w0.cell? ⟨w.heap.size, 1, none⟩ = some (.int .i64 o.f1) := (blk_cell ho 1).trans rfl
  have o2 : w0.cell? ⟨w.heap.size, 2, none⟩ = some (.int .i64 o.f2) := (blk_cell ho 2).trans rfl
  have o3 : w0.cell? ⟨w.heap.size, 3, none⟩ = some (.int .i64 o.f3) := (blk_cell ho 3).trans rfl
  have o4 : w0.cell? ⟨w.heap.size, 4, none⟩ = some (.int .i64 o.f4) := (blk_cell ho 4).trans rfl
  have o5 : w0.cell? ⟨w.heap.size, 5, none⟩ = some (.int .i64 o.f5) := (blk_cell ho 5).trans rfl
  have o6 : w0.cell? ⟨w.heap.size, 6, none⟩ = some (.int .i64 o.f6) := (blk_cell ho 6).trans rfl
  have o7 : w0.cell? ⟨w.heap.size, 7, none⟩ = some (.int .i64 o.f7) := (blk_cell ho 7).trans rfl
  have o8 : w0.cell? ⟨w.heap.size, 8, none⟩ = some (.slice A o.f8.length c) := (blk_cell ho 8).trans rfl
  have o9 : w0.cell? ⟨w.heap.size, 9, none⟩ = some (.int .i64 o.f9) := (blk_cell ho 9).trans rfl
  have o10 : w0.cell? ⟨w.heap.size, 10, none⟩ = some (.int .i64 o.f10) := (blk_cell ho 10).trans rfl
  have o11 : w0.cell? ⟨w.heap.size, 11, none⟩ = some (.int .i64 o.f11) := (blk_cell ho 11).trans rfl
  clear ho hv2
  obtain ⟨b0, hb0⟩ : ∃ b, rightM m f o = b := ⟨_, rfl⟩
  rw [hb0] at C0
  have HB0 : Aside0 (nope m f o = !b0) := ⟨by unfold nope; rw [hb0]⟩
  clear hb0
  go_enter Tryd.func30, Tryd.ntmps30
  go_wp2_with fail
  refine C0.out.mono ?_
  rintro e w1 ⟨rfl, b⟩
  have B1 := Aside0.mk (below_then HB.out HB.out.size b)
  clear b
  go_wp2_with fail
  go_ret
  exact ⟨by rw [HB0.out]; rfl, B1.out⟩
set_option maxHeartbeats 2000000 in
theorem index_right (r : MdR) (m : Md) (f : S39) (A4 : Option Addr) (c4 : Nat) (nb : Nat) (A : Option Addr) (c : Nat) (zs : List S42) (w : World) (hv : w.heap[nb]? = some (.cells (vwW r m f A4 c4 (wordsM m)).toArray 55 (0, 0))) (hm : MdC w r m) (hs : MdS m) (hall : m.funcs.all funcOk = true) (hf : funcOk f = true) (hr : Kd.C k42 w A zs.length zs) (hl : zs.length ≤ 1000000) (hcl : f.f4.length ≤ 1000000) (hz : ∀ o ∈ zs, o.f8.length ≤ 1000000) :
    Calls Tryd.prog 47 #[.slice A zs.length c, .func (.func 30) #[] #[.pointer (some ⟨nb, 0, none⟩)]] w fun e w' => (∃ n : Int, e = .returned (.int .i64 n) ∧ decide (0 ≤ n) = zs.any (nope m f)) ∧ Below w.heap.size w w' := by
  have HV := Aside0.mk hv
  have HMM := Aside0.mk hm
  have HSS := Aside0.mk hs
  have HR := Aside0.mk hr
  have HAL := Aside0.mk hall
  have HFO := Aside0.mk hf
  have HZS := Aside0.mk hz
  clear hv hr hm hs hall hf hz
  go_enter Tryd.func47, Tryd.ntmps47
  go_wp2
  go_loopw [8] (fun i wr => ∃ k : Nat, i = .int .i64 k ∧ k ≤ zs.length ∧ Aside0 (∀ j : Nat, j < k → nope m f (rd_T42 zs j) = false) ∧ Aside0 (Below w.heap.size w wr)) (fun i _ => zs.length - (intOf i).toNat)
  case atStart => exact ⟨0, rfl, Nat.zero_le _, ⟨fun j hj => absurd hj (Nat.not_lt_zero j)⟩, ⟨Below.refl _ _⟩⟩
  case round =>
    obtain ⟨k, rfl, hk, H0, HB⟩ := hrel
    obtain ⟨wi, rfl⟩ : ∃ wi : World, wi = wr := ⟨_, rfl⟩
    by_cases hlt : k < zs.length
    · obtain ⟨ad, A8, c8, eA, d0, d1, d2, d3, d4, d5, d6, d7, d8, d9, d10, d11, hl8, h8⟩ := at_T42 (Kd.C_below HR.out HB.out) k (by omega) (by omega)
      subst eA
      rw [Int.toNat_natCast] at d0 d1 d2 d3 d4 d5 d6 d7 d8 d9 d10 d11
      have HK : Aside0 ((rd_T42 zs k).f8.length ≤ 1000000) := ⟨HZS.out _ (by
        unfold rd_T42
        rw [Int.toNat_natCast, List.getD_eq_getElem?_getD, List.getElem?_eq_getElem hlt]
        exact List.getElem_mem _)⟩
      obtain ⟨z, hz⟩ : ∃ z, rd_T42 zs k = z := ⟨_, rfl⟩
      rw [hz] at d0 d1 d2 d3 d4 d5 d6 d7 d8 d9 d10 d11 h8 hl8 HK
      have HC := Aside0.mk (clos_right r m f A4 c4 z A8 c8 nb wi (blk_below HV.out HB.out) (HMM.out.below HB.out) HSS.out HAL.out HFO.out h8 HK.out hcl)
      have HZ := Aside0.mk hz
      clear hz h8 hl8
      obtain ⟨t, ht⟩ : ∃ t, nope m f z = t := ⟨_, rfl⟩
      have HT := Aside0.mk ht
      rw [ht] at HC
      clear ht
      cases t with
      | false =>
        go_wp2_with fail
        refine HC.out.mono ?_
        rintro e w2 ⟨rfl, b2⟩
        have B2 := Aside0.mk (below_then HB.out HB.out.size b2)
        clear b2
        go_wp2_with fail
        go_roundw
        case rel => exact ⟨k + 1, by go_num, by omega, ⟨fun j hj => by
          by_cases e : j = k
          · rw [e, HZ.out, HT.out]
          · exact H0.out j (by omega)⟩, B2⟩
        case measure => simp [intOf]; omega
      | true =>
        go_wp2_with fail
        refine HC.out.mono ?_
        rintro e w2 ⟨rfl, b2⟩
        have B2 := Aside0.mk (below_then HB.out HB.out.size b2)
        clear b2
        go_wp2_with fail
        go_ret
        refine ⟨⟨(k : Int), rfl, ?_⟩, B2.out⟩
        have : (zs.any (nope m f)) = true := by
          rw [List.any_eq_true]
          refine ⟨zs[k], List.getElem_mem hlt, ?_⟩
          have hz := HZ.out
          unfold rd_T42 at hz
          rw [List.getD_eq_getElem?_getD] at hz
          simp [hlt] at hz
          rw [hz, HT.out]
        rw [this]
        simp
    · go_wp2_with fail
      go_ret
      refine ⟨⟨(-1 : Int), rfl, ?_⟩, HB.out⟩
      have : (zs.any (nope m f)) = false := by
        rw [List.any_eq_false]
        intro z hz
        obtain ⟨i, hi, rfl⟩ := List.getElem_of_mem hz
        have := H0.out i (by omega)
        unfold rd_T42 at this
        rw [List.getD_eq_getElem?_getD] at this
        simp [hi] at this
        simp [this]
      rw [this]
      decide
theorem any_right (r : MdR) (m : Md) (f : S39) (A4 : Option Addr) (c4 : Nat) (nb : Nat) (A : Option Addr) (c : Nat) (zs : List S42) (w : World) (hv : w.heap[nb]? = some (.cells (vwW r m f A4 c4 (wordsM m)).toArray 55 (0, 0))) (hm : MdC w r m) (hs : MdS m) (hall : m.funcs.all funcOk = true) (hf : funcOk f = true) (hr : Kd.C k42 w A zs.length zs) (hl : zs.length ≤ 1000000) (hcl : f.f4.length ≤ 1000000) (hz : ∀ o ∈ zs, o.f8.length ≤ 1000000) :
    Calls Tryd.prog 29 #[.slice A zs.length c, .func (.func 30) #[] #[.pointer (some ⟨nb, 0, none⟩)]] w fun e w' => e = .returned (.bool (zs.any (nope m f))) ∧ Below w.heap.size w w' := by
  have H := Aside0.mk (index_right r m f A4 c4 nb A c zs w hv hm hs hall hf hr hl hcl hz)
  clear hv hm hs hall hf hr hz
  go_enter Tryd.func29, Tryd.ntmps29
  go_wp2_with fail
  refine H.out.mono ?_
  rintro e w' ⟨⟨mm, rfl, hmm⟩, b⟩
  have HM := Aside0.mk hmm
  have B := Aside0.mk b
  clear hmm b
  go_wp2_with fail
  go_ret
  exact ⟨by rw [← HM.out]; rfl, B.out⟩
end Go.Proofs.YtdapiibllblpbaaDoor.Code
