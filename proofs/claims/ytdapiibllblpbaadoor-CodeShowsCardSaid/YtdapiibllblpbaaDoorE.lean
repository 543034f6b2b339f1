import Derived.Test.YtdapiibllblpbaaDoorD
namespace Go.Proofs.YtdapiibllblpbaaDoor.Code
open Go.RowKit Go.Proofs.YtdapiibllblpbaaDoorW.PrintWords Go.Proofs.YtdapiibllblpbaaDoorW.PrintLast Go.Proofs.YtdapiibllblpbaaDoorW.PrintMore Go.Proofs.YtdapiibllblpbaaDoor.PCodeAnswers
set_option linter.unusedVariables false
set_option linter.unusedSimpArgs false

structure MdR where
  a0 : Option Addr
  c0 : Nat
  a1 : Option Addr
  c1 : Nat
  a2 : Option Addr
  c2 : Nat
  a3 : Option Addr
  c3 : Nat
  a4 : Option Addr
  c4 : Nat
  a5 : Option Addr
  c5 : Nat
  a6 : Option Addr
  c6 : Nat
  a7 : Option Addr
  c7 : Nat
  a8 : Option Addr
  c8 : Nat
/-- A module's nine words. -/
def mdW (r : MdR) (m : Md) : List Value := [.slice r.a0 m.globals.length r.c0, .slice r.a1 m.structs.length r.c1, .slice r.a2 m.chans.length r.c2, .slice r.a3 m.locks.length r.c3, .slice r.a4 m.inputs.length r.c4, .slice r.a5 m.sinks.length r.c5, .slice r.a6 m.hatches.length r.c6, .slice r.a7 m.funcs.length r.c7, .slice r.a8 m.threads.length r.c8]
/-- A module that can be read. -/
structure MdC (w : World) (r : MdR) (m : Md) : Prop where
  h0 : Kd.C k46 w r.a0 m.globals.length m.globals
  h1 : Kd.C k46 w r.a1 m.structs.length m.structs
  h2 : Kd.C k46 w r.a2 m.chans.length m.chans
  h3 : Kd.C Kd.string w r.a3 m.locks.length m.locks
  h4 : Kd.C Kd.string w r.a4 m.inputs.length m.inputs
  h5 : Kd.C Kd.string w r.a5 m.sinks.length m.sinks
  h6 : Kd.C Kd.string w r.a6 m.hatches.length m.hatches
  h7 : Kd.C k39 w r.a7 m.funcs.length m.funcs
  h8 : Kd.C (Kd.int .i64) w r.a8 m.threads.length m.threads
theorem MdC.below {w w' : World} {r : MdR} {m : Md} (h : MdC w r m) (b : Below w.heap.size w w') : MdC w' r m :=
  ⟨Kd.C_below h.h0 b, Kd.C_below h.h1 b, Kd.C_below h.h2 b, Kd.C_below h.h3 b, Kd.C_below h.h4 b, Kd.C_below h.h5 b, Kd.C_below h.h6 b, Kd.C_below h.h7 b, Kd.C_below h.h8 b⟩
/-- Every length is a small one. -/
structure MdS (m : Md) : Prop where
  l0 : m.globals.length ≤ 1000000
  l1 : m.structs.length ≤ 1000000
  l2 : m.chans.length ≤ 1000000
  l3 : m.locks.length ≤ 1000000
  l4 : m.inputs.length ≤ 1000000
  l5 : m.sinks.length ≤ 1000000
  l6 : m.hatches.length ≤ 1000000
  l7 : m.funcs.length ≤ 1000000
  l8 : m.threads.length ≤ 1000000
def wrongT (m : Md) (t : Int) : Bool := !below m.funcs.length [t] || decide ((fnAt m t).f1 ≠ 0)
theorem wrong_any (m : Md) (r : MdR) (t : Int) (nb : Nat) (w : World) (hn : w.heap[nb]? = some (.cells (mdW r m).toArray 27 (0, 0))) (hm : MdC w r m) (hs : MdS m) :
    Calls Tryd.prog 45 #[.int .i64 t, .pointer (some ⟨nb, 0, none⟩)] w fun e w' => e = .returned (.bool (wrongT m t)) ∧ Below w.heap.size w w' := by
  have hb := below_alloc (Below.refl w.heap.size w) (.cells #[.int .i64 t] 3)
  have HB := Aside0.mk hb
  have HM := Aside0.mk hm
  have HN := Aside0.mk hn
  have c7 : w.cell? ⟨nb, 7, none⟩ = some (.slice r.a7 m.funcs.length r.c7) := (blk_cell hn 7).trans rfl
  have H := Aside0.mk (below_list m.funcs.length (some ⟨w.heap.size, 0, none⟩) 1 [t] (w.alloc (.cells #[.int .i64 t] 3)) (lit_ints w _ rfl [t] _ rfl (by simp)) (by simp))
  have hl := hs.l7
  clear hb hm hn
  obtain ⟨b, hbb⟩ : ∃ b, below m.funcs.length [t] = b := ⟨_, rfl⟩
  rw [hbb] at H
  have HBB := Aside0.mk hbb
  clear hbb
  cases b with
  | false =>
    have e : wrongT m t = true := by unfold wrongT; rw [HBB.out]; rfl
    rw [e]
    clear e
    go_enter Tryd.func45, Tryd.ntmps45
    go_wp2_with fail
    refine H.out.mono ?_
    rintro e w' ⟨rfl, b⟩
    have B := Aside0.mk (below_then HB.out HB.out.size b)
    clear b
    go_wp2_with fail
    go_ret
    exact ⟨rfl, B.out⟩
  | true =>
    have e : wrongT m t = decide ((fnAt m t).f1 ≠ 0) := by unfold wrongT; rw [HBB.out]; rfl
    have ht : 0 ≤ t ∧ t < m.funcs.length := by
      have := HBB.out
      simp [below] at this
      omega
    rw [e]
    clear e
    go_enter Tryd.func45, Tryd.ntmps45
    go_wp2_with fail
    refine H.out.mono ?_
    rintro e w' ⟨rfl, b⟩
    have B := Aside0.mk (below_then HB.out HB.out.size b)
    clear b
    have d7 : w'.cell? ⟨nb, 7, none⟩ = some (.slice r.a7 m.funcs.length r.c7) := (blk_cell (blk_below HN.out B.out) 7).trans rfl
    obtain ⟨ad, A4, c4, ea, rest⟩ := at_T39 (HM.out.below B.out).h7 t ht.1 ht.2
    have h0 := ht.1
    have h1 := ht.2
    clear ht
    go_wp2_with fail
    go_ret
    refine ⟨congrArg (fun b => Ending.returned (.bool b)) (?_ : ((rd_T39 m.funcs t).f1 != 0) = _), B.out⟩
    rw [Bool.eq_iff_iff]
    simp [fnAt, rd_T39]
theorem index_wrong (m : Md) (r : MdR) (nb : Nat) (A : Option Addr) (c : Nat) (zs : List Int) (w : World) (hn : w.heap[nb]? = some (.cells (mdW r m).toArray 27 (0, 0))) (hm : MdC w r m) (hs : MdS m) (hr : Kd.C (Kd.int .i64) w A zs.length zs) (hl : zs.length ≤ 1000000) :
    Calls Tryd.prog 57 #[.slice A zs.length c, .func (.func 45) #[] #[.pointer (some ⟨nb, 0, none⟩)]] w fun e w' => (∃ n : Int, e = .returned (.int .i64 n) ∧ decide (0 ≤ n) = zs.any (wrongT m)) ∧ Below w.heap.size w w' := by
  have HN := Aside0.mk hn
  have HMM := Aside0.mk hm
  have HSS := Aside0.mk hs
  have HR := Aside0.mk hr
  clear hn hr hm hs
  go_enter Tryd.func57, Tryd.ntmps57
  go_wp2
  go_loopw [8] (fun i wr => ∃ k : Nat, i = .int .i64 k ∧ k ≤ zs.length ∧ Aside0 (∀ j < k, wrongT m (rd zs j) = false) ∧ Aside0 (Below w.heap.size w wr)) (fun i _ => zs.length - (intOf i).toNat)
  case atStart => exact ⟨0, rfl, Nat.zero_le _, ⟨fun j hj => absurd hj (Nat.not_lt_zero j)⟩, ⟨Below.refl _ _⟩⟩
  case round =>
    obtain ⟨k, rfl, hk, H0, HB⟩ := hrel
    obtain ⟨wi, rfl⟩ : ∃ wi : World, wi = wr := ⟨_, rfl⟩
    by_cases hlt : k < zs.length
    · obtain ⟨ad, eA, c0⟩ := Kd.at_int (Kd.C_below HR.out HB.out) k (by omega) (by omega)
      subst eA
      rw [Int.toNat_natCast] at c0
      obtain ⟨z, hz⟩ : ∃ z, rd zs k = z := ⟨_, rfl⟩
      rw [hz] at c0
      have HC := Aside0.mk (wrong_any m r z nb wi (blk_below HN.out HB.out) (HMM.out.below HB.out) HSS.out)
      have HZ := Aside0.mk hz
      clear hz
      obtain ⟨t, ht⟩ : ∃ t, wrongT m z = t := ⟨_, rfl⟩
      have HT := Aside0.mk ht
      rw [ht] at HC
      clear ht
      cases t with
      | false =>
        go_wp2_with fail
        refine HC.out.mono ?_
        rintro e w2 ⟨rfl, b2⟩
        have B2 := Aside0.mk (below_then HB.out HB.out.size b2)
        clear b2
        go_wp2_with fail
        go_roundw
        case rel => exact ⟨k + 1, by go_num, by omega, ⟨fun j hj => by
          by_cases e : j = k
          · rw [e, HZ.out, HT.out]
          · exact H0.out j (by omega)⟩, B2⟩
        case measure => simp [intOf]; omega
      | true =>
        go_wp2_with fail
        refine HC.out.mono ?_
        rintro e w2 ⟨rfl, b2⟩
        have B2 := Aside0.mk (below_then HB.out HB.out.size b2)
        clear b2
        go_wp2_with fail
        go_ret
        refine ⟨⟨(k : Int), rfl, ?_⟩, B2.out⟩
        have : (zs.any (wrongT m)) = true := by
          rw [List.any_eq_true]
          refine ⟨zs[k], List.getElem_mem hlt, ?_⟩
          have hz := HZ.out
          unfold rd at hz
          rw [List.getD_eq_getElem?_getD] at hz
          simp [hlt] at hz
          rw [hz, HT.out]
        rw [this]
        simp
    · go_wp2_with fail
      go_ret
      refine ⟨⟨(-1 : Int), rfl, ?_⟩, HB.out⟩
      have : (zs.any (wrongT m)) = false := by
        rw [List.any_eq_false]
        intro z hz
        obtain ⟨i, hi, rfl⟩ := List.getElem_of_mem hz
        have := H0.out i (by omega)
        unfold rd at this
        rw [List.getD_eq_getElem?_getD] at this
        simp [hi] at this
        simp [this]
      rw [this]
      decide
theorem any_wrong (m : Md) (r : MdR) (nb : Nat) (A : Option Addr) (c : Nat) (zs : List Int) (w : World) (hn : w.heap[nb]? = some (.cells (mdW r m).toArray 27 (0, 0))) (hm : MdC w r m) (hs : MdS m) (hr : Kd.C (Kd.int .i64) w A zs.length zs) (hl : zs.length ≤ 1000000) :
    Calls Tryd.prog 46 #[.slice A zs.length c, .func (.func 45) #[] #[.pointer (some ⟨nb, 0, none⟩)]] w fun e w' => e = .returned (.bool (zs.any (wrongT m))) ∧ Below w.heap.size w w' := by
  have H := Aside0.mk (index_wrong m r nb A c zs w hn hm hs hr hl)
  clear hn hr hm hs
  go_enter Tryd.func46, Tryd.ntmps46
  go_wp2_with fail
  refine H.out.mono ?_
  rintro e w' ⟨⟨mm, rfl, hmm⟩, b⟩
  have HM := Aside0.mk hmm
  have B := Aside0.mk b
  clear hmm b
  go_wp2_with fail
  go_ret
  exact ⟨by rw [← HM.out]; rfl, B.out⟩
end Go.Proofs.YtdapiibllblpbaaDoor.Code
