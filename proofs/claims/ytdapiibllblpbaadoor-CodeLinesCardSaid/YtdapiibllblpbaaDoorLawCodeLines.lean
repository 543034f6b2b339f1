import Derived.Test.YtdapiibllblpbaaDoorR
import Derived.Test.YtdapiibllblpbaaDoorV
import Derived.Deep.RegionHeld3
import Derived.Test.YtdapiibllblpbaaDoorRows
import Derived.Test.YtdapiibllblpbaaDoorTie
import Derived.Test.YtdapiibllblpbaaDoorCards
import Derived.WalkKit
import Derived.ProofKit
import Derived.OpenShut
import Derived.ShutString
import Derived.ChangeOld
import Derived.Below
import Derived.SizedLaws
import Derived.Lib.LaidIn
import Derived.Lib.LaidU8
import Derived.Lib.LaidTab
import Derived.Lib.TrailingZeros
import Derived.Deep.DeepHandedRow
import Derived.Deep.DeepWitnessRowRef
import Derived.SevenTiedAt
namespace Go.Proofs.YtdapiibllblpbaaDoor.Code
open Go.RowKit Go.Proofs.YtdapiibllblpbaaDoorW.PrintWords Go.Proofs.YtdapiibllblpbaaDoorW.PrintLast Go.Proofs.YtdapiibllblpbaaDoorW.PrintMore Go.Proofs.YtdapiibllblpbaaDoor.PCodeAnswers
set_option linter.unusedVariables false
set_option linter.unusedSimpArgs false

/-! ### How many lines a text has -/
def tens (l : List UInt8) : Nat := (l.filter (· == 10)).length
theorem tens_append (a b : List UInt8) : tens (a ++ b) = tens a + tens b := by simp [tens]
theorem tens_none {l : List UInt8} (h : (10 : UInt8) ∉ l) : tens l = 0 := by
  unfold tens
  rw [List.length_eq_zero_iff, List.filter_eq_nil_iff]
  intro x hx
  simp
  rintro rfl
  exact h hx
theorem dec_ten (u : Nat) : (10 : UInt8) ∉ Lib.decDigits u := by
  induction u using Nat.strongRecOn with
  | _ u ih =>
    unfold Lib.decDigits
    have key : ∀ d, d < 10 → (10 : UInt8) ≠ UInt8.ofNat (48 + d) := by decide
    split
    · rename_i h
      rw [List.mem_singleton]
      exact key u h
    · rw [List.mem_append, List.mem_singleton]
      rintro (h | h)
      · exact ih (u / 10) (by omega) h
      · exact key (u % 10) (by omega) h
theorem itoa_ten (v : Int) : (10 : UInt8) ∉ Lib.itoa v := by
  unfold Lib.itoa
  split
  · rw [List.mem_cons]
    rintro (h | h)
    · exact absurd h (by decide)
    · exact dec_ten _ h
  · exact dec_ten _
def flat (x : Wd) : Prop := (10 : UInt8) ∉ (piece x).data.toList
theorem flat_num (v : Int) : flat (.num v) := by
  unfold flat piece
  simpa using itoa_ten v
theorem flat_nm (k : Int) : flat (.txt (nm k)) := by
  have h : ∀ x ∈ nms, (10 : UInt8) ∉ x.data.toList := by decide
  unfold flat piece nm
  rw [List.getD_eq_getElem?_getD]
  rcases Nat.lt_or_ge k.toNat nms.length with hl | hl
  · rw [List.getElem?_eq_getElem hl]
    exact h _ (List.getElem_mem hl)
  · rw [List.getElem?_eq_none hl]
    simp
theorem join_flat (l : List (List UInt8)) (h : ∀ x ∈ l, (10 : UInt8) ∉ x) : (10 : UInt8) ∉ Lib.join l [32] := by
  unfold Lib.join
  induction l with
  | nil => simp [List.intercalate]
  | cons x t ih =>
    have hx := h x List.mem_cons_self
    have ht := ih (fun y hy => h y (List.mem_cons_of_mem _ hy))
    cases t with
    | nil => simpa [List.intercalate] using hx
    | cons y t =>
      have e : [32].intercalate (x :: y :: t) = x ++ ([32] ++ [(32 : UInt8)].intercalate (y :: t)) := by simp [List.intercalate]
      rw [e, List.mem_append, List.mem_append]
      rintro (h1 | h1 | h1)
      · exact hx h1
      · exact absurd h1 (by decide)
      · exact ht h1
theorem line_tens (l : List Wd) (h : ∀ x ∈ l, flat x) : tens (lineL l) = 1 := by
  unfold lineL
  rw [tens_append, tens_none (join_flat _ (by
    intro x hx
    obtain ⟨y, hy, rfl⟩ := List.mem_map.1 hx
    exact h y hy))]
  rfl
theorem opL_flat (j : Int) (o : S42) : ∀ x ∈ opL j o, flat x := by
  intro x hx
  unfold opL opFirst at hx
  simp only [List.mem_append, List.mem_cons, List.not_mem_nil, or_false, List.mem_map] at hx
  rcases hx with ((hx | ⟨v, hv, rfl⟩) | hx) | hx
  · rcases hx with rfl | rfl | rfl | rfl | rfl | rfl | rfl | rfl | rfl
    · exact flat_num _
    · exact flat_nm _
    all_goals exact flat_num _
  · exact flat_num _
  · split at hx
    · simp only [List.mem_cons, List.not_mem_nil, or_false] at hx
      rcases hx with rfl | rfl
      · unfold flat piece arrow; decide
      · exact flat_num _
    · cases hx
  · split at hx
    · simp only [List.mem_cons, List.not_mem_nil, or_false] at hx
      subst hx
      exact flat_num _
    · cases hx
theorem fnL_flat (k : Int) (f : S39) : ∀ x ∈ fnL k f, flat x := by
  intro x hx
  unfold fnL at hx
  simp only [List.mem_cons, List.not_mem_nil, or_false] at hx
  rcases hx with rfl | rfl | rfl | rfl | rfl
  · unfold flat piece; decide
  all_goals exact flat_num _
theorem opsText_tens (f : S39) : ∀ j, tens (opsText f j) = j
  | 0 => rfl
  | j + 1 => by rw [opsText_next, tens_append, opsText_tens f j, line_tens _ (opL_flat _ _)]
theorem textM_tens (m : Md) : ∀ k, k ≤ m.funcs.length → (tens (textM m k) : Int) = k + opsF (m.funcs.take k)
  | 0, _ => by simp [textM, tens, opsF]
  | k + 1, h => by
    have ih := textM_tens m k (by omega)
    rw [textM_next, tens_append, sum_next m.funcs k (by omega)]
    unfold fnText
    rw [tens_append, line_tens _ (fnL_flat _ _), opsText_tens]
    push_cast
    omega
theorem show_tens (m : Md) : (tens (textM m m.funcs.length) : Int) = m.funcs.length + opsM m := by
  have := textM_tens m m.funcs.length (Nat.le_refl _)
  rw [List.take_length] at this
  exact this
end Go.Proofs.YtdapiibllblpbaaDoor.Code
namespace Go.Proofs.YtdapiibllblpbaaDoor.Code
open Go.RowKit Go.Proofs.YtdapiibllblpbaaDoorW.PrintWords Go.Proofs.YtdapiibllblpbaaDoorW.PrintLast Go.Proofs.YtdapiibllblpbaaDoorW.PrintMore Go.Proofs.YtdapiibllblpbaaDoor.PCodeAnswers
set_option linter.unusedVariables false
set_option linter.unusedSimpArgs false
set_option maxRecDepth 100000 in
set_option maxHeartbeats 8000000 in
theorem lines_any (m : Md) (r : MdR) (w : World) (hm : MdC w r m) (hk : MdK r m) (hL : MdL m) (hi : MdI m) (ht : Pow10 w) :
    Calls Tryd.prog 7 #[.agg (mdW r m).toArray] w fun e w' => e = .returned (.bool true) ∧ Below w.heap.size w w' := by
  have hb := below_alloc (Below.refl w.heap.size w) (.cells (mdW r m).toArray 27)
  have HB0 := Aside0.mk hb
  have hn := blk_new w (.cells (mdW r m).toArray 27)
  have HN0 := Aside0.mk hn
  have HM0 := Aside0.mk (hm.below hb)
  have HT0 := Aside0.mk (ht.below hb)
  have HK := Aside0.mk hk
  have HL := Aside0.mk hL
  have HI := Aside0.mk hi
  clear hm ht hk hL hi
  obtain ⟨w0, hw0⟩ : ∃ w0, w.alloc (.cells (mdW r m).toArray 27) = w0 := ⟨_, rfl⟩
  rw [hw0] at HB0 hn HM0 HN0 HT0
  have CA := Aside0.mk (alive_any w0 HT0.out)
  clear hb hn
  go_enter Tryd.func7, Tryd.ntmps7
  go_wp2_with fail
  refine CA.out.mono ?_
  rintro e w1 ⟨rfl, b⟩
  have HB1 := Aside0.mk (below_then HB0.out HB0.out.size b)
  have HN1 := blk_below HN0.out b
  have HM1 := Aside0.mk (HM0.out.below b)
  have HT1 := Aside0.mk (HT0.out.below b)
  have g0 : w1.cell? ⟨w.heap.size, 0, none⟩ = some (.slice r.a0 m.globals.length r.c0) := (blk_cell HN1 0).trans rfl
  have g1 : w1.cell? ⟨w.heap.size, 1, none⟩ = some (.slice r.a1 m.structs.length r.c1) := (blk_cell HN1 1).trans rfl
  have g2 : w1.cell? ⟨w.heap.size, 2, none⟩ = some (.slice r.a2 m.chans.length r.c2) := (blk_cell HN1 2).trans rfl
  have g3 : w1.cell? ⟨w.heap.size, 3, none⟩ = some (.slice r.a3 m.locks.length r.c3) := (blk_cell HN1 3).trans rfl
  have g4 : w1.cell? ⟨w.heap.size, 4, none⟩ = some (.slice r.a4 m.inputs.length r.c4) := (blk_cell HN1 4).trans rfl
  have g5 : w1.cell? ⟨w.heap.size, 5, none⟩ = some (.slice r.a5 m.sinks.length r.c5) := (blk_cell HN1 5).trans rfl
  have g6 : w1.cell? ⟨w.heap.size, 6, none⟩ = some (.slice r.a6 m.hatches.length r.c6) := (blk_cell HN1 6).trans rfl
  have g7 : w1.cell? ⟨w.heap.size, 7, none⟩ = some (.slice r.a7 m.funcs.length r.c7) := (blk_cell HN1 7).trans rfl
  have g8 : w1.cell? ⟨w.heap.size, 8, none⟩ = some (.slice r.a8 m.threads.length r.c8) := (blk_cell HN1 8).trans rfl
  have HN1 := Aside0.mk HN1
  have CW := Aside0.mk (weigh_any m r w1 HM1.out HK.out HL.out 20000 (by omega))
  clear b CA hw0
  go_wp2_with fail
  refine CW.out.mono ?_
  rintro e w2 ⟨⟨n, rfl, hle⟩, b⟩
  have HB2 := Aside0.mk (below_then HB1.out HB1.out.size b)
  have HN2 := blk_below HN1.out b
  have HM2 := Aside0.mk (HM1.out.below b)
  have HT2 := Aside0.mk (HT1.out.below b)
  clear b CW g0 g1 g2 g3 g4 g5 g6 g7 g8
  by_cases hbig : n > 20000
  · go_wp2_with fail
    go_ret
    exact ⟨rfl, HB2.out⟩
  have hnb : n ≤ 20000 := by omega
  obtain ⟨hS, hZ, hF⟩ := hle hnb
  have HS := Aside0.mk hS
  have HZ := Aside0.mk hZ
  have HF := Aside0.mk hF
  clear hle hS hZ hF
  have g0 : w2.cell? ⟨w.heap.size, 0, none⟩ = some (.slice r.a0 m.globals.length r.c0) := (blk_cell HN2 0).trans rfl
  have g1 : w2.cell? ⟨w.heap.size, 1, none⟩ = some (.slice r.a1 m.structs.length r.c1) := (blk_cell HN2 1).trans rfl
  have g2 : w2.cell? ⟨w.heap.size, 2, none⟩ = some (.slice r.a2 m.chans.length r.c2) := (blk_cell HN2 2).trans rfl
  have g3 : w2.cell? ⟨w.heap.size, 3, none⟩ = some (.slice r.a3 m.locks.length r.c3) := (blk_cell HN2 3).trans rfl
  have g4 : w2.cell? ⟨w.heap.size, 4, none⟩ = some (.slice r.a4 m.inputs.length r.c4) := (blk_cell HN2 4).trans rfl
  have g5 : w2.cell? ⟨w.heap.size, 5, none⟩ = some (.slice r.a5 m.sinks.length r.c5) := (blk_cell HN2 5).trans rfl
  have g6 : w2.cell? ⟨w.heap.size, 6, none⟩ = some (.slice r.a6 m.hatches.length r.c6) := (blk_cell HN2 6).trans rfl
  have g7 : w2.cell? ⟨w.heap.size, 7, none⟩ = some (.slice r.a7 m.funcs.length r.c7) := (blk_cell HN2 7).trans rfl
  have g8 : w2.cell? ⟨w.heap.size, 8, none⟩ = some (.slice r.a8 m.threads.length r.c8) := (blk_cell HN2 8).trans rfl
  have HN2 := Aside0.mk HN2
  have CC := Aside0.mk (Copy_any m r w2 HM2.out HK.out HS.out HZ.out HF.out)
  go_wp2_with fail
  refine CC.out.mono ?_
  rintro e w3 ⟨r', rfl, ho, b⟩
  have HB3 := Aside0.mk (below_then HB2.out HB2.out.size b)
  have HN3 := Aside0.mk (blk_below HN2.out b)
  have HM3 := Aside0.mk (HM2.out.below b)
  have HT3 := Aside0.mk (HT2.out.below b)
  have CS := Aside0.mk (Show_any m r' w3 ho.reads.1 HS.out HZ.out HI.out HT3.out)
  clear b ho CC g0 g1 g2 g3 g4 g5 g6 g7 g8
  cases hr : RightM m with
  | false =>
    have e1 : ShowM m = ([], 70) := by unfold ShowM; rw [hr]; rfl
    have e2 : SizeM m = 0 := by unfold SizeM; rw [hr]; rfl
    have e3 : WordsM m = 0 := by unfold WordsM; rw [hr]; rfl
    rw [e1] at CS
    have E2 := Aside0.mk e2
    have E3 := Aside0.mk e3
    clear e1 e2 e3 hr
    go_wp2_with fail
    refine CS.out.mono ?_
    rintro e w4 ⟨rfl, b⟩
    have HB4 := Aside0.mk (below_then HB3.out HB3.out.size b)
    have HN4 := blk_below HN3.out b
    have HM4 := Aside0.mk (HM3.out.below b)
    have g0 : w4.cell? ⟨w.heap.size, 0, none⟩ = some (.slice r.a0 m.globals.length r.c0) := (blk_cell HN4 0).trans rfl
    have g1 : w4.cell? ⟨w.heap.size, 1, none⟩ = some (.slice r.a1 m.structs.length r.c1) := (blk_cell HN4 1).trans rfl
    have g2 : w4.cell? ⟨w.heap.size, 2, none⟩ = some (.slice r.a2 m.chans.length r.c2) := (blk_cell HN4 2).trans rfl
    have g3 : w4.cell? ⟨w.heap.size, 3, none⟩ = some (.slice r.a3 m.locks.length r.c3) := (blk_cell HN4 3).trans rfl
    have g4 : w4.cell? ⟨w.heap.size, 4, none⟩ = some (.slice r.a4 m.inputs.length r.c4) := (blk_cell HN4 4).trans rfl
    have g5 : w4.cell? ⟨w.heap.size, 5, none⟩ = some (.slice r.a5 m.sinks.length r.c5) := (blk_cell HN4 5).trans rfl
    have g6 : w4.cell? ⟨w.heap.size, 6, none⟩ = some (.slice r.a6 m.hatches.length r.c6) := (blk_cell HN4 6).trans rfl
    have g7 : w4.cell? ⟨w.heap.size, 7, none⟩ = some (.slice r.a7 m.funcs.length r.c7) := (blk_cell HN4 7).trans rfl
    have g8 : w4.cell? ⟨w.heap.size, 8, none⟩ = some (.slice r.a8 m.threads.length r.c8) := (blk_cell HN4 8).trans rfl
    have HN4 := Aside0.mk HN4
    have CZ := Aside0.mk (Size_any m r w4 HM4.out HS.out HZ.out)
    rw [E2.out] at CZ
    clear b CS
    go_wp2_with fail
    refine CZ.out.mono ?_
    rintro e w5 ⟨rfl, b⟩
    have HB5 := Aside0.mk (below_then HB4.out HB4.out.size b)
    have HN5 := blk_below HN4.out b
    have HM5 := Aside0.mk (HM4.out.below b)
    clear g0 g1 g2 g3 g4 g5 g6 g7 g8
    have g0 : w5.cell? ⟨w.heap.size, 0, none⟩ = some (.slice r.a0 m.globals.length r.c0) := (blk_cell HN5 0).trans rfl
    have g1 : w5.cell? ⟨w.heap.size, 1, none⟩ = some (.slice r.a1 m.structs.length r.c1) := (blk_cell HN5 1).trans rfl
    have g2 : w5.cell? ⟨w.heap.size, 2, none⟩ = some (.slice r.a2 m.chans.length r.c2) := (blk_cell HN5 2).trans rfl
    have g3 : w5.cell? ⟨w.heap.size, 3, none⟩ = some (.slice r.a3 m.locks.length r.c3) := (blk_cell HN5 3).trans rfl
    have g4 : w5.cell? ⟨w.heap.size, 4, none⟩ = some (.slice r.a4 m.inputs.length r.c4) := (blk_cell HN5 4).trans rfl
    have g5 : w5.cell? ⟨w.heap.size, 5, none⟩ = some (.slice r.a5 m.sinks.length r.c5) := (blk_cell HN5 5).trans rfl
    have g6 : w5.cell? ⟨w.heap.size, 6, none⟩ = some (.slice r.a6 m.hatches.length r.c6) := (blk_cell HN5 6).trans rfl
    have g7 : w5.cell? ⟨w.heap.size, 7, none⟩ = some (.slice r.a7 m.funcs.length r.c7) := (blk_cell HN5 7).trans rfl
    have g8 : w5.cell? ⟨w.heap.size, 8, none⟩ = some (.slice r.a8 m.threads.length r.c8) := (blk_cell HN5 8).trans rfl
    have CX := Aside0.mk (Words_any m r w5 HM5.out HS.out HZ.out)
    rw [E3.out] at CX
    clear b CZ HN5
    go_wp2_with fail
    refine CX.out.mono ?_
    rintro e w6 ⟨rfl, b⟩
    have HB6 := Aside0.mk (below_then HB5.out HB5.out.size b)
    clear b CX g0 g1 g2 g3 g4 g5 g6 g7 g8
    go_wp2_with fail
    go_ret
    exact ⟨rfl, HB6.out⟩
  | true =>
    have e1 : ShowM m = (textM m m.funcs.length, 0) := by unfold ShowM; rw [hr]; rfl
    have e2 : SizeM m = opsM m := by unfold SizeM; rw [hr]; rfl
    have e3 : WordsM m = wordsM m := by unfold WordsM; rw [hr]; rfl
    rw [e1] at CS
    have E2 := Aside0.mk e2
    have E3 := Aside0.mk e3
    have hg := (right_frame m hr).2.1
    have HALL := Aside0.mk (right_frame m hr).1
    have hl12 := (right_frame m hr).2.2.2.2.2.2.2.1
    have hops := (right_frame m hr).2.2.2.2.2.2.2.2.2
    have hlen := textM_len m (right_frame m hr).1 hl12 HI.out HZ.out m.funcs.length (Nat.le_refl _)
    have HTEN := Aside0.mk (show_tens m)
    clear e1 e2 e3 hr
    obtain ⟨s, hs⟩ : ∃ s, textM m m.funcs.length = s := ⟨_, rfl⟩
    rw [hs] at CS hlen HTEN
    have hlen2 : s.length ≤ 2000000000000 := by omega
    clear hs hlen
    obtain ⟨S, hS⟩ : ∃ S : ByteArray, (⟨s.toArray⟩ : ByteArray) = S := ⟨_, rfl⟩
    have CS' : Aside0 (Calls Tryd.prog 18 #[.agg (mdW r' m).toArray] w3 fun e w' => e = .returned (.tuple #[.string S, .int .i64 0]) ∧ Below w3.heap.size w3 w') := ⟨by rw [← hS]; exact CS.out⟩
    have hSl : S.size = s.length := by rw [← hS]; simp [ByteArray.size]
    have HSD : Aside0 (S.data.toList = s) := ⟨by rw [← hS]⟩
    have hSz : S.size ≤ 2000000000000 := by omega
    clear CS hS hSl hlen2
    go_wp2_with fail
    refine CS'.out.mono ?_
    rintro e w4 ⟨rfl, b⟩
    have HB4 := Aside0.mk (below_then HB3.out HB3.out.size b)
    have HN4 := Aside0.mk (blk_below HN3.out b)
    have HM4 := Aside0.mk (HM3.out.below b)
    clear b CS'
    go_wp2_with fail
    go_loopw [5, 6] (fun l i wr => ∃ k : Nat, i = .int .i64 k ∧ l = .int .i64 (tens (S.data.toList.take k) : Int) ∧ k ≤ S.size ∧ wr = w4) (fun _ i _ => S.size - (intOf i).toNat)
    case atStart => exact ⟨0, rfl, rfl, Nat.zero_le _, rfl⟩
    case round =>
      obtain ⟨k, rfl, rfl, hk, rfl⟩ := hrel
      by_cases hlt : k < S.size
      · have hlt2 : k < S.data.toList.length := hlt
        have hnx : tens (S.data.toList.take (k + 1)) = tens (S.data.toList.take k) + if S[k] = 10 then 1 else 0 := by
          rw [List.take_succ_eq_append_getElem hlt2, tens_append]
          have : S.data.toList[k] = S[k] := rfl
          rw [this]
          unfold tens
          by_cases e : S[k] = 10 <;> simp [e]
        have htl : tens (S.data.toList.take k) ≤ k := Nat.le_trans (List.length_filter_le _ _) (List.length_take_le _ _)
        obtain ⟨t, ht⟩ : ∃ t, tens (S.data.toList.take k) = t := ⟨_, rfl⟩
        rw [ht] at hnx htl
        rw [ht]
        have hkI : (k : Int) < S.size := by omega
        by_cases e : S[k] = 10
        · have hb : ((S[k].toNat : Nat) : Int) = 10 := by rw [e]; rfl
          rw [if_pos e] at hnx
          have HX := Aside0.mk hnx
          clear ht hnx e
          have hwr : IntKind.i64.wrap ((t : Int) + 1) = (t : Int) + 1 := IntWalk.i64_in _ (by omega)
          go_wp2_with fail
          go_roundw
          case rel => exact ⟨k + 1, by go_num, by rw [HX.out]; push_cast; rfl, hlt, trivial⟩
          case measure => simp [intOf]; omega
        · have hb : ¬ ((S[k].toNat : Nat) : Int) = 10 := by
            intro h
            exact e (UInt8.toNat_inj.1 (by have : S[k].toNat = 10 := by omega
                                           rw [this]; rfl))
          rw [if_neg e] at hnx
          have HX := Aside0.mk hnx
          clear ht hnx e
          go_wp2_with fail
          go_roundw
          case rel => exact ⟨k + 1, by go_num, by rw [HX.out]; rfl, hlt, trivial⟩
          case measure => simp [intOf]; omega
      · have : k = S.size := by omega
        subst this
        have HTT : Aside0 ((tens (S.data.toList.take S.size) : Int) = m.funcs.length + opsM m) := ⟨by
          rw [← HTEN.out, ← HSD.out, show S.size = S.data.toList.length from rfl, List.take_length]⟩
        obtain ⟨t, ht⟩ : ∃ t, tens (S.data.toList.take S.size) = t := ⟨_, rfl⟩
        rw [ht] at HTT
        rw [ht]
        clear ht hlt hk
        have hgl : m.globals.length ≤ 16 ∧ m.globals.any (wide 1 2) = false := by
          unfold sizedM at hg
          simp only [Bool.and_eq_true, decide_eq_true_eq, Bool.not_eq_true'] at hg
          exact ⟨by omega, hg.2⟩
        have hgl1 := hgl.1
        have HGL := Aside0.mk hgl.2
        clear hg hgl
        go_wp2_with fail
        go_loopw [7, 8] (fun l i wr => ∃ k : Nat, i = .int .i64 k ∧ l = .int .i64 (sumF (m.globals.take k)) ∧ k ≤ m.globals.length ∧ Aside0 (wr.heap[w.heap.size]? = some (.cells (mdW r m).toArray 27 (0, 0))) ∧ Aside0 (MdC wr r m) ∧ Aside0 (Below w.heap.size w wr)) (fun _ i _ => m.globals.length - (intOf i).toNat)
        case atStart => exact ⟨0, rfl, rfl, Nat.zero_le _, HN4, HM4, HB4⟩
        case round =>
          obtain ⟨k, rfl, rfl, hk, HN, HM, HB⟩ := hrel
          obtain ⟨wi, rfl⟩ : ∃ wi : World, wi = wr := ⟨_, rfl⟩
          have HNi := HN.out
          have g0 : wi.cell? ⟨w.heap.size, 0, none⟩ = some (.slice r.a0 m.globals.length r.c0) := (blk_cell HNi 0).trans rfl
          by_cases hlt : k < m.globals.length
          · obtain ⟨ad, eA, d0, d1⟩ := at_T46 HM.out.h0 k (by omega) (by omega)
            rw [eA] at g0
            clear eA
            rw [Int.toNat_natCast] at d0 d1
            have hb1 := sumF_of _ (wide_take m.globals k HGL.out)
            have hn1 := sumF_next m.globals k hlt
            have hb2 := sumF_of _ (wide_take m.globals (k + 1) HGL.out)
            have hlt1 : (m.globals.take k).length ≤ 1000 := by have := List.length_take_le k m.globals; omega
            have hlt2 : (m.globals.take (k + 1)).length ≤ 1000 := by have := List.length_take_le (k + 1) m.globals; omega
            obtain ⟨z, hz⟩ : ∃ z, rd_T46 m.globals k = z := ⟨_, rfl⟩
            rw [hz] at d0 d1 hn1
            rw [hn1] at hb2
            obtain ⟨q, hq⟩ : ∃ q, sumF (m.globals.take k) = q := ⟨_, rfl⟩
            rw [hq] at hb1 hb2 hn1
            rw [hq]
            have hw : IntKind.i64.wrap (q + z.f1) = q + z.f1 := IntWalk.i64_in _ (by omega)
            have HX := Aside0.mk hn1
            have hlk := hlt
            clear hz hb1 hb2 hlt1 hlt2 hq hn1 HNi
            go_wp2_with fail
            go_roundw
            case rel => exact ⟨k + 1, by go_num, by rw [HX.out], hlk, HN, HM, HB⟩
            case measure => simp [intOf]; omega
          · have : k = m.globals.length := by omega
            subst this
            have HWW : Aside0 (wordsM m = sumF m.globals) := ⟨rfl⟩
            rw [List.take_length]
            obtain ⟨q, hq⟩ : ∃ q, sumF m.globals = q := ⟨_, rfl⟩
            rw [hq] at HWW
            rw [hq]
            obtain ⟨oo, hoo⟩ : ∃ oo, opsM m = oo := ⟨_, rfl⟩
            rw [hoo] at HTT hops E2
            have hopp := sum_of m.funcs HALL.out
            rw [show opsF m.funcs = oo from hoo] at hopp
            have htt := HTT.out
            have hwr : IntKind.i64.wrap ((m.funcs.length : Int) + oo) = (m.funcs.length : Int) + oo := IntWalk.i64_in _ (by omega)
            rw [HWW.out] at E3
            have KEEP : Aside0 (∀ w', Aside0 (Below wi.heap.size wi w') → w'.cell? ⟨w.heap.size, 0, none⟩ = some (.slice r.a0 m.globals.length r.c0) ∧ w'.cell? ⟨w.heap.size, 1, none⟩ = some (.slice r.a1 m.structs.length r.c1) ∧ w'.cell? ⟨w.heap.size, 2, none⟩ = some (.slice r.a2 m.chans.length r.c2) ∧ w'.cell? ⟨w.heap.size, 3, none⟩ = some (.slice r.a3 m.locks.length r.c3) ∧ w'.cell? ⟨w.heap.size, 4, none⟩ = some (.slice r.a4 m.inputs.length r.c4) ∧ w'.cell? ⟨w.heap.size, 5, none⟩ = some (.slice r.a5 m.sinks.length r.c5) ∧ w'.cell? ⟨w.heap.size, 6, none⟩ = some (.slice r.a6 m.hatches.length r.c6) ∧ w'.cell? ⟨w.heap.size, 7, none⟩ = some (.slice r.a7 m.funcs.length r.c7) ∧ w'.cell? ⟨w.heap.size, 8, none⟩ = some (.slice r.a8 m.threads.length r.c8) ∧ Aside0 (Below wi.heap.size wi w')) := ⟨fun w' h => ⟨(blk_cell (blk_below HN.out h.out) 0).trans rfl, (blk_cell (blk_below HN.out h.out) 1).trans rfl, (blk_cell (blk_below HN.out h.out) 2).trans rfl, (blk_cell (blk_below HN.out h.out) 3).trans rfl, (blk_cell (blk_below HN.out h.out) 4).trans rfl, (blk_cell (blk_below HN.out h.out) 5).trans rfl, (blk_cell (blk_below HN.out h.out) 6).trans rfl, (blk_cell (blk_below HN.out h.out) 7).trans rfl, (blk_cell (blk_below HN.out h.out) 8).trans rfl, h⟩⟩
            have Z0 : Aside0 (Below wi.heap.size wi wi.drew) := ⟨(Below.refl wi.heap.size wi).drew⟩
            have TH : Aside0 (∀ W W', Aside0 (Below wi.heap.size wi W) → Below W.heap.size W W' → Aside0 (Below wi.heap.size wi W')) := ⟨fun W W' h b => ⟨below_then h.out h.out.size b⟩⟩
            have CZ : Aside0 (∀ W, Aside0 (Below wi.heap.size wi W) → Calls Tryd.prog 15 #[.agg (mdW r m).toArray] W fun e w' => e = .returned (.int .i64 oo) ∧ Below W.heap.size W w') := ⟨fun W h => by have := Size_any m r W (HM.out.below h.out) HS.out HZ.out; rw [E2.out] at this; exact this⟩
            have CX : Aside0 (∀ W, Aside0 (Below wi.heap.size wi W) → Calls Tryd.prog 13 #[.agg (mdW r m).toArray] W fun e w' => e = .returned (.int .i64 q) ∧ Below W.heap.size W w') := ⟨fun W h => by have := Words_any m r W (HM.out.below h.out) HS.out HZ.out; rw [E3.out] at this; exact this⟩
            clear hoo hq HNi hopp
            go_wp2_with fail
            rw [htt]
            clear htt
            first | (go_region_held3 (fun w' => w'.cell? ⟨w.heap.size, 0, none⟩ = some (.slice r.a0 m.globals.length r.c0) ∧ w'.cell? ⟨w.heap.size, 1, none⟩ = some (.slice r.a1 m.structs.length r.c1) ∧ w'.cell? ⟨w.heap.size, 2, none⟩ = some (.slice r.a2 m.chans.length r.c2) ∧ w'.cell? ⟨w.heap.size, 3, none⟩ = some (.slice r.a3 m.locks.length r.c3) ∧ w'.cell? ⟨w.heap.size, 4, none⟩ = some (.slice r.a4 m.inputs.length r.c4) ∧ w'.cell? ⟨w.heap.size, 5, none⟩ = some (.slice r.a5 m.sinks.length r.c5) ∧ w'.cell? ⟨w.heap.size, 6, none⟩ = some (.slice r.a6 m.hatches.length r.c6) ∧ w'.cell? ⟨w.heap.size, 7, none⟩ = some (.slice r.a7 m.funcs.length r.c7) ∧ w'.cell? ⟨w.heap.size, 8, none⟩ = some (.slice r.a8 m.threads.length r.c8) ∧ Aside0 (Below wi.heap.size wi w'))
              (first | exact KEEP.out _ (by assumption))
              (first
                | (go_at_call 15; refine (CZ.out _ (by assumption)).mono ?_; rintro e w' ⟨rfl, b⟩; have z := TH.out _ _ (by assumption) b; clear b)
                | (go_at_call 13; refine (CX.out _ (by assumption)).mono ?_; rintro e w' ⟨rfl, b⟩; have z := TH.out _ _ (by assumption) b; clear b))) | fail
            all_goals (
              go_wp2_with fail
              go_ret
              exact ⟨rfl, below_then HB.out HB.out.size (Aside0.out (by assumption : Aside0 (Below wi.heap.size wi _)))⟩)
end Go.Proofs.YtdapiibllblpbaaDoor.Code
/- The law CodeLines: for every input it returns true, and the input reads as it did: the given row, out of the walk; then the tied card. No condition. -/
namespace Go.Proofs.YtdapiibllblpbaaDoor.codeLines
open Go.ChangeShapes Go.WideShapes Go.ChangeAt Go.RowKit Go.Lib Go.Proofs.YtdapiibllblpbaaDoor.Code
open Go.ChangeMaps (open_string shut_string)
set_option linter.unusedVariables false
theorem own : ownKnob Tryd.prog.godebug = none := by kernel_rfl
theorem laidOut : laidOutB Tryd.prog = true := by kernel_rfl
/-- The witness: the settled world, the three tables holding what their initialisers lay. -/
noncomputable def laidWorld (os : Os) : World :=
  let w0 := World.holding Tryd.prog os ⟨#[], #[], []⟩
  let put (h : Array Obj) (g : Nat) (cs : Array Value) : Array Obj := h.modify g fun
    | .cells _ t frozen => .cells cs t frozen
    | o => o
  let h1 := put w0.heap 0 (Lib.pow10Tab.map fun z => Value.int .u64 z).toArray
  let h2 := put h1 2 (Lib.deBruijn32tab.map fun (z : Nat) => Value.int .u8 z).toArray
  let h3 := put h2 3 (Lib.deBruijn64tab.map fun (z : Nat) => Value.int .u8 z).toArray
  { w0 with heap := h3 }
theorem laid_met (os : Os) (args : Array Value) : laidMet Tryd.prog Rows.codeLinesRow.laid ((laidWorld os).forCall (fun _ _ => 0) ⟨#[], args, []⟩).memory :=
  (LaidIn.of_run (l := Rows.codeLinesRow.laid) [2, 3, 0] 8 (by kernel_rfl) (by kernel_rfl) (by kernel_rfl) (by kernel_rfl)).met
theorem pow10_of {W : World} (h : laidMet Tryd.prog Rows.codeLinesRow.laid W) : Pow10 W := by
  obtain ⟨g, t, cs, fuel, p, hg, ht, hv, hd⟩ := laidMet.reads h (n := "internal/strconv.uint64pow10") (d := Rows.laid_internal_strconv_uint64pow10) (by simp [Rows.codeLinesRow])
  obtain rfl : g = 0 := Option.some.inj (hg.symm.trans (by kernel_rfl))
  obtain rfl : t = 102 := Option.some.inj (ht.symm.trans (by kernel_rfl))
  have hdd : DataW.trod (fun _ => ()) Tryd.prog W 0 (fun _ => true) false fuel 102 cs.toList = some (Lib.tabData .u64 Lib.pow10Tab, p) := hd.trans (by kernel_rfl)
  have := Lib.cells_of_tab (n := 20) (e := 94) (by kernel_rfl) (by kernel_rfl) (by kernel_rfl) (by kernel_rfl) hdd
  unfold Pow10 Lib.TabIs
  rw [hv, ← this]
theorem witness_row (os : Os) {H : Type} (enc : TypeId × Value → H) :
    (OpenSpec.ofChange Rows.codeLinesSpec).preRow enc Tryd.prog Tryd.f7 Rows.codeLinesRow.domain false Rows.codeLinesRow.laid ((laidWorld os).forCall (fun _ _ => 0) ⟨#[], #[.agg #[.slice none 0 0, .slice none 0 0, .slice none 0 0, .slice none 0 0, .slice none 0 0, .slice none 0 0, .slice none 0 0, .slice none 0 0, .slice none 0 0]], []⟩).memory #[.agg #[.slice none 0 0, .slice none 0 0, .slice none 0 0, .slice none 0 0, .slice none 0 0, .slice none 0 0, .slice none 0 0, .slice none 0 0, .slice none 0 0]] := by
  have hw : (DataW.whole enc Tryd.prog ((laidWorld os).forCall (fun _ _ => 0) ⟨#[], #[.agg #[.slice none 0 0, .slice none 0 0, .slice none 0 0, .slice none 0 0, .slice none 0 0, .slice none 0 0, .slice none 0 0, .slice none 0 0, .slice none 0 0]], []⟩).memory Tryd.f7.params.toList (OpenSpec.ofChange Rows.codeLinesSpec).vars false (#[.agg #[.slice none 0 0, .slice none 0 0, .slice none 0 0, .slice none 0 0, .slice none 0 0, .slice none 0 0, .slice none 0 0, .slice none 0 0, .slice none 0 0]] : Array Value).toList 8).map (fun x => (x.1, x.2.1)) =
      some ([.agg [.nil, .nil, .nil, .nil, .nil, .nil, .nil, .nil, .nil]], []) := by kernel_rfl
  obtain ⟨⟨x1, x2, x3⟩, hx, hx1⟩ := Option.map_eq_some_iff.1 hw
  simp only [Prod.mk.injEq] at hx1
  obtain ⟨rfl, rfl⟩ := hx1
  exact OpenSpec.preRow_of_cond 8 hx (by kernel_rfl) (fun k hk => by cases hk) (by kernel_rfl) (laid_met os _)
set_option maxRecDepth 100000 in
set_option maxHeartbeats 2000000 in
theorem lifted (os : Os) (started : os.Started) (H : Type) (enc : TypeId × Value → H) (F : Stop.Interp) :
    ReturnsInHanded {} Tryd.checked os 7 .any ((OpenSpec.ofChange Rows.codeLinesSpec).preRow enc Tryd.prog Tryd.f7 Rows.codeLinesRow.domain false Rows.codeLinesRow.laid) (((OpenSpec.ofChange Rows.codeLinesSpec).at F).post enc Tryd.prog Tryd.f7 false true false false) := by
  refine returnsInHanded_of_row (C := Tryd.checked) (s := (OpenSpec.ofChange Rows.codeLinesSpec)) own started (by kernel_rfl) Tryd.func7
    (witness_row_atRef (enc := enc) (C := Tryd.checked) false (laidWorld os) #[.agg #[.slice none 0 0, .slice none 0 0, .slice none 0 0, .slice none 0 0, .slice none 0 0, .slice none 0 0, .slice none 0 0, .slice none 0 0, .slice none 0 0]] rfl (by kernel_rfl) (by kernel_rfl) (by kernel_rfl) (witness_row os enc)) ?_
  intro W base args ds gs before hval0 hW _ _ hsz0 hL hsh _
  have hsz : (DataW.weightsEach Tryd.prog (Tryd.f7.params.toList ++ (OpenSpec.ofChange Rows.codeLinesSpec).bare.plain.varTypes Tryd.prog) (ds ++ gs)).all (· ≤ reachBytes) = true := hsz0
  have hval : ∀ (j : Nat) t v, Tryd.f7.params[j]? = some t → args[j]? = some v → Value.okWide Tryd.prog W .any base t v := hval0
  have hW' := hW
  obtain ⟨p, q, hA0, hV, rfl, _, _⟩ := hW
  have hA : DataW.TrodAll enc Tryd.prog W 0 (fun _ => true) true Tryd.f7.params.toList args.toList ds p := hA0
  rw [Tryd.params7] at hA hval hsz
  obtain ⟨v0, vs0, d0, ds0, p0, q0, hargs, rfl, rfl, h0, r0⟩ := trodAll_cons hA
  obtain ⟨rfl, rfl, rfl⟩ := trodAll_nil r0
  obtain rfl : args = #[v0] := by cases args; simp_all
  obtain ⟨rfl, rfl⟩ := trodVars_none hV
  have k0 := h0
  have lt0 : ∀ x ∈ p0, x.block < W.heap.size := by obtain ⟨m, hm⟩ := k0; exact DataW.trod_lt m _ _ _ hm
  have hwt : ∀ n ∈ d0.weights Tryd.prog 27, n ≤ reachBytes := fun n hn => of_decide_eq_true (List.all_eq_true.1 hsz n (DataW.weights_mem_each (j := 0) (t := 27) (d := d0) rfl rfl n hn))
  obtain ⟨mr, mm, rfl, hmC, hmK, hmL, hmI⟩ := arg_module (hval 0 27 v0 rfl rfl) h0 hwt
  have ht10 : Pow10 W := pow10_of hL
  clear hA0 hval0 hsz0 hsz
  refine (lines_any mm mr W hmC hmK hmL hmI ht10 ).mono fun e W' ⟨he, bel⟩ => ?_
  subst he
  exact ⟨_, rfl, _, _, _, [], _, [], hW', trodAll_mk1 (shut_bool Tryd.underlying4 _), (trodAll_cons_mk (Below.trod laidOut (by kernel_rfl) (of_decide_eq_true (by kernel_rfl)) k0 bel lt0) trodAll_mk0), rfl, bel.frame _, fun h => by cases h⟩
theorem over : Rows.CodeLinesSaid :=
  OpenClaim.holds_of_cond 7 Tryd.f7 rfl rfl rfl rfl rfl rfl rfl ⟨rfl, rfl, rfl, rfl, rfl⟩ rfl rfl rfl rfl rfl (by kernel_rfl) Tryd.func7 (by kernel_rfl)
    (of_decide_eq_true (by kernel_rfl)) (by unfold Func.isWrapper; first | (rw [if_pos (by decide +kernel)]; kernel_rfl) | (rw [if_neg (by decide +kernel)]; exact ⟨rfl, rfl⟩))
    (fun os started H enc _ F0 => by rw [OpenClaim.pre_eq_preRow]; exact lifted os started H enc F0)
theorem proved : Rows.CodeLinesCardSaid :=
  Claim7.holds_tied_plain_at .later [] [.data, .data, .data] true (true, "a10d14bd31ce332ab7754a4659aeb050d60062314594b17949934f054efb2f35") true
    over (fun _ h => by cases h) (by kernel_rfl) (fun _ h => by cases h) codeLines_row_tie rfl ⟨rfl, rfl⟩ (by kernel_rfl) rfl
    (fun f fn hf hfn => by
      obtain rfl : f = 7 := Option.some.inj ((show Tryd.prog.funcNamed Rows.codeLinesRow.func = some 7 by kernel_rfl).symm.trans hf) |>.symm
      obtain rfl : fn = Tryd.f7 := (Option.some.inj (Tryd.func7.symm.trans hfn)).symm
      exact ⟨by kernel_rfl, fun j t ht => by
        rw [Tryd.params7] at ht
        cases j with
        | zero =>
          have h3 : t = 27 := by simpa using ht.symm
          subst h3
          exact (show Tryd.prog.wantsStandIn 27 = false by kernel_rfl)
        | succ j =>
          simp at ht⟩)
    (by kernel_rfl)
#print axioms proved
end Go.Proofs.YtdapiibllblpbaaDoor.codeLines
namespace Go.Proofs.YtdapiibllblpbaaDoor
theorem codeLines_holds : Rows.CodeLinesCardSaid := codeLines.proved
end Go.Proofs.YtdapiibllblpbaaDoor

