import Derived.Test.YthkndoglmajehaaDoorF
import Derived.Deep.QuietTactic
import Derived.Deep.WholeRow
namespace Go.Proofs.YthkndoglmajehaaDoor.Lex
open Go.RowKit Go.Proofs.YthkndoglmajehaaDoorW.PrintWords Go.Proofs.YthkndoglmajehaaDoorW.PrintLast Go.Proofs.YthkndoglmajehaaDoorW.PrintMore Go.Proofs.YthkndoglmajehaaDoor.PLexTokens
set_option linter.unusedVariables false
set_option linter.unusedSimpArgs false

/-! ### The reference: Word, small, digit -/
theorem small_any (c : UInt8) (w : World) : Calls Tryd.prog 24 #[.int .u8 (c.toNat : Int)] w fun e w' => e = .returned (.bool (isLet c)) ∧ w = w' := by
  by_cases h : 97 ≤ c.toNat
  · have E : Aside0 (isLet c = decide (c.toNat ≤ 122)) := ⟨by unfold isLet; rw [decide_eq_true h]; rfl⟩
    go_enter Tryd.func24, Tryd.ntmps24
    go_wp2
    go_ret
    refine ⟨?_, rfl⟩
    rw [E.out]
    show Ending.returned (Value.bool _) = _
    congr 2
    rw [Bool.eq_iff_iff]
    simp only [decide_eq_true_eq]
    omega
  · have E : Aside0 (isLet c = false) := ⟨by unfold isLet; rw [decide_eq_false h]; rfl⟩
    go_enter Tryd.func24, Tryd.ntmps24
    go_wp2
    go_ret
    exact ⟨by rw [E.out]; rfl, rfl⟩
theorem digit_any (c : UInt8) (w : World) : Calls Tryd.prog 25 #[.int .u8 (c.toNat : Int)] w fun e w' => e = .returned (.bool (isDig c)) ∧ w = w' := by
  by_cases h : 48 ≤ c.toNat
  · have E : Aside0 (isDig c = decide (c.toNat ≤ 57)) := ⟨by unfold isDig; rw [decide_eq_true h]; rfl⟩
    go_enter Tryd.func25, Tryd.ntmps25
    go_wp2
    go_ret
    refine ⟨?_, rfl⟩
    rw [E.out]
    show Ending.returned (Value.bool _) = _
    congr 2
    rw [Bool.eq_iff_iff]
    simp only [decide_eq_true_eq]
    omega
  · have E : Aside0 (isDig c = false) := ⟨by unfold isDig; rw [decide_eq_false h]; rfl⟩
    go_enter Tryd.func25, Tryd.ntmps25
    go_wp2
    go_ret
    exact ⟨by rw [E.out]; rfl, rfl⟩
def wordCells : Array Value := (wordsL.map fun x => Value.string (str x)).toArray
theorem word_cell (k : Nat) (h : k < 27) : wordCells[k]? = some (.string (str (wordsL.getD k []))) := by
  unfold wordCells
  rw [List.getElem?_toArray, List.getElem?_map, List.getD_eq_getElem?_getD]
  have : k < wordsL.length := h
  rw [List.getElem?_eq_getElem this]
  rfl
theorem wpList_build_is {P : Program} {ops : Array Oper} {rest : List Oper} {o : Oper} {a : Act} {w : World} {Q : Exit → Act → World → Prop} (hg : o.guard = none) (t : TypeId) (parts : Array (Nat × Operand)) (ho : o.op = .build t parts) (cells : Array Value)
    (hc : P.built t (parts.map fun (i, x) => (i, a.eval x)).toList = some cells) (h : wpList P ops Q rest (a.put o.dst (.agg cells)) w) : wpList P ops Q (o :: rest) a w :=
  wpList_build hg t parts ho (by rw [hc]; rfl) (by rw [hc]; exact h)
theorem word_store (w : World) : (storeCells ⟨w.heap.size, 0, none⟩ wordCells.toList 0).run Tryd.prog (w.alloc (.cells #[Value.string { data := #[] }, Value.string { data := #[] }, Value.string { data := #[] }, Value.string { data := #[] }, Value.string { data := #[] }, Value.string { data := #[] }, Value.string { data := #[] }, Value.string { data := #[] }, Value.string { data := #[] }, Value.string { data := #[] }, Value.string { data := #[] }, Value.string { data := #[] }, Value.string { data := #[] }, Value.string { data := #[] }, Value.string { data := #[] }, Value.string { data := #[] }, Value.string { data := #[] }, Value.string { data := #[] }, Value.string { data := #[] }, Value.string { data := #[] }, Value.string { data := #[] }, Value.string { data := #[] }, Value.string { data := #[] }, Value.string { data := #[] }, Value.string { data := #[] }, Value.string { data := #[] }, Value.string { data := #[] }] 36)) = .ok () (w.alloc (.cells wordCells 36)) :=
  run_storeCells_new (P := Tryd.prog) w 36 _ wordCells (by kernel_rfl) (by kernel_rfl) (by kernel_rfl)
set_option maxHeartbeats 4000000 in
set_option maxRecDepth 100000 in
theorem refWord_any (s : ByteArray) (w : World) : Calls Tryd.prog 11 #[.string s] w fun e w' => e = .returned (.bool (isWord s.data.toList)) ∧ Below w.heap.size w w' := by
  have hst := word_store w
  go_enter Tryd.func11, Tryd.ntmps11
  go_wp2_with (refine wpList_build_is rfl 36 _ rfl wordCells (by as_aux_lemma => kernel_rfl) ?_)
  clear hst
  go_loopw [4] (fun i wr => ∃ k : Nat, i = .int .i64 k ∧ k ≤ 27 ∧ Aside0 (∀ j < k, wordsL.getD j [] ≠ s.data.toList) ∧ Aside0 (wr.heap[w.heap.size]? = some (.cells wordCells 36 (0, 0))) ∧ Aside0 (Below w.heap.size w wr)) (fun i _ => 27 - (intOf i).toNat)
  case atStart => exact ⟨0, rfl, Nat.zero_le _, ⟨fun j hj => absurd hj (Nat.not_lt_zero j)⟩, ⟨blk_new w _⟩, ⟨below_alloc (Below.refl _ _) _⟩⟩
  case round =>
    obtain ⟨k, rfl, hk, H0, HN, HB⟩ := hrel
    obtain ⟨wi, rfl⟩ : ∃ wi : World, wi = wr := ⟨_, rfl⟩
    by_cases hlt : k < 27
    · have c0 : wi.cell? ⟨w.heap.size, k, none⟩ = some (.string (str (wordsL.getD k []))) := (blk_cell HN.out k).trans (word_cell k hlt)
      obtain ⟨x, hx⟩ : ∃ x, str (wordsL.getD k []) = x := ⟨_, rfl⟩
      rw [hx] at c0
      have HX := Aside0.mk hx
      clear hx
      by_cases e : wordsL.getD k [] = s.data.toList
      · have hb : (x.toList == s.toList) = true := by rw [beq_iff_eq, Lib.toList_data, Lib.toList_data, ← HX.out, data_str, e]
        have HE : Aside0 (isWord s.data.toList = true) := ⟨by
          unfold isWord
          rw [List.contains_iff_mem, ← e, List.getD_eq_getElem?_getD, List.getElem?_eq_getElem (show k < wordsL.length from hlt)]
          exact List.getElem_mem _⟩
        clear e
        go_wp2_with fail
        go_ret
        exact ⟨by rw [HE.out]; rfl, HB.out⟩
      · have hb : (x.toList == s.toList) = false := by rw [beq_eq_false_iff_ne, Lib.toList_data, Lib.toList_data, ← HX.out, data_str]; exact e
        have HE := Aside0.mk e
        clear e
        go_wp2_with fail
        go_roundw
        case rel => exact ⟨k + 1, by go_num, by omega, ⟨fun j hj => by
          by_cases e : j = k
          · rw [e]; exact HE.out
          · exact H0.out j (by omega)⟩, HN, HB⟩
        case measure => simp [intOf]; omega
    · go_wp2_with fail
      go_ret
      refine ⟨?_, HB.out⟩
      have : isWord s.data.toList = false := by
        unfold isWord
        rw [Bool.eq_false_iff]
        intro h
        rw [List.contains_iff_mem] at h
        obtain ⟨j, hj, e⟩ := List.getElem_of_mem h
        have hj2 : j < 27 := hj
        refine H0.out j (by omega) ?_
        rw [List.getD_eq_getElem?_getD, List.getElem?_eq_getElem hj]
        exact e
      rw [this]; rfl
end Go.Proofs.YthkndoglmajehaaDoor.Lex
