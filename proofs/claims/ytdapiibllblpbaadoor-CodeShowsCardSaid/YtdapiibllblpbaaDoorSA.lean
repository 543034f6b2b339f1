import Derived.Test.YtdapiibllblpbaaDoorV
import Derived.Test.YtdapiibllblpbaaDoorQ4b
import Derived.Deep.QuietTactic
import Derived.Deep.WholeRow
import Derived.Deep.RegionHeld3
namespace Go.Proofs.YtdapiibllblpbaaDoor.Code
open Go.RowKit Go.Proofs.YtdapiibllblpbaaDoorW.PrintWords Go.Proofs.YtdapiibllblpbaaDoorW.PrintLast Go.Proofs.YtdapiibllblpbaaDoorW.PrintMore Go.Proofs.YtdapiibllblpbaaDoor.PCodeAnswers
set_option linter.unusedVariables false
set_option linter.unusedSimpArgs false

/-! ### The document: the shapes -/
def shp : List (List UInt8) := [[], [114, 46, 46, 46, 46, 46, 110], [114, 105, 46, 46, 46, 46, 46], [114, 104, 46, 46, 46, 46, 46], [114, 114, 46, 46, 46, 46, 46], [114, 114, 46, 46, 46, 46, 117], [114, 114, 114, 46, 46, 46, 98], [114, 119, 46, 46, 46, 46, 107], [119, 114, 46, 46, 46, 46, 107], [114, 115, 46, 46, 46, 46, 46], [114, 114, 114, 46, 46, 46, 46], [114, 114, 103, 46, 46, 46, 107], [114, 103, 114, 46, 46, 46, 107], [114, 114, 114, 114, 46, 46, 46], [114, 114, 114, 114, 46, 46, 46], [114, 114, 114, 114, 114, 114, 46], [108, 46, 46, 46, 46, 46, 46], [108, 46, 46, 46, 46, 46, 46], [99, 114, 46, 46, 46, 46, 46], [114, 99, 46, 46, 46, 46, 46], [111, 114, 46, 46, 46, 46, 46], [114, 46, 46, 46, 46, 46, 46], [102, 100, 46, 46, 46, 46, 100], [46, 46, 46, 46, 46, 46, 46]]
def ofL (c : UInt8) : Sh := if c = 46 then .dot else if c = 114 then .r else if c = 105 then .i else if c = 104 then .h else if c = 119 then .w else if c = 115 then .s else if c = 108 then .l else if c = 99 then .c else if c = 111 then .o else if c = 102 then .f else if c = 107 then .k else if c = 117 then .u else if c = 98 then .b else if c = 103 then .g else .any
def shL (k : Int) : List UInt8 := if 1 ≤ k ∧ k ≤ 23 then shp.getD k.toNat [] else []
def shB (k : Int) : ByteArray := ⟨(shL k).toArray⟩
theorem shL_is (k : Int) (h : 1 ≤ k ∧ k ≤ 23) : (shL k).map ofL = shape k ∧ (shL k).length = 7 ∧ ∀ c ∈ shL k, c ∈ ([46, 114, 105, 104, 119, 115, 108, 99, 111, 102, 107, 117, 98, 103, 100, 110] : List UInt8) := by
  have : k = 1 ∨ k = 2 ∨ k = 3 ∨ k = 4 ∨ k = 5 ∨ k = 6 ∨ k = 7 ∨ k = 8 ∨ k = 9 ∨ k = 10 ∨ k = 11 ∨ k = 12 ∨ k = 13 ∨ k = 14 ∨ k = 15 ∨ k = 16 ∨ k = 17 ∨ k = 18 ∨ k = 19 ∨ k = 20 ∨ k = 21 ∨ k = 22 ∨ k = 23 := by omega
  rcases this with h | h | h | h | h | h | h | h | h | h | h | h | h | h | h | h | h | h | h | h | h | h | h <;> (subst h; exact ⟨by rfl, by rfl, by decide⟩)
theorem shL_no (k : Int) (h : ¬(1 ≤ k ∧ k ≤ 23)) : shL k = [] := if_neg h
def shpCells : Array Value := (shp.map fun x => Value.string ⟨x.toArray⟩).toArray
theorem shp_cell (k : Nat) (h : k < 24) : shpCells[k]? = some (.string ⟨(shp.getD k []).toArray⟩) := by
  unfold shpCells
  rw [List.getElem?_toArray, List.getElem?_map, List.getD_eq_getElem?_getD]
  have : k < shp.length := h
  rw [List.getElem?_eq_getElem this]
  rfl
theorem wpList_build_is {P : Program} {ops : Array Oper} {rest : List Oper} {o : Oper} {a : Act} {w : World} {Q : Exit → Act → World → Prop} (hg : o.guard = none) (t : TypeId) (parts : Array (Nat × Operand)) (ho : o.op = .build t parts) (cells : Array Value)
    (hc : P.built t (parts.map fun (i, x) => (i, a.eval x)).toList = some cells) (h : wpList P ops Q rest (a.put o.dst (.agg cells)) w) : wpList P ops Q (o :: rest) a w :=
  wpList_build hg t parts ho (by rw [hc]; rfl) (by rw [hc]; exact h)
theorem shp_store (w : World) : (storeCells ⟨w.heap.size, 0, none⟩ shpCells.toList 0).run Tryd.prog (w.alloc (.cells #[Value.string { data := #[] }, Value.string { data := #[] }, Value.string { data := #[] }, Value.string { data := #[] }, Value.string { data := #[] }, Value.string { data := #[] }, Value.string { data := #[] }, Value.string { data := #[] }, Value.string { data := #[] }, Value.string { data := #[] }, Value.string { data := #[] }, Value.string { data := #[] }, Value.string { data := #[] }, Value.string { data := #[] }, Value.string { data := #[] }, Value.string { data := #[] }, Value.string { data := #[] }, Value.string { data := #[] }, Value.string { data := #[] }, Value.string { data := #[] }, Value.string { data := #[] }, Value.string { data := #[] }, Value.string { data := #[] }, Value.string { data := #[] }] 75)) = .ok () (w.alloc (.cells shpCells 75)) :=
  run_storeCells_new (P := Tryd.prog) w 75 _ shpCells (by kernel_rfl) (by kernel_rfl) (by kernel_rfl)
set_option maxHeartbeats 4000000 in
set_option maxRecDepth 100000 in
theorem Shape_any (k : Int) (w : World) : Calls Tryd.prog 50 #[.int .i64 k] w fun e w' => e = .returned (.string (shB k)) ∧ Below w.heap.size w w' := by
  have hst := shp_store w
  have HN := Aside0.mk (blk_new w (.cells shpCells 75))
  have HB := Aside0.mk (below_alloc (Below.refl w.heap.size w) (.cells shpCells 75))
  obtain ⟨w0, hw0⟩ : ∃ w0, w.alloc (.cells shpCells 75) = w0 := ⟨_, rfl⟩
  rw [hw0] at hst HN HB
  by_cases h : 1 ≤ k ∧ k ≤ 23
  · obtain ⟨n, rfl⟩ : ∃ n : Nat, k = n := ⟨k.toNat, by omega⟩
    have c0 : w0.cell? ⟨w.heap.size, n, none⟩ = some (.string (shB n)) := by
      rw [blk_cell HN.out, shp_cell n (by omega)]
      unfold shB shL
      rw [if_pos h, Int.toNat_natCast]
    have h1 := h.1
    have h2 := h.2
    clear h
    go_enter Tryd.func50, Tryd.ntmps50
    go_wp2_with (refine wpList_build_is rfl 75 _ rfl shpCells (by as_aux_lemma => kernel_rfl) ?_)
    go_ret
    exact ⟨rfl, HB.out⟩
  · have e : Aside0 (shB k = ⟨#[]⟩) := ⟨by unfold shB; rw [shL_no k h]⟩
    by_cases h1 : 1 ≤ k
    · have h2 : 23 < k := by omega
      clear h
      go_enter Tryd.func50, Tryd.ntmps50
      go_wp2_with (refine wpList_build_is rfl 75 _ rfl shpCells (by as_aux_lemma => kernel_rfl) ?_)
      go_ret
      exact ⟨by rw [e.out]; rfl, HB.out⟩
    · have h2 : k < 1 := by omega
      clear h h1
      go_enter Tryd.func50, Tryd.ntmps50
      go_wp2_with (refine wpList_build_is rfl 75 _ rfl shpCells (by as_aux_lemma => kernel_rfl) ?_)
      go_ret
      exact ⟨by rw [e.out]; rfl, HB.out⟩
end Go.Proofs.YtdapiibllblpbaaDoor.Code
