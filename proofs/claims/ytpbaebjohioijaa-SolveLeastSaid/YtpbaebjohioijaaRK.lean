import Derived.Test.YtpbaebjohioijaaRH
import Derived.Test.YtpbaebjohioijaaY2
import Derived.IntWalk
import Derived.Deep.RegionHeld3
import Derived.Laws.BitsAllLaws
import Derived.Laws.Bits64b
import Derived.Laws.IdiomCopy
namespace Go.Proofs.Ytpbaebjohioijaa.Lat
open Go.RowKit Go.Proofs.YtpbaebjohioijaaW.PrintWords Go.Proofs.YtpbaebjohioijaaW.PrintLast Go.Proofs.YtpbaebjohioijaaW.PrintMore Go.Proofs.Ytpbaebjohioijaa.PSolveLeast
set_option linter.unusedVariables false
set_option linter.unusedSimpArgs false

/-! ### slices.Repeat -/
theorem mul_one_f (m : Nat) (h : m ≤ 524288) : bits_Mul.f 1 (m : Int) = some (0, (m : Int)) := by
  have e1 : (1 : Int) / 4294967296 = 0 := by decide
  have e2 : (m : Int) / 4294967296 = 0 := by omega
  have e3 : Go.bits .and .u64 1 4294967295 = 1 := by
    have := bits_and_u64_nat 1 4294967295 (by decide) (by decide)
    exact this
  have e4 : Go.bits .and .u64 (m : Int) 4294967295 = (m : Int) := by
    have := bits_and_u64_nat m 4294967295 (by omega) (by decide)
    rw [nat_mask32, Nat.mod_eq_of_lt (by omega)] at this
    exact this
  have w0 : IntKind.u64.wrap 0 = 0 := IntWalk.u64_in _ (by omega)
  have wm : IntKind.u64.wrap (m : Int) = (m : Int) := IntWalk.u64_in _ (by omega)
  have e5 : Go.bits .and .u64 0 4294967295 = 0 := by
    have := bits_and_u64_nat 0 4294967295 (by decide) (by decide)
    exact this
  unfold bits_Mul.f bits_Mul64.f
  simp only [e1, e2, e3, e4, e5, Int.zero_mul, Int.mul_zero, Int.one_mul, Int.mul_one, w0, wm, Int.add_zero, Int.zero_add, Int.zero_ediv, Option.bind_some]
theorem wpList_copy_is {P : Program} {ops : Array Oper} {rest : List Oper} {o : Oper} {a : Act} {W w1 : World} {Q : Exit → Act → World → Prop} (hgd : o.guard = none) (s x : Operand) (t t' : TypeId) (u y z : Value)
    (ho : o.op = .call { callee := .builtin .copy, args := #[s, x], argTypes := #[t, t'] }) (hs : a.eval s = u) (hx : a.eval x = y) (hr : (Builtin.copy_ #[t, t'] o.type #[u, y]).run P W = .ok z w1)
    (h : wpList P ops Q rest (a.put o.dst z) w1) : wpList P ops Q (o :: rest) a W := by
  refine wpList_plain hgd fun K hK => ?_
  unfold Oper.wp execOp
  simp only [ho, resolve, invoke, builtin, Sem.run_bind, Sem.run_pure, Result.andThen_ok, List.map_toArray, List.map_cons, List.map_nil, hs, hx, hr]
  exact hK _ _ h
theorem step_copy_is {P : Program} {ops : Array Oper} {o : Oper} {a : Act} {W w1 : World} {Q : Exit → Act → World → Prop} {Kc : Act → World → Prop} (hw : Region.wanted o (yielded ops a.tmps) = true) (s x : Operand) (t t' : TypeId) (u y z : Value)
    (ho : o.op = .call { callee := .builtin .copy, args := #[s, x], argTypes := #[t, t'] }) (hs : a.eval s = u) (hx : a.eval x = y) (hr : (Builtin.copy_ #[t, t'] o.type #[u, y]).run P W = .ok z w1)
    (h : Kc (a.put o.dst z) w1) : if Region.wanted o (yielded ops a.tmps) = true then Oper.wp P o a W Kc Q else Kc (a.put o.dst undef) W := by
  rw [if_pos hw]
  unfold Oper.wp execOp
  simp only [ho, resolve, invoke, builtin, Sem.run_bind, Sem.run_pure, Result.andThen_ok, List.map_toArray, List.map_cons, List.map_nil, hs, hx, hr]
  exact h
/-- The first k cells of the block are b. -/
structure RP (w : World) (lb nv k : Nat) (b : Int) : Prop where
  blk : ∃ C : Array Value, w.heap[lb]? = some (.cells C 3 (0, 0)) ∧ C.size = nv ∧ ∀ j, j < k → C[j]? = some (.int .i64 b)
theorem RP.run {w : World} {lb nv k : Nat} {b : Int} (h : RP w lb nv k b) (hk : k ≤ nv) (o : Nat) (ad : Addr) (m c dc q : Nat) (hs : ∀ j, j < m → w.cell? (ad.add j) = some (.int .i64 b)) (hq : q = min m (nv - k)) (ty : TypeId) :
    ∃ w1, (Builtin.copy_ #[26, 26] ty #[.slice (some ⟨lb, k, none⟩) (nv - k) dc, .slice (some ad) m c]).run Try.prog w = .ok (goInt q) w1 ∧ RP w1 lb nv (k + q) b ∧ Below lb w w1 := by
  obtain ⟨C, hC, hsz, hb⟩ := h.blk
  have hl : (List.replicate q (Value.int .i64 b)).length = q := List.length_replicate
  have hr := run_copy_cells (P := Try.prog) w 26 26 ty 3 lb k (nv - k) dc ad m c (List.replicate q (.int .i64 b)) Try.underlying26 (by kernel_rfl) (by rw [hl, hq])
    (fun j u hj => by
      rw [List.getElem?_replicate] at hj
      split at hj
      · injection hj with hj
        subst hj
        exact hs j (by omega)
      · cases hj)
    (fun j hj => by rw [hl] at hj; rw [cell_of_row w lb _ C 3 (0, 0) hC]; simp; omega) (fun j _ => blk_frozen hC _) (by intro u hu; rw [List.mem_replicate] at hu; rw [hu.2]; rfl)
  obtain ⟨C', h1, h2, h3⟩ := setCells_row (List.replicate q (Value.int .i64 b)) k w C hC (by rw [hl]; omega)
  obtain ⟨s1, s2, s3, s4⟩ := setCells_same lb (List.replicate q (Value.int .i64 b)) k w
  rw [hl] at hr
  refine ⟨_, hr, ⟨C', h1, by omega, fun j hj => ?_⟩, ⟨s1, s2, s3, by rw [s4]; exact Nat.le_refl _, fun i hi => setCells_far _ _ i (by omega)⟩⟩
  rw [← Array.getElem?_toList, h3, hl]
  have hkl : (C.toList.take k).length = k := by rw [List.length_take, Array.length_toList]; omega
  by_cases hjk : j < k
  · rw [List.append_assoc, List.getElem?_append_left (by omega), List.getElem?_take_of_lt hjk, Array.getElem?_toList]
    exact hb j hjk
  · rw [List.append_assoc, List.getElem?_append_right (by omega), hkl, List.getElem?_append_left (by rw [hl]; omega), List.getElem?_replicate, if_pos (by omega)]
set_option maxRecDepth 100000 in
set_option maxHeartbeats 4000000 in
theorem repeat22 (w : World) (A : Option Addr) (c : Nat) (b : Int) (nv : Nat) (hn : nv ≤ 524288) (hr : Kd.C (Kd.int .i64) w A 1 [b]) :
    Calls Try.prog 22 #[.slice A 1 c, .int .i64 nv] w fun e w' => ∃ lb, e = .returned (.slice (some ⟨lb, 0, none⟩) nv nv) ∧ w.heap.size ≤ lb ∧ w'.heap[lb]? = some (.cells (nums .i64 (List.replicate nv b)).toArray 3 (0, 0)) ∧ Below w.heap.size w w' := by
  obtain ⟨ad, eA, hc0⟩ := Kd.at_int hr 0 (by omega) (by omega)
  subst eA
  have HC0 := Aside0.mk hc0
  have CM := Aside0.mk (fun W => bits_Mul.calls 1 (nv : Int) 0 (nv : Int) W (mul_one_f nv hn))
  have hk := print_make (P := Try.prog) 26 3 .i64 8 Try.underlying26 info3 (by decide) nv (by omega)
  clear hr hc0
  go_enter Try.func22, Try.ntmps22
  go_wp2_with fail
  refine (CM.out _).mono ?_
  rintro e w1 ⟨rfl, hd⟩
  have B1 := Aside0.mk hd.below
  obtain ⟨wm, hwm⟩ : ∃ wm, w1.alloc (.cells (madeCells #[.int .i64 0] nv) 3) = wm := ⟨_, rfl⟩
  have hP : RP wm w1.heap.size nv 0 b := ⟨_, by rw [← hwm]; exact blk_new w1 _, size_madeCells _ _, fun j hj => absurd hj (Nat.not_lt_zero j)⟩
  have bm : Below w1.heap.size w1 wm := by rw [← hwm]; exact below_alloc (Below.refl _ _) _
  have BM := Aside0.mk (below_then B1.out B1.out.size bm)
  obtain ⟨lb, hlb⟩ : ∃ lb, w1.heap.size = lb := ⟨_, rfl⟩
  have hlw : w.heap.size ≤ lb := by rw [← hlb]; exact B1.out.size
  rw [hlb] at hP
  obtain ⟨w3, r3, hp3, b3⟩ := hP.run (Nat.zero_le _) 0 ad 1 c nv (min 1 nv) (fun j hj => by
    have : j = 0 := by omega
    subst this
    exact ((BM.out.cell (World.block_lt_of_cell? w _ HC0.out)).trans HC0.out)) rfl 3
  rw [Nat.sub_zero] at r3
  rw [Nat.zero_add] at hp3
  have B3 := Aside0.mk (BM.out.trans (b3.mono hlw))
  have HP3 := Aside0.mk hp3
  clear hd CM bm hP b3 hp3
  go_wp2_with (refine wpList_copy_is rfl (.tmp 31) (.tmp 32) 26 26 _ _ _ rfl rfl rfl r3 ?_)
  clear r3 hwm hk
  go_loopw [8] (fun i wr => ∃ k : Nat, i = .int .i64 k ∧ k ≤ nv ∧ (0 < nv → 0 < k) ∧ Aside0 (RP wr lb nv k b) ∧ Aside0 (Below w.heap.size w wr)) (fun i _ => nv - (intOf i).toNat)
  case atStart => exact ⟨min 1 nv, rfl, Nat.min_le_right _ _, fun h => by omega, HP3, B3⟩
  case round =>
    obtain ⟨k, rfl, hk, hk0, HP, HB⟩ := hrel
    obtain ⟨wi, rfl⟩ : ∃ wi : World, wi = wr := ⟨_, rfl⟩
    by_cases hlt : k < nv
    · have hD : RP wi.drew lb nv k b := ⟨HP.out.blk⟩
      obtain ⟨q, hq⟩ : ∃ q, min k (nv - k) = q := ⟨_, rfl⟩
      have hq1 : 0 < q := by have := hk0 (by omega); omega
      have hq2 : k + q ≤ nv := by omega
      obtain ⟨w4, r4, hp4, b4⟩ := hD.run hk 0 ⟨lb, 0, none⟩ k nv (nv - k) q (fun j hj => by
        obtain ⟨C, h1, h2, h3⟩ := HP.out.blk
        rw [add_plain]
        exact (blk_cell (w := wi.drew) h1 j).trans (h3 j hj)) hq.symm 3
      have HP4 := Aside0.mk hp4
      have HB4 := Aside0.mk ((below_drew HB.out).trans (b4.mono hlw))
      clear hD hp4 b4 hq
      go_wp2_with fail
      have i1 : (0 : Int) ≤ (k : Int) := by omega
      have i2 : (k : Int) ≤ (nv : Int) := by omega
      have hwr : IntKind.i64.wrap ((k : Int) + (q : Int)) = (k : Int) + (q : Int) := IntWalk.i64_in _ (by omega)
      first | (go_region_held3 (fun _ : World => True) (trivial) (first | (refine step_copy_is rfl (.tmp 41) (.tmp 44) 26 26 _ _ _ rfl rfl rfl r4 ?_))) | fail
      clear r4 hwr
      go_wp2_with fail
      go_roundw
      case rel => exact ⟨k + q, by go_num, hq2, fun _ => by omega, HP4, HB4⟩
      case measure => simp [intOf]; omega
    · have : k = nv := by omega
      subst this
      obtain ⟨C, h1, h2, h3⟩ := HP.out.blk
      have HC : Aside0 (wi.heap[lb]? = some (.cells (nums .i64 (List.replicate k b)).toArray 3 (0, 0))) := ⟨by
        rw [h1]
        congr 2
        apply Array.ext
        · simp [nums, h2]
        · intro j hj1 hj2
          have := h3 j (by omega)
          rw [Array.getElem?_eq_getElem hj1] at this
          injection this with this
          rw [this]
          simp [nums]⟩
      clear h1 h2 h3
      go_wp2_with fail
      go_ret
      exact ⟨lb, rfl, hlw, HC.out, HB.out⟩
end Go.Proofs.Ytpbaebjohioijaa.Lat
namespace Go.Proofs.Ytpbaebjohioijaa.Lat
open Go.RowKit
set_option linter.unusedVariables false
set_option linter.unusedSimpArgs false

/-! ### A region that draws its order, by an invariant -/
section
variable {P : Program} {md : Region.Mode} {ops : Array Oper} {Q : Exit → Act → World → Prop} {S : World → Prop}
theorem wpOp_is {i : Nat} {o : Oper} {K : Act → World → Prop} {a : Act} {w : World} (hi : ops[i]? = some o) (h : if Region.wanted o (yielded ops a.tmps) = true then Oper.wp P o a w K Q else K (a.put o.dst undef) w) : wpOp P ops Q i K a w := by
  unfold wpOp
  rw [hi]
  dsimp only
  split
  · rename_i hw
    rw [if_pos hw] at h
    exact .inl h
  · rename_i hw
    rw [if_neg hw] at h
    exact h
def cntF (l : Array Bool) : Nat := l.toList.count false
theorem getD_list (l : Array Bool) (i : Nat) (b : Bool) : l.getD i b = l.toList.getD i b := by
  rw [List.getD_eq_getElem?_getD, Array.getElem?_toList]
  simp
theorem count_set (l : List Bool) (i : Nat) (h : l.getD i true = false) : (l.set i true).count false + 1 = l.count false := by
  induction l generalizing i with
  | nil => simp at h
  | cons x t ih =>
    cases i with
    | zero =>
      have hx : x = false := by simpa using h
      subst hx
      simp
    | succ i =>
      have := ih i (by simpa using h)
      simp only [List.set_cons_succ, List.count_cons]
      omega
theorem count_zero (l : List Bool) (h : l.count false = 0) (i : Nat) : l.getD i true = true := by
  rw [List.count_eq_zero] at h
  by_cases hi : i < l.length
  · rw [List.getD_eq_getElem?_getD, List.getElem?_eq_getElem hi]
    have := List.getElem_mem hi
    cases hb : l[i]
    · rw [hb] at this; exact absurd this h
    · rfl
  · rw [List.getD_eq_getElem?_getD, List.getElem?_eq_none (by omega)]
    rfl
theorem ready_lt {listed : Array Bool} {i : Nat} (h : i ∈ Region.ready md ops listed) : i < ops.size := by
  unfold Region.ready at h
  rw [List.mem_filter, List.mem_range] at h
  exact h.1
theorem ready_not {listed : Array Bool} {i : Nat} (h : i ∈ Region.ready md ops listed) : listed.getD i true = false := by
  unfold Region.ready at h
  rw [List.mem_filter] at h
  have := h.2
  rw [Bool.and_eq_true, Bool.not_eq_true'] at this
  exact this.1
theorem ready_dep {listed : Array Bool} {i : Nat} (h : i ∈ Region.ready md ops listed) (j : Nat) (hj : ((ops[i]?).map fun o => o.after.any fun e => Region.binds md e && (e.on == j)).getD false = true) : listed.getD j false = true := by
  unfold Region.ready at h
  rw [List.mem_filter] at h
  have h2 := h.2
  rw [Bool.and_eq_true] at h2
  have h3 := h2.2
  cases hop : ops[i]? with
  | none => rw [hop] at hj; simp at hj
  | some o =>
    rw [hop] at hj h3
    simp only [Option.map_some, Option.getD_some] at hj h3
    rw [Array.any_eq_true] at hj
    obtain ⟨k, hk, he⟩ := hj
    rw [Array.all_eq_true] at h3
    have := h3 k hk
    rw [Bool.and_eq_true] at he
    rw [he.1] at this
    have e : o.after[k].on = j := by simpa using he.2
    rw [e] at this
    simpa using this
theorem ready_all {listed : Array Bool} (hs : listed.size = ops.size) (hac : (List.range ops.size).all (fun i => ((ops[i]?).map fun o => o.after.all fun e => decide (e.on < i)).getD true) = true) (h : Region.ready md ops listed = []) :
    ∀ i, i < ops.size → listed.getD i false = true := by
  intro i
  induction i using Nat.strongRecOn with
  | ind i ih =>
    intro hi
    cases hb : listed.getD i false with
    | true => rfl
    | false =>
      exfalso
      have hm : i ∈ Region.ready md ops listed := by
        unfold Region.ready
        rw [List.mem_filter, List.mem_range]
        refine ⟨hi, ?_⟩
        have hac' := List.all_eq_true.1 hac i (List.mem_range.2 hi)
        have hop : ops[i]? = some ops[i] := Array.getElem?_eq_getElem hi
        rw [hop] at hac' ⊢
        simp only [Option.map_some, Option.getD_some] at hac' ⊢
        rw [Bool.and_eq_true]
        constructor
        · have : listed.getD i true = listed.getD i false := by
            rw [getD_list, getD_list, List.getD_eq_getElem?_getD, List.getD_eq_getElem?_getD, List.getElem?_eq_getElem (by rw [Array.length_toList]; omega)]
            rfl
          rw [this, hb]
          rfl
        · rw [Array.all_eq_true] at hac' ⊢
          intro k hk
          have h1 := hac' k hk
          have h2 : (ops[i].after[k]).on < i := by simpa using h1
          rw [ih _ h2 (by omega)]
          simp
      rw [h] at hm
      cases hm
theorem wpAnyH_inv (Inv : Array Bool → Act → World → Prop) (hS : ∀ w, S w)
    (hstep : ∀ listed a w i, Inv listed a w → i ∈ Region.ready md ops listed → wpOp P ops Q i (fun a' w' => Inv (listed.setIfInBounds i true) a' w') a w)
    (hdone : ∀ listed a w, Inv listed a w → Region.ready md ops listed = [] → Q .normal a w) :
    ∀ fuel listed a w, cntF listed ≤ fuel → Inv listed a w → wpAnyH P md ops Q S fuel listed a w := by
  intro fuel
  induction fuel with
  | zero =>
    intro listed a w hc hi
    have hr : Region.ready md ops listed = [] := by
      rw [List.eq_nil_iff_forall_not_mem]
      intro i him
      have h1 := ready_not him
      rw [getD_list, count_zero _ (by unfold cntF at hc; omega) i] at h1
      cases h1
    exact ⟨hr, hdone _ _ _ hi hr⟩
  | succ fuel ih =>
    intro listed a w hc hi
    refine ⟨fun hr => hdone _ _ _ hi hr, fun i him => ?_⟩
    refine wpOp_mono (fun a' w' h' => ⟨hS w', ih _ _ _ ?_ h'⟩) (hstep _ _ _ i hi him)
    have h1 := ready_not him
    rw [getD_list] at h1
    have := count_set listed.toList i h1
    unfold cntF at hc ⊢
    rw [Array.toList_setIfInBounds]
    omega
theorem setL {listed : Array Bool} {i k : Nat} (h : (listed.setIfInBounds i true).getD k false = true) : k = i ∨ listed.getD k false = true := by
  by_cases e : k = i
  · exact .inl e
  · right
    rw [getD_list] at h ⊢
    rw [Array.toList_setIfInBounds, List.getD_eq_getElem?_getD, List.getElem?_set_ne (fun h => e h.symm), ← List.getD_eq_getElem?_getD] at h
    exact h
end
end Go.Proofs.Ytpbaebjohioijaa.Lat
namespace Go.Proofs.Ytpbaebjohioijaa.Lat
open Go.RowKit Go.Proofs.YtpbaebjohioijaaW.PrintWords Go.Proofs.YtpbaebjohioijaaW.PrintLast Go.Proofs.YtpbaebjohioijaaW.PrintMore Go.Proofs.Ytpbaebjohioijaa.PSolveLeast
set_option linter.unusedVariables false
set_option linter.unusedSimpArgs false

/-! ### Least: what it makes -/
def ops3 : Array Oper := #[{ dst := some 22, op := Op.move (Operand.tmp 0), type := 28, pos := "solve.go:73", after := #[], guard := none }, { dst := some 23, op := Op.move (Operand.tmp 0), type := 28, pos := "solve.go:73", after := #[], guard := none }, { dst := some 24, op := Op.call { callee := Callee.value (Operand.func 23), args := #[Operand.tmp 23], argTypes := #[28] }, type := 3, pos := "solve.go:73", after := #[{ on := 1, ground := Ground.data }], guard := none }, { dst := some 25, op := Op.buildSlice 26 1 #[(0, Operand.tmp 24)], type := 26, pos := "solve.go:73", after := #[{ on := 2, ground := Ground.data }], guard := none }, { dst := some 26, op := Op.move (Operand.tmp 1), type := 3, pos := "solve.go:73", after := #[], guard := none }, { dst := some 27, op := Op.call { callee := Callee.value (Operand.func 22), args := #[Operand.tmp 25, Operand.tmp 26], argTypes := #[26, 3] }, type := 26, pos := "solve.go:73", after := #[{ on := 3, ground := Ground.data }, { on := 4, ground := Ground.data }, { on := 2, ground := Ground.chain }], guard := none }, { dst := some 28, op := Op.move (Operand.tmp 1), type := 3, pos := "solve.go:73", after := #[], guard := none }, { dst := some 29, op := Op.makeSlice 64 (Operand.tmp 28) (Operand.tmp 28), type := 64, pos := "solve.go:73", after := #[{ on := 6, ground := Ground.data }, { on := 6, ground := Ground.data }], guard := none }, { dst := some 30, op := Op.buildSlice 66 0 #[], type := 66, pos := "solve.go:73", after := #[], guard := none }, { dst := some 31, op := Op.box 66 (Operand.tmp 30), type := 65, pos := "solve.go:73", after := #[{ on := 8, ground := Ground.data }], guard := none }, { dst := some 32, op := Op.move (Operand.tmp 1), type := 3, pos := "solve.go:73", after := #[], guard := none }, { dst := some 33, op := Op.makeSlice 67 (Operand.tmp 32) (Operand.tmp 32), type := 67, pos := "solve.go:73", after := #[{ on := 10, ground := Ground.data }, { on := 10, ground := Ground.data }], guard := none }, { dst := some 34, op := Op.build 69 #[(0, Operand.tmp 22), (1, Operand.tmp 27), (2, Operand.tmp 29), (3, Operand.tmp 31), (4, Operand.tmp 33)], type := 69, pos := "solve.go:73", after := #[{ on := 0, ground := Ground.data }, { on := 5, ground := Ground.data }, { on := 7, ground := Ground.data }, { on := 9, ground := Ground.data }, { on := 11, ground := Ground.data }], guard := none }, { dst := some 35, op := Op.box 69 (Operand.tmp 34), type := 62, pos := "solve.go:73", after := #[{ on := 12, ground := Ground.data }], guard := none }, { dst := some 9, op := Op.assign (Operand.tmp 35), type := 62, pos := "solve.go:73", after := #[{ on := 13, ground := Ground.data }, { on := 5, ground := Ground.chain }, { on := 0, ground := Ground.phase }, { on := 1, ground := Ground.phase }, { on := 2, ground := Ground.phase }, { on := 3, ground := Ground.phase }, { on := 4, ground := Ground.phase }, { on := 5, ground := Ground.phase }, { on := 6, ground := Ground.phase }, { on := 7, ground := Ground.phase }, { on := 8, ground := Ground.phase }, { on := 9, ground := Ground.phase }, { on := 10, ground := Ground.phase }, { on := 11, ground := Ground.phase }, { on := 12, ground := Ground.phase }, { on := 13, ground := Ground.phase }], guard := none }]
def T3 (hb nv : Nat) (A : Option Addr) (m c : Nat) (f : Nat → Value) : Array Value := #[.pointer (some ⟨hb, 0, none⟩), .int .i64 nv, .slice A m c, undef, undef, undef, .slice none 0 0, .int .i64 0, .int .i64 0, f 14, undef, undef, undef, undef, undef, undef, undef, .pointer (some ⟨hb, 0, none⟩), .int .i64 nv, .slice A m c, .bool true, .bool false, f 0, f 1, f 2, f 3, f 4, f 5, f 6, f 7, f 8, f 9, f 10, f 11, f 12, f 13, undef, undef, undef, undef, undef, undef, undef, undef, undef, undef, undef, undef, undef, undef, undef, undef, undef, undef, undef, undef, undef, undef, undef, undef, undef, undef, undef, undef, undef, undef, undef, undef, undef, undef, undef, undef, undef, undef, undef, undef, undef, undef, undef, undef, undef, undef, undef, undef, undef, undef, undef, undef, undef, undef, undef, undef, undef, undef, undef, undef, undef, undef, undef, undef, undef, undef, undef, undef, undef, undef, undef, undef, undef, undef, undef, undef, undef, undef, undef, undef, undef, undef, undef, undef, undef, undef, undef, undef, undef, undef, undef, undef, undef, undef, undef, undef, undef]
def upd (f : Nat → Value) (k : Nat) (v : Value) : Nat → Value := fun j => if j = k then v else f j
theorem upd_same {f : Nat → Value} {k : Nat} {v : Value} (h : f k = v) : upd f k v = f := by
  funext j
  unfold upd
  split
  · rename_i e
    rw [e, h]
  · rfl
abbrev KR : Kd (List Int) := Kd.slice 3 (Kd.int .i64)
section
variable (base nv hb : Nat) (b : Int)
def F5 (v : Value) (w : World) : Prop := ∃ lb, v = .slice (some ⟨lb, 0, none⟩) nv nv ∧ base ≤ lb ∧ w.heap[lb]? = some (.cells (nums .i64 (List.replicate nv b)).toArray 3 (0, 0))
def F7 (v : Value) (w : World) : Prop := ∃ ob c, v = .slice (some ⟨ob, 0, none⟩) nv c ∧ Kd.S KR 26 w base (fun k => k = ob) v (List.replicate nv [])
def F8 (v : Value) (w : World) : Prop := ∃ b0, v = .slice (some ⟨b0, 0, none⟩) 0 0 ∧ w.heap[b0]? = some (.cells #[] 3 (0, 0)) ∧ (Kd.int .i64).R 3 w base (fun k => k = b0) v []
def F9 (v : Value) (w : World) : Prop := ∃ rb u, v = .pointer (some ⟨rb, 0, none⟩) ∧ base ≤ rb ∧ w.heap[rb]? = some (.cells #[u] 66 (0, 0)) ∧ F8 base u w
def F11 (v : Value) (w : World) : Prop := ∃ yb, v = .slice (some ⟨yb, 0, none⟩) nv nv ∧ base ≤ yb ∧ w.heap[yb]? = some (.cells ((List.replicate nv false).map Value.bool).toArray 4 (0, 0))
def FS (v5 v7 v9 v11 : Value) (w : World) : Prop := F5 base nv b v5 w ∧ F7 base nv v7 w ∧ F9 base v9 w ∧ F11 base nv v11 w
def F12 (v : Value) (w : World) : Prop := ∃ v5 v7 v9 v11, v = .agg #[.pointer (some ⟨hb, 0, none⟩), v5, v7, v9, v11, .int .i64 0] ∧ FS base nv b v5 v7 v9 v11 w
def F13 (v : Value) (w : World) : Prop := ∃ sb v5 v7 v9 v11, v = .pointer (some ⟨sb, 0, none⟩) ∧ base ≤ sb ∧ w.heap[sb]? = some (.cells #[.pointer (some ⟨hb, 0, none⟩), v5, v7, v9, v11, .int .i64 0] 69 (0, 0)) ∧ FS base nv b v5 v7 v9 v11 w
def Ft (k : Nat) (v : Value) (w : World) : Prop :=
  match k with
  | 0 => v = .pointer (some ⟨hb, 0, none⟩)
  | 1 => v = .pointer (some ⟨hb, 0, none⟩)
  | 2 => v = .int .i64 b
  | 3 => ∃ ad, v = .slice (some ad) 1 1 ∧ (Kd.int .i64).C w (some ad) 1 [b]
  | 4 => v = .int .i64 nv
  | 5 => F5 base nv b v w
  | 6 => v = .int .i64 nv
  | 7 => F7 base nv v w
  | 8 => F8 base v w
  | 9 => F9 base v w
  | 10 => v = .int .i64 nv
  | 11 => F11 base nv v w
  | 12 => F12 base nv hb b v w
  | 13 => F13 base nv hb b v w
  | 14 => F13 base nv hb b v w
  | _ => True
variable {base nv hb : Nat} {b : Int} {v v5 v7 v9 v11 : Value} {w w' : World}
theorem F5.below (h : F5 base nv b v w) (bb : Below w.heap.size w w') : F5 base nv b v w' := by
  obtain ⟨lb, e, h1, h2⟩ := h
  exact ⟨lb, e, h1, blk_below h2 bb⟩
theorem F7.below (h : F7 base nv v w) (bb : Below w.heap.size w w') : F7 base nv v w' := by
  obtain ⟨ob, c, e, h1⟩ := h
  exact ⟨ob, c, e, Kd.S_below h1 bb⟩
theorem F8.below (h : F8 base v w) (bb : Below w.heap.size w w') : F8 base v w' := by
  obtain ⟨b0, e, h0, h1⟩ := h
  exact ⟨b0, e, blk_below h0 bb, Kd.R_below h1 bb⟩
theorem F9.below (h : F9 base v w) (bb : Below w.heap.size w w') : F9 base v w' := by
  obtain ⟨rb, u, e, h1, h2, h3⟩ := h
  exact ⟨rb, u, e, h1, blk_below h2 bb, h3.below bb⟩
theorem F11.below (h : F11 base nv v w) (bb : Below w.heap.size w w') : F11 base nv v w' := by
  obtain ⟨yb, e, h1, h2⟩ := h
  exact ⟨yb, e, h1, blk_below h2 bb⟩
theorem FS.below (h : FS base nv b v5 v7 v9 v11 w) (bb : Below w.heap.size w w') : FS base nv b v5 v7 v9 v11 w' := ⟨h.1.below bb, h.2.1.below bb, h.2.2.1.below bb, h.2.2.2.below bb⟩
theorem F12.below (h : F12 base nv hb b v w) (bb : Below w.heap.size w w') : F12 base nv hb b v w' := by
  obtain ⟨v5, v7, v9, v11, e, h1⟩ := h
  exact ⟨v5, v7, v9, v11, e, h1.below bb⟩
theorem F13.below (h : F13 base nv hb b v w) (bb : Below w.heap.size w w') : F13 base nv hb b v w' := by
  obtain ⟨sb, v5, v7, v9, v11, e, h0, h1, h2⟩ := h
  exact ⟨sb, v5, v7, v9, v11, e, h0, blk_below h1 bb, h2.below bb⟩
theorem Ft.below {k : Nat} (h : Ft base nv hb b k v w) (bb : Below w.heap.size w w') : Ft base nv hb b k v w' := by
  unfold Ft at *
  split <;> simp only at h ⊢
  all_goals first
    | exact h
    | exact F5.below h bb
    | exact F7.below h bb
    | exact F8.below h bb
    | exact F9.below h bb
    | exact F11.below h bb
    | exact F12.below h bb
    | exact F13.below h bb
    | (obtain ⟨ad, e, h1⟩ := h; exact ⟨ad, e, Kd.C_below h1 bb⟩)
    | trivial
end
structure Inv3 (w0 : World) (nv hb : Nat) (b : Int) (A : Option Addr) (m c : Nat) (listed : Array Bool) (a : Act) (w : World) : Prop where
  size : listed.size = 15
  bel : Below w0.heap.size w0 w
  st : ∃ f, a = ⟨T3 hb nv A m c f, []⟩ ∧ ∀ k, listed.getD k false = true → Ft w0.heap.size nv hb b k (f k) w
theorem Inv3.next {w0 w w' : World} {nv hb : Nat} {b : Int} {A : Option Addr} {m c : Nat} {listed : Array Bool} {f : Nat → Value} (hs : listed.size = 15) (hb0 : Below w0.heap.size w0 w) (hf : ∀ k, listed.getD k false = true → Ft w0.heap.size nv hb b k (f k) w)
    (i : Nat) (v : Value) (bb : Below w.heap.size w w') (hv : Ft w0.heap.size nv hb b i v w') : Inv3 w0 nv hb b A m c (listed.setIfInBounds i true) ⟨T3 hb nv A m c (upd f i v), []⟩ w' := by
  refine ⟨by rw [Array.size_setIfInBounds]; exact hs, below_then hb0 hb0.size bb, upd f i v, rfl, fun k hk => ?_⟩
  by_cases e : k = i
  · subst e
    show Ft _ _ _ _ k (if k = k then v else f k) w'
    rw [if_pos rfl]
    exact hv
  · show Ft _ _ _ _ k (if k = i then v else f k) w'
    rw [if_neg e]
    exact (hf k ((setL hk).resolve_left e)).below bb
theorem one_int (W : World) (a : Int) : (Kd.int .i64).C (W.alloc (.cells #[.int .i64 a] 3)) (some ⟨W.heap.size, 0, none⟩) 1 [a] :=
  (Kd.R_reads' (Kd.R_of_own (enc := Value.int .i64) (h1 := fun _ => rfl) (base := W.heap.size) (ok := fun _ => True) (xs := [a]) (own_lit_of W W.heap.size 3 [a] (Nat.le_refl _) (by simp only [List.length_cons, List.length_nil]; omega)) (fun _ _ => trivial))).2.2
theorem info26 : (Try.prog.info? 26).map (fun i => (i.zero, i.size, i.bytes)) = some (some (.slice none 0 0), 1, 24) := by kernel_rfl
theorem made_bools (nv : Nat) : madeCells #[.bool false] nv = ((List.replicate nv false).map Value.bool).toArray := by
  apply Array.ext
  · simp [madeCells]
  · intro i h1 h2
    simp [madeCells, Nat.mod_one]
set_option maxRecDepth 100000 in
set_option maxHeartbeats 4000000 in
theorem least_r3 {w0 : World} {Q : Exit → Act → World → Prop} {hb ub db n : Nat} {us ds : List Int} (h : TO w0 hb ub db n us ds) (nv : Nat) (hn : nv ≤ 524288) (A : Option Addr) (m c : Nat)
    (hQ : ∀ f w, Below w0.heap.size w0 w → F13 w0.heap.size nv hb (allM n us []) (f 14) w → Q .normal ⟨T3 hb nv A m c f, []⟩ w) : (Code.region 3 ops3 true).wp Try.prog Q ⟨T3 hb nv A m c (fun _ => undef), []⟩ w0 := by
  obtain ⟨b, hbb⟩ : ∃ b, allM n us [] = b := ⟨_, rfl⟩
  rw [hbb] at hQ
  have HBB := Aside0.mk hbb
  have HT := Aside0.mk h
  have HQ := Aside0.mk hQ
  clear hbb h hQ
  refine wp_region_held_drew (S := fun _ => True) (by kernel_rfl) trivial (fun _ => ?_)
  refine wpAnyH_inv (Inv3 w0 nv hb b A m c) (fun _ => trivial) ?_ ?_ _ _ _ _ (Nat.le_of_eq (by kernel_rfl)) ⟨by rfl, below_drew (Below.refl _ _), fun _ => undef, rfl, fun k hk => ?_⟩
  · rintro listed a w i ⟨hs, hb0, f, rfl, hf⟩ hi
    have hlt : i < 15 := ready_lt hi
    have nxt : Aside0 (∀ v w', Below w.heap.size w w' → Ft w0.heap.size nv hb b i v w' → Inv3 w0 nv hb b A m c (listed.setIfInBounds i true) ⟨T3 hb nv A m c (upd f i v), []⟩ w') := ⟨fun v w' bb hv => Inv3.next hs hb0 hf i v bb hv⟩
    obtain ⟨K, hK⟩ : ∃ K : Act → World → Prop, (fun a' w' => Inv3 w0 nv hb b A m c (listed.setIfInBounds i true) a' w') = K := ⟨_, rfl⟩
    have nx : Aside0 (∀ v w', Below w.heap.size w w' → Ft w0.heap.size nv hb b i v w' → K ⟨T3 hb nv A m c (upd f i v), []⟩ w') := ⟨by rw [← hK]; exact nxt.out⟩
    rw [hK]
    clear hK nxt
    have HW := Aside0.mk hb0
    have DEP := fun j hj => hf j (ready_dep hi j hj)
    have HTW := Aside0.mk (HT.out.below hb0)
    have hbs : w0.heap.size ≤ w.heap.size := hb0.size
    have cs : i = 0 ∨ i = 1 ∨ i = 2 ∨ i = 3 ∨ i = 4 ∨ i = 5 ∨ i = 6 ∨ i = 7 ∨ i = 8 ∨ i = 9 ∨ i = 10 ∨ i = 11 ∨ i = 12 ∨ i = 13 ∨ i = 14 := by omega
    clear hlt hb0 hf hi
    rcases cs with rfl | rfl | rfl | rfl | rfl | rfl | rfl | rfl | rfl | rfl | rfl | rfl | rfl | rfl | rfl

    · refine wpOp_is (o := { dst := some 22, op := Op.move (Operand.tmp 0), type := 28, pos := "solve.go:73", after := #[], guard := none }) rfl ?_
      have nx2 := nx.out
      replace nx2 := Aside0.mk nx2
      clear DEP nx
      unfold T3
      go_simp
      exact nx2.out _ _ (Below.refl _ _) rfl
    · refine wpOp_is (o := { dst := some 23, op := Op.move (Operand.tmp 0), type := 28, pos := "solve.go:73", after := #[], guard := none }) rfl ?_
      have nx2 := nx.out
      replace nx2 := Aside0.mk nx2
      clear DEP nx
      unfold T3
      go_simp
      exact nx2.out _ _ (Below.refl _ _) rfl
    · refine wpOp_is (o := { dst := some 24, op := Op.call { callee := Callee.value (Operand.func 23), args := #[Operand.tmp 23], argTypes := #[28] }, type := 3, pos := "solve.go:73", after := #[{ on := 1, ground := Ground.data }], guard := none }) rfl ?_
      have e1 : f 1 = _ := DEP 1 (by kernel_rfl)
      have CB := Aside0.mk (bottom_any HTW.out)
      rw [HBB.out] at CB
      have nx2 := nx.out
      rw [← upd_same e1] at nx2
      replace nx2 := Aside0.mk nx2
      clear DEP nx
      unfold T3
      go_simp
      refine CB.out.mono ?_
      rintro e w2 ⟨rfl, rfl⟩
      exact nx2.out _ _ (Below.refl _ _) rfl
    · refine wpOp_is (o := { dst := some 25, op := Op.buildSlice 26 1 #[(0, Operand.tmp 24)], type := 26, pos := "solve.go:73", after := #[{ on := 2, ground := Ground.data }], guard := none }) rfl ?_
      have e2 : f 2 = _ := DEP 2 (by kernel_rfl)
      have nx2 := nx.out
      rw [← upd_same e2] at nx2
      replace nx2 := Aside0.mk nx2
      clear DEP nx
      unfold T3
      go_simp
      exact nx2.out _ _ (below_alloc (Below.refl _ _) _) ⟨_, rfl, one_int w b⟩
    · refine wpOp_is (o := { dst := some 26, op := Op.move (Operand.tmp 1), type := 3, pos := "solve.go:73", after := #[], guard := none }) rfl ?_
      have nx2 := nx.out
      replace nx2 := Aside0.mk nx2
      clear DEP nx
      unfold T3
      go_simp
      exact nx2.out _ _ (Below.refl _ _) rfl
    · refine wpOp_is (o := { dst := some 27, op := Op.call { callee := Callee.value (Operand.func 22), args := #[Operand.tmp 25, Operand.tmp 26], argTypes := #[26, 3] }, type := 26, pos := "solve.go:73", after := #[{ on := 3, ground := Ground.data }, { on := 4, ground := Ground.data }, { on := 2, ground := Ground.chain }], guard := none }) rfl ?_
      obtain ⟨ad, e3, hc⟩ := DEP 3 (by kernel_rfl)
      have e4 : f 4 = _ := DEP 4 (by kernel_rfl)
      have CR := Aside0.mk (repeat22 w (some ad) 1 b nv hn hc)
      clear hc
      have nx2 := nx.out
      rw [← upd_same e3] at nx2
      rw [← upd_same e4] at nx2
      replace nx2 := Aside0.mk nx2
      clear DEP nx
      unfold T3
      go_simp
      refine CR.out.mono ?_
      rintro e w2 ⟨lb, rfl, h1, h2, h3⟩
      exact nx2.out _ _ h3 ⟨lb, rfl, Nat.le_trans hbs h1, h2⟩
    · refine wpOp_is (o := { dst := some 28, op := Op.move (Operand.tmp 1), type := 3, pos := "solve.go:73", after := #[], guard := none }) rfl ?_
      have nx2 := nx.out
      replace nx2 := Aside0.mk nx2
      clear DEP nx
      unfold T3
      go_simp
      exact nx2.out _ _ (Below.refl _ _) rfl
    · refine wpOp_is (o := { dst := some 29, op := Op.makeSlice 64 (Operand.tmp 28) (Operand.tmp 28), type := 64, pos := "solve.go:73", after := #[{ on := 6, ground := Ground.data }, { on := 6, ground := Ground.data }], guard := none }) rfl ?_
      have e6 : f 6 = _ := DEP 6 (by kernel_rfl)
      refine Kd.S_make_step KR (w0 := w) w0.heap.size 26 rfl (N := 29) rfl 64 (.tmp 28) (.tmp 28) rfl (nv : Int) (by show f 6 = _; exact e6) (by show f 6 = _; exact e6) Try.underlying64 (.slice none 0 0) 24 info26 rfl (by decide) (by decide) [] (ok := fun k => k = w.heap.size) (okp := fun _ => False) ⟨_, rfl, Kd.R_nil _ _ _ _ _⟩ (fun _ h => h.elim) rfl (by omega) (by rw [Int.toNat_natCast]; omega) (Below.refl w0.heap.size w) hbs ?_
      intro v1 w1 hS hB hg hown
      rw [Int.toNat_natCast] at hS
      obtain ⟨A1, c1, ev⟩ := Kd.S_slice hS
      rw [List.length_replicate] at ev
      obtain ⟨g, eg, hge⟩ := hown
      have hgw : g = w.heap.size := hS.choose_spec.1 g eg
      subst hgw
      obtain ⟨ad, rfl⟩ : ∃ ad, A1 = some ad := by (cases A1 with | none => (rw [ev] at eg; simp [Value.ownBlock] at eg) | some ad => exact ⟨ad, rfl⟩)
      obtain ⟨g, rfl⟩ := Kd.R_head (Kd.S_R (ev ▸ hS))
      have hg2 : g = w.heap.size := by (rw [ev] at eg; simpa [Value.ownBlock] using eg)
      subst hg2
      exact nx.out v1 w1 ⟨hg.os, hg.tape, hg.output, hg.size, fun k hk => hg.block k hk (by simp)⟩ ⟨w.heap.size, c1, ev, hS⟩
    · refine wpOp_is (o := { dst := some 30, op := Op.buildSlice 66 0 #[], type := 66, pos := "solve.go:73", after := #[], guard := none }) rfl ?_
      have nx2 := nx.out
      replace nx2 := Aside0.mk nx2
      clear DEP nx
      unfold T3
      go_simp
      exact nx2.out _ _ (below_alloc (Below.refl _ _) _) ⟨w.heap.size, rfl, blk_new w _, Kd.R_lower (Kd.R_mono (Kd.R_tight rfl (lit_nil (Kd.int .i64) 3 w w.heap.size (Nat.le_refl _))) (fun k hk => by simpa [Value.ownBlock] using hk)) hbs⟩
    · refine wpOp_is (o := { dst := some 31, op := Op.box 66 (Operand.tmp 30), type := 65, pos := "solve.go:73", after := #[{ on := 8, ground := Ground.data }], guard := none }) rfl ?_
      obtain ⟨b0, e8, h80, hr⟩ := DEP 8 (by kernel_rfl)
      have HB8 := Aside0.mk h80
      have HR8 := Aside0.mk hr
      rw [e8] at HR8
      clear hr h80
      have nx2 := nx.out
      rw [← upd_same e8] at nx2
      replace nx2 := Aside0.mk nx2
      clear DEP nx
      unfold T3
      go_simp
      exact nx2.out _ _ (below_alloc (Below.refl _ _) _) ⟨w.heap.size, _, rfl, hbs, blk_new w _, b0, rfl, blk_below HB8.out (below_alloc (Below.refl _ _) _), Kd.R_below HR8.out (below_alloc (Below.refl _ _) _)⟩
    · refine wpOp_is (o := { dst := some 32, op := Op.move (Operand.tmp 1), type := 3, pos := "solve.go:73", after := #[], guard := none }) rfl ?_
      have nx2 := nx.out
      replace nx2 := Aside0.mk nx2
      clear DEP nx
      unfold T3
      go_simp
      exact nx2.out _ _ (Below.refl _ _) rfl
    · refine wpOp_is (o := { dst := some 33, op := Op.makeSlice 67 (Operand.tmp 32) (Operand.tmp 32), type := 67, pos := "solve.go:73", after := #[{ on := 10, ground := Ground.data }, { on := 10, ground := Ground.data }], guard := none }) rfl ?_
      have e10 : f 10 = _ := DEP 10 (by kernel_rfl)
      have hk := print_make_of (P := Try.prog) 67 4 (.bool false) 1 Try.underlying67 info4 rfl (by decide) nv (by omega)
      have nx2 := nx.out
      rw [← upd_same e10] at nx2
      replace nx2 := Aside0.mk nx2
      clear DEP nx
      unfold T3
      go_simp
      exact nx2.out _ _ (below_alloc (Below.refl _ _) _) ⟨w.heap.size, rfl, hbs, by rw [← made_bools]; exact blk_new w _⟩
    · refine wpOp_is (o := { dst := some 34, op := Op.build 69 #[(0, Operand.tmp 22), (1, Operand.tmp 27), (2, Operand.tmp 29), (3, Operand.tmp 31), (4, Operand.tmp 33)], type := 69, pos := "solve.go:73", after := #[{ on := 0, ground := Ground.data }, { on := 5, ground := Ground.data }, { on := 7, ground := Ground.data }, { on := 9, ground := Ground.data }, { on := 11, ground := Ground.data }], guard := none }) rfl ?_
      obtain ⟨lb, e5, h5⟩ := DEP 5 (by kernel_rfl)
      obtain ⟨ob, c7, e7, h7⟩ := DEP 7 (by kernel_rfl)
      obtain ⟨rb, u, e9, h9⟩ := DEP 9 (by kernel_rfl)
      obtain ⟨yb, e11, h11⟩ := DEP 11 (by kernel_rfl)
      have e0 : f 0 = _ := DEP 0 (by kernel_rfl)
      have G5 : Aside0 (F5 w0.heap.size nv b (.slice (some ⟨lb, 0, none⟩) nv nv) w) := ⟨⟨lb, rfl, h5⟩⟩
      rw [e7] at h7
      have G7 : Aside0 (F7 w0.heap.size nv (.slice (some ⟨ob, 0, none⟩) nv c7) w) := ⟨⟨ob, c7, rfl, h7⟩⟩
      have G9 : Aside0 (F9 w0.heap.size (.pointer (some ⟨rb, 0, none⟩)) w) := ⟨⟨rb, u, rfl, h9⟩⟩
      have G11 : Aside0 (F11 w0.heap.size nv (.slice (some ⟨yb, 0, none⟩) nv nv) w) := ⟨⟨yb, rfl, h11⟩⟩
      clear h5 h7 h9 h11
      have nx2 := nx.out
      rw [← upd_same e0] at nx2
      rw [← upd_same e5] at nx2
      rw [← upd_same e7] at nx2
      rw [← upd_same e9] at nx2
      rw [← upd_same e11] at nx2
      replace nx2 := Aside0.mk nx2
      clear DEP nx
      unfold T3
      go_simp
      exact nx2.out _ _ (Below.refl _ _) ⟨_, _, _, _, rfl, G5.out, G7.out, G9.out, G11.out⟩
    · refine wpOp_is (o := { dst := some 35, op := Op.box 69 (Operand.tmp 34), type := 62, pos := "solve.go:73", after := #[{ on := 12, ground := Ground.data }], guard := none }) rfl ?_
      obtain ⟨v5, v7, v9, v11, e12, h12⟩ := DEP 12 (by kernel_rfl)
      have G12 := Aside0.mk h12
      clear h12
      have nx2 := nx.out
      rw [← upd_same e12] at nx2
      replace nx2 := Aside0.mk nx2
      clear DEP nx
      unfold T3
      go_simp
      exact nx2.out _ _ (below_alloc (Below.refl _ _) _) ⟨w.heap.size, v5, v7, v9, v11, rfl, hbs, blk_new w _, FS.below G12.out (below_alloc (Below.refl _ _) _)⟩
    · refine wpOp_is (o := { dst := some 9, op := Op.assign (Operand.tmp 35), type := 62, pos := "solve.go:73", after := #[{ on := 13, ground := Ground.data }, { on := 5, ground := Ground.chain }, { on := 0, ground := Ground.phase }, { on := 1, ground := Ground.phase }, { on := 2, ground := Ground.phase }, { on := 3, ground := Ground.phase }, { on := 4, ground := Ground.phase }, { on := 5, ground := Ground.phase }, { on := 6, ground := Ground.phase }, { on := 7, ground := Ground.phase }, { on := 8, ground := Ground.phase }, { on := 9, ground := Ground.phase }, { on := 10, ground := Ground.phase }, { on := 11, ground := Ground.phase }, { on := 12, ground := Ground.phase }, { on := 13, ground := Ground.phase }], guard := none }) rfl ?_
      obtain ⟨sb, v5, v7, v9, v11, e13, h13⟩ := DEP 13 (by kernel_rfl)
      have G13 := Aside0.mk h13
      clear h13
      have nx2 := nx.out
      rw [← upd_same e13] at nx2
      replace nx2 := Aside0.mk nx2
      clear DEP nx
      unfold T3
      go_simp
      exact nx2.out _ _ (Below.refl _ _) ⟨sb, v5, v7, v9, v11, rfl, G13.out⟩
  · rintro listed a w ⟨hs, hb0, f, rfl, hf⟩ hr
    exact HQ.out f w hb0 (hf 14 (ready_all (md := .any) (ops := ops3) hs (by kernel_rfl) hr 14 (by decide)))
  · exfalso
    rw [getD_list] at hk
    have : ∀ j, ((Array.replicate ops3.size false).toList.getD j false) = false := by
      intro j
      rw [Array.toList_replicate, List.getD_eq_getElem?_getD, List.getElem?_replicate]
      split <;> rfl
    rw [this] at hk
    cases hk
end Go.Proofs.Ytpbaebjohioijaa.Lat
