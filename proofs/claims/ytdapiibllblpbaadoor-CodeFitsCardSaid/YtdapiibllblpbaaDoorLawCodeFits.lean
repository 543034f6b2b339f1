import Derived.Test.YtdapiibllblpbaaDoorV
import Derived.Deep.RegionHeld3
import Derived.Test.YtdapiibllblpbaaDoorRows
import Derived.Test.YtdapiibllblpbaaDoorTie
import Derived.Test.YtdapiibllblpbaaDoorCards
import Derived.WalkKit
import Derived.ProofKit
import Derived.OpenShut
import Derived.ShutString
import Derived.ChangeOld
import Derived.Below
import Derived.SizedLaws
import Derived.Lib.LaidIn
import Derived.Lib.LaidU8
import Derived.Lib.LaidTab
import Derived.Lib.TrailingZeros
import Derived.Deep.DeepHandedRow
import Derived.Deep.DeepWitnessRowRef
import Derived.SevenTiedAt
namespace Go.Proofs.YtdapiibllblpbaaDoor.Code
open Go.RowKit Go.Proofs.YtdapiibllblpbaaDoorW.PrintWords Go.Proofs.YtdapiibllblpbaaDoorW.PrintLast Go.Proofs.YtdapiibllblpbaaDoorW.PrintMore Go.Proofs.YtdapiibllblpbaaDoor.PCodeAnswers
set_option linter.unusedVariables false
set_option linter.unusedSimpArgs false

/-! ### A bent module is not right -/
def bF (m : Md) (i : Nat) (f' : S39) : Md := { m with funcs := m.funcs.set i f' }
def bO (f : S39) (k : Nat) (o' : S42) : S39 := { f with f4 := f.f4.set k o' }
def bT (m : Md) (t : Int) : Md := { m with threads := m.threads ++ [t] }
theorem mem_set_self {α : Type} (l : List α) (i : Nat) (x : α) (hi : i < l.length) : x ∈ l.set i x :=
  List.mem_iff_getElem.2 ⟨i, by rw [List.length_set]; exact hi, by simp⟩
theorem Right_no_func (m : Md) (f : S39) (hf : f ∈ m.funcs) (h : funcR m f = false) : RightM m = false := by
  unfold RightM
  have : m.funcs.all (funcR m) = false := List.all_eq_false.2 ⟨f, hf, by rw [h]; decide⟩
  rw [this, Bool.and_false]
theorem Right_no_op (m : Md) (f : S39) (o : S42) (hf : f ∈ m.funcs) (ho : o ∈ f.f4) (h : rightM m f o = false) : RightM m = false := by
  refine Right_no_func m f hf ?_
  unfold funcR
  have : f.f4.any (nope m f) = true := List.any_eq_true.2 ⟨o, ho, by unfold nope; rw [h]; rfl⟩
  rw [this]
  rfl
theorem bent_op (m : Md) (i k : Nat) (f : S39) (o' : S42) (hi : i < m.funcs.length) (hk : k < f.f4.length) (h : rightM (bF m i (bO f k o')) (bO f k o') o' = false) : RightM (bF m i (bO f k o')) = false :=
  Right_no_op _ (bO f k o') o' (mem_set_self _ _ _ hi) (mem_set_self _ _ _ hk) h
theorem func_no (m : Md) (f : S39) (hf : f ∈ m.funcs) (h : funcOk f = false) : RightM m = false := by
  unfold RightM frameM
  have : m.funcs.all funcOk = false := List.all_eq_false.2 ⟨f, hf, by rw [h]; decide⟩
  rw [this]
  rfl
theorem right_parts (m : Md) (h : RightM m = true) : m.funcs.all funcOk = true ∧ m.threads.length ≤ 4 ∧ ∀ f ∈ m.funcs, ∀ o ∈ f.f4, rightM m f o = true := by
  unfold RightM at h
  obtain ⟨h1, h2⟩ := Bool.and_eq_true_iff.1 h
  unfold frameM at h1
  simp only [Bool.and_eq_true] at h1
  refine ⟨h1.1, of_decide_eq_true h1.2.2.2.2.2.1, fun f hf o ho => ?_⟩
  have := List.all_eq_true.1 h2 f hf
  unfold funcR at this
  cases hr : rightM m f o with
  | true => rfl
  | false =>
    have h3 : f.f4.any (nope m f) = true := List.any_eq_true.2 ⟨o, ho, by unfold nope; rw [hr]; rfl⟩
    rw [h3] at this
    cases this
theorem bent_threads (m : Md) : RightM (bT m m.funcs.length) = false := by
  unfold RightM frameM
  have : (bT m m.funcs.length).threads.any (wrongT (bT m m.funcs.length)) = true := by
    refine List.any_eq_true.2 ⟨(m.funcs.length : Int), List.mem_append_right _ (List.mem_singleton.2 rfl), ?_⟩
    unfold wrongT below bT
    simp
  rw [this]
  simp
theorem bent_result (m : Md) (i : Nat) (f : S39) (hi : i < m.funcs.length) : RightM (bF m i { f with f3 := 3 }) = false := by
  refine func_no _ _ (mem_set_self _ _ _ hi) ?_
  unfold funcOk below
  simp
theorem bent_nocode (m : Md) (i : Nat) (f : S39) (hi : i < m.funcs.length) : RightM (bF m i { f with f4 := [] }) = false := by
  refine func_no _ _ (mem_set_self _ _ _ hi) ?_
  unfold funcOk
  simp
theorem bent_kind (m : Md) (f : S39) (o : S42) : rightM m f { o with f0 := 24 } = false := by
  unfold rightM fieldsM othersM
  simp
theorem bent_next (m : Md) (f : S39) (o : S42) (L : Int) (hL : L = f.f4.length) (h : o.f0 ≠ 23) : rightM m f { o with f9 := L } = false := by
  unfold rightM
  subst hL
  simp only [if_neg h]
  unfold below
  simp
theorem bent_else1 (m : Md) (f : S39) (o : S42) (h : o.f0 ≠ 21) : rightM m f { o with f10 := 1 } = false := by
  unfold rightM
  simp only [if_neg h]
  unfold below
  simp
theorem bent_else2 (m : Md) (f : S39) (o : S42) (h : o.f0 = 21) : rightM m f { o with f10 := -1 } = false := by
  unfold rightM
  simp only [if_pos h]
  unfold below
  simp
theorem bent_reg (m : Md) (f : S39) (o : S42) (R : Int) (hR : R = f.f2) (h : o.f0 = 5 ∨ o.f0 = 6 ∨ o.f0 = 21) : rightM m f { o with f1 := R } = false := by
  subst hR
  unfold rightM fieldsM othersM
  rcases h with h | h | h <;> simp [h, below]
theorem bF_fnAt (m : Md) (i : Nat) (f' : S39) (h1 : f'.f1 = (rd_T39 m.funcs i).f1) (j : Int) : (fnAt (bF m i f') j).f1 = (fnAt m j).f1 := by
  unfold fnAt bF
  simp only [List.getD_eq_getElem?_getD]
  rw [List.getElem?_set]
  by_cases hj : i = j.toNat
  · rw [if_pos hj]
    by_cases hl : i < m.funcs.length
    · rw [if_pos hl, ← hj, List.getElem?_eq_getElem hl]
      simp only [Option.getD_some]
      rw [h1]
      unfold rd_T39
      rw [Int.toNat_natCast, List.getD_eq_getElem?_getD, List.getElem?_eq_getElem hl]
      rfl
    · rw [if_neg hl, ← hj, List.getElem?_eq_none (by omega)]
  · rw [if_neg hj]
theorem bent_args (m : Md) (i : Nat) (f f' : S39) (o : S42) (x : Int) (hf : f = rd_T39 m.funcs i) (h1 : f'.f1 = f.f1) (h3 : f'.f3 = f.f3) (h : rightM m f o = true) : rightM (bF m i f') f' { o with f8 := o.f8 ++ [x] } = false := by
  have hfn := bF_fnAt m i f' (by rw [h1, hf]) o.f1
  unfold rightM at h ⊢
  simp only [Bool.and_eq_true] at h
  have hd := of_decide_eq_true h.2.2.1
  have : decide (((o.f8 ++ [x]).length : Int) = if o.f0 = 22 then (fnAt (bF m i f') o.f1).f1 else if o.f0 = 23 then f'.f3 else 0) = false := by
    rw [hfn, h3, List.length_append]
    refine decide_eq_false ?_
    intro he
    rw [← hd] at he
    simp at he
    omega
  simp only [this, Bool.false_and, Bool.and_false]
theorem bF_S (m : Md) (i : Nat) (f' : S39) (h : MdS m) : MdS (bF m i f') :=
  ⟨h.l0, h.l1, h.l2, h.l3, h.l4, h.l5, h.l6, by have := h.l7; simpa [bF] using this, h.l8⟩
theorem bF_F (m : Md) (i : Nat) (f' : S39) (h : MdF m) (hf : f'.f4.length ≤ 1000000) : MdF (bF m i f') := by
  intro f hm
  rcases List.mem_or_eq_of_mem_set hm with hm | rfl
  · exact h f hm
  · exact hf
theorem bF_Z (m : Md) (i : Nat) (f' : S39) (h : MdZ m) (hf : ∀ o ∈ f'.f4, o.f8.length ≤ 1000000) : MdZ (bF m i f') := by
  intro f hm
  rcases List.mem_or_eq_of_mem_set hm with hm | rfl
  · exact h f hm
  · exact hf
theorem bF_I (m : Md) (i : Nat) (f' : S39) (h : MdI m) (hf : ∀ o ∈ f'.f4, opI o) : MdI (bF m i f') := by
  intro f hm
  rcases List.mem_or_eq_of_mem_set hm with hm | rfl
  · exact h f hm
  · exact hf
theorem bO_all (f : S39) (k : Nat) (o' : S42) (p : S42 → Prop) (h : ∀ o ∈ f.f4, p o) (ho : p o') : ∀ o ∈ (bO f k o').f4, p o := by
  intro o hm
  rcases List.mem_or_eq_of_mem_set hm with hm | rfl
  · exact h o hm
  · exact ho
/-- All that is asked of a module that is copied and shown. -/
structure MdAll (m : Md) : Prop where
  s : MdS m
  z : MdZ m
  f : MdF m
  i : MdI m
theorem all_op (m : Md) (i k : Nat) (f : S39) (o' : S42) (h : MdAll m) (hf : f ∈ m.funcs) (hz : o'.f8.length ≤ 1000000) (hi : opI o') : MdAll (bF m i (bO f k o')) :=
  ⟨bF_S _ _ _ h.s, bF_Z _ _ _ h.z (bO_all f k o' _ (h.z f hf) hz), bF_F _ _ _ h.f (by show (f.f4.set k o').length ≤ _; rw [List.length_set]; exact h.f f hf), bF_I _ _ _ h.i (bO_all f k o' _ (h.i f hf) hi)⟩
theorem all_result (m : Md) (i : Nat) (f : S39) (h : MdAll m) (hf : f ∈ m.funcs) : MdAll (bF m i { f with f3 := 3 }) :=
  ⟨bF_S _ _ _ h.s, bF_Z _ _ _ h.z (h.z f hf), bF_F _ _ _ h.f (h.f f hf), bF_I _ _ _ h.i (h.i f hf)⟩
theorem all_nocode (m : Md) (i : Nat) (f : S39) (h : MdAll m) : MdAll (bF m i { f with f4 := [] }) :=
  ⟨bF_S _ _ _ h.s, bF_Z _ _ _ h.z (fun _ h => by cases h), bF_F _ _ _ h.f (Nat.zero_le _), bF_I _ _ _ h.i (fun _ h => by cases h)⟩
theorem all_threads (m : Md) (t : Int) (h : MdAll m) (h4 : m.threads.length ≤ 4) : MdAll (bT m t) :=
  ⟨⟨h.s.l0, h.s.l1, h.s.l2, h.s.l3, h.s.l4, h.s.l5, h.s.l6, h.s.l7, by show (m.threads ++ [t]).length ≤ _; rw [List.length_append]; simp; omega⟩, h.z, h.f, h.i⟩
end Go.Proofs.YtdapiibllblpbaaDoor.Code
namespace Go.Proofs.YtdapiibllblpbaaDoor.Code
open Go.RowKit Go.Proofs.YtdapiibllblpbaaDoorW.PrintWords Go.Proofs.YtdapiibllblpbaaDoorW.PrintLast Go.Proofs.YtdapiibllblpbaaDoorW.PrintMore Go.Proofs.YtdapiibllblpbaaDoor.PCodeAnswers
set_option linter.unusedVariables false
set_option linter.unusedSimpArgs false

/-! ### Functions of one's own, stored into -/
def opC (o : S42) (v8 : Value) : List Value := [.int .i64 o.f0, .int .i64 o.f1, .int .i64 o.f2, .int .i64 o.f3, .int .i64 o.f4, .int .i64 o.f5, .int .i64 o.f6, .int .i64 o.f7, v8, .int .i64 o.f9, .int .i64 o.f10, .int .i64 o.f11]
section
variable {W : World} {b7 g n cap : Nat} {fs : List S39}
theorem fit_at (h : Kd.S kF 39 W b7 (fun _ => True) (.slice (some ⟨g, 0, none⟩) n cap) fs) (i : Nat) (hi : i < n) (k : Nat) (hk : k < (rd_T39 fs i).f4.length) :
    ∃ gi ci v8 okx, W.cell? ⟨g, i * 5 + 4, none⟩ = some (.slice (some ⟨gi, 0, none⟩) (rd_T39 fs i).f4.length ci) ∧ b7 ≤ gi ∧ gi < W.heap.size ∧ (∃ cells, W.heap[gi]? = some (.cells cells 42 (0, 0))) ∧
    (∀ j u, (opC (rd_T42 (rd_T39 fs i).f4 k) v8)[j]? = some u → W.cell? ⟨gi, k * 12 + j, none⟩ = some u) ∧ (∀ j, W.frozen? ⟨gi, k * 12 + j, none⟩ = false) ∧
    (Kd.int .i64).R 3 W b7 okx v8 (rd_T42 (rd_T39 fs i).f4 k).f8 ∧
    (∀ (j : Nat) (v : Value) (o' : S42), j < 12 → (opC (rd_T42 (rd_T39 fs i).f4 k) v8).set j v = opC o' v8 → o'.f8 = (rd_T42 (rd_T39 fs i).f4 k).f8 →
      Kd.S kF 39 (W.setCell ⟨gi, k * 12 + j, none⟩ v) b7 (fun _ => True) (.slice (some ⟨g, 0, none⟩) n cap) (fs.set i (bO (rd_T39 fs i) k o'))) ∧
    (∀ w1 v1 x, (Kd.int .i64).R 3 w1 b7 (fun q => okx q ∨ W.heap.size ≤ q) v1 ((rd_T42 (rd_T39 fs i).f4 k).f8 ++ [x]) → W.grownBy w1 v8.ownBlock →
      (∃ u, w1.cell? ⟨gi, k * 12 + 8, none⟩ = some u) ∧ w1.frozen? ⟨gi, k * 12 + 8, none⟩ = false ∧
      Kd.S kF 39 (w1.setCell ⟨gi, k * 12 + 8, none⟩ v1) b7 (fun _ => True) (.slice (some ⟨g, 0, none⟩) n cap) (fs.set i (bO (rd_T39 fs i) k { rd_T42 (rd_T39 fs i).f4 k with f8 := (rd_T42 (rd_T39 fs i).f4 k).f8 ++ [x] }))) := by
  obtain ⟨oki, c, hcl, hM, hcc, hfr, hoki, hH⟩ := Kd.S_elem h z39 i (by omega) (by omega)
  rw [show fs.getD (Int.toNat (i : Int)) z39 = rd_T39 fs i from rfl] at hM
  obtain ⟨f, hf⟩ : ∃ f, rd_T39 fs i = f := ⟨_, rfl⟩
  rw [hf] at hM hk
  rw [hf]
  clear hf
  obtain ⟨v4, hc, g4⟩ := kF_openM hM
  subst hc
  obtain ⟨gi, ci, hv, hb, hlt, cells, hcells⟩ := Kd.S_form g4 (by omega)
  subst hv
  have e4 := hcc 4 _ rfl
  rw [Int.toNat_natCast] at e4
  have hH' := Kd.H_widen hH
  have hgi : oki gi := (Kd.S_R g4).1 gi rfl
  have g4' : Kd.S k42 42 W b7 (fun q => oki q ∨ True ∧ W.heap.size ≤ q) (.slice (some ⟨gi, 0, none⟩) f.f4.length ci) f.f4 := Kd.S_mono g4 (fun q hq => Or.inl hq)
  obtain ⟨oki2, c2, hcl2, hM2, hcc2, hfr2, hoki2, hH2⟩ := Kd.S_elem g4' z42 k (by omega) (by omega)
  rw [show f.f4.getD (Int.toNat (k : Int)) z42 = rd_T42 f.f4 k from rfl] at hM2
  obtain ⟨o, ho⟩ : ∃ o, rd_T42 f.f4 k = o := ⟨_, rfl⟩
  rw [ho] at hM2
  rw [ho]
  clear ho
  obtain ⟨v8, hc2, g8⟩ := k42_openM hM2
  subst hc2
  rw [Int.toNat_natCast] at hcc2 hfr2
  refine ⟨gi, ci, v8, oki2, e4, hb, hlt, ⟨cells, hcells⟩, hcc2, hfr2, g8, ?_, ?_⟩
  · intro j v o' hj hset hf8
    have hM3 : k42.M W b7 oki2 o' ((opC o v8).take j ++ [v] ++ (opC o v8).drop (j + 1)) := by
      have e : (opC o v8).take j ++ [v] ++ (opC o v8).drop (j + 1) = (opC o v8).set j v := by
        rw [List.set_eq_take_append_cons_drop, if_pos (by show j < 12; exact hj), List.append_assoc]
        rfl
      rw [e, hset]
      exact k42_mkM W b7 oki2 o' (v8 := v8) (by rw [hf8]; exact g8)
    have h2 := Kd.S_seg0 hH2 (by omega) (by omega) (seg := [v]) (j := j) (by show j + 1 ≤ 12; omega) hM3 (fun _ h => h)
    rw [Int.toNat_natCast] at h2
    obtain ⟨s2, gr⟩ := h2
    have h3 := Kd.H_grown hH' gr (by rintro q hq; cases hq; exact Or.inl hgi)
    have s2' : Kd.S k42 42 (W.setCells gi (k * k42.sz + j) [v]) b7 (fun q => oki q ∨ True ∧ W.heap.size ≤ q) (.slice (some ⟨gi, 0, none⟩) f.f4.length ci) (bO f k o').f4 := s2
    have h4 := Kd.H_back h3 (kF_mkM _ b7 _ (bO f k o') s2') (fun _ h => h)
    rw [Int.toNat_natCast] at h4
    exact h4
  · intro w1 v1 x hR hg
    have h2 := Kd.H_widen hH2
    have h3 := Kd.H_grown h2 hg (fun q hq => Or.inl (g8.1 q hq))
    obtain ⟨hc3, hf3⟩ := Kd.H_at h3 (by omega) (by omega)
    rw [Int.toNat_natCast] at hc3 hf3
    have hM3 := k42_mkM w1 b7 (fun q => oki2 q ∨ (oki q ∨ True ∧ W.heap.size ≤ q) ∧ W.heap.size ≤ q) { o with f8 := o.f8 ++ [x] } (v8 := v1) (Kd.R_mono hR (fun q hq => hq.elim Or.inl (fun h => Or.inr ⟨Or.inr ⟨trivial, h⟩, h⟩)))
    have h5 := Kd.S_seg0 h3 (by omega) (by omega) (seg := [v1]) (j := 8) (by show 9 ≤ 12; omega) hM3 (fun _ h => h)
    rw [Int.toNat_natCast] at h5
    obtain ⟨s2, gr⟩ := h5
    refine ⟨⟨_, hc3 8 _ rfl⟩, hf3 8, ?_⟩
    have o3 := Kd.H_grown hH' hg (fun q hq => (hoki2 q (g8.1 q hq)).1)
    have o4 := Kd.H_grown o3 gr (by rintro q hq; cases hq; exact Or.inl hgi)
    have s2' : Kd.S k42 42 (w1.setCells gi (k * k42.sz + 8) [v1]) b7 (fun q => oki q ∨ True ∧ W.heap.size ≤ q) (.slice (some ⟨gi, 0, none⟩) f.f4.length ci) (bO f k { o with f8 := o.f8 ++ [x] }).f4 := s2
    have h4 := Kd.H_back o4 (kF_mkM _ b7 _ (bO f k { o with f8 := o.f8 ++ [x] }) s2') (fun _ h => h)
    rw [Int.toNat_natCast] at h4
    exact h4
theorem fit_result (h : Kd.S kF 39 W b7 (fun _ => True) (.slice (some ⟨g, 0, none⟩) n cap) fs) (i : Nat) (hi : i < n) :
    (∃ v, W.cell? ⟨g, i * 5 + 3, none⟩ = some v) ∧ W.frozen? ⟨g, i * 5 + 3, none⟩ = false ∧
    Kd.S kF 39 (W.setCell ⟨g, i * 5 + 3, none⟩ (.int .i64 3)) b7 (fun _ => True) (.slice (some ⟨g, 0, none⟩) n cap) (fs.set i { rd_T39 fs i with f3 := 3 }) := by
  obtain ⟨oki, c, hcl, hM, hcc, hfr, hoki, hH⟩ := Kd.S_elem h z39 i (by omega) (by omega)
  obtain ⟨v4, hc, g4⟩ := kF_openM hM
  subst hc
  have e1 := hcc 3 _ rfl
  have e2 := hfr 3
  rw [Int.toNat_natCast] at e1 e2
  refine ⟨⟨_, e1⟩, e2, ?_⟩
  have hM2 := kF_mkM W b7 oki { rd_T39 fs i with f3 := 3 } (v4 := v4) g4
  have := (Kd.S_seg0 hH (by omega) (by omega) (seg := [.int .i64 3]) (j := 3) (by show 4 ≤ 5; omega) (x' := { rd_T39 fs i with f3 := 3 }) (okp := oki) hM2 (fun _ h => h)).1
  rw [Int.toNat_natCast] at this
  exact this
theorem fit_nocode (h : Kd.S kF 39 W b7 (fun _ => True) (.slice (some ⟨g, 0, none⟩) n cap) fs) (i : Nat) (hi : i < n) :
    (∃ v, W.cell? ⟨g, i * 5 + 4, none⟩ = some v) ∧ W.frozen? ⟨g, i * 5 + 4, none⟩ = false ∧
    Kd.S kF 39 (W.setCell ⟨g, i * 5 + 4, none⟩ (.slice none 0 0)) b7 (fun _ => True) (.slice (some ⟨g, 0, none⟩) n cap) (fs.set i { rd_T39 fs i with f4 := [] }) := by
  obtain ⟨oki, c, hcl, hM, hcc, hfr, hoki, hH⟩ := Kd.S_elem h z39 i (by omega) (by omega)
  obtain ⟨v4, hc, g4⟩ := kF_openM hM
  subst hc
  have e1 := hcc 4 _ rfl
  have e2 := hfr 4
  rw [Int.toNat_natCast] at e1 e2
  refine ⟨⟨_, e1⟩, e2, ?_⟩
  have hM2 := kF_mkM W b7 oki { rd_T39 fs i with f4 := [] } (v4 := .slice none 0 0) (Kd.S_nil _ _ _ _ _)
  have := (Kd.S_seg0 hH (by omega) (by omega) (seg := [.slice none 0 0]) (j := 4) (by show 5 ≤ 5; omega) (x' := { rd_T39 fs i with f4 := [] }) (okp := oki) hM2 (fun _ h => h)).1
  rw [Int.toNat_natCast] at this
  exact this
end
end Go.Proofs.YtdapiibllblpbaaDoor.Code
namespace Go.Proofs.YtdapiibllblpbaaDoor.Code
open Go.RowKit Go.Proofs.YtdapiibllblpbaaDoorW.PrintWords Go.Proofs.YtdapiibllblpbaaDoorW.PrintLast Go.Proofs.YtdapiibllblpbaaDoorW.PrintMore Go.Proofs.YtdapiibllblpbaaDoor.PCodeAnswers
set_option linter.unusedVariables false
set_option linter.unusedSimpArgs false
theorem typed_ne2 {w : World} {a b : Nat} {cs cs' : Array Value} {t t' : TypeId} (h1 : w.heap[a]? = some (.cells cs t (0, 0))) (h2 : w.heap[b]? = some (.cells cs' t' (0, 0))) (ht : t ≠ t') : a ≠ b := by
  rintro rfl
  rw [h1] at h2
  cases h2
  exact ht rfl
theorem MdN.below {base b4 b7 nb : Nat} {w w1 : World} {r : MdR} {m : Md} (h : MdN base b4 b7 nb w r m) (b : Below w.heap.size w w1) : MdN base b4 b7 nb w1 r m :=
  ⟨Kd.R_below h.g0 b, Kd.R_below h.g1 b, Kd.R_below h.g2 b, Kd.R_below h.g3 b, Kd.R_below h.g4 b, Kd.R_below h.g5 b, Kd.R_below h.g6 b, Kd.R_below h.g8 b⟩
theorem fit_made {base b4 b7 nb : Nat} {w : World} {r : MdR} {m : Md} {i : Nat} {f' : S39} (hN : MdN base b4 b7 nb w r m) (hS : Kd.S kF 39 w b7 (fun _ => True) (.slice r.a7 m.funcs.length r.c7) (m.funcs.set i f')) (hb : base ≤ b7) : MdC w r (bF m i f') ∧ MdK r (bF m i f') := by
  have : MdO base w r (bF m i f') := ⟨⟨b4, b7, nb, ⟨hN.g0, hN.g1, hN.g2, hN.g3, hN.g4, hN.g5, hN.g6, hN.g8⟩, by
    show Kd.S kF 39 w b7 (fun _ => True) (.slice r.a7 (m.funcs.set i f').length r.c7) (m.funcs.set i f')
    rw [List.length_set]
    exact hS, hb⟩⟩
  exact this.reads
theorem mdW_bF (r : MdR) (m : Md) (i : Nat) (f' : S39) : mdW r (bF m i f') = mdW r m := by
  unfold mdW
  simp [bF]
theorem R_other {α : Type} {d : Kd α} {e base : Nat} {w w1 : World} {ok : Nat → Prop} {v : Value} {xs : List α} (h : d.R e w base ok v xs) (hsame : ∀ k, k < w.heap.size → (∀ c, w.heap[k]? ≠ some (.cells c 3 (0, 0))) → (∀ c, w.heap[k]? ≠ some (.cells c 27 (0, 0))) → w1.heap[k]? = w.heap[k]?) (hE : 3 ∉ e :: d.E) (hE2 : 27 ∉ e :: d.E) : d.R e w1 base ok v xs :=
  Kd.R_mono (Kd.R_move (Kd.R_bound h) (fun k hk => by
    obtain ⟨q, hq, c', hc'⟩ := hk.2.2.2
    refine hsame k hk.2.2.1 (fun c hc => ?_) (fun c hc => ?_)
    · rw [hc] at hc'
      cases hc'
      exact hE hq
    · rw [hc] at hc'
      cases hc'
      exact hE2 hq)) (fun _ h => h.1)
/-- A thread more: its row appended to. -/
theorem fit_threads {base b4 b7 nb : Nat} {w w1 : World} {r : MdR} {m : Md} {x : Int} {A9 : Option Addr} {c9 : Nat} {base2 : Nat} {ok : Nat → Prop} (hN : MdN base b4 b7 nb w r m) (hS : Kd.S kF 39 w b7 (fun _ => True) (.slice r.a7 m.funcs.length r.c7) m.funcs)
    (hR : (Kd.int .i64).R 3 w1 base2 ok (.slice A9 (m.threads ++ [x]).length c9) (m.threads ++ [x])) (hsame : ∀ k, k < w.heap.size → (∀ c, w.heap[k]? ≠ some (.cells c 3 (0, 0))) → (∀ c, w.heap[k]? ≠ some (.cells c 27 (0, 0))) → w1.heap[k]? = w.heap[k]?)
    (hsameS : ∀ k, b7 ≤ k → k < w.heap.size → (∀ c, w.heap[k]? ≠ some (.cells c 27 (0, 0))) → w1.heap[k]? = w.heap[k]?) : MdC w1 { r with a8 := A9, c8 := c9 } (bT m x) ∧ MdK { r with a8 := A9, c8 := c9 } (bT m x) := by
  obtain ⟨_, l0, c0⟩ := Kd.R_reads' (R_other hN.g0 hsame (by decide) (by decide))
  obtain ⟨_, l1, c1⟩ := Kd.R_reads' (R_other hN.g1 hsame (by decide) (by decide))
  obtain ⟨_, l2, c2⟩ := Kd.R_reads' (R_other hN.g2 hsame (by decide) (by decide))
  obtain ⟨_, l3, c3⟩ := Kd.R_reads' (R_other hN.g3 hsame (by decide) (by decide))
  obtain ⟨_, l4, c4⟩ := Kd.R_reads' (R_other hN.g4 hsame (by decide) (by decide))
  obtain ⟨_, l5, c5⟩ := Kd.R_reads' (R_other hN.g5 hsame (by decide) (by decide))
  obtain ⟨_, l6, c6⟩ := Kd.R_reads' (R_other hN.g6 hsame (by decide) (by decide))
  have hS1 := Kd.S_move (w1 := w1) (Kd.S_bound hS) (fun k hk => hsameS k hk.2.1 hk.2.2.1 (fun c hc => by
    obtain ⟨q, hq, c', hc'⟩ := hk.2.2.2
    rw [hc] at hc'
    cases hc'
    exact absurd hq (by decide)))
  obtain ⟨_, l7, c7⟩ := Kd.S_reads' hS1
  obtain ⟨_, l8, c8⟩ := Kd.R_reads' hR
  exact ⟨⟨c0, c1, c2, c3, c4, c5, c6, kF_C _ _ _ _ c7, c8⟩, ⟨l0, l1, l2, l3, l4, l5, l6, l7, l8⟩⟩
theorem opI_f9 (o : S42) (v : Int) (h : opI o) (hv : wdOk (.num v)) : opI { o with f9 := v } := by
  refine ⟨fun x hx => ?_, h.2⟩
  simp only [List.mem_cons, List.not_mem_nil, or_false] at hx
  have h1 := h.1
  simp only [List.mem_cons, List.not_mem_nil, or_false, forall_eq_or_imp, forall_eq] at h1
  rcases hx with rfl | rfl | rfl | rfl | rfl | rfl | rfl | rfl | rfl <;> first | exact hv | simp_all
theorem opI_f10 (o : S42) (v : Int) (h : opI o) (hv : wdOk (.num v)) : opI { o with f10 := v } := by
  refine ⟨fun x hx => ?_, h.2⟩
  simp only [List.mem_cons, List.not_mem_nil, or_false] at hx
  have h1 := h.1
  simp only [List.mem_cons, List.not_mem_nil, or_false, forall_eq_or_imp, forall_eq] at h1
  rcases hx with rfl | rfl | rfl | rfl | rfl | rfl | rfl | rfl | rfl <;> first | exact hv | simp_all
theorem opI_f1 (o : S42) (v : Int) (h : opI o) (hv : wdOk (.num v)) : opI { o with f1 := v } := by
  refine ⟨fun x hx => ?_, h.2⟩
  simp only [List.mem_cons, List.not_mem_nil, or_false] at hx
  have h1 := h.1
  simp only [List.mem_cons, List.not_mem_nil, or_false, forall_eq_or_imp, forall_eq] at h1
  rcases hx with rfl | rfl | rfl | rfl | rfl | rfl | rfl | rfl | rfl <;> first | exact hv | simp_all
theorem opI_f8 (o : S42) (h : opI o) : opI { o with f8 := o.f8 ++ [0] } := by
  refine ⟨h.1, fun x hx => ?_⟩
  rcases List.mem_append.1 hx with hx | hx
  · exact h.2 x hx
  · rw [List.mem_singleton.1 hx]
    unfold wdOk
    omega
theorem right_args (m : Md) (f : S39) (o : S42) (ha : m.funcs.all funcOk = true) (hf : funcOk f = true) (h : rightM m f o = true) : o.f8.length ≤ 1025 := by
  unfold rightM at h
  simp only [Bool.and_eq_true] at h
  have hd := of_decide_eq_true h.2.2.1
  by_cases h2 : o.f0 = 22
  · rw [if_pos h2] at hd
    have : (fnAt m o.f1).f1 ≤ 1025 := by
      unfold fnAt
      rw [List.getD_eq_getElem?_getD]
      cases hg : m.funcs[o.f1.toNat]? with
      | none => simp [z39]
      | some x =>
        have := (funcOk_is x).1 (List.all_eq_true.1 ha x (List.mem_of_getElem? hg))
        simp only [Option.getD_some]
        omega
    omega
  · rw [if_neg h2] at hd
    have := (funcOk_is f).1 hf
    split at hd <;> omega
theorem Show_no (m : Md) (h : RightM m = false) : ShowM m = ([], 70) := by
  unfold ShowM
  rw [h]
  rfl
set_option maxRecDepth 100000 in
set_option maxHeartbeats 20000000 in
theorem fits_any (m : Md) (r : MdR) (fn op fl : Int) (w : World) (hm : MdC w r m) (hk : MdK r m) (hL : MdL m) (hi : MdI m) (ht : Pow10 w) :
    Calls Tryd.prog 5 #[.agg (mdW r m).toArray, .int .i64 fn, .int .i64 op, .int .i64 fl] w fun e w' => e = .returned (.bool true) ∧ Below w.heap.size w w' := by
  have hb := below_alloc (Below.refl w.heap.size w) (.cells (mdW r m).toArray 27)
  have HB0 := Aside0.mk hb
  have hn := blk_new w (.cells (mdW r m).toArray 27)
  have HN0 := Aside0.mk hn
  have HM0 := Aside0.mk (hm.below hb)
  have HT0 := Aside0.mk (ht.below hb)
  have HK := Aside0.mk hk
  have HL := Aside0.mk hL
  have HI := Aside0.mk hi
  clear hm ht hk hL hi
  obtain ⟨w0, hw0⟩ : ∃ w0, w.alloc (.cells (mdW r m).toArray 27) = w0 := ⟨_, rfl⟩
  rw [hw0] at HB0 hn HM0 HN0 HT0
  have CA := Aside0.mk (alive_any w0 HT0.out)
  clear hb hn
  go_enter Tryd.func5, Tryd.ntmps5
  go_wp2_with fail
  refine CA.out.mono ?_
  rintro e w1 ⟨rfl, b⟩
  have HB1 := Aside0.mk (below_then HB0.out HB0.out.size b)
  have HN1 := blk_below HN0.out b
  have HM1 := Aside0.mk (HM0.out.below b)
  have HT1 := Aside0.mk (HT0.out.below b)
  have g0 : w1.cell? ⟨w.heap.size, 0, none⟩ = some (.slice r.a0 m.globals.length r.c0) := (blk_cell HN1 0).trans rfl
  have g1 : w1.cell? ⟨w.heap.size, 1, none⟩ = some (.slice r.a1 m.structs.length r.c1) := (blk_cell HN1 1).trans rfl
  have g2 : w1.cell? ⟨w.heap.size, 2, none⟩ = some (.slice r.a2 m.chans.length r.c2) := (blk_cell HN1 2).trans rfl
  have g3 : w1.cell? ⟨w.heap.size, 3, none⟩ = some (.slice r.a3 m.locks.length r.c3) := (blk_cell HN1 3).trans rfl
  have g4 : w1.cell? ⟨w.heap.size, 4, none⟩ = some (.slice r.a4 m.inputs.length r.c4) := (blk_cell HN1 4).trans rfl
  have g5 : w1.cell? ⟨w.heap.size, 5, none⟩ = some (.slice r.a5 m.sinks.length r.c5) := (blk_cell HN1 5).trans rfl
  have g6 : w1.cell? ⟨w.heap.size, 6, none⟩ = some (.slice r.a6 m.hatches.length r.c6) := (blk_cell HN1 6).trans rfl
  have g7 : w1.cell? ⟨w.heap.size, 7, none⟩ = some (.slice r.a7 m.funcs.length r.c7) := (blk_cell HN1 7).trans rfl
  have g8 : w1.cell? ⟨w.heap.size, 8, none⟩ = some (.slice r.a8 m.threads.length r.c8) := (blk_cell HN1 8).trans rfl
  have HN1 := Aside0.mk HN1
  have CW := Aside0.mk (weigh_any m r w1 HM1.out HK.out HL.out 20000 (by omega))
  clear b CA hw0
  go_wp2_with fail
  refine CW.out.mono ?_
  rintro e w2 ⟨⟨n, rfl, hle⟩, b⟩
  have HB2 := Aside0.mk (below_then HB1.out HB1.out.size b)
  have HN2 := blk_below HN1.out b
  have HM2 := Aside0.mk (HM1.out.below b)
  have HT2 := Aside0.mk (HT1.out.below b)
  clear b CW g0 g1 g2 g3 g4 g5 g6 g7 g8
  have g0 : w2.cell? ⟨w.heap.size, 0, none⟩ = some (.slice r.a0 m.globals.length r.c0) := (blk_cell HN2 0).trans rfl
  have g1 : w2.cell? ⟨w.heap.size, 1, none⟩ = some (.slice r.a1 m.structs.length r.c1) := (blk_cell HN2 1).trans rfl
  have g2 : w2.cell? ⟨w.heap.size, 2, none⟩ = some (.slice r.a2 m.chans.length r.c2) := (blk_cell HN2 2).trans rfl
  have g3 : w2.cell? ⟨w.heap.size, 3, none⟩ = some (.slice r.a3 m.locks.length r.c3) := (blk_cell HN2 3).trans rfl
  have g4 : w2.cell? ⟨w.heap.size, 4, none⟩ = some (.slice r.a4 m.inputs.length r.c4) := (blk_cell HN2 4).trans rfl
  have g5 : w2.cell? ⟨w.heap.size, 5, none⟩ = some (.slice r.a5 m.sinks.length r.c5) := (blk_cell HN2 5).trans rfl
  have g6 : w2.cell? ⟨w.heap.size, 6, none⟩ = some (.slice r.a6 m.hatches.length r.c6) := (blk_cell HN2 6).trans rfl
  have g7 : w2.cell? ⟨w.heap.size, 7, none⟩ = some (.slice r.a7 m.funcs.length r.c7) := (blk_cell HN2 7).trans rfl
  have g8 : w2.cell? ⟨w.heap.size, 8, none⟩ = some (.slice r.a8 m.threads.length r.c8) := (blk_cell HN2 8).trans rfl
  have HN2 := Aside0.mk HN2
  by_cases hbig : n > 20000
  · go_wp2_with fail
    go_ret
    exact ⟨rfl, HB2.out⟩
  have hnb : n ≤ 20000 := by omega
  obtain ⟨hS, hZ, hF⟩ := hle hnb
  have HA := Aside0.mk (MdAll.mk hS hZ hF HI.out)
  clear hle hS hZ hF
  have CC := Aside0.mk (Copy_any m r w2 HM2.out HK.out HA.out.s HA.out.z HA.out.f)
  go_wp2_with fail
  refine CC.out.mono ?_
  rintro e w3 ⟨rq, rfl, ho, b⟩
  have HB3 := Aside0.mk (below_then HB2.out HB2.out.size b)
  have HN3 := blk_below HN2.out b
  have HM3 := Aside0.mk (HM2.out.below b)
  have HT3 := Aside0.mk (HT2.out.below b)
  obtain ⟨rb, hrb⟩ : ∃ t, RightM m = t := ⟨_, rfl⟩
  have CR := Right_any m rq w3 ho.reads.1 HA.out.s HA.out.z
  rw [hrb] at CR
  have CR := Aside0.mk CR
  have HRB := Aside0.mk hrb
  clear b ho CC hrb g0 g1 g2 g3 g4 g5 g6 g7 g8
  go_wp2_with fail
  refine CR.out.mono ?_
  rintro e w4 ⟨rfl, b⟩
  have HB4 := Aside0.mk (below_then HB3.out HB3.out.size b)
  have HN4 := blk_below HN3 b
  have HM4 := Aside0.mk (HM3.out.below b)
  have HT4 := Aside0.mk (HT3.out.below b)
  clear b CR HN3
  have g0 : w4.cell? ⟨w.heap.size, 0, none⟩ = some (.slice r.a0 m.globals.length r.c0) := (blk_cell HN4 0).trans rfl
  have g1 : w4.cell? ⟨w.heap.size, 1, none⟩ = some (.slice r.a1 m.structs.length r.c1) := (blk_cell HN4 1).trans rfl
  have g2 : w4.cell? ⟨w.heap.size, 2, none⟩ = some (.slice r.a2 m.chans.length r.c2) := (blk_cell HN4 2).trans rfl
  have g3 : w4.cell? ⟨w.heap.size, 3, none⟩ = some (.slice r.a3 m.locks.length r.c3) := (blk_cell HN4 3).trans rfl
  have g4 : w4.cell? ⟨w.heap.size, 4, none⟩ = some (.slice r.a4 m.inputs.length r.c4) := (blk_cell HN4 4).trans rfl
  have g5 : w4.cell? ⟨w.heap.size, 5, none⟩ = some (.slice r.a5 m.sinks.length r.c5) := (blk_cell HN4 5).trans rfl
  have g6 : w4.cell? ⟨w.heap.size, 6, none⟩ = some (.slice r.a6 m.hatches.length r.c6) := (blk_cell HN4 6).trans rfl
  have g7 : w4.cell? ⟨w.heap.size, 7, none⟩ = some (.slice r.a7 m.funcs.length r.c7) := (blk_cell HN4 7).trans rfl
  have g8 : w4.cell? ⟨w.heap.size, 8, none⟩ = some (.slice r.a8 m.threads.length r.c8) := (blk_cell HN4 8).trans rfl
  have HN4 := Aside0.mk HN4
  cases rb with
  | false =>
    go_wp2_with fail
    go_ret
    exact ⟨rfl, HB4.out⟩
  | true =>
    by_cases hf0 : fn < 0
    · go_wp2_with fail
      go_ret
      exact ⟨rfl, HB4.out⟩
    by_cases hf1 : fn ≥ m.funcs.length
    · go_wp2_with fail
      go_ret
      exact ⟨rfl, HB4.out⟩
    obtain ⟨i, rfl⟩ : ∃ i : Nat, fn = i := ⟨fn.toNat, by omega⟩
    have hlt : i < m.funcs.length := by omega
    obtain ⟨ad, A4, c4, eA, d0, d1, d2, d3, d4, hl4, h4⟩ := at_T39 HM4.out.h7 i (by omega) (by omega)
    have E7 := Aside0.mk eA
    rw [eA] at g7
    clear eA
    rw [Int.toNat_natCast] at d0 d1 d2 d3 d4
    obtain ⟨f, hf⟩ : ∃ f, rd_T39 m.funcs i = f := ⟨_, rfl⟩
    have hfl := HA.out.f _ (rd39_mem _ _ hlt)
    have HFM := rd39_mem _ _ hlt
    rw [hf] at d0 d1 d2 d3 d4 h4 hl4 hfl HFM
    have HFM := Aside0.mk HFM
    have HF0 := Aside0.mk hf
    clear hf
    have hst := store39 w4 f.f0 f.f1 f.f2 f.f3 (.slice A4 f.f4.length c4) rfl
    obtain ⟨ob, hob⟩ : ∃ ob : Obj, (.cells #[.string f.f0, .int .i64 f.f1, .int .i64 f.f2, .int .i64 f.f3, .slice A4 f.f4.length c4] 39) = ob := ⟨_, rfl⟩
    obtain ⟨w5, hw5⟩ : ∃ w5, w4.alloc ob = w5 := ⟨_, rfl⟩
    have HNF5 : Aside0 (w5.heap[w4.heap.size]? = some (.cells #[.string f.f0, .int .i64 f.f1, .int .i64 f.f2, .int .i64 f.f3, .slice A4 f.f4.length c4] 39 (0, 0))) := ⟨by rw [← hw5, ← hob]; exact blk_new w4 _⟩
    have b5 : Below w4.heap.size w4 w5 := by rw [← hw5]; exact below_alloc (Below.refl _ _) _
    have HB5 := Aside0.mk (below_then HB4.out HB4.out.size b5)
    have HN5 := blk_below HN4.out b5
    have HM5 := Aside0.mk (HM4.out.below b5)
    have HT5 := Aside0.mk (HT4.out.below b5)
    have p2 : w5.cell? ⟨w4.heap.size, 2, none⟩ = some (.int .i64 f.f2) := (blk_cell HNF5.out 2).trans rfl
    have p4 : w5.cell? ⟨w4.heap.size, 4, none⟩ = some (.slice A4 f.f4.length c4) := (blk_cell HNF5.out 4).trans rfl
    have q0 : w5.cell? ⟨w.heap.size, 0, none⟩ = some (.slice r.a0 m.globals.length r.c0) := (blk_cell HN5 0).trans rfl
    have q1 : w5.cell? ⟨w.heap.size, 1, none⟩ = some (.slice r.a1 m.structs.length r.c1) := (blk_cell HN5 1).trans rfl
    have q2 : w5.cell? ⟨w.heap.size, 2, none⟩ = some (.slice r.a2 m.chans.length r.c2) := (blk_cell HN5 2).trans rfl
    have q3 : w5.cell? ⟨w.heap.size, 3, none⟩ = some (.slice r.a3 m.locks.length r.c3) := (blk_cell HN5 3).trans rfl
    have q4 : w5.cell? ⟨w.heap.size, 4, none⟩ = some (.slice r.a4 m.inputs.length r.c4) := (blk_cell HN5 4).trans rfl
    have q5 : w5.cell? ⟨w.heap.size, 5, none⟩ = some (.slice r.a5 m.sinks.length r.c5) := (blk_cell HN5 5).trans rfl
    have q6 : w5.cell? ⟨w.heap.size, 6, none⟩ = some (.slice r.a6 m.hatches.length r.c6) := (blk_cell HN5 6).trans rfl
    have q7 : w5.cell? ⟨w.heap.size, 7, none⟩ = some (.slice r.a7 m.funcs.length r.c7) := (blk_cell HN5 7).trans rfl
    have q8 : w5.cell? ⟨w.heap.size, 8, none⟩ = some (.slice r.a8 m.threads.length r.c8) := (blk_cell HN5 8).trans rfl
    have HN5 := Aside0.mk HN5
    clear b5
    by_cases ho0 : op < 0
    · go_wp2_with fail
      go_ret
      exact ⟨rfl, HB5.out⟩
    by_cases ho1 : op ≥ f.f4.length
    · go_wp2_with fail
      go_ret
      exact ⟨rfl, HB5.out⟩
    obtain ⟨k, rfl⟩ : ∃ k : Nat, op = k := ⟨op.toNat, by omega⟩
    have hk : k < f.f4.length := by omega
    have CC := Aside0.mk (Copy_any m r w5 HM5.out HK.out HA.out.s HA.out.z HA.out.f)
    go_wp2_with fail
    refine CC.out.mono ?_
    rintro e w6 ⟨r', rfl, ho, b⟩
    obtain ⟨w7, hw7⟩ : ∃ w7, w6.alloc (.cells (mdW r' m).toArray 27) = w7 := ⟨_, rfl⟩
    have b6 : Below w6.heap.size w6 w7 := by rw [← hw7]; exact below_alloc (Below.refl _ _) _
    have HNN : Aside0 (w7.heap[w6.heap.size]? = some (.cells (mdW r' m).toArray 27 (0, 0))) := ⟨by rw [← hw7]; exact blk_new w6 _⟩
    have b57 := below_then b b.size b6
    have HB7 := Aside0.mk (below_then HB5.out HB5.out.size b57)
    have HN7 := Aside0.mk (blk_below HN5.out b57)
    have HM7 := Aside0.mk (HM5.out.below b57)
    have HT7 := Aside0.mk (HT5.out.below b57)
    have HNF7 := Aside0.mk (blk_below HNF5.out b57)
    obtain ⟨b4n, b7, nb, hN, hS7, hbb⟩ := ho.n
    have HMN : Aside0 (MdN (w5.heap.size + 2) b4n b7 nb w7 r' m) := ⟨hN.below b6⟩
    have hS := Kd.S_below hS7 b6
    have hs67 : w6.heap.size < w7.heap.size := blk_lt HNN.out
    have hs56 := b.size
    have hsw : w.heap.size ≤ w5.heap.size := HB5.out.size
    clear b ho CC hN hS7 b6 g0 g1 g2 g3 g4 g5 g6 g7 g8 q0 q1 q2 q3 q4 q5 q6 q7 q8 hst p4
    obtain ⟨g, cap, e, hg, hgl, cells, hgc⟩ := Kd.S_form hS (by omega)
    have e7 : r'.a7 = some ⟨g, 0, none⟩ := by injection e
    have E7' := Aside0.mk e7
    rw [e7] at hS
    obtain ⟨gi, ci, v8, okx, e4, hgib, hgil, ⟨cells2, hgic⟩, hcc, hfr, g8, hST, hAP⟩ := fit_at hS i hlt k (by rw [HF0.out]; exact hk)
    rw [HF0.out] at e4 hcc g8 hST hAP
    obtain ⟨o, ho⟩ : ∃ o, rd_T42 f.f4 k = o := ⟨_, rfl⟩
    rw [ho] at hcc g8 hST hAP
    have HOM : Aside0 (o ∈ f.f4) := ⟨by rw [← ho]; exact rd42_mem _ _ hk⟩
    have HO0 := Aside0.mk ho
    have c0 : w7.cell? ⟨gi, k * 12, none⟩ = some (.int .i64 o.f0) := hcc 0 _ rfl
    have n7 : w7.cell? ⟨w6.heap.size, 7, none⟩ = some (.slice (some ⟨g, 0, none⟩) m.funcs.length r'.c7) := by rw [← e7]; exact (blk_cell HNN.out 7).trans rfl
    have hne := typed_ne2 HNN.out hgc (by decide)
    have hnei := typed_ne2 HNN.out hgic (by decide)
    have HST := Aside0.mk hST
    have HAP := Aside0.mk hAP
    have HCC := Aside0.mk hcc
    have HFR := Aside0.mk hfr
    have HG8 := Aside0.mk g8
    have HSS := Aside0.mk hS
    have H57 := Aside0.mk b57
    have HB7b : b7 ≤ w7.heap.size := by omega
    have HTYP : Aside0 (∀ q, v8.ownBlock = some q → ∃ cells, w7.heap[q]? = some (.cells cells 3 (0, 0))) := ⟨fun q hq => by
      obtain ⟨inner, hown⟩ := Kd.R_own HG8.out
      exact own_typed hown q hq⟩
    have HREG : Aside0 (funcOk f = true) := ⟨List.all_eq_true.1 (right_parts m HRB.out).1 f HFM.out⟩
    have HOK : Aside0 (rightM m f o = true) := ⟨(right_parts m HRB.out).2.2 f HFM.out o HOM.out⟩
    have HZO : Aside0 (o.f8.length ≤ 1000000) := ⟨HA.out.z f HFM.out o HOM.out⟩
    have HIO : Aside0 (opI o) := ⟨HA.out.i f HFM.out o HOM.out⟩
    have HFE : Aside0 (f = rd_T39 m.funcs i) := ⟨HF0.out.symm⟩
    clear hST hAP hcc hfr g8 hS e e7 hgc hgic ho b57
    by_cases h0 : fl = 0
    · subst h0
      skip
      have fj : w7.frozen? ⟨gi, k * 12, none⟩ = false := HFR.out 0
      obtain ⟨w8, hw8⟩ : ∃ w8, w7.setCell ⟨gi, k * 12, none⟩ (.int .i64 24) = w8 := ⟨_, rfl⟩
      have S8 := HST.out 0 (.int .i64 24) ({ o with f0 := 24 }) (by decide) rfl rfl
      rw [Nat.add_zero] at S8
      rw [hw8] at S8
      have M8 : MdN (w5.heap.size + 2) b4n b7 nb w8 r' m := by rw [← hw8]; exact HMN.out.step (fun q _ h1 _ => Below.heap_setCell _ _ _ _ (by show q ≠ gi; omega))
      have N8 : w8.heap[w6.heap.size]? = some (.cells (mdW r' m).toArray 27 (0, 0)) := by rw [← hw8]; exact (Below.heap_setCell _ _ _ _ hnei).trans HNN.out
      have B58 : Below w5.heap.size w5 w8 := by rw [← hw8]; exact H57.out.setCell (p := ⟨gi, k * 12, none⟩) (by show w5.heap.size ≤ gi; omega) _
      have B8 := Aside0.mk (below_then HB5.out HB5.out.size B58)
      have T8 := Aside0.mk (HT5.out.below B58)
      clear B58
      have hm8 := fit_made M8 (by rw [E7'.out]; exact S8) hbb
      obtain ⟨m8, hm8e⟩ : ∃ m8, bF m i (bO f k ({ o with f0 := 24 })) = m8 := ⟨_, rfl⟩
      have HA8 : Aside0 (MdAll m8) := ⟨by rw [← hm8e]; exact all_op m i k f _ HA.out HFM.out HZO.out ⟨HIO.out.1, HIO.out.2⟩⟩
      have HR8 : Aside0 (RightM m8 = false) := ⟨by rw [← hm8e]; exact bent_op m i k f _ hlt hk (bent_kind _ _ _)⟩
      have HW8 : Aside0 (mdW r' m8 = mdW r' m) := ⟨by rw [← hm8e]; exact mdW_bF _ _ _ _⟩
      rw [hm8e] at hm8
      have HC8 := Aside0.mk hm8.1
      have HK8 := Aside0.mk hm8.2
      clear hm8 hm8e
      have m0 : w8.cell? ⟨w6.heap.size, 0, none⟩ = some (.slice r'.a0 m.globals.length r'.c0) := (blk_cell N8 0).trans rfl
      have m1 : w8.cell? ⟨w6.heap.size, 1, none⟩ = some (.slice r'.a1 m.structs.length r'.c1) := (blk_cell N8 1).trans rfl
      have m2 : w8.cell? ⟨w6.heap.size, 2, none⟩ = some (.slice r'.a2 m.chans.length r'.c2) := (blk_cell N8 2).trans rfl
      have m3 : w8.cell? ⟨w6.heap.size, 3, none⟩ = some (.slice r'.a3 m.locks.length r'.c3) := (blk_cell N8 3).trans rfl
      have m4 : w8.cell? ⟨w6.heap.size, 4, none⟩ = some (.slice r'.a4 m.inputs.length r'.c4) := (blk_cell N8 4).trans rfl
      have m5 : w8.cell? ⟨w6.heap.size, 5, none⟩ = some (.slice r'.a5 m.sinks.length r'.c5) := (blk_cell N8 5).trans rfl
      have m6 : w8.cell? ⟨w6.heap.size, 6, none⟩ = some (.slice r'.a6 m.hatches.length r'.c6) := (blk_cell N8 6).trans rfl
      have m7 : w8.cell? ⟨w6.heap.size, 7, none⟩ = some (.slice r'.a7 m.funcs.length r'.c7) := (blk_cell N8 7).trans rfl
      have m8c : w8.cell? ⟨w6.heap.size, 8, none⟩ = some (.slice r'.a8 m.threads.length r'.c8) := (blk_cell N8 8).trans rfl
      have CC3 : Aside0 (Calls Tryd.prog 10 #[.agg (mdW r' m).toArray] w8 fun e w' => ∃ rc, e = .returned (.agg (mdW rc m8).toArray) ∧ MdO (w8.heap.size + 2) w' rc m8 ∧ Below w8.heap.size w8 w') := ⟨by
        have := Copy_any m8 r' w8 HC8.out HK8.out HA8.out.s HA8.out.z HA8.out.f
        rw [HW8.out] at this
        exact this⟩
      have N8 := Aside0.mk N8
      go_wp2_with (refine wpList_store_row rfl 27 (.tmp 10) (.tmp 51) rfl w6.heap.size (mdW r' m).toArray rfl rfl 27 _ (blk_new w6 _) (by kernel_rfl) rfl (by simp [mdW]; exact ⟨rfl, rfl, rfl, rfl, rfl, rfl, rfl, rfl, rfl⟩) ?_; rw [World.setRow_alloc_new, hw7])
      refine CC3.out.mono ?_
      rintro e w10 ⟨rc, rfl, ho, b⟩
      have N10 := blk_below N8.out b
      have C10 := Aside0.mk (HC8.out.below b)
      have T10 := Aside0.mk (T8.out.below b)
      have B10 := Aside0.mk (below_then B8.out B8.out.size b)
      have CS : Aside0 (Calls Tryd.prog 18 #[.agg (mdW rc m8).toArray] w10 fun e w' => e = .returned (.tuple #[.string ⟨#[]⟩, .int .i64 70]) ∧ Below w10.heap.size w10 w') := ⟨by
        have := Show_any m8 rc w10 ho.reads.1 HA8.out.s HA8.out.z HA8.out.i T10.out
        rw [Show_no m8 HR8.out] at this
        exact this⟩
      clear b ho CC3 m0 m1 m2 m3 m4 m5 m6 m7 m8c
      go_wp2_with fail
      refine CS.out.mono ?_
      rintro e w11 ⟨rfl, b⟩
      have N11 := blk_below N10 b
      have C11 := Aside0.mk (C10.out.below b)
      have B11 := Aside0.mk (below_then B10.out B10.out.size b)
      have CR : Aside0 (Calls Tryd.prog 11 #[.agg (mdW r' m).toArray] w11 fun e w' => e = .returned (.bool false) ∧ Below w11.heap.size w11 w') := ⟨by
        have := Right_any m8 r' w11 C11.out HA8.out.s HA8.out.z
        rw [HR8.out, HW8.out] at this
        exact this⟩
      clear b CS
      have m0 : w11.cell? ⟨w6.heap.size, 0, none⟩ = some (.slice r'.a0 m.globals.length r'.c0) := (blk_cell N11 0).trans rfl
      have m1 : w11.cell? ⟨w6.heap.size, 1, none⟩ = some (.slice r'.a1 m.structs.length r'.c1) := (blk_cell N11 1).trans rfl
      have m2 : w11.cell? ⟨w6.heap.size, 2, none⟩ = some (.slice r'.a2 m.chans.length r'.c2) := (blk_cell N11 2).trans rfl
      have m3 : w11.cell? ⟨w6.heap.size, 3, none⟩ = some (.slice r'.a3 m.locks.length r'.c3) := (blk_cell N11 3).trans rfl
      have m4 : w11.cell? ⟨w6.heap.size, 4, none⟩ = some (.slice r'.a4 m.inputs.length r'.c4) := (blk_cell N11 4).trans rfl
      have m5 : w11.cell? ⟨w6.heap.size, 5, none⟩ = some (.slice r'.a5 m.sinks.length r'.c5) := (blk_cell N11 5).trans rfl
      have m6 : w11.cell? ⟨w6.heap.size, 6, none⟩ = some (.slice r'.a6 m.hatches.length r'.c6) := (blk_cell N11 6).trans rfl
      have m7 : w11.cell? ⟨w6.heap.size, 7, none⟩ = some (.slice r'.a7 m.funcs.length r'.c7) := (blk_cell N11 7).trans rfl
      have m8c : w11.cell? ⟨w6.heap.size, 8, none⟩ = some (.slice r'.a8 m.threads.length r'.c8) := (blk_cell N11 8).trans rfl
      clear N10 N11
      go_wp2_with fail
      refine CR.out.mono ?_
      rintro e w12 ⟨rfl, b⟩
      have B12 := below_then B11.out B11.out.size b
      clear b CR
      go_wp2_with fail
      go_ret
      exact ⟨rfl, B12⟩
    by_cases h1 : fl = 1
    · subst h1
      by_cases hq : o.f0 = 23
      · go_wp2_with (refine wpList_store_row rfl 27 (.tmp 10) (.tmp 51) rfl w6.heap.size (mdW r' m).toArray rfl rfl 27 _ (blk_new w6 _) (by kernel_rfl) rfl (by simp [mdW]; exact ⟨rfl, rfl, rfl, rfl, rfl, rfl, rfl, rfl, rfl⟩) ?_; rw [World.setRow_alloc_new, hw7])
        go_ret
        exact ⟨rfl, HB7.out⟩
      · have hp4 : w7.cell? ⟨w4.heap.size, 4, none⟩ = some (.slice A4 f.f4.length c4) := (blk_cell HNF7.out 4).trans rfl
        have cj : w7.cell? ⟨gi, k * 12 + 9, none⟩ = some _ := HCC.out 9 _ rfl
        have fj : w7.frozen? ⟨gi, k * 12 + 9, none⟩ = false := HFR.out 9
        obtain ⟨w8, hw8⟩ : ∃ w8, w7.setCell ⟨gi, k * 12 + 9, none⟩ (.int .i64 f.f4.length) = w8 := ⟨_, rfl⟩
        have S8 := HST.out 9 (.int .i64 f.f4.length) ({ o with f9 := (f.f4.length : Int) }) (by decide) rfl rfl
        rw [hw8] at S8
        have M8 : MdN (w5.heap.size + 2) b4n b7 nb w8 r' m := by rw [← hw8]; exact HMN.out.step (fun q _ h1 _ => Below.heap_setCell _ _ _ _ (by show q ≠ gi; omega))
        have N8 : w8.heap[w6.heap.size]? = some (.cells (mdW r' m).toArray 27 (0, 0)) := by rw [← hw8]; exact (Below.heap_setCell _ _ _ _ hnei).trans HNN.out
        have B58 : Below w5.heap.size w5 w8 := by rw [← hw8]; exact H57.out.setCell (p := ⟨gi, k * 12 + 9, none⟩) (by show w5.heap.size ≤ gi; omega) _
        have B8 := Aside0.mk (below_then HB5.out HB5.out.size B58)
        have T8 := Aside0.mk (HT5.out.below B58)
        clear B58
        have hm8 := fit_made M8 (by rw [E7'.out]; exact S8) hbb
        obtain ⟨m8, hm8e⟩ : ∃ m8, bF m i (bO f k ({ o with f9 := (f.f4.length : Int) })) = m8 := ⟨_, rfl⟩
        have HA8 : Aside0 (MdAll m8) := ⟨by rw [← hm8e]; exact all_op m i k f _ HA.out HFM.out HZO.out (opI_f9 o _ HIO.out (ok_small _ (by omega) (by omega)))⟩
        have HR8 : Aside0 (RightM m8 = false) := ⟨by rw [← hm8e]; exact bent_op m i k f _ hlt hk (bent_next _ _ _ _ (by show (f.f4.length : Int) = ((f.f4.set k _).length : Nat); rw [List.length_set]) hq)⟩
        have HW8 : Aside0 (mdW r' m8 = mdW r' m) := ⟨by rw [← hm8e]; exact mdW_bF _ _ _ _⟩
        rw [hm8e] at hm8
        have HC8 := Aside0.mk hm8.1
        have HK8 := Aside0.mk hm8.2
        clear hm8 hm8e
        have m0 : w8.cell? ⟨w6.heap.size, 0, none⟩ = some (.slice r'.a0 m.globals.length r'.c0) := (blk_cell N8 0).trans rfl
        have m1 : w8.cell? ⟨w6.heap.size, 1, none⟩ = some (.slice r'.a1 m.structs.length r'.c1) := (blk_cell N8 1).trans rfl
        have m2 : w8.cell? ⟨w6.heap.size, 2, none⟩ = some (.slice r'.a2 m.chans.length r'.c2) := (blk_cell N8 2).trans rfl
        have m3 : w8.cell? ⟨w6.heap.size, 3, none⟩ = some (.slice r'.a3 m.locks.length r'.c3) := (blk_cell N8 3).trans rfl
        have m4 : w8.cell? ⟨w6.heap.size, 4, none⟩ = some (.slice r'.a4 m.inputs.length r'.c4) := (blk_cell N8 4).trans rfl
        have m5 : w8.cell? ⟨w6.heap.size, 5, none⟩ = some (.slice r'.a5 m.sinks.length r'.c5) := (blk_cell N8 5).trans rfl
        have m6 : w8.cell? ⟨w6.heap.size, 6, none⟩ = some (.slice r'.a6 m.hatches.length r'.c6) := (blk_cell N8 6).trans rfl
        have m7 : w8.cell? ⟨w6.heap.size, 7, none⟩ = some (.slice r'.a7 m.funcs.length r'.c7) := (blk_cell N8 7).trans rfl
        have m8c : w8.cell? ⟨w6.heap.size, 8, none⟩ = some (.slice r'.a8 m.threads.length r'.c8) := (blk_cell N8 8).trans rfl
        have CC3 : Aside0 (Calls Tryd.prog 10 #[.agg (mdW r' m).toArray] w8 fun e w' => ∃ rc, e = .returned (.agg (mdW rc m8).toArray) ∧ MdO (w8.heap.size + 2) w' rc m8 ∧ Below w8.heap.size w8 w') := ⟨by
          have := Copy_any m8 r' w8 HC8.out HK8.out HA8.out.s HA8.out.z HA8.out.f
          rw [HW8.out] at this
          exact this⟩
        have N8 := Aside0.mk N8
        go_wp2_with (refine wpList_store_row rfl 27 (.tmp 10) (.tmp 51) rfl w6.heap.size (mdW r' m).toArray rfl rfl 27 _ (blk_new w6 _) (by kernel_rfl) rfl (by simp [mdW]; exact ⟨rfl, rfl, rfl, rfl, rfl, rfl, rfl, rfl, rfl⟩) ?_; rw [World.setRow_alloc_new, hw7])
        refine CC3.out.mono ?_
        rintro e w10 ⟨rc, rfl, ho, b⟩
        have N10 := blk_below N8.out b
        have C10 := Aside0.mk (HC8.out.below b)
        have T10 := Aside0.mk (T8.out.below b)
        have B10 := Aside0.mk (below_then B8.out B8.out.size b)
        have CS : Aside0 (Calls Tryd.prog 18 #[.agg (mdW rc m8).toArray] w10 fun e w' => e = .returned (.tuple #[.string ⟨#[]⟩, .int .i64 70]) ∧ Below w10.heap.size w10 w') := ⟨by
          have := Show_any m8 rc w10 ho.reads.1 HA8.out.s HA8.out.z HA8.out.i T10.out
          rw [Show_no m8 HR8.out] at this
          exact this⟩
        clear b ho CC3 m0 m1 m2 m3 m4 m5 m6 m7 m8c
        go_wp2_with fail
        refine CS.out.mono ?_
        rintro e w11 ⟨rfl, b⟩
        have N11 := blk_below N10 b
        have C11 := Aside0.mk (C10.out.below b)
        have B11 := Aside0.mk (below_then B10.out B10.out.size b)
        have CR : Aside0 (Calls Tryd.prog 11 #[.agg (mdW r' m).toArray] w11 fun e w' => e = .returned (.bool false) ∧ Below w11.heap.size w11 w') := ⟨by
          have := Right_any m8 r' w11 C11.out HA8.out.s HA8.out.z
          rw [HR8.out, HW8.out] at this
          exact this⟩
        clear b CS
        have m0 : w11.cell? ⟨w6.heap.size, 0, none⟩ = some (.slice r'.a0 m.globals.length r'.c0) := (blk_cell N11 0).trans rfl
        have m1 : w11.cell? ⟨w6.heap.size, 1, none⟩ = some (.slice r'.a1 m.structs.length r'.c1) := (blk_cell N11 1).trans rfl
        have m2 : w11.cell? ⟨w6.heap.size, 2, none⟩ = some (.slice r'.a2 m.chans.length r'.c2) := (blk_cell N11 2).trans rfl
        have m3 : w11.cell? ⟨w6.heap.size, 3, none⟩ = some (.slice r'.a3 m.locks.length r'.c3) := (blk_cell N11 3).trans rfl
        have m4 : w11.cell? ⟨w6.heap.size, 4, none⟩ = some (.slice r'.a4 m.inputs.length r'.c4) := (blk_cell N11 4).trans rfl
        have m5 : w11.cell? ⟨w6.heap.size, 5, none⟩ = some (.slice r'.a5 m.sinks.length r'.c5) := (blk_cell N11 5).trans rfl
        have m6 : w11.cell? ⟨w6.heap.size, 6, none⟩ = some (.slice r'.a6 m.hatches.length r'.c6) := (blk_cell N11 6).trans rfl
        have m7 : w11.cell? ⟨w6.heap.size, 7, none⟩ = some (.slice r'.a7 m.funcs.length r'.c7) := (blk_cell N11 7).trans rfl
        have m8c : w11.cell? ⟨w6.heap.size, 8, none⟩ = some (.slice r'.a8 m.threads.length r'.c8) := (blk_cell N11 8).trans rfl
        clear N10 N11
        go_wp2_with fail
        refine CR.out.mono ?_
        rintro e w12 ⟨rfl, b⟩
        have B12 := below_then B11.out B11.out.size b
        clear b CR
        go_wp2_with fail
        go_ret
        exact ⟨rfl, B12⟩
    by_cases h2 : fl = 2
    · subst h2
      by_cases hq : o.f0 = 21
      · have cj : w7.cell? ⟨gi, k * 12 + 10, none⟩ = some _ := HCC.out 10 _ rfl
        have fj : w7.frozen? ⟨gi, k * 12 + 10, none⟩ = false := HFR.out 10
        obtain ⟨w8, hw8⟩ : ∃ w8, w7.setCell ⟨gi, k * 12 + 10, none⟩ (.int .i64 (-1)) = w8 := ⟨_, rfl⟩
        have S8 := HST.out 10 (.int .i64 (-1)) ({ o with f10 := -1 }) (by decide) rfl rfl
        rw [hw8] at S8
        have M8 : MdN (w5.heap.size + 2) b4n b7 nb w8 r' m := by rw [← hw8]; exact HMN.out.step (fun q _ h1 _ => Below.heap_setCell _ _ _ _ (by show q ≠ gi; omega))
        have N8 : w8.heap[w6.heap.size]? = some (.cells (mdW r' m).toArray 27 (0, 0)) := by rw [← hw8]; exact (Below.heap_setCell _ _ _ _ hnei).trans HNN.out
        have B58 : Below w5.heap.size w5 w8 := by rw [← hw8]; exact H57.out.setCell (p := ⟨gi, k * 12 + 10, none⟩) (by show w5.heap.size ≤ gi; omega) _
        have B8 := Aside0.mk (below_then HB5.out HB5.out.size B58)
        have T8 := Aside0.mk (HT5.out.below B58)
        clear B58
        have hm8 := fit_made M8 (by rw [E7'.out]; exact S8) hbb
        obtain ⟨m8, hm8e⟩ : ∃ m8, bF m i (bO f k ({ o with f10 := -1 })) = m8 := ⟨_, rfl⟩
        have HA8 : Aside0 (MdAll m8) := ⟨by rw [← hm8e]; exact all_op m i k f _ HA.out HFM.out HZO.out (opI_f10 o _ HIO.out (by unfold wdOk; omega))⟩
        have HR8 : Aside0 (RightM m8 = false) := ⟨by rw [← hm8e]; exact bent_op m i k f _ hlt hk (bent_else2 _ _ _ hq)⟩
        have HW8 : Aside0 (mdW r' m8 = mdW r' m) := ⟨by rw [← hm8e]; exact mdW_bF _ _ _ _⟩
        rw [hm8e] at hm8
        have HC8 := Aside0.mk hm8.1
        have HK8 := Aside0.mk hm8.2
        clear hm8 hm8e
        have m0 : w8.cell? ⟨w6.heap.size, 0, none⟩ = some (.slice r'.a0 m.globals.length r'.c0) := (blk_cell N8 0).trans rfl
        have m1 : w8.cell? ⟨w6.heap.size, 1, none⟩ = some (.slice r'.a1 m.structs.length r'.c1) := (blk_cell N8 1).trans rfl
        have m2 : w8.cell? ⟨w6.heap.size, 2, none⟩ = some (.slice r'.a2 m.chans.length r'.c2) := (blk_cell N8 2).trans rfl
        have m3 : w8.cell? ⟨w6.heap.size, 3, none⟩ = some (.slice r'.a3 m.locks.length r'.c3) := (blk_cell N8 3).trans rfl
        have m4 : w8.cell? ⟨w6.heap.size, 4, none⟩ = some (.slice r'.a4 m.inputs.length r'.c4) := (blk_cell N8 4).trans rfl
        have m5 : w8.cell? ⟨w6.heap.size, 5, none⟩ = some (.slice r'.a5 m.sinks.length r'.c5) := (blk_cell N8 5).trans rfl
        have m6 : w8.cell? ⟨w6.heap.size, 6, none⟩ = some (.slice r'.a6 m.hatches.length r'.c6) := (blk_cell N8 6).trans rfl
        have m7 : w8.cell? ⟨w6.heap.size, 7, none⟩ = some (.slice r'.a7 m.funcs.length r'.c7) := (blk_cell N8 7).trans rfl
        have m8c : w8.cell? ⟨w6.heap.size, 8, none⟩ = some (.slice r'.a8 m.threads.length r'.c8) := (blk_cell N8 8).trans rfl
        have CC3 : Aside0 (Calls Tryd.prog 10 #[.agg (mdW r' m).toArray] w8 fun e w' => ∃ rc, e = .returned (.agg (mdW rc m8).toArray) ∧ MdO (w8.heap.size + 2) w' rc m8 ∧ Below w8.heap.size w8 w') := ⟨by
          have := Copy_any m8 r' w8 HC8.out HK8.out HA8.out.s HA8.out.z HA8.out.f
          rw [HW8.out] at this
          exact this⟩
        have N8 := Aside0.mk N8
        go_wp2_with (refine wpList_store_row rfl 27 (.tmp 10) (.tmp 51) rfl w6.heap.size (mdW r' m).toArray rfl rfl 27 _ (blk_new w6 _) (by kernel_rfl) rfl (by simp [mdW]; exact ⟨rfl, rfl, rfl, rfl, rfl, rfl, rfl, rfl, rfl⟩) ?_; rw [World.setRow_alloc_new, hw7])
        refine CC3.out.mono ?_
        rintro e w10 ⟨rc, rfl, ho, b⟩
        have N10 := blk_below N8.out b
        have C10 := Aside0.mk (HC8.out.below b)
        have T10 := Aside0.mk (T8.out.below b)
        have B10 := Aside0.mk (below_then B8.out B8.out.size b)
        have CS : Aside0 (Calls Tryd.prog 18 #[.agg (mdW rc m8).toArray] w10 fun e w' => e = .returned (.tuple #[.string ⟨#[]⟩, .int .i64 70]) ∧ Below w10.heap.size w10 w') := ⟨by
          have := Show_any m8 rc w10 ho.reads.1 HA8.out.s HA8.out.z HA8.out.i T10.out
          rw [Show_no m8 HR8.out] at this
          exact this⟩
        clear b ho CC3 m0 m1 m2 m3 m4 m5 m6 m7 m8c
        go_wp2_with fail
        refine CS.out.mono ?_
        rintro e w11 ⟨rfl, b⟩
        have N11 := blk_below N10 b
        have C11 := Aside0.mk (C10.out.below b)
        have B11 := Aside0.mk (below_then B10.out B10.out.size b)
        have CR : Aside0 (Calls Tryd.prog 11 #[.agg (mdW r' m).toArray] w11 fun e w' => e = .returned (.bool false) ∧ Below w11.heap.size w11 w') := ⟨by
          have := Right_any m8 r' w11 C11.out HA8.out.s HA8.out.z
          rw [HR8.out, HW8.out] at this
          exact this⟩
        clear b CS
        have m0 : w11.cell? ⟨w6.heap.size, 0, none⟩ = some (.slice r'.a0 m.globals.length r'.c0) := (blk_cell N11 0).trans rfl
        have m1 : w11.cell? ⟨w6.heap.size, 1, none⟩ = some (.slice r'.a1 m.structs.length r'.c1) := (blk_cell N11 1).trans rfl
        have m2 : w11.cell? ⟨w6.heap.size, 2, none⟩ = some (.slice r'.a2 m.chans.length r'.c2) := (blk_cell N11 2).trans rfl
        have m3 : w11.cell? ⟨w6.heap.size, 3, none⟩ = some (.slice r'.a3 m.locks.length r'.c3) := (blk_cell N11 3).trans rfl
        have m4 : w11.cell? ⟨w6.heap.size, 4, none⟩ = some (.slice r'.a4 m.inputs.length r'.c4) := (blk_cell N11 4).trans rfl
        have m5 : w11.cell? ⟨w6.heap.size, 5, none⟩ = some (.slice r'.a5 m.sinks.length r'.c5) := (blk_cell N11 5).trans rfl
        have m6 : w11.cell? ⟨w6.heap.size, 6, none⟩ = some (.slice r'.a6 m.hatches.length r'.c6) := (blk_cell N11 6).trans rfl
        have m7 : w11.cell? ⟨w6.heap.size, 7, none⟩ = some (.slice r'.a7 m.funcs.length r'.c7) := (blk_cell N11 7).trans rfl
        have m8c : w11.cell? ⟨w6.heap.size, 8, none⟩ = some (.slice r'.a8 m.threads.length r'.c8) := (blk_cell N11 8).trans rfl
        clear N10 N11
        go_wp2_with fail
        refine CR.out.mono ?_
        rintro e w12 ⟨rfl, b⟩
        have B12 := below_then B11.out B11.out.size b
        clear b CR
        go_wp2_with fail
        go_ret
        exact ⟨rfl, B12⟩
      · have cj : w7.cell? ⟨gi, k * 12 + 10, none⟩ = some _ := HCC.out 10 _ rfl
        have fj : w7.frozen? ⟨gi, k * 12 + 10, none⟩ = false := HFR.out 10
        obtain ⟨w8, hw8⟩ : ∃ w8, w7.setCell ⟨gi, k * 12 + 10, none⟩ (.int .i64 1) = w8 := ⟨_, rfl⟩
        have S8 := HST.out 10 (.int .i64 1) ({ o with f10 := 1 }) (by decide) rfl rfl
        rw [hw8] at S8
        have M8 : MdN (w5.heap.size + 2) b4n b7 nb w8 r' m := by rw [← hw8]; exact HMN.out.step (fun q _ h1 _ => Below.heap_setCell _ _ _ _ (by show q ≠ gi; omega))
        have N8 : w8.heap[w6.heap.size]? = some (.cells (mdW r' m).toArray 27 (0, 0)) := by rw [← hw8]; exact (Below.heap_setCell _ _ _ _ hnei).trans HNN.out
        have B58 : Below w5.heap.size w5 w8 := by rw [← hw8]; exact H57.out.setCell (p := ⟨gi, k * 12 + 10, none⟩) (by show w5.heap.size ≤ gi; omega) _
        have B8 := Aside0.mk (below_then HB5.out HB5.out.size B58)
        have T8 := Aside0.mk (HT5.out.below B58)
        clear B58
        have hm8 := fit_made M8 (by rw [E7'.out]; exact S8) hbb
        obtain ⟨m8, hm8e⟩ : ∃ m8, bF m i (bO f k ({ o with f10 := 1 })) = m8 := ⟨_, rfl⟩
        have HA8 : Aside0 (MdAll m8) := ⟨by rw [← hm8e]; exact all_op m i k f _ HA.out HFM.out HZO.out (opI_f10 o _ HIO.out (by unfold wdOk; omega))⟩
        have HR8 : Aside0 (RightM m8 = false) := ⟨by rw [← hm8e]; exact bent_op m i k f _ hlt hk (bent_else1 _ _ _ hq)⟩
        have HW8 : Aside0 (mdW r' m8 = mdW r' m) := ⟨by rw [← hm8e]; exact mdW_bF _ _ _ _⟩
        rw [hm8e] at hm8
        have HC8 := Aside0.mk hm8.1
        have HK8 := Aside0.mk hm8.2
        clear hm8 hm8e
        have m0 : w8.cell? ⟨w6.heap.size, 0, none⟩ = some (.slice r'.a0 m.globals.length r'.c0) := (blk_cell N8 0).trans rfl
        have m1 : w8.cell? ⟨w6.heap.size, 1, none⟩ = some (.slice r'.a1 m.structs.length r'.c1) := (blk_cell N8 1).trans rfl
        have m2 : w8.cell? ⟨w6.heap.size, 2, none⟩ = some (.slice r'.a2 m.chans.length r'.c2) := (blk_cell N8 2).trans rfl
        have m3 : w8.cell? ⟨w6.heap.size, 3, none⟩ = some (.slice r'.a3 m.locks.length r'.c3) := (blk_cell N8 3).trans rfl
        have m4 : w8.cell? ⟨w6.heap.size, 4, none⟩ = some (.slice r'.a4 m.inputs.length r'.c4) := (blk_cell N8 4).trans rfl
        have m5 : w8.cell? ⟨w6.heap.size, 5, none⟩ = some (.slice r'.a5 m.sinks.length r'.c5) := (blk_cell N8 5).trans rfl
        have m6 : w8.cell? ⟨w6.heap.size, 6, none⟩ = some (.slice r'.a6 m.hatches.length r'.c6) := (blk_cell N8 6).trans rfl
        have m7 : w8.cell? ⟨w6.heap.size, 7, none⟩ = some (.slice r'.a7 m.funcs.length r'.c7) := (blk_cell N8 7).trans rfl
        have m8c : w8.cell? ⟨w6.heap.size, 8, none⟩ = some (.slice r'.a8 m.threads.length r'.c8) := (blk_cell N8 8).trans rfl
        have CC3 : Aside0 (Calls Tryd.prog 10 #[.agg (mdW r' m).toArray] w8 fun e w' => ∃ rc, e = .returned (.agg (mdW rc m8).toArray) ∧ MdO (w8.heap.size + 2) w' rc m8 ∧ Below w8.heap.size w8 w') := ⟨by
          have := Copy_any m8 r' w8 HC8.out HK8.out HA8.out.s HA8.out.z HA8.out.f
          rw [HW8.out] at this
          exact this⟩
        have N8 := Aside0.mk N8
        go_wp2_with (refine wpList_store_row rfl 27 (.tmp 10) (.tmp 51) rfl w6.heap.size (mdW r' m).toArray rfl rfl 27 _ (blk_new w6 _) (by kernel_rfl) rfl (by simp [mdW]; exact ⟨rfl, rfl, rfl, rfl, rfl, rfl, rfl, rfl, rfl⟩) ?_; rw [World.setRow_alloc_new, hw7])
        refine CC3.out.mono ?_
        rintro e w10 ⟨rc, rfl, ho, b⟩
        have N10 := blk_below N8.out b
        have C10 := Aside0.mk (HC8.out.below b)
        have T10 := Aside0.mk (T8.out.below b)
        have B10 := Aside0.mk (below_then B8.out B8.out.size b)
        have CS : Aside0 (Calls Tryd.prog 18 #[.agg (mdW rc m8).toArray] w10 fun e w' => e = .returned (.tuple #[.string ⟨#[]⟩, .int .i64 70]) ∧ Below w10.heap.size w10 w') := ⟨by
          have := Show_any m8 rc w10 ho.reads.1 HA8.out.s HA8.out.z HA8.out.i T10.out
          rw [Show_no m8 HR8.out] at this
          exact this⟩
        clear b ho CC3 m0 m1 m2 m3 m4 m5 m6 m7 m8c
        go_wp2_with fail
        refine CS.out.mono ?_
        rintro e w11 ⟨rfl, b⟩
        have N11 := blk_below N10 b
        have C11 := Aside0.mk (C10.out.below b)
        have B11 := Aside0.mk (below_then B10.out B10.out.size b)
        have CR : Aside0 (Calls Tryd.prog 11 #[.agg (mdW r' m).toArray] w11 fun e w' => e = .returned (.bool false) ∧ Below w11.heap.size w11 w') := ⟨by
          have := Right_any m8 r' w11 C11.out HA8.out.s HA8.out.z
          rw [HR8.out, HW8.out] at this
          exact this⟩
        clear b CS
        have m0 : w11.cell? ⟨w6.heap.size, 0, none⟩ = some (.slice r'.a0 m.globals.length r'.c0) := (blk_cell N11 0).trans rfl
        have m1 : w11.cell? ⟨w6.heap.size, 1, none⟩ = some (.slice r'.a1 m.structs.length r'.c1) := (blk_cell N11 1).trans rfl
        have m2 : w11.cell? ⟨w6.heap.size, 2, none⟩ = some (.slice r'.a2 m.chans.length r'.c2) := (blk_cell N11 2).trans rfl
        have m3 : w11.cell? ⟨w6.heap.size, 3, none⟩ = some (.slice r'.a3 m.locks.length r'.c3) := (blk_cell N11 3).trans rfl
        have m4 : w11.cell? ⟨w6.heap.size, 4, none⟩ = some (.slice r'.a4 m.inputs.length r'.c4) := (blk_cell N11 4).trans rfl
        have m5 : w11.cell? ⟨w6.heap.size, 5, none⟩ = some (.slice r'.a5 m.sinks.length r'.c5) := (blk_cell N11 5).trans rfl
        have m6 : w11.cell? ⟨w6.heap.size, 6, none⟩ = some (.slice r'.a6 m.hatches.length r'.c6) := (blk_cell N11 6).trans rfl
        have m7 : w11.cell? ⟨w6.heap.size, 7, none⟩ = some (.slice r'.a7 m.funcs.length r'.c7) := (blk_cell N11 7).trans rfl
        have m8c : w11.cell? ⟨w6.heap.size, 8, none⟩ = some (.slice r'.a8 m.threads.length r'.c8) := (blk_cell N11 8).trans rfl
        clear N10 N11
        go_wp2_with fail
        refine CR.out.mono ?_
        rintro e w12 ⟨rfl, b⟩
        have B12 := below_then B11.out B11.out.size b
        clear b CR
        go_wp2_with fail
        go_ret
        exact ⟨rfl, B12⟩
    by_cases h3 : fl = 3
    · subst h3
      obtain ⟨A8, c8, hv8⟩ := Kd.R_slice HG8.out
      subst hv8
      have cc8 : w7.cell? ⟨gi, k * 12 + 8, none⟩ = some (.slice A8 o.f8.length c8) := HCC.out 8 _ rfl
      have HRA : Aside0 ((Kd.int .i64).R 3 w7 b7 (fun q => okx q ∨ w7.heap.size ≤ q) (.slice A8 o.f8.length c8) o.f8) := ⟨Kd.R_mono HG8.out (fun _ h => Or.inl h)⟩
      have hz8 := HZO.out
      go_wp2_with (first | (refine wpList_store_row rfl 27 (.tmp 10) (.tmp 51) rfl w6.heap.size (mdW r' m).toArray rfl rfl 27 _ (blk_new w6 _) (by kernel_rfl) rfl (by simp [mdW]; exact ⟨rfl, rfl, rfl, rfl, rfl, rfl, rfl, rfl, rfl⟩) ?_; rw [World.setRow_alloc_new, hw7]) | (at_builtin; go_loud (refine Kd.R_append (Kd.int .i64) (b7) rfl (.tmp 98) (.tmp 99) 25 3 (.int .i64 0) 8 rfl Tryd.underlying25 info3 rfl (by decide) (by decide) (.slice A8 o.f8.length c8) o.f8 (0) [.int .i64 (0)] (fun q => okx q ∨ w7.heap.size ≤ q) (fun _ => False) rfl rfl rfl (fun _ h => h.elim) (fun _ h => Or.inr h) HRA.out (Below.refl _ w7) (by omega) (by omega) ?_; intro v1 w9 hv1 hb1 hg1 hat1; obtain ⟨⟨uj, cj⟩, fj, S8⟩ := HAP.out w9 v1 0 hv1 hg1; obtain ⟨ys, hys⟩ : ∃ ys, o.f8 ++ [0] = ys := ⟨_, rfl⟩; rw [hys] at hv1; obtain ⟨A9, c9, hv9⟩ := Kd.R_slice hv1; subst hv9; have HYS := Aside0.mk hys; clear hys hat1; obtain ⟨w8, hw8⟩ : ∃ w8, w9.setCell ⟨gi, k * 12 + 8, none⟩ (.slice A9 ys.length c9) = w8 := ⟨_, rfl⟩; rw [hw8] at S8; have M8 : MdN (w5.heap.size + 2) b4n b7 nb w8 r' m := HMN.out.step (fun q _ h1 _ => (by rw [← hw8]; exact (Below.heap_setCell _ _ _ _ (by show q ≠ gi; omega)).trans (hb1.block q h1))); have N8 : w8.heap[w6.heap.size]? = some (.cells (mdW r' m).toArray 27 (0, 0)) := (by rw [← hw8]; exact (Below.heap_setCell _ _ _ _ hnei).trans ((hg1.block _ hs67 (fun he => by obtain ⟨cx, hcx⟩ := HTYP.out _ he.symm; exact typed_ne2 HNN.out hcx (by decide) rfl)).trans HNN.out)); have B58 : Below w5.heap.size w5 w8 := (by rw [← hw8]; exact (H57.out.trans (hb1.mono (by omega))).setCell (p := ⟨gi, k * 12 + 8, none⟩) (by show w5.heap.size ≤ gi; omega) _); have B8 := Aside0.mk (below_then HB5.out HB5.out.size B58); have T8 := Aside0.mk (HT5.out.below B58); clear B58 hv1 hb1 hg1; have hm8 := fit_made M8 (by rw [E7'.out]; exact S8) hbb; obtain ⟨m8, hm8e⟩ : ∃ m8, bF m i (bO f k { o with f8 := o.f8 ++ [0] }) = m8 := ⟨_, rfl⟩; have HA8 : Aside0 (MdAll m8) := ⟨by rw [← hm8e]; exact all_op m i k f _ HA.out HFM.out (by have := right_args m f o (right_parts m HRB.out).1 HREG.out HOK.out; show (o.f8 ++ [0]).length ≤ 1000000; rw [List.length_append]; simp; omega) (opI_f8 o HIO.out)⟩; have HR8 : Aside0 (RightM m8 = false) := ⟨by rw [← hm8e]; exact bent_op m i k f _ hlt hk (bent_args m i f _ o 0 HFE.out rfl rfl HOK.out)⟩; have HW8 : Aside0 (mdW r' m8 = mdW r' m) := ⟨by rw [← hm8e]; exact mdW_bF _ _ _ _⟩; rw [hm8e] at hm8; have HC8 := Aside0.mk hm8.1; have HK8 := Aside0.mk hm8.2; clear hm8 hm8e; have m0 : w8.cell? ⟨w6.heap.size, 0, none⟩ = some (.slice r'.a0 m.globals.length r'.c0) := (blk_cell N8 0).trans rfl; have m1 : w8.cell? ⟨w6.heap.size, 1, none⟩ = some (.slice r'.a1 m.structs.length r'.c1) := (blk_cell N8 1).trans rfl; have m2 : w8.cell? ⟨w6.heap.size, 2, none⟩ = some (.slice r'.a2 m.chans.length r'.c2) := (blk_cell N8 2).trans rfl; have m3 : w8.cell? ⟨w6.heap.size, 3, none⟩ = some (.slice r'.a3 m.locks.length r'.c3) := (blk_cell N8 3).trans rfl; have m4 : w8.cell? ⟨w6.heap.size, 4, none⟩ = some (.slice r'.a4 m.inputs.length r'.c4) := (blk_cell N8 4).trans rfl; have m5 : w8.cell? ⟨w6.heap.size, 5, none⟩ = some (.slice r'.a5 m.sinks.length r'.c5) := (blk_cell N8 5).trans rfl; have m6 : w8.cell? ⟨w6.heap.size, 6, none⟩ = some (.slice r'.a6 m.hatches.length r'.c6) := (blk_cell N8 6).trans rfl; have m7 : w8.cell? ⟨w6.heap.size, 7, none⟩ = some (.slice r'.a7 m.funcs.length r'.c7) := (blk_cell N8 7).trans rfl; have m8c : w8.cell? ⟨w6.heap.size, 8, none⟩ = some (.slice r'.a8 m.threads.length r'.c8) := (blk_cell N8 8).trans rfl; have CC3 : Aside0 (Calls Tryd.prog 10 #[.agg (mdW r' m).toArray] w8 fun e w' => ∃ rc, e = .returned (.agg (mdW rc m8).toArray) ∧ MdO (w8.heap.size + 2) w' rc m8 ∧ Below w8.heap.size w8 w') := ⟨(by have := Copy_any m8 r' w8 HC8.out HK8.out HA8.out.s HA8.out.z HA8.out.f; rw [HW8.out] at this; exact this)⟩; have N8 := Aside0.mk N8)))
      refine CC3.out.mono ?_
      rintro e w10 ⟨rc, rfl, ho, b⟩
      have N10 := blk_below N8.out b
      have C10 := Aside0.mk (HC8.out.below b)
      have T10 := Aside0.mk (T8.out.below b)
      have B10 := Aside0.mk (below_then B8.out B8.out.size b)
      have CS : Aside0 (Calls Tryd.prog 18 #[.agg (mdW rc m8).toArray] w10 fun e w' => e = .returned (.tuple #[.string ⟨#[]⟩, .int .i64 70]) ∧ Below w10.heap.size w10 w') := ⟨by
        have := Show_any m8 rc w10 ho.reads.1 HA8.out.s HA8.out.z HA8.out.i T10.out
        rw [Show_no m8 HR8.out] at this
        exact this⟩
      clear b ho CC3 m0 m1 m2 m3 m4 m5 m6 m7 m8c
      go_wp2_with fail
      refine CS.out.mono ?_
      rintro e w11 ⟨rfl, b⟩
      have N11 := blk_below N10 b
      have C11 := Aside0.mk (C10.out.below b)
      have B11 := Aside0.mk (below_then B10.out B10.out.size b)
      have CR : Aside0 (Calls Tryd.prog 11 #[.agg (mdW r' m).toArray] w11 fun e w' => e = .returned (.bool false) ∧ Below w11.heap.size w11 w') := ⟨by
        have := Right_any m8 r' w11 C11.out HA8.out.s HA8.out.z
        rw [HR8.out, HW8.out] at this
        exact this⟩
      clear b CS
      have m0 : w11.cell? ⟨w6.heap.size, 0, none⟩ = some (.slice r'.a0 m.globals.length r'.c0) := (blk_cell N11 0).trans rfl
      have m1 : w11.cell? ⟨w6.heap.size, 1, none⟩ = some (.slice r'.a1 m.structs.length r'.c1) := (blk_cell N11 1).trans rfl
      have m2 : w11.cell? ⟨w6.heap.size, 2, none⟩ = some (.slice r'.a2 m.chans.length r'.c2) := (blk_cell N11 2).trans rfl
      have m3 : w11.cell? ⟨w6.heap.size, 3, none⟩ = some (.slice r'.a3 m.locks.length r'.c3) := (blk_cell N11 3).trans rfl
      have m4 : w11.cell? ⟨w6.heap.size, 4, none⟩ = some (.slice r'.a4 m.inputs.length r'.c4) := (blk_cell N11 4).trans rfl
      have m5 : w11.cell? ⟨w6.heap.size, 5, none⟩ = some (.slice r'.a5 m.sinks.length r'.c5) := (blk_cell N11 5).trans rfl
      have m6 : w11.cell? ⟨w6.heap.size, 6, none⟩ = some (.slice r'.a6 m.hatches.length r'.c6) := (blk_cell N11 6).trans rfl
      have m7 : w11.cell? ⟨w6.heap.size, 7, none⟩ = some (.slice r'.a7 m.funcs.length r'.c7) := (blk_cell N11 7).trans rfl
      have m8c : w11.cell? ⟨w6.heap.size, 8, none⟩ = some (.slice r'.a8 m.threads.length r'.c8) := (blk_cell N11 8).trans rfl
      clear N10 N11
      go_wp2_with fail
      refine CR.out.mono ?_
      rintro e w12 ⟨rfl, b⟩
      have B12 := below_then B11.out B11.out.size b
      clear b CR
      go_wp2_with fail
      go_ret
      exact ⟨rfl, B12⟩
    by_cases h4 : fl = 4
    · subst h4
      by_cases hq : o.f0 = 5
      · rw [hq] at c0
        have hreg := (funcOk_is f).1 HREG.out
        have hp2 : w7.cell? ⟨w4.heap.size, 2, none⟩ = some (.int .i64 f.f2) := (blk_cell HNF7.out 2).trans rfl
        have cj : w7.cell? ⟨gi, k * 12 + 1, none⟩ = some _ := HCC.out 1 _ rfl
        have fj : w7.frozen? ⟨gi, k * 12 + 1, none⟩ = false := HFR.out 1
        obtain ⟨w8, hw8⟩ : ∃ w8, w7.setCell ⟨gi, k * 12 + 1, none⟩ (.int .i64 f.f2) = w8 := ⟨_, rfl⟩
        have S8 := HST.out 1 (.int .i64 f.f2) ({ o with f1 := f.f2 }) (by decide) rfl rfl
        rw [hw8] at S8
        have M8 : MdN (w5.heap.size + 2) b4n b7 nb w8 r' m := by rw [← hw8]; exact HMN.out.step (fun q _ h1 _ => Below.heap_setCell _ _ _ _ (by show q ≠ gi; omega))
        have N8 : w8.heap[w6.heap.size]? = some (.cells (mdW r' m).toArray 27 (0, 0)) := by rw [← hw8]; exact (Below.heap_setCell _ _ _ _ hnei).trans HNN.out
        have B58 : Below w5.heap.size w5 w8 := by rw [← hw8]; exact H57.out.setCell (p := ⟨gi, k * 12 + 1, none⟩) (by show w5.heap.size ≤ gi; omega) _
        have B8 := Aside0.mk (below_then HB5.out HB5.out.size B58)
        have T8 := Aside0.mk (HT5.out.below B58)
        clear B58
        have hm8 := fit_made M8 (by rw [E7'.out]; exact S8) hbb
        obtain ⟨m8, hm8e⟩ : ∃ m8, bF m i (bO f k ({ o with f1 := f.f2 })) = m8 := ⟨_, rfl⟩
        have HA8 : Aside0 (MdAll m8) := ⟨by rw [← hm8e]; exact all_op m i k f _ HA.out HFM.out HZO.out (opI_f1 o _ HIO.out (ok_small _ (by omega) (by omega)))⟩
        have HR8 : Aside0 (RightM m8 = false) := ⟨by rw [← hm8e]; exact bent_op m i k f _ hlt hk (bent_reg _ _ _ _ rfl (Or.inl hq))⟩
        have HW8 : Aside0 (mdW r' m8 = mdW r' m) := ⟨by rw [← hm8e]; exact mdW_bF _ _ _ _⟩
        rw [hm8e] at hm8
        have HC8 := Aside0.mk hm8.1
        have HK8 := Aside0.mk hm8.2
        clear hm8 hm8e
        have m0 : w8.cell? ⟨w6.heap.size, 0, none⟩ = some (.slice r'.a0 m.globals.length r'.c0) := (blk_cell N8 0).trans rfl
        have m1 : w8.cell? ⟨w6.heap.size, 1, none⟩ = some (.slice r'.a1 m.structs.length r'.c1) := (blk_cell N8 1).trans rfl
        have m2 : w8.cell? ⟨w6.heap.size, 2, none⟩ = some (.slice r'.a2 m.chans.length r'.c2) := (blk_cell N8 2).trans rfl
        have m3 : w8.cell? ⟨w6.heap.size, 3, none⟩ = some (.slice r'.a3 m.locks.length r'.c3) := (blk_cell N8 3).trans rfl
        have m4 : w8.cell? ⟨w6.heap.size, 4, none⟩ = some (.slice r'.a4 m.inputs.length r'.c4) := (blk_cell N8 4).trans rfl
        have m5 : w8.cell? ⟨w6.heap.size, 5, none⟩ = some (.slice r'.a5 m.sinks.length r'.c5) := (blk_cell N8 5).trans rfl
        have m6 : w8.cell? ⟨w6.heap.size, 6, none⟩ = some (.slice r'.a6 m.hatches.length r'.c6) := (blk_cell N8 6).trans rfl
        have m7 : w8.cell? ⟨w6.heap.size, 7, none⟩ = some (.slice r'.a7 m.funcs.length r'.c7) := (blk_cell N8 7).trans rfl
        have m8c : w8.cell? ⟨w6.heap.size, 8, none⟩ = some (.slice r'.a8 m.threads.length r'.c8) := (blk_cell N8 8).trans rfl
        have CC3 : Aside0 (Calls Tryd.prog 10 #[.agg (mdW r' m).toArray] w8 fun e w' => ∃ rc, e = .returned (.agg (mdW rc m8).toArray) ∧ MdO (w8.heap.size + 2) w' rc m8 ∧ Below w8.heap.size w8 w') := ⟨by
          have := Copy_any m8 r' w8 HC8.out HK8.out HA8.out.s HA8.out.z HA8.out.f
          rw [HW8.out] at this
          exact this⟩
        have N8 := Aside0.mk N8
        go_wp2_with (refine wpList_store_row rfl 27 (.tmp 10) (.tmp 51) rfl w6.heap.size (mdW r' m).toArray rfl rfl 27 _ (blk_new w6 _) (by kernel_rfl) rfl (by simp [mdW]; exact ⟨rfl, rfl, rfl, rfl, rfl, rfl, rfl, rfl, rfl⟩) ?_; rw [World.setRow_alloc_new, hw7])
        refine CC3.out.mono ?_
        rintro e w10 ⟨rc, rfl, ho, b⟩
        have N10 := blk_below N8.out b
        have C10 := Aside0.mk (HC8.out.below b)
        have T10 := Aside0.mk (T8.out.below b)
        have B10 := Aside0.mk (below_then B8.out B8.out.size b)
        have CS : Aside0 (Calls Tryd.prog 18 #[.agg (mdW rc m8).toArray] w10 fun e w' => e = .returned (.tuple #[.string ⟨#[]⟩, .int .i64 70]) ∧ Below w10.heap.size w10 w') := ⟨by
          have := Show_any m8 rc w10 ho.reads.1 HA8.out.s HA8.out.z HA8.out.i T10.out
          rw [Show_no m8 HR8.out] at this
          exact this⟩
        clear b ho CC3 m0 m1 m2 m3 m4 m5 m6 m7 m8c
        go_wp2_with fail
        refine CS.out.mono ?_
        rintro e w11 ⟨rfl, b⟩
        have N11 := blk_below N10 b
        have C11 := Aside0.mk (C10.out.below b)
        have B11 := Aside0.mk (below_then B10.out B10.out.size b)
        have CR : Aside0 (Calls Tryd.prog 11 #[.agg (mdW r' m).toArray] w11 fun e w' => e = .returned (.bool false) ∧ Below w11.heap.size w11 w') := ⟨by
          have := Right_any m8 r' w11 C11.out HA8.out.s HA8.out.z
          rw [HR8.out, HW8.out] at this
          exact this⟩
        clear b CS
        have m0 : w11.cell? ⟨w6.heap.size, 0, none⟩ = some (.slice r'.a0 m.globals.length r'.c0) := (blk_cell N11 0).trans rfl
        have m1 : w11.cell? ⟨w6.heap.size, 1, none⟩ = some (.slice r'.a1 m.structs.length r'.c1) := (blk_cell N11 1).trans rfl
        have m2 : w11.cell? ⟨w6.heap.size, 2, none⟩ = some (.slice r'.a2 m.chans.length r'.c2) := (blk_cell N11 2).trans rfl
        have m3 : w11.cell? ⟨w6.heap.size, 3, none⟩ = some (.slice r'.a3 m.locks.length r'.c3) := (blk_cell N11 3).trans rfl
        have m4 : w11.cell? ⟨w6.heap.size, 4, none⟩ = some (.slice r'.a4 m.inputs.length r'.c4) := (blk_cell N11 4).trans rfl
        have m5 : w11.cell? ⟨w6.heap.size, 5, none⟩ = some (.slice r'.a5 m.sinks.length r'.c5) := (blk_cell N11 5).trans rfl
        have m6 : w11.cell? ⟨w6.heap.size, 6, none⟩ = some (.slice r'.a6 m.hatches.length r'.c6) := (blk_cell N11 6).trans rfl
        have m7 : w11.cell? ⟨w6.heap.size, 7, none⟩ = some (.slice r'.a7 m.funcs.length r'.c7) := (blk_cell N11 7).trans rfl
        have m8c : w11.cell? ⟨w6.heap.size, 8, none⟩ = some (.slice r'.a8 m.threads.length r'.c8) := (blk_cell N11 8).trans rfl
        clear N10 N11
        go_wp2_with fail
        refine CR.out.mono ?_
        rintro e w12 ⟨rfl, b⟩
        have B12 := below_then B11.out B11.out.size b
        clear b CR
        go_wp2_with fail
        go_ret
        exact ⟨rfl, B12⟩
      · have hq5 := hq
        clear hq
        by_cases hq : o.f0 = 6
        · rw [hq] at c0
          have hreg := (funcOk_is f).1 HREG.out
          have hp2 : w7.cell? ⟨w4.heap.size, 2, none⟩ = some (.int .i64 f.f2) := (blk_cell HNF7.out 2).trans rfl
          have cj : w7.cell? ⟨gi, k * 12 + 1, none⟩ = some _ := HCC.out 1 _ rfl
          have fj : w7.frozen? ⟨gi, k * 12 + 1, none⟩ = false := HFR.out 1
          obtain ⟨w8, hw8⟩ : ∃ w8, w7.setCell ⟨gi, k * 12 + 1, none⟩ (.int .i64 f.f2) = w8 := ⟨_, rfl⟩
          have S8 := HST.out 1 (.int .i64 f.f2) ({ o with f1 := f.f2 }) (by decide) rfl rfl
          rw [hw8] at S8
          have M8 : MdN (w5.heap.size + 2) b4n b7 nb w8 r' m := by rw [← hw8]; exact HMN.out.step (fun q _ h1 _ => Below.heap_setCell _ _ _ _ (by show q ≠ gi; omega))
          have N8 : w8.heap[w6.heap.size]? = some (.cells (mdW r' m).toArray 27 (0, 0)) := by rw [← hw8]; exact (Below.heap_setCell _ _ _ _ hnei).trans HNN.out
          have B58 : Below w5.heap.size w5 w8 := by rw [← hw8]; exact H57.out.setCell (p := ⟨gi, k * 12 + 1, none⟩) (by show w5.heap.size ≤ gi; omega) _
          have B8 := Aside0.mk (below_then HB5.out HB5.out.size B58)
          have T8 := Aside0.mk (HT5.out.below B58)
          clear B58
          have hm8 := fit_made M8 (by rw [E7'.out]; exact S8) hbb
          obtain ⟨m8, hm8e⟩ : ∃ m8, bF m i (bO f k ({ o with f1 := f.f2 })) = m8 := ⟨_, rfl⟩
          have HA8 : Aside0 (MdAll m8) := ⟨by rw [← hm8e]; exact all_op m i k f _ HA.out HFM.out HZO.out (opI_f1 o _ HIO.out (ok_small _ (by omega) (by omega)))⟩
          have HR8 : Aside0 (RightM m8 = false) := ⟨by rw [← hm8e]; exact bent_op m i k f _ hlt hk (bent_reg _ _ _ _ rfl (Or.inr (Or.inl hq)))⟩
          have HW8 : Aside0 (mdW r' m8 = mdW r' m) := ⟨by rw [← hm8e]; exact mdW_bF _ _ _ _⟩
          rw [hm8e] at hm8
          have HC8 := Aside0.mk hm8.1
          have HK8 := Aside0.mk hm8.2
          clear hm8 hm8e
          have m0 : w8.cell? ⟨w6.heap.size, 0, none⟩ = some (.slice r'.a0 m.globals.length r'.c0) := (blk_cell N8 0).trans rfl
          have m1 : w8.cell? ⟨w6.heap.size, 1, none⟩ = some (.slice r'.a1 m.structs.length r'.c1) := (blk_cell N8 1).trans rfl
          have m2 : w8.cell? ⟨w6.heap.size, 2, none⟩ = some (.slice r'.a2 m.chans.length r'.c2) := (blk_cell N8 2).trans rfl
          have m3 : w8.cell? ⟨w6.heap.size, 3, none⟩ = some (.slice r'.a3 m.locks.length r'.c3) := (blk_cell N8 3).trans rfl
          have m4 : w8.cell? ⟨w6.heap.size, 4, none⟩ = some (.slice r'.a4 m.inputs.length r'.c4) := (blk_cell N8 4).trans rfl
          have m5 : w8.cell? ⟨w6.heap.size, 5, none⟩ = some (.slice r'.a5 m.sinks.length r'.c5) := (blk_cell N8 5).trans rfl
          have m6 : w8.cell? ⟨w6.heap.size, 6, none⟩ = some (.slice r'.a6 m.hatches.length r'.c6) := (blk_cell N8 6).trans rfl
          have m7 : w8.cell? ⟨w6.heap.size, 7, none⟩ = some (.slice r'.a7 m.funcs.length r'.c7) := (blk_cell N8 7).trans rfl
          have m8c : w8.cell? ⟨w6.heap.size, 8, none⟩ = some (.slice r'.a8 m.threads.length r'.c8) := (blk_cell N8 8).trans rfl
          have CC3 : Aside0 (Calls Tryd.prog 10 #[.agg (mdW r' m).toArray] w8 fun e w' => ∃ rc, e = .returned (.agg (mdW rc m8).toArray) ∧ MdO (w8.heap.size + 2) w' rc m8 ∧ Below w8.heap.size w8 w') := ⟨by
            have := Copy_any m8 r' w8 HC8.out HK8.out HA8.out.s HA8.out.z HA8.out.f
            rw [HW8.out] at this
            exact this⟩
          have N8 := Aside0.mk N8
          go_wp2_with (refine wpList_store_row rfl 27 (.tmp 10) (.tmp 51) rfl w6.heap.size (mdW r' m).toArray rfl rfl 27 _ (blk_new w6 _) (by kernel_rfl) rfl (by simp [mdW]; exact ⟨rfl, rfl, rfl, rfl, rfl, rfl, rfl, rfl, rfl⟩) ?_; rw [World.setRow_alloc_new, hw7])
          refine CC3.out.mono ?_
          rintro e w10 ⟨rc, rfl, ho, b⟩
          have N10 := blk_below N8.out b
          have C10 := Aside0.mk (HC8.out.below b)
          have T10 := Aside0.mk (T8.out.below b)
          have B10 := Aside0.mk (below_then B8.out B8.out.size b)
          have CS : Aside0 (Calls Tryd.prog 18 #[.agg (mdW rc m8).toArray] w10 fun e w' => e = .returned (.tuple #[.string ⟨#[]⟩, .int .i64 70]) ∧ Below w10.heap.size w10 w') := ⟨by
            have := Show_any m8 rc w10 ho.reads.1 HA8.out.s HA8.out.z HA8.out.i T10.out
            rw [Show_no m8 HR8.out] at this
            exact this⟩
          clear b ho CC3 m0 m1 m2 m3 m4 m5 m6 m7 m8c
          go_wp2_with fail
          refine CS.out.mono ?_
          rintro e w11 ⟨rfl, b⟩
          have N11 := blk_below N10 b
          have C11 := Aside0.mk (C10.out.below b)
          have B11 := Aside0.mk (below_then B10.out B10.out.size b)
          have CR : Aside0 (Calls Tryd.prog 11 #[.agg (mdW r' m).toArray] w11 fun e w' => e = .returned (.bool false) ∧ Below w11.heap.size w11 w') := ⟨by
            have := Right_any m8 r' w11 C11.out HA8.out.s HA8.out.z
            rw [HR8.out, HW8.out] at this
            exact this⟩
          clear b CS
          have m0 : w11.cell? ⟨w6.heap.size, 0, none⟩ = some (.slice r'.a0 m.globals.length r'.c0) := (blk_cell N11 0).trans rfl
          have m1 : w11.cell? ⟨w6.heap.size, 1, none⟩ = some (.slice r'.a1 m.structs.length r'.c1) := (blk_cell N11 1).trans rfl
          have m2 : w11.cell? ⟨w6.heap.size, 2, none⟩ = some (.slice r'.a2 m.chans.length r'.c2) := (blk_cell N11 2).trans rfl
          have m3 : w11.cell? ⟨w6.heap.size, 3, none⟩ = some (.slice r'.a3 m.locks.length r'.c3) := (blk_cell N11 3).trans rfl
          have m4 : w11.cell? ⟨w6.heap.size, 4, none⟩ = some (.slice r'.a4 m.inputs.length r'.c4) := (blk_cell N11 4).trans rfl
          have m5 : w11.cell? ⟨w6.heap.size, 5, none⟩ = some (.slice r'.a5 m.sinks.length r'.c5) := (blk_cell N11 5).trans rfl
          have m6 : w11.cell? ⟨w6.heap.size, 6, none⟩ = some (.slice r'.a6 m.hatches.length r'.c6) := (blk_cell N11 6).trans rfl
          have m7 : w11.cell? ⟨w6.heap.size, 7, none⟩ = some (.slice r'.a7 m.funcs.length r'.c7) := (blk_cell N11 7).trans rfl
          have m8c : w11.cell? ⟨w6.heap.size, 8, none⟩ = some (.slice r'.a8 m.threads.length r'.c8) := (blk_cell N11 8).trans rfl
          clear N10 N11
          go_wp2_with fail
          refine CR.out.mono ?_
          rintro e w12 ⟨rfl, b⟩
          have B12 := below_then B11.out B11.out.size b
          clear b CR
          go_wp2_with fail
          go_ret
          exact ⟨rfl, B12⟩
        · have hq6 := hq
          clear hq
          by_cases hq : o.f0 = 21
          · rw [hq] at c0
            have hreg := (funcOk_is f).1 HREG.out
            have hp2 : w7.cell? ⟨w4.heap.size, 2, none⟩ = some (.int .i64 f.f2) := (blk_cell HNF7.out 2).trans rfl
            have cj : w7.cell? ⟨gi, k * 12 + 1, none⟩ = some _ := HCC.out 1 _ rfl
            have fj : w7.frozen? ⟨gi, k * 12 + 1, none⟩ = false := HFR.out 1
            obtain ⟨w8, hw8⟩ : ∃ w8, w7.setCell ⟨gi, k * 12 + 1, none⟩ (.int .i64 f.f2) = w8 := ⟨_, rfl⟩
            have S8 := HST.out 1 (.int .i64 f.f2) ({ o with f1 := f.f2 }) (by decide) rfl rfl
            rw [hw8] at S8
            have M8 : MdN (w5.heap.size + 2) b4n b7 nb w8 r' m := by rw [← hw8]; exact HMN.out.step (fun q _ h1 _ => Below.heap_setCell _ _ _ _ (by show q ≠ gi; omega))
            have N8 : w8.heap[w6.heap.size]? = some (.cells (mdW r' m).toArray 27 (0, 0)) := by rw [← hw8]; exact (Below.heap_setCell _ _ _ _ hnei).trans HNN.out
            have B58 : Below w5.heap.size w5 w8 := by rw [← hw8]; exact H57.out.setCell (p := ⟨gi, k * 12 + 1, none⟩) (by show w5.heap.size ≤ gi; omega) _
            have B8 := Aside0.mk (below_then HB5.out HB5.out.size B58)
            have T8 := Aside0.mk (HT5.out.below B58)
            clear B58
            have hm8 := fit_made M8 (by rw [E7'.out]; exact S8) hbb
            obtain ⟨m8, hm8e⟩ : ∃ m8, bF m i (bO f k ({ o with f1 := f.f2 })) = m8 := ⟨_, rfl⟩
            have HA8 : Aside0 (MdAll m8) := ⟨by rw [← hm8e]; exact all_op m i k f _ HA.out HFM.out HZO.out (opI_f1 o _ HIO.out (ok_small _ (by omega) (by omega)))⟩
            have HR8 : Aside0 (RightM m8 = false) := ⟨by rw [← hm8e]; exact bent_op m i k f _ hlt hk (bent_reg _ _ _ _ rfl (Or.inr (Or.inr hq)))⟩
            have HW8 : Aside0 (mdW r' m8 = mdW r' m) := ⟨by rw [← hm8e]; exact mdW_bF _ _ _ _⟩
            rw [hm8e] at hm8
            have HC8 := Aside0.mk hm8.1
            have HK8 := Aside0.mk hm8.2
            clear hm8 hm8e
            have m0 : w8.cell? ⟨w6.heap.size, 0, none⟩ = some (.slice r'.a0 m.globals.length r'.c0) := (blk_cell N8 0).trans rfl
            have m1 : w8.cell? ⟨w6.heap.size, 1, none⟩ = some (.slice r'.a1 m.structs.length r'.c1) := (blk_cell N8 1).trans rfl
            have m2 : w8.cell? ⟨w6.heap.size, 2, none⟩ = some (.slice r'.a2 m.chans.length r'.c2) := (blk_cell N8 2).trans rfl
            have m3 : w8.cell? ⟨w6.heap.size, 3, none⟩ = some (.slice r'.a3 m.locks.length r'.c3) := (blk_cell N8 3).trans rfl
            have m4 : w8.cell? ⟨w6.heap.size, 4, none⟩ = some (.slice r'.a4 m.inputs.length r'.c4) := (blk_cell N8 4).trans rfl
            have m5 : w8.cell? ⟨w6.heap.size, 5, none⟩ = some (.slice r'.a5 m.sinks.length r'.c5) := (blk_cell N8 5).trans rfl
            have m6 : w8.cell? ⟨w6.heap.size, 6, none⟩ = some (.slice r'.a6 m.hatches.length r'.c6) := (blk_cell N8 6).trans rfl
            have m7 : w8.cell? ⟨w6.heap.size, 7, none⟩ = some (.slice r'.a7 m.funcs.length r'.c7) := (blk_cell N8 7).trans rfl
            have m8c : w8.cell? ⟨w6.heap.size, 8, none⟩ = some (.slice r'.a8 m.threads.length r'.c8) := (blk_cell N8 8).trans rfl
            have CC3 : Aside0 (Calls Tryd.prog 10 #[.agg (mdW r' m).toArray] w8 fun e w' => ∃ rc, e = .returned (.agg (mdW rc m8).toArray) ∧ MdO (w8.heap.size + 2) w' rc m8 ∧ Below w8.heap.size w8 w') := ⟨by
              have := Copy_any m8 r' w8 HC8.out HK8.out HA8.out.s HA8.out.z HA8.out.f
              rw [HW8.out] at this
              exact this⟩
            have N8 := Aside0.mk N8
            go_wp2_with (refine wpList_store_row rfl 27 (.tmp 10) (.tmp 51) rfl w6.heap.size (mdW r' m).toArray rfl rfl 27 _ (blk_new w6 _) (by kernel_rfl) rfl (by simp [mdW]; exact ⟨rfl, rfl, rfl, rfl, rfl, rfl, rfl, rfl, rfl⟩) ?_; rw [World.setRow_alloc_new, hw7])
            refine CC3.out.mono ?_
            rintro e w10 ⟨rc, rfl, ho, b⟩
            have N10 := blk_below N8.out b
            have C10 := Aside0.mk (HC8.out.below b)
            have T10 := Aside0.mk (T8.out.below b)
            have B10 := Aside0.mk (below_then B8.out B8.out.size b)
            have CS : Aside0 (Calls Tryd.prog 18 #[.agg (mdW rc m8).toArray] w10 fun e w' => e = .returned (.tuple #[.string ⟨#[]⟩, .int .i64 70]) ∧ Below w10.heap.size w10 w') := ⟨by
              have := Show_any m8 rc w10 ho.reads.1 HA8.out.s HA8.out.z HA8.out.i T10.out
              rw [Show_no m8 HR8.out] at this
              exact this⟩
            clear b ho CC3 m0 m1 m2 m3 m4 m5 m6 m7 m8c
            go_wp2_with fail
            refine CS.out.mono ?_
            rintro e w11 ⟨rfl, b⟩
            have N11 := blk_below N10 b
            have C11 := Aside0.mk (C10.out.below b)
            have B11 := Aside0.mk (below_then B10.out B10.out.size b)
            have CR : Aside0 (Calls Tryd.prog 11 #[.agg (mdW r' m).toArray] w11 fun e w' => e = .returned (.bool false) ∧ Below w11.heap.size w11 w') := ⟨by
              have := Right_any m8 r' w11 C11.out HA8.out.s HA8.out.z
              rw [HR8.out, HW8.out] at this
              exact this⟩
            clear b CS
            have m0 : w11.cell? ⟨w6.heap.size, 0, none⟩ = some (.slice r'.a0 m.globals.length r'.c0) := (blk_cell N11 0).trans rfl
            have m1 : w11.cell? ⟨w6.heap.size, 1, none⟩ = some (.slice r'.a1 m.structs.length r'.c1) := (blk_cell N11 1).trans rfl
            have m2 : w11.cell? ⟨w6.heap.size, 2, none⟩ = some (.slice r'.a2 m.chans.length r'.c2) := (blk_cell N11 2).trans rfl
            have m3 : w11.cell? ⟨w6.heap.size, 3, none⟩ = some (.slice r'.a3 m.locks.length r'.c3) := (blk_cell N11 3).trans rfl
            have m4 : w11.cell? ⟨w6.heap.size, 4, none⟩ = some (.slice r'.a4 m.inputs.length r'.c4) := (blk_cell N11 4).trans rfl
            have m5 : w11.cell? ⟨w6.heap.size, 5, none⟩ = some (.slice r'.a5 m.sinks.length r'.c5) := (blk_cell N11 5).trans rfl
            have m6 : w11.cell? ⟨w6.heap.size, 6, none⟩ = some (.slice r'.a6 m.hatches.length r'.c6) := (blk_cell N11 6).trans rfl
            have m7 : w11.cell? ⟨w6.heap.size, 7, none⟩ = some (.slice r'.a7 m.funcs.length r'.c7) := (blk_cell N11 7).trans rfl
            have m8c : w11.cell? ⟨w6.heap.size, 8, none⟩ = some (.slice r'.a8 m.threads.length r'.c8) := (blk_cell N11 8).trans rfl
            clear N10 N11
            go_wp2_with fail
            refine CR.out.mono ?_
            rintro e w12 ⟨rfl, b⟩
            have B12 := below_then B11.out B11.out.size b
            clear b CR
            go_wp2_with fail
            go_ret
            exact ⟨rfl, B12⟩
          · have k5 : (o.f0 != 5) = true := by simp [hq5]
            have k6 : (o.f0 != 6) = true := by simp [hq6]
            have k21 : (o.f0 != 21) = true := by simp [hq]
            go_wp2_with (refine wpList_store_row rfl 27 (.tmp 10) (.tmp 51) rfl w6.heap.size (mdW r' m).toArray rfl rfl 27 _ (blk_new w6 _) (by kernel_rfl) rfl (by simp [mdW]; exact ⟨rfl, rfl, rfl, rfl, rfl, rfl, rfl, rfl, rfl⟩) ?_; rw [World.setRow_alloc_new, hw7])
            go_ret
            exact ⟨rfl, HB7.out⟩
    by_cases h5 : fl = 5
    · subst h5
      have HTY5 : Aside0 (∀ q, (Value.slice r'.a8 m.threads.length r'.c8).ownBlock = some q → ∃ cells, w7.heap[q]? = some (.cells cells 3 (0, 0))) := ⟨fun q hq => by
        obtain ⟨inner, hown⟩ := Kd.R_own HMN.out.g8
        exact own_typed hown q hq⟩
      have cc8 : w7.cell? ⟨w6.heap.size, 8, none⟩ = some (.slice r'.a8 m.threads.length r'.c8) := (blk_cell HNN.out 8).trans rfl
      have gw7 : w7.cell? ⟨w.heap.size, 7, none⟩ = some (.slice r.a7 m.funcs.length r.c7) := (blk_cell HN7.out 7).trans rfl
      have HRA : Aside0 ((Kd.int .i64).R 3 w7 (w5.heap.size + 2) (fun q => (q ≠ nb ∧ q < b7) ∨ w7.heap.size ≤ q) (.slice r'.a8 m.threads.length r'.c8) m.threads) := ⟨Kd.R_mono HMN.out.g8 (fun _ h => Or.inl h)⟩
      have hz8 := HA.out.s.l8
      go_wp2_with (first | (refine wpList_store_row rfl 27 (.tmp 10) (.tmp 51) rfl w6.heap.size (mdW r' m).toArray rfl rfl 27 _ (blk_new w6 _) (by kernel_rfl) rfl (by simp [mdW]; exact ⟨rfl, rfl, rfl, rfl, rfl, rfl, rfl, rfl, rfl⟩) ?_; rw [World.setRow_alloc_new, hw7]) | (at_builtin; go_loud (refine Kd.R_append (Kd.int .i64) (w5.heap.size + 2) rfl (.tmp 132) (.tmp 136) 25 3 (.int .i64 0) 8 rfl Tryd.underlying25 info3 rfl (by decide) (by decide) (.slice r'.a8 m.threads.length r'.c8) m.threads ((m.funcs.length : Int)) [.int .i64 ((m.funcs.length : Int))] (fun q => (q ≠ nb ∧ q < b7) ∨ w7.heap.size ≤ q) (fun _ => False) rfl rfl rfl (fun _ h => h.elim) (fun _ h => Or.inr h) HRA.out (Below.refl _ w7) (by omega) (by omega) ?_; intro v1 w9 hv1 hb1 hg1 hat1; obtain ⟨ys, hys⟩ : ∃ ys, m.threads ++ [(m.funcs.length : Int)] = ys := ⟨_, rfl⟩; rw [hys] at hv1; obtain ⟨A9, c9, hv9⟩ := Kd.R_slice hv1; subst hv9; have HYS := Aside0.mk hys; clear hys hat1; have N9 : w9.heap[w6.heap.size]? = some (.cells (mdW r' m).toArray 27 (0, 0)) := ((hg1.block _ hs67 (fun he => (by obtain ⟨cx, hcx⟩ := HTY5.out _ he.symm; exact typed_ne2 HNN.out hcx (by decide) rfl))).trans HNN.out); have cj : w9.cell? ⟨w6.heap.size, 8, none⟩ = some (.slice r'.a8 m.threads.length r'.c8) := (blk_cell N9 8).trans rfl; have fj : w9.frozen? ⟨w6.heap.size, 8, none⟩ = false := blk_frozen N9 8; obtain ⟨w8, hw8⟩ : ∃ w8, w9.setCell ⟨w6.heap.size, 8, none⟩ (.slice A9 ys.length c9) = w8 := ⟨_, rfl⟩; have hR8 : (Kd.int .i64).R 3 w8 (w5.heap.size + 2) (fun q => (q ≠ nb ∧ q < b7) ∨ w7.heap.size ≤ q) (.slice A9 (m.threads ++ [(m.funcs.length : Int)]).length c9) (m.threads ++ [(m.funcs.length : Int)]) := (by rw [← hw8, HYS.out]; exact Kd.R_set hv1 N9 (by decide) 8 _); have hm8 := fit_threads HMN.out (by rw [E7'.out]; exact HSS.out) hR8 (fun q hq h3 h27 => (by rw [← hw8]; exact (Below.heap_setCell _ _ _ _ (by show q ≠ w6.heap.size; rintro rfl; exact h27 _ HNN.out)).trans (hg1.block q hq (fun he => by obtain ⟨cx, hcx⟩ := HTY5.out _ he.symm; exact h3 _ hcx)))) (fun q h7 hq h27 => (by rw [← hw8]; exact (Below.heap_setCell _ _ _ _ (by show q ≠ w6.heap.size; rintro rfl; exact h27 _ HNN.out)).trans (hg1.block q hq (fun he => by have := (HMN.out.g8.1 q he.symm).2; omega)))); have N8 : w8.heap[w6.heap.size]? = some (.cells (mdW { r' with a8 := A9, c8 := c9 } (bT m m.funcs.length)).toArray 27 (0, 0)) := (by rw [← hw8]; exact (blk_set N9 8 _).trans (by rw [← HYS.out]; rfl)); have B58 : Below w5.heap.size w5 w8 := (by rw [← hw8]; exact (H57.out.trans (hb1.mono (by omega))).setCell (p := ⟨w6.heap.size, 8, none⟩) (by show w5.heap.size ≤ w6.heap.size; omega) _); have B8 := Aside0.mk (below_then HB5.out HB5.out.size B58); have T8 := Aside0.mk (HT5.out.below B58); clear B58 hv1 hb1 hg1 hR8 N9; obtain ⟨m8, hm8e⟩ : ∃ m8, bT m m.funcs.length = m8 := ⟨_, rfl⟩; have HA8 : Aside0 (MdAll m8) := ⟨(by rw [← hm8e]; exact all_threads m _ HA.out (right_parts m HRB.out).2.1)⟩; have HR8 : Aside0 (RightM m8 = false) := ⟨(by rw [← hm8e]; exact bent_threads m)⟩; rw [hm8e] at hm8 N8; obtain ⟨r8, hr8⟩ : ∃ r8 : MdR, { r' with a8 := A9, c8 := c9 } = r8 := ⟨_, rfl⟩; rw [hr8] at hm8 N8; have HC8 := Aside0.mk hm8.1; have HK8 := Aside0.mk hm8.2; clear hm8 hm8e hr8; have m0 : w8.cell? ⟨w6.heap.size, 0, none⟩ = some (.slice r8.a0 m8.globals.length r8.c0) := (blk_cell N8 0).trans rfl; have m1 : w8.cell? ⟨w6.heap.size, 1, none⟩ = some (.slice r8.a1 m8.structs.length r8.c1) := (blk_cell N8 1).trans rfl; have m2 : w8.cell? ⟨w6.heap.size, 2, none⟩ = some (.slice r8.a2 m8.chans.length r8.c2) := (blk_cell N8 2).trans rfl; have m3 : w8.cell? ⟨w6.heap.size, 3, none⟩ = some (.slice r8.a3 m8.locks.length r8.c3) := (blk_cell N8 3).trans rfl; have m4 : w8.cell? ⟨w6.heap.size, 4, none⟩ = some (.slice r8.a4 m8.inputs.length r8.c4) := (blk_cell N8 4).trans rfl; have m5 : w8.cell? ⟨w6.heap.size, 5, none⟩ = some (.slice r8.a5 m8.sinks.length r8.c5) := (blk_cell N8 5).trans rfl; have m6 : w8.cell? ⟨w6.heap.size, 6, none⟩ = some (.slice r8.a6 m8.hatches.length r8.c6) := (blk_cell N8 6).trans rfl; have m7 : w8.cell? ⟨w6.heap.size, 7, none⟩ = some (.slice r8.a7 m8.funcs.length r8.c7) := (blk_cell N8 7).trans rfl; have m8c : w8.cell? ⟨w6.heap.size, 8, none⟩ = some (.slice r8.a8 m8.threads.length r8.c8) := (blk_cell N8 8).trans rfl; have CC3 : Aside0 (Calls Tryd.prog 10 #[.agg (mdW r8 m8).toArray] w8 fun e w' => ∃ rc, e = .returned (.agg (mdW rc m8).toArray) ∧ MdO (w8.heap.size + 2) w' rc m8 ∧ Below w8.heap.size w8 w') := ⟨(by have := Copy_any m8 r8 w8 HC8.out HK8.out HA8.out.s HA8.out.z HA8.out.f; exact this)⟩; have N8 := Aside0.mk N8)))
      refine CC3.out.mono ?_
      rintro e w10 ⟨rc, rfl, ho, b⟩
      have N10 := blk_below N8.out b
      have C10 := Aside0.mk (HC8.out.below b)
      have T10 := Aside0.mk (T8.out.below b)
      have B10 := Aside0.mk (below_then B8.out B8.out.size b)
      have CS : Aside0 (Calls Tryd.prog 18 #[.agg (mdW rc m8).toArray] w10 fun e w' => e = .returned (.tuple #[.string ⟨#[]⟩, .int .i64 70]) ∧ Below w10.heap.size w10 w') := ⟨by
        have := Show_any m8 rc w10 ho.reads.1 HA8.out.s HA8.out.z HA8.out.i T10.out
        rw [Show_no m8 HR8.out] at this
        exact this⟩
      clear b ho CC3 m0 m1 m2 m3 m4 m5 m6 m7 m8c
      go_wp2_with fail
      refine CS.out.mono ?_
      rintro e w11 ⟨rfl, b⟩
      have N11 := blk_below N10 b
      have C11 := Aside0.mk (C10.out.below b)
      have B11 := Aside0.mk (below_then B10.out B10.out.size b)
      have CR : Aside0 (Calls Tryd.prog 11 #[.agg (mdW r8 m8).toArray] w11 fun e w' => e = .returned (.bool false) ∧ Below w11.heap.size w11 w') := ⟨by
        have := Right_any m8 r8 w11 C11.out HA8.out.s HA8.out.z
        rw [HR8.out] at this
        exact this⟩
      clear b CS
      have m0 : w11.cell? ⟨w6.heap.size, 0, none⟩ = some (.slice r8.a0 m8.globals.length r8.c0) := (blk_cell N11 0).trans rfl
      have m1 : w11.cell? ⟨w6.heap.size, 1, none⟩ = some (.slice r8.a1 m8.structs.length r8.c1) := (blk_cell N11 1).trans rfl
      have m2 : w11.cell? ⟨w6.heap.size, 2, none⟩ = some (.slice r8.a2 m8.chans.length r8.c2) := (blk_cell N11 2).trans rfl
      have m3 : w11.cell? ⟨w6.heap.size, 3, none⟩ = some (.slice r8.a3 m8.locks.length r8.c3) := (blk_cell N11 3).trans rfl
      have m4 : w11.cell? ⟨w6.heap.size, 4, none⟩ = some (.slice r8.a4 m8.inputs.length r8.c4) := (blk_cell N11 4).trans rfl
      have m5 : w11.cell? ⟨w6.heap.size, 5, none⟩ = some (.slice r8.a5 m8.sinks.length r8.c5) := (blk_cell N11 5).trans rfl
      have m6 : w11.cell? ⟨w6.heap.size, 6, none⟩ = some (.slice r8.a6 m8.hatches.length r8.c6) := (blk_cell N11 6).trans rfl
      have m7 : w11.cell? ⟨w6.heap.size, 7, none⟩ = some (.slice r8.a7 m8.funcs.length r8.c7) := (blk_cell N11 7).trans rfl
      have m8c : w11.cell? ⟨w6.heap.size, 8, none⟩ = some (.slice r8.a8 m8.threads.length r8.c8) := (blk_cell N11 8).trans rfl
      clear N10 N11
      go_wp2_with fail
      refine CR.out.mono ?_
      rintro e w12 ⟨rfl, b⟩
      have B12 := below_then B11.out B11.out.size b
      clear b CR
      go_wp2_with fail
      go_ret
      exact ⟨rfl, B12⟩
    by_cases h6 : fl = 6
    · subst h6
      obtain ⟨⟨vj, cj⟩, fj, S8⟩ := fit_result HSS.out i hlt
      rw [HF0.out] at S8
      obtain ⟨w8, hw8⟩ : ∃ w8, w7.setCell ⟨g, i * 5 + 3, none⟩ (.int .i64 3) = w8 := ⟨_, rfl⟩
      rw [hw8] at S8
      have M8 : MdN (w5.heap.size + 2) b4n b7 nb w8 r' m := by rw [← hw8]; exact HMN.out.step (fun q _ h1 _ => Below.heap_setCell _ _ _ _ (by show q ≠ g; omega))
      have N8 : w8.heap[w6.heap.size]? = some (.cells (mdW r' m).toArray 27 (0, 0)) := by rw [← hw8]; exact (Below.heap_setCell _ _ _ _ hne).trans HNN.out
      have B58 : Below w5.heap.size w5 w8 := by rw [← hw8]; exact H57.out.setCell (p := ⟨g, i * 5 + 3, none⟩) (by show w5.heap.size ≤ g; omega) _
      have B8 := Aside0.mk (below_then HB5.out HB5.out.size B58)
      have T8 := Aside0.mk (HT5.out.below B58)
      clear B58
      have hm8 := fit_made M8 (by rw [E7'.out]; exact S8) hbb
      obtain ⟨m8, hm8e⟩ : ∃ m8, bF m i ({ f with f3 := 3 }) = m8 := ⟨_, rfl⟩
      have HA8 : Aside0 (MdAll m8) := ⟨by rw [← hm8e]; exact all_result m i f HA.out HFM.out⟩
      have HR8 : Aside0 (RightM m8 = false) := ⟨by rw [← hm8e]; exact bent_result m i f hlt⟩
      have HW8 : Aside0 (mdW r' m8 = mdW r' m) := ⟨by rw [← hm8e]; exact mdW_bF _ _ _ _⟩
      rw [hm8e] at hm8
      have HC8 := Aside0.mk hm8.1
      have HK8 := Aside0.mk hm8.2
      clear hm8 hm8e
      have m0 : w8.cell? ⟨w6.heap.size, 0, none⟩ = some (.slice r'.a0 m.globals.length r'.c0) := (blk_cell N8 0).trans rfl
      have m1 : w8.cell? ⟨w6.heap.size, 1, none⟩ = some (.slice r'.a1 m.structs.length r'.c1) := (blk_cell N8 1).trans rfl
      have m2 : w8.cell? ⟨w6.heap.size, 2, none⟩ = some (.slice r'.a2 m.chans.length r'.c2) := (blk_cell N8 2).trans rfl
      have m3 : w8.cell? ⟨w6.heap.size, 3, none⟩ = some (.slice r'.a3 m.locks.length r'.c3) := (blk_cell N8 3).trans rfl
      have m4 : w8.cell? ⟨w6.heap.size, 4, none⟩ = some (.slice r'.a4 m.inputs.length r'.c4) := (blk_cell N8 4).trans rfl
      have m5 : w8.cell? ⟨w6.heap.size, 5, none⟩ = some (.slice r'.a5 m.sinks.length r'.c5) := (blk_cell N8 5).trans rfl
      have m6 : w8.cell? ⟨w6.heap.size, 6, none⟩ = some (.slice r'.a6 m.hatches.length r'.c6) := (blk_cell N8 6).trans rfl
      have m7 : w8.cell? ⟨w6.heap.size, 7, none⟩ = some (.slice r'.a7 m.funcs.length r'.c7) := (blk_cell N8 7).trans rfl
      have m8c : w8.cell? ⟨w6.heap.size, 8, none⟩ = some (.slice r'.a8 m.threads.length r'.c8) := (blk_cell N8 8).trans rfl
      have CC3 : Aside0 (Calls Tryd.prog 10 #[.agg (mdW r' m).toArray] w8 fun e w' => ∃ rc, e = .returned (.agg (mdW rc m8).toArray) ∧ MdO (w8.heap.size + 2) w' rc m8 ∧ Below w8.heap.size w8 w') := ⟨by
        have := Copy_any m8 r' w8 HC8.out HK8.out HA8.out.s HA8.out.z HA8.out.f
        rw [HW8.out] at this
        exact this⟩
      have N8 := Aside0.mk N8
      go_wp2_with (refine wpList_store_row rfl 27 (.tmp 10) (.tmp 51) rfl w6.heap.size (mdW r' m).toArray rfl rfl 27 _ (blk_new w6 _) (by kernel_rfl) rfl (by simp [mdW]; exact ⟨rfl, rfl, rfl, rfl, rfl, rfl, rfl, rfl, rfl⟩) ?_; rw [World.setRow_alloc_new, hw7])
      refine CC3.out.mono ?_
      rintro e w10 ⟨rc, rfl, ho, b⟩
      have N10 := blk_below N8.out b
      have C10 := Aside0.mk (HC8.out.below b)
      have T10 := Aside0.mk (T8.out.below b)
      have B10 := Aside0.mk (below_then B8.out B8.out.size b)
      have CS : Aside0 (Calls Tryd.prog 18 #[.agg (mdW rc m8).toArray] w10 fun e w' => e = .returned (.tuple #[.string ⟨#[]⟩, .int .i64 70]) ∧ Below w10.heap.size w10 w') := ⟨by
        have := Show_any m8 rc w10 ho.reads.1 HA8.out.s HA8.out.z HA8.out.i T10.out
        rw [Show_no m8 HR8.out] at this
        exact this⟩
      clear b ho CC3 m0 m1 m2 m3 m4 m5 m6 m7 m8c
      go_wp2_with fail
      refine CS.out.mono ?_
      rintro e w11 ⟨rfl, b⟩
      have N11 := blk_below N10 b
      have C11 := Aside0.mk (C10.out.below b)
      have B11 := Aside0.mk (below_then B10.out B10.out.size b)
      have CR : Aside0 (Calls Tryd.prog 11 #[.agg (mdW r' m).toArray] w11 fun e w' => e = .returned (.bool false) ∧ Below w11.heap.size w11 w') := ⟨by
        have := Right_any m8 r' w11 C11.out HA8.out.s HA8.out.z
        rw [HR8.out, HW8.out] at this
        exact this⟩
      clear b CS
      have m0 : w11.cell? ⟨w6.heap.size, 0, none⟩ = some (.slice r'.a0 m.globals.length r'.c0) := (blk_cell N11 0).trans rfl
      have m1 : w11.cell? ⟨w6.heap.size, 1, none⟩ = some (.slice r'.a1 m.structs.length r'.c1) := (blk_cell N11 1).trans rfl
      have m2 : w11.cell? ⟨w6.heap.size, 2, none⟩ = some (.slice r'.a2 m.chans.length r'.c2) := (blk_cell N11 2).trans rfl
      have m3 : w11.cell? ⟨w6.heap.size, 3, none⟩ = some (.slice r'.a3 m.locks.length r'.c3) := (blk_cell N11 3).trans rfl
      have m4 : w11.cell? ⟨w6.heap.size, 4, none⟩ = some (.slice r'.a4 m.inputs.length r'.c4) := (blk_cell N11 4).trans rfl
      have m5 : w11.cell? ⟨w6.heap.size, 5, none⟩ = some (.slice r'.a5 m.sinks.length r'.c5) := (blk_cell N11 5).trans rfl
      have m6 : w11.cell? ⟨w6.heap.size, 6, none⟩ = some (.slice r'.a6 m.hatches.length r'.c6) := (blk_cell N11 6).trans rfl
      have m7 : w11.cell? ⟨w6.heap.size, 7, none⟩ = some (.slice r'.a7 m.funcs.length r'.c7) := (blk_cell N11 7).trans rfl
      have m8c : w11.cell? ⟨w6.heap.size, 8, none⟩ = some (.slice r'.a8 m.threads.length r'.c8) := (blk_cell N11 8).trans rfl
      clear N10 N11
      go_wp2_with fail
      refine CR.out.mono ?_
      rintro e w12 ⟨rfl, b⟩
      have B12 := below_then B11.out B11.out.size b
      clear b CR
      go_wp2_with fail
      go_ret
      exact ⟨rfl, B12⟩
    by_cases h7 : fl = 7
    · subst h7
      obtain ⟨⟨vj, cj⟩, fj, S8⟩ := fit_nocode HSS.out i hlt
      rw [HF0.out] at S8
      obtain ⟨w8, hw8⟩ : ∃ w8, w7.setCell ⟨g, i * 5 + 4, none⟩ (.slice none 0 0) = w8 := ⟨_, rfl⟩
      rw [hw8] at S8
      have M8 : MdN (w5.heap.size + 2) b4n b7 nb w8 r' m := by rw [← hw8]; exact HMN.out.step (fun q _ h1 _ => Below.heap_setCell _ _ _ _ (by show q ≠ g; omega))
      have N8 : w8.heap[w6.heap.size]? = some (.cells (mdW r' m).toArray 27 (0, 0)) := by rw [← hw8]; exact (Below.heap_setCell _ _ _ _ hne).trans HNN.out
      have B58 : Below w5.heap.size w5 w8 := by rw [← hw8]; exact H57.out.setCell (p := ⟨g, i * 5 + 4, none⟩) (by show w5.heap.size ≤ g; omega) _
      have B8 := Aside0.mk (below_then HB5.out HB5.out.size B58)
      have T8 := Aside0.mk (HT5.out.below B58)
      clear B58
      have hm8 := fit_made M8 (by rw [E7'.out]; exact S8) hbb
      obtain ⟨m8, hm8e⟩ : ∃ m8, bF m i ({ f with f4 := [] }) = m8 := ⟨_, rfl⟩
      have HA8 : Aside0 (MdAll m8) := ⟨by rw [← hm8e]; exact all_nocode m i f HA.out⟩
      have HR8 : Aside0 (RightM m8 = false) := ⟨by rw [← hm8e]; exact bent_nocode m i f hlt⟩
      have HW8 : Aside0 (mdW r' m8 = mdW r' m) := ⟨by rw [← hm8e]; exact mdW_bF _ _ _ _⟩
      rw [hm8e] at hm8
      have HC8 := Aside0.mk hm8.1
      have HK8 := Aside0.mk hm8.2
      clear hm8 hm8e
      have m0 : w8.cell? ⟨w6.heap.size, 0, none⟩ = some (.slice r'.a0 m.globals.length r'.c0) := (blk_cell N8 0).trans rfl
      have m1 : w8.cell? ⟨w6.heap.size, 1, none⟩ = some (.slice r'.a1 m.structs.length r'.c1) := (blk_cell N8 1).trans rfl
      have m2 : w8.cell? ⟨w6.heap.size, 2, none⟩ = some (.slice r'.a2 m.chans.length r'.c2) := (blk_cell N8 2).trans rfl
      have m3 : w8.cell? ⟨w6.heap.size, 3, none⟩ = some (.slice r'.a3 m.locks.length r'.c3) := (blk_cell N8 3).trans rfl
      have m4 : w8.cell? ⟨w6.heap.size, 4, none⟩ = some (.slice r'.a4 m.inputs.length r'.c4) := (blk_cell N8 4).trans rfl
      have m5 : w8.cell? ⟨w6.heap.size, 5, none⟩ = some (.slice r'.a5 m.sinks.length r'.c5) := (blk_cell N8 5).trans rfl
      have m6 : w8.cell? ⟨w6.heap.size, 6, none⟩ = some (.slice r'.a6 m.hatches.length r'.c6) := (blk_cell N8 6).trans rfl
      have m7 : w8.cell? ⟨w6.heap.size, 7, none⟩ = some (.slice r'.a7 m.funcs.length r'.c7) := (blk_cell N8 7).trans rfl
      have m8c : w8.cell? ⟨w6.heap.size, 8, none⟩ = some (.slice r'.a8 m.threads.length r'.c8) := (blk_cell N8 8).trans rfl
      have CC3 : Aside0 (Calls Tryd.prog 10 #[.agg (mdW r' m).toArray] w8 fun e w' => ∃ rc, e = .returned (.agg (mdW rc m8).toArray) ∧ MdO (w8.heap.size + 2) w' rc m8 ∧ Below w8.heap.size w8 w') := ⟨by
        have := Copy_any m8 r' w8 HC8.out HK8.out HA8.out.s HA8.out.z HA8.out.f
        rw [HW8.out] at this
        exact this⟩
      have N8 := Aside0.mk N8
      go_wp2_with (refine wpList_store_row rfl 27 (.tmp 10) (.tmp 51) rfl w6.heap.size (mdW r' m).toArray rfl rfl 27 _ (blk_new w6 _) (by kernel_rfl) rfl (by simp [mdW]; exact ⟨rfl, rfl, rfl, rfl, rfl, rfl, rfl, rfl, rfl⟩) ?_; rw [World.setRow_alloc_new, hw7])
      refine CC3.out.mono ?_
      rintro e w10 ⟨rc, rfl, ho, b⟩
      have N10 := blk_below N8.out b
      have C10 := Aside0.mk (HC8.out.below b)
      have T10 := Aside0.mk (T8.out.below b)
      have B10 := Aside0.mk (below_then B8.out B8.out.size b)
      have CS : Aside0 (Calls Tryd.prog 18 #[.agg (mdW rc m8).toArray] w10 fun e w' => e = .returned (.tuple #[.string ⟨#[]⟩, .int .i64 70]) ∧ Below w10.heap.size w10 w') := ⟨by
        have := Show_any m8 rc w10 ho.reads.1 HA8.out.s HA8.out.z HA8.out.i T10.out
        rw [Show_no m8 HR8.out] at this
        exact this⟩
      clear b ho CC3 m0 m1 m2 m3 m4 m5 m6 m7 m8c
      go_wp2_with fail
      refine CS.out.mono ?_
      rintro e w11 ⟨rfl, b⟩
      have N11 := blk_below N10 b
      have C11 := Aside0.mk (C10.out.below b)
      have B11 := Aside0.mk (below_then B10.out B10.out.size b)
      have CR : Aside0 (Calls Tryd.prog 11 #[.agg (mdW r' m).toArray] w11 fun e w' => e = .returned (.bool false) ∧ Below w11.heap.size w11 w') := ⟨by
        have := Right_any m8 r' w11 C11.out HA8.out.s HA8.out.z
        rw [HR8.out, HW8.out] at this
        exact this⟩
      clear b CS
      have m0 : w11.cell? ⟨w6.heap.size, 0, none⟩ = some (.slice r'.a0 m.globals.length r'.c0) := (blk_cell N11 0).trans rfl
      have m1 : w11.cell? ⟨w6.heap.size, 1, none⟩ = some (.slice r'.a1 m.structs.length r'.c1) := (blk_cell N11 1).trans rfl
      have m2 : w11.cell? ⟨w6.heap.size, 2, none⟩ = some (.slice r'.a2 m.chans.length r'.c2) := (blk_cell N11 2).trans rfl
      have m3 : w11.cell? ⟨w6.heap.size, 3, none⟩ = some (.slice r'.a3 m.locks.length r'.c3) := (blk_cell N11 3).trans rfl
      have m4 : w11.cell? ⟨w6.heap.size, 4, none⟩ = some (.slice r'.a4 m.inputs.length r'.c4) := (blk_cell N11 4).trans rfl
      have m5 : w11.cell? ⟨w6.heap.size, 5, none⟩ = some (.slice r'.a5 m.sinks.length r'.c5) := (blk_cell N11 5).trans rfl
      have m6 : w11.cell? ⟨w6.heap.size, 6, none⟩ = some (.slice r'.a6 m.hatches.length r'.c6) := (blk_cell N11 6).trans rfl
      have m7 : w11.cell? ⟨w6.heap.size, 7, none⟩ = some (.slice r'.a7 m.funcs.length r'.c7) := (blk_cell N11 7).trans rfl
      have m8c : w11.cell? ⟨w6.heap.size, 8, none⟩ = some (.slice r'.a8 m.threads.length r'.c8) := (blk_cell N11 8).trans rfl
      clear N10 N11
      go_wp2_with fail
      refine CR.out.mono ?_
      rintro e w12 ⟨rfl, b⟩
      have B12 := below_then B11.out B11.out.size b
      clear b CR
      go_wp2_with fail
      go_ret
      exact ⟨rfl, B12⟩
    go_wp2_with (refine wpList_store_row rfl 27 (.tmp 10) (.tmp 51) rfl w6.heap.size (mdW r' m).toArray rfl rfl 27 _ (blk_new w6 _) (by kernel_rfl) rfl (by simp [mdW]; exact ⟨rfl, rfl, rfl, rfl, rfl, rfl, rfl, rfl, rfl⟩) ?_; rw [World.setRow_alloc_new, hw7])
    go_ret
    exact ⟨rfl, HB7.out⟩
end Go.Proofs.YtdapiibllblpbaaDoor.Code
/- The law CodeFits: for every input it returns true, and the input reads as it did: the given row, out of the walk; then the tied card. No condition. -/
namespace Go.Proofs.YtdapiibllblpbaaDoor.codeFits
open Go.ChangeShapes Go.WideShapes Go.ChangeAt Go.RowKit Go.Lib Go.Proofs.YtdapiibllblpbaaDoor.Code
open Go.ChangeMaps (open_string shut_string)
set_option linter.unusedVariables false
theorem own : ownKnob Tryd.prog.godebug = none := by kernel_rfl
theorem laidOut : laidOutB Tryd.prog = true := by kernel_rfl
/-- The witness: the settled world, the three tables holding what their initialisers lay. -/
noncomputable def laidWorld (os : Os) : World :=
  let w0 := World.holding Tryd.prog os ⟨#[], #[], []⟩
  let put (h : Array Obj) (g : Nat) (cs : Array Value) : Array Obj := h.modify g fun
    | .cells _ t frozen => .cells cs t frozen
    | o => o
  let h1 := put w0.heap 0 (Lib.pow10Tab.map fun z => Value.int .u64 z).toArray
  let h2 := put h1 2 (Lib.deBruijn32tab.map fun (z : Nat) => Value.int .u8 z).toArray
  let h3 := put h2 3 (Lib.deBruijn64tab.map fun (z : Nat) => Value.int .u8 z).toArray
  { w0 with heap := h3 }
theorem laid_met (os : Os) (args : Array Value) : laidMet Tryd.prog Rows.codeFitsRow.laid ((laidWorld os).forCall (fun _ _ => 0) ⟨#[], args, []⟩).memory :=
  (LaidIn.of_run (l := Rows.codeFitsRow.laid) [2, 3, 0] 8 (by kernel_rfl) (by kernel_rfl) (by kernel_rfl) (by kernel_rfl)).met
theorem pow10_of {W : World} (h : laidMet Tryd.prog Rows.codeFitsRow.laid W) : Pow10 W := by
  obtain ⟨g, t, cs, fuel, p, hg, ht, hv, hd⟩ := laidMet.reads h (n := "internal/strconv.uint64pow10") (d := Rows.laid_internal_strconv_uint64pow10) (by simp [Rows.codeFitsRow])
  obtain rfl : g = 0 := Option.some.inj (hg.symm.trans (by kernel_rfl))
  obtain rfl : t = 102 := Option.some.inj (ht.symm.trans (by kernel_rfl))
  have hdd : DataW.trod (fun _ => ()) Tryd.prog W 0 (fun _ => true) false fuel 102 cs.toList = some (Lib.tabData .u64 Lib.pow10Tab, p) := hd.trans (by kernel_rfl)
  have := Lib.cells_of_tab (n := 20) (e := 94) (by kernel_rfl) (by kernel_rfl) (by kernel_rfl) (by kernel_rfl) hdd
  unfold Pow10 Lib.TabIs
  rw [hv, ← this]
theorem witness_row (os : Os) {H : Type} (enc : TypeId × Value → H) :
    (OpenSpec.ofChange Rows.codeFitsSpec).preRow enc Tryd.prog Tryd.f5 Rows.codeFitsRow.domain false Rows.codeFitsRow.laid ((laidWorld os).forCall (fun _ _ => 0) ⟨#[], #[.agg #[.slice none 0 0, .slice none 0 0, .slice none 0 0, .slice none 0 0, .slice none 0 0, .slice none 0 0, .slice none 0 0, .slice none 0 0, .slice none 0 0], .int .i64 0, .int .i64 0, .int .i64 0], []⟩).memory #[.agg #[.slice none 0 0, .slice none 0 0, .slice none 0 0, .slice none 0 0, .slice none 0 0, .slice none 0 0, .slice none 0 0, .slice none 0 0, .slice none 0 0], .int .i64 0, .int .i64 0, .int .i64 0] := by
  have hw : (DataW.whole enc Tryd.prog ((laidWorld os).forCall (fun _ _ => 0) ⟨#[], #[.agg #[.slice none 0 0, .slice none 0 0, .slice none 0 0, .slice none 0 0, .slice none 0 0, .slice none 0 0, .slice none 0 0, .slice none 0 0, .slice none 0 0], .int .i64 0, .int .i64 0, .int .i64 0], []⟩).memory Tryd.f5.params.toList (OpenSpec.ofChange Rows.codeFitsSpec).vars false (#[.agg #[.slice none 0 0, .slice none 0 0, .slice none 0 0, .slice none 0 0, .slice none 0 0, .slice none 0 0, .slice none 0 0, .slice none 0 0, .slice none 0 0], .int .i64 0, .int .i64 0, .int .i64 0] : Array Value).toList 8).map (fun x => (x.1, x.2.1)) =
      some ([.agg [.nil, .nil, .nil, .nil, .nil, .nil, .nil, .nil, .nil], .lit (.int .i64 0), .lit (.int .i64 0), .lit (.int .i64 0)], []) := by kernel_rfl
  obtain ⟨⟨x1, x2, x3⟩, hx, hx1⟩ := Option.map_eq_some_iff.1 hw
  simp only [Prod.mk.injEq] at hx1
  obtain ⟨rfl, rfl⟩ := hx1
  exact OpenSpec.preRow_of_cond 8 hx (by kernel_rfl) (fun k hk => by cases hk) (by kernel_rfl) (laid_met os _)
set_option maxRecDepth 100000 in
set_option maxHeartbeats 2000000 in
theorem lifted (os : Os) (started : os.Started) (H : Type) (enc : TypeId × Value → H) (F : Stop.Interp) :
    ReturnsInHanded {} Tryd.checked os 5 .any ((OpenSpec.ofChange Rows.codeFitsSpec).preRow enc Tryd.prog Tryd.f5 Rows.codeFitsRow.domain false Rows.codeFitsRow.laid) (((OpenSpec.ofChange Rows.codeFitsSpec).at F).post enc Tryd.prog Tryd.f5 false true false false) := by
  refine returnsInHanded_of_row (C := Tryd.checked) (s := (OpenSpec.ofChange Rows.codeFitsSpec)) own started (by kernel_rfl) Tryd.func5
    (witness_row_atRef (enc := enc) (C := Tryd.checked) false (laidWorld os) #[.agg #[.slice none 0 0, .slice none 0 0, .slice none 0 0, .slice none 0 0, .slice none 0 0, .slice none 0 0, .slice none 0 0, .slice none 0 0, .slice none 0 0], .int .i64 0, .int .i64 0, .int .i64 0] rfl (by kernel_rfl) (by kernel_rfl) (by kernel_rfl) (witness_row os enc)) ?_
  intro W base args ds gs before hval0 hW _ _ hsz0 hL hsh _
  have hsz : (DataW.weightsEach Tryd.prog (Tryd.f5.params.toList ++ (OpenSpec.ofChange Rows.codeFitsSpec).bare.plain.varTypes Tryd.prog) (ds ++ gs)).all (· ≤ reachBytes) = true := hsz0
  have hval : ∀ (j : Nat) t v, Tryd.f5.params[j]? = some t → args[j]? = some v → Value.okWide Tryd.prog W .any base t v := hval0
  have hW' := hW
  obtain ⟨p, q, hA0, hV, rfl, _, _⟩ := hW
  have hA : DataW.TrodAll enc Tryd.prog W 0 (fun _ => true) true Tryd.f5.params.toList args.toList ds p := hA0
  rw [Tryd.params5] at hA hval hsz
  obtain ⟨v0, vs0, d0, ds0, p0, q0, hargs, rfl, rfl, h0, r0⟩ := trodAll_cons hA
  obtain ⟨v1, vs1, d1, ds1, p1, q1, rfl, rfl, rfl, h1, r1⟩ := trodAll_cons r0
  obtain ⟨v2, vs2, d2, ds2, p2, q2, rfl, rfl, rfl, h2, r2⟩ := trodAll_cons r1
  obtain ⟨v3, vs3, d3, ds3, p3, q3, rfl, rfl, rfl, h3, r3⟩ := trodAll_cons r2
  obtain ⟨rfl, rfl, rfl⟩ := trodAll_nil r3
  obtain rfl : args = #[v0, v1, v2, v3] := by cases args; simp_all
  obtain ⟨rfl, rfl⟩ := trodVars_none hV
  have k0 := h0
  have lt0 : ∀ x ∈ p0, x.block < W.heap.size := by obtain ⟨m, hm⟩ := k0; exact DataW.trod_lt m _ _ _ hm
  have hwt : ∀ n ∈ d0.weights Tryd.prog 27, n ≤ reachBytes := fun n hn => of_decide_eq_true (List.all_eq_true.1 hsz n (DataW.weights_mem_each (j := 0) (t := 27) (d := d0) rfl rfl n hn))
  obtain ⟨mr, mm, rfl, hmC, hmK, hmL, hmI⟩ := arg_module (hval 0 27 v0 rfl rfl) h0 hwt
  obtain ⟨a1, rfl, rfl, rfl, w1⟩ := open_int Tryd.underlying3 (hval 1 3 v1 rfl rfl) h1
  obtain ⟨a2, rfl, rfl, rfl, w2⟩ := open_int Tryd.underlying3 (hval 2 3 v2 rfl rfl) h2
  obtain ⟨a3, rfl, rfl, rfl, w3⟩ := open_int Tryd.underlying3 (hval 3 3 v3 rfl rfl) h3
  have ht10 : Pow10 W := pow10_of hL
  clear hA0 hval0 hsz0 hsz
  refine (fits_any mm mr a1 a2 a3 W hmC hmK hmL hmI ht10 ).mono fun e W' ⟨he, bel⟩ => ?_
  subst he
  exact ⟨_, rfl, _, _, _, [], _, [], hW', trodAll_mk1 (shut_bool Tryd.underlying4 _), (trodAll_cons_mk (Below.trod laidOut (by kernel_rfl) (of_decide_eq_true (by kernel_rfl)) k0 bel lt0) (trodAll_cons_mk (shut_int Tryd.underlying3 w1) (trodAll_cons_mk (shut_int Tryd.underlying3 w2) (trodAll_cons_mk (shut_int Tryd.underlying3 w3) trodAll_mk0)))), rfl, bel.frame _, fun h => by cases h⟩
theorem over : Rows.CodeFitsSaid :=
  OpenClaim.holds_of_cond 5 Tryd.f5 rfl rfl rfl rfl rfl rfl rfl ⟨rfl, rfl, rfl, rfl, rfl⟩ rfl rfl rfl rfl rfl (by kernel_rfl) Tryd.func5 (by kernel_rfl)
    (of_decide_eq_true (by kernel_rfl)) (by unfold Func.isWrapper; first | (rw [if_pos (by decide +kernel)]; kernel_rfl) | (rw [if_neg (by decide +kernel)]; exact ⟨rfl, rfl⟩))
    (fun os started H enc _ F0 => by rw [OpenClaim.pre_eq_preRow]; exact lifted os started H enc F0)
theorem proved : Rows.CodeFitsCardSaid :=
  Claim7.holds_tied_plain_at .later [] [.data, .data, .data] true (true, "a10d14bd31ce332ab7754a4659aeb050d60062314594b17949934f054efb2f35") true
    over (fun _ h => by cases h) (by kernel_rfl) (fun _ h => by cases h) codeFits_row_tie rfl ⟨rfl, rfl⟩ (by kernel_rfl) rfl
    (fun f fn hf hfn => by
      obtain rfl : f = 5 := Option.some.inj ((show Tryd.prog.funcNamed Rows.codeFitsRow.func = some 5 by kernel_rfl).symm.trans hf) |>.symm
      obtain rfl : fn = Tryd.f5 := (Option.some.inj (Tryd.func5.symm.trans hfn)).symm
      exact ⟨by kernel_rfl, fun j t ht => by
        rw [Tryd.params5] at ht
        cases j with
        | zero =>
          have h3 : t = 27 := by simpa using ht.symm
          subst h3
          exact (show Tryd.prog.wantsStandIn 27 = false by kernel_rfl)
        | succ j =>
          cases j with
          | zero =>
            have h3 : t = 3 := by simpa using ht.symm
            subst h3
            exact (show Tryd.prog.wantsStandIn 3 = false by kernel_rfl)
          | succ j =>
            cases j with
            | zero =>
              have h3 : t = 3 := by simpa using ht.symm
              subst h3
              exact (show Tryd.prog.wantsStandIn 3 = false by kernel_rfl)
            | succ j =>
              cases j with
              | zero =>
                have h3 : t = 3 := by simpa using ht.symm
                subst h3
                exact (show Tryd.prog.wantsStandIn 3 = false by kernel_rfl)
              | succ j =>
                simp at ht⟩)
    (by kernel_rfl)
#print axioms proved
end Go.Proofs.YtdapiibllblpbaaDoor.codeFits
namespace Go.Proofs.YtdapiibllblpbaaDoor
theorem codeFits_holds : Rows.CodeFitsCardSaid := codeFits.proved
end Go.Proofs.YtdapiibllblpbaaDoor

