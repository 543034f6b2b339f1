import Derived.Test.YtdapiibllblpbaaDoorSA
import Derived.Test.YtdapiibllblpbaaDoorQ4b
import Derived.Deep.QuietTactic
import Derived.BigQuiet
namespace Go.Proofs.YtdapiibllblpbaaDoor.Code
open Go.RowKit Go.Proofs.YtdapiibllblpbaaDoorW.PrintWords Go.Proofs.YtdapiibllblpbaaDoorW.PrintLast Go.Proofs.YtdapiibllblpbaaDoorW.PrintMore Go.Proofs.YtdapiibllblpbaaDoor.PCodeAnswers
set_option linter.unusedVariables false
set_option linter.unusedSimpArgs false

/-! ### The document's op: plain parts -/
def vsL (o : S42) : List Int := [o.f1, o.f2, o.f3, o.f4, o.f5, o.f6, o.f7]
def xM (m : Md) (f : S39) (o : S42) : Bool := if o.f0 = 10 ∨ o.f0 = 15 then decide (o.f1 ≠ o.f2)
      else if o.f0 = 22 then (decide (o.f7 = 0) && decide (o.f2 = -1)) || (decide (o.f7 = (fnAt m o.f1).f3) && (decide (o.f7 ≠ 0) && (decide (0 ≤ o.f2) && (decide (o.f2 < f.f2) && decide (o.f2 ≤ f.f2 - o.f7)))))
      else true
def needM (m : Md) (f : S39) (o : S42) : Int := if o.f0 = 22 then (fnAt m o.f1).f1 else if o.f0 = 23 then f.f3 else 0
def nextM (f : S39) (o : S42) : Bool := if o.f0 = 23 then decide (o.f9 = 0) && decide (o.f10 = 0)
        else decide (0 ≤ o.f9) && (decide (o.f9 < f.f4.length) && (if o.f0 = 21 then decide (0 ≤ o.f10) && decide (o.f10 < f.f4.length) else decide (o.f10 = 0)))
theorem ref_is (m : Md) (f : S39) (o : S42) : refOp m f o = (decide (1 ≤ o.f0 ∧ o.f0 ≤ 23) && (fitsS m f.f2 (shape o.f0) (vsL o) && (xM m f o && (decide ((o.f8.length : Int) = needM m f o) && (below f.f2 o.f8 && nextM f o))))) := rfl
theorem fits_all (m : Md) (regs : Int) : ∀ (ss : List Sh) (vs : List Int), ss.length = vs.length → (∀ j < ss.length, fitS m regs (ss.getD j .any) (vs.getD j 0) = true) → fitsS m regs ss vs = true
  | [], [], _, _ => rfl
  | x :: ss, v :: vs, hl, h => by
    have h0 := h 0 (by simp)
    have hr := fits_all m regs ss vs (by simpa using hl) (fun j hj => by
      have := h (j + 1) (by simp; omega)
      simpa using this)
    simp at h0
    simp [fitsS, h0, hr]
  | [], _ :: _, hl, _ => by simp at hl
  | _ :: _, [], hl, _ => by simp at hl
theorem fits_no (m : Md) (regs : Int) : ∀ (ss : List Sh) (vs : List Int) (j : Nat), j < ss.length → j < vs.length → fitS m regs (ss.getD j .any) (vs.getD j 0) = false → fitsS m regs ss vs = false
  | x :: ss, v :: vs, 0, _, _, h => by simp at h; simp [fitsS, h]
  | x :: ss, v :: vs, j + 1, h1, h2, h => by
    have := fits_no m regs ss vs j (by simpa using h1) (by simpa using h2) (by simpa using h)
    simp [fitsS, this]
  | [], _, _, h1, _, _ => by simp at h1
  | _ :: _, [], _, _, h2, _ => by simp at h2
theorem fits_get (m : Md) (regs : Int) : ∀ (ss : List Sh) (vs : List Int) (j : Nat), j < ss.length → j < vs.length → fitsS m regs ss vs = true → fitS m regs (ss.getD j .any) (vs.getD j 0) = true := by
  intro ss vs j h1 h2 h
  cases hf : fitS m regs (ss.getD j .any) (vs.getD j 0) with
  | true => rfl
  | false => rw [fits_no m regs ss vs j h1 h2 hf] at h; cases h
def lets : List UInt8 := [46, 114, 105, 104, 119, 115, 108, 99, 111, 102, 107, 117, 98, 103, 100, 110]
theorem shL_at (k : Int) (h : 1 ≤ k ∧ k ≤ 23) (i : Nat) (hi : i < 7) : ∃ c ∈ lets, (shL k).getD i 0 = c ∧ (shape k).getD i .any = ofL c := by
  obtain ⟨h1, h2, h3⟩ := shL_is k h
  have hi' : i < (shL k).length := by omega
  refine ⟨(shL k)[i], h3 _ (List.getElem_mem _), by simp [List.getD_eq_getElem?_getD, hi'], ?_⟩
  rw [← h1, List.getD_eq_getElem?_getD, List.getElem?_map, List.getElem?_eq_getElem hi']
  rfl
theorem shape_len (k : Int) (h : 1 ≤ k ∧ k ≤ 23) : (shape k).length = 7 := by
  obtain ⟨h1, h2, _⟩ := shL_is k h
  rw [← h1, List.length_map, h2]
theorem ref_no_kind (m : Md) (f : S39) (o : S42) (h : ¬ (1 ≤ o.f0 ∧ o.f0 ≤ 23)) : refOp m f o = false := by
  rw [ref_is, decide_eq_false h, Bool.false_and]
theorem ref_no_fit (m : Md) (f : S39) (o : S42) (h : 1 ≤ o.f0 ∧ o.f0 ≤ 23) (i : Nat) (hi : i < 7) (hf : fitS m f.f2 ((shape o.f0).getD i .any) ((vsL o).getD i 0) = false) : refOp m f o = false := by
  rw [ref_is, fits_no m f.f2 _ (vsL o) i (by rw [shape_len _ h]; exact hi) hi hf, Bool.false_and, Bool.and_false]
theorem ref_fit (m : Md) (f : S39) (o : S42) (h : 1 ≤ o.f0 ∧ o.f0 ≤ 23) (hf : ∀ j < 7, fitS m f.f2 ((shape o.f0).getD j .any) ((vsL o).getD j 0) = true) : refOp m f o = (xM m f o && (decide ((o.f8.length : Int) = needM m f o) && (below f.f2 o.f8 && nextM f o))) := by
  rw [ref_is, decide_eq_true h, fits_all m f.f2 _ (vsL o) (by rw [shape_len _ h]; rfl) (fun j hj => hf j (by rw [shape_len _ h] at hj; exact hj)), Bool.true_and, Bool.true_and]
theorem shB_get (k : Int) (i : Nat) (h : i < (shB k).size) (c : UInt8) (hc : (shL k).getD i 0 = c) : (shB k)[i] = c := by
  have h' : i < (shL k).length := by simpa [shB, ByteArray.size] using h
  rw [List.getD_eq_getElem?_getD, List.getElem?_eq_getElem h'] at hc
  simp at hc
  rw [← hc]
  simp [shB, ByteArray.getElem_eq_getElem_data]
theorem shB_len (k : Int) (h : 1 ≤ k ∧ k ≤ 23) : (shB k).size = 7 := by
  have := (shL_is k h).2.1
  simpa [shB, ByteArray.size] using this
theorem wordsR_any (m : Md) (r : MdR) (w : World) (hm : MdC w r m) (hk : MdK r m) (hs : MdS m) (hg : sizedM m.globals 16 1 2 = true) :
    Calls Tryd.prog 34 #[.agg (mdW r m).toArray] w fun e w' => e = .returned (.int .i64 (wordsM m)) ∧ Below w.heap.size w w' := by
  have hg' : m.globals.length ≤ 16 ∧ m.globals.any (wide 1 2) = false := by
    unfold sizedM at hg
    simp only [Bool.and_eq_true, decide_eq_true_eq, Bool.not_eq_true'] at hg
    exact ⟨by omega, hg.2⟩
  have key : ∀ (d i : Nat), i + d = m.globals.length → ∃ k, portcullisref10_words.l0 k (sumF (m.globals.take i)) i m.globals m.structs m.chans m.locks m.inputs m.sinks m.hatches m.funcs m.threads = some (sumF m.globals) := by
    intro d
    induction d with
    | zero =>
      intro i h
      refine ⟨1, ?_⟩
      simp only [portcullisref10_words.l0]
      rw [if_neg (by omega), List.take_of_length_le (by omega)]
    | succ d ih =>
      intro i h
      obtain ⟨k, hk⟩ := ih (i + 1) (by omega)
      have hb := sumF_of _ (wide_take m.globals (i + 1) hg'.2)
      have hl : (m.globals.take (i + 1)).length ≤ 16 := by rw [List.length_take]; omega
      rw [sumF_next _ _ (by omega)] at hk hb
      refine ⟨k + 1, ?_⟩
      simp only [portcullisref10_words.l0]
      have e1 : wrap64 (sumF (m.globals.take i) + (rd_T46 m.globals (i : Int)).f1) = sumF (m.globals.take i) + (rd_T46 m.globals (i : Int)).f1 := by unfold wrap64; omega
      have e2 : wrap64 ((i : Int) + 1) = (i : Int) + 1 := by unfold wrap64; omega
      rw [if_pos (by omega), if_pos (by omega), e1, e2]
      exact_mod_cast hk
  obtain ⟨k, hk'⟩ := key m.globals.length 0 (by omega)
  exact portcullisref10_words.calls k _ _ _ _ _ _ _ _ _ _ _ _ _ _ _ _ _ _ _ _ _ _ _ _ _ _ _ (sumF m.globals) w hm.h0 hk.k0 hm.h1 hk.k1 hm.h2 hk.k2 hm.h3 hk.k3 hm.h4 hk.k4 hm.h5 hk.k5 hm.h6 hk.k6 hm.h7 hk.k7 hm.h8 hk.k8 hk'
theorem sizedR_any (A : Option Addr) (c : Nat) (l : List S46) (count least most : Int) (w : World) (hr : Kd.C k46 w A l.length l) (hc : l.length ≤ c) (hl : l.length ≤ 1000000) :
    Calls Tryd.prog 32 #[.slice A l.length c, .int .i64 count, .int .i64 least, .int .i64 most] w fun e w' => e = .returned (.bool (sizedM l count least most)) ∧ Drawn0 w w' := by
  have key : ∀ (d i : Nat), i + d = l.length → (∀ j : Nat, j < i → wide least most (rd_T46 l j) = false) → ∃ k, portcullisref10_sized.l0 k l count least most i = some (sizedM l count least most) := by
    intro d
    induction d with
    | zero =>
      intro i h hw
      refine ⟨1, ?_⟩
      simp only [portcullisref10_sized.l0]
      rw [if_neg (by omega)]
      have : l.any (wide least most) = false := by
        rw [List.any_eq_false]
        intro x hx
        obtain ⟨j, hj, rfl⟩ := List.getElem_of_mem hx
        have := hw j (by omega)
        unfold rd_T46 at this
        rw [Int.toNat_natCast, List.getD_eq_getElem?_getD, List.getElem?_eq_getElem hj] at this
        simpa using this
      unfold sizedM
      rw [this]
      simp
    | succ d ih =>
      intro i h hw
      by_cases hq : wide least most (rd_T46 l (i : Int)) = true
      · have hsz : sizedM l count least most = false := by
          have : l.any (wide least most) = true := by
            rw [List.any_eq_true]
            refine ⟨rd_T46 l (i : Int), ?_, hq⟩
            unfold rd_T46
            rw [Int.toNat_natCast, List.getD_eq_getElem?_getD, List.getElem?_eq_getElem (show i < l.length by omega)]
            exact List.getElem_mem _
          unfold sizedM
          rw [this]
          simp
        unfold wide at hq
        simp only [Bool.or_eq_true, decide_eq_true_eq] at hq
        refine ⟨1, ?_⟩
        simp only [portcullisref10_sized.l0]
        rw [if_pos (by omega), if_pos (by omega), hsz]
        by_cases h1 : (rd_T46 l (i : Int)).f1 < least
        · rw [if_pos h1]
        · rw [if_neg h1, if_pos (by omega)]
      · obtain ⟨k, hk⟩ := ih (i + 1) (by omega) (fun j hj => by
          by_cases e : j = i
          · rw [e]; simpa using hq
          · exact hw j (by omega))
        unfold wide at hq
        simp only [Bool.or_eq_true, decide_eq_true_eq] at hq
        refine ⟨k + 1, ?_⟩
        simp only [portcullisref10_sized.l0]
        have e2 : wrap64 ((i : Int) + 1) = (i : Int) + 1 := by unfold wrap64; omega
        rw [if_pos (by omega), if_pos (by omega), if_neg (by omega), if_neg (by omega), e2]
        exact_mod_cast hk
  obtain ⟨k, hk⟩ := key l.length 0 (by omega) (fun j hj => absurd hj (Nat.not_lt_zero j))
  exact portcullisref10_sized.calls k A c l count least most _ w hr hc hk
end Go.Proofs.YtdapiibllblpbaaDoor.Code
