import Derived.Test.YtdapiibllblpbaaDoorL
namespace Go.Proofs.YtdapiibllblpbaaDoor.Code
open Go.RowKit Go.Proofs.YtdapiibllblpbaaDoorW.PrintWords Go.Proofs.YtdapiibllblpbaaDoorW.PrintLast Go.Proofs.YtdapiibllblpbaaDoorW.PrintMore Go.Proofs.YtdapiibllblpbaaDoor.PCodeAnswers
set_option linter.unusedVariables false
set_option linter.unusedSimpArgs false

/-! ### words -/
theorem sumF_cons (x : S46) (l : List S46) : sumF (x :: l) = x.f1 + sumF l := by
  unfold sumF
  rw [List.map_cons, List.foldl_cons, foldl_add]
  omega
theorem sumF_next (l : List S46) (k : Nat) (hk : k < l.length) : sumF (l.take (k + 1)) = sumF (l.take k) + (rd_T46 l k).f1 := by
  have : rd_T46 l k = l[k] := by unfold rd_T46; rw [Int.toNat_natCast, List.getD_eq_getElem?_getD]; simp [hk]
  rw [this, List.take_succ_eq_append_getElem hk]
  unfold sumF
  rw [List.map_append, List.foldl_append]
  rfl
theorem sumF_of (l : List S46) (h : l.any (wide 1 2) = false) : 0 ≤ sumF l ∧ sumF l ≤ 2 * l.length := by
  induction l with
  | nil => simp [sumF]
  | cons x l ih =>
    rw [List.any_cons, Bool.or_eq_false_iff] at h
    have h2 := ih h.2
    have h1 := h.1
    unfold wide at h1
    rw [sumF_cons]
    simp at h1
    simp only [List.length_cons]
    omega
theorem wide_take (l : List S46) (k : Nat) (h : l.any (wide 1 2) = false) : (l.take k).any (wide 1 2) = false := by
  rw [List.any_eq_false] at h ⊢
  exact fun x hx => h x (List.mem_of_mem_take hx)
set_option maxHeartbeats 2000000 in
theorem words_any (m : Md) (r : MdR) (w : World) (hm : MdC w r m) (hs : MdS m) (hg : sizedM m.globals 16 1 2 = true) :
    Calls Tryd.prog 28 #[.agg (mdW r m).toArray] w fun e w' => e = .returned (.int .i64 (wordsM m)) ∧ Below w.heap.size w w' := by
  have hb := below_alloc (Below.refl w.heap.size w) (.cells (mdW r m).toArray 27)
  have HB0 := Aside0.mk hb
  have HM0 := Aside0.mk (hm.below hb)
  have HS := Aside0.mk hs
  have hg' : m.globals.length ≤ 16 ∧ m.globals.any (wide 1 2) = false := by
    unfold sizedM at hg
    simp only [Bool.and_eq_true, decide_eq_true_eq, Bool.not_eq_true'] at hg
    exact ⟨by omega, hg.2⟩
  have HG := Aside0.mk hg'.2
  have hl := hg'.1
  have c0 : (w.alloc (.cells (mdW r m).toArray 27)).cell? ⟨w.heap.size, 0, none⟩ = some (.slice r.a0 m.globals.length r.c0) := (blk_cell (blk_new w _) 0).trans rfl
  have e : wordsM m = sumF m.globals := rfl
  rw [e]
  clear e hb hm hs hg hg'
  obtain ⟨w0, hw0⟩ : ∃ w0, w.alloc (.cells (mdW r m).toArray 27) = w0 := ⟨_, rfl⟩
  rw [hw0] at HB0 HM0 c0
  go_enter Tryd.func28, Tryd.ntmps28
  go_wp2_with fail
  clear hw0
  go_loopw [9, 3] (fun i n wr => ∃ k : Nat, i = .int .i64 k ∧ n = .int .i64 (sumF (m.globals.take k)) ∧ k ≤ m.globals.length ∧ Aside0 (MdC wr r m) ∧ Aside0 (Below w.heap.size w wr)) (fun i _ _ => m.globals.length - (intOf i).toNat)
  case atStart => exact ⟨0, rfl, rfl, Nat.zero_le _, HM0, HB0⟩
  case round =>
    obtain ⟨k, rfl, rfl, hk, HM, HB⟩ := hrel
    obtain ⟨wi, rfl⟩ : ∃ wi : World, wi = wr := ⟨_, rfl⟩
    by_cases hlt : k < m.globals.length
    · obtain ⟨ad, eA, d0, d1⟩ := at_T46 HM.out.h0 k (by omega) (by omega)
      rw [eA]
      clear eA
      rw [Int.toNat_natCast] at d0 d1
      have hb1 := sumF_of _ (wide_take m.globals k HG.out)
      have hn1 := sumF_next m.globals k hlt
      have hb2 := sumF_of _ (wide_take m.globals (k + 1) HG.out)
      have hlt1 : (m.globals.take k).length ≤ 1000 := by have := List.length_take_le k m.globals; omega
      have hlt2 : (m.globals.take (k + 1)).length ≤ 1000 := by have := List.length_take_le (k + 1) m.globals; omega
      obtain ⟨z, hz⟩ : ∃ z, rd_T46 m.globals k = z := ⟨_, rfl⟩
      rw [hz] at d0 d1 hn1
      rw [hn1] at hb2
      obtain ⟨n, hn⟩ : ∃ n, sumF (m.globals.take k) = n := ⟨_, rfl⟩
      rw [hn] at hb1 hb2 hn1
      rw [hn]
      have hw : IntKind.i64.wrap (n + z.f1) = n + z.f1 := IntWalk.i64_in _ (by omega)
      have HN := Aside0.mk hn1
      clear hz hb1 hb2 hlt1 hlt2 hn hn1
      have hst := store46 wi z.f0 z.f1
      have hlk := hlt
      obtain ⟨o, ho⟩ : ∃ o : Obj, (.cells #[.string z.f0, .int .i64 z.f1] 46) = o := ⟨_, rfl⟩
      have f1 : (wi.alloc o).cell? ⟨wi.heap.size, 1, none⟩ = some (.int .i64 z.f1) := by rw [← ho]; exact (blk_cell (blk_new wi _) 1).trans rfl
      have HB1 := Aside0.mk (below_alloc' HB.out (Nat.le_refl _) o)
      have HM1 := Aside0.mk (HM.out.below (below_alloc (Below.refl wi.heap.size wi) o))
      go_wp2_with fail
      go_roundw
      case rel => exact ⟨k + 1, by go_num, by rw [HN.out], hlt, HM1, HB1⟩
      case measure => simp [intOf]; omega
    · have : k = m.globals.length := by omega
      subst this
      rw [List.take_length]
      go_wp2_with fail
      go_ret
      exact ⟨rfl, HB.out⟩
end Go.Proofs.YtdapiibllblpbaaDoor.Code
