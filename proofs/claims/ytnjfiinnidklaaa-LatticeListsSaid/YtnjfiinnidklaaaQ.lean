import Derived.Test.YtnjfiinnidklaaaN
namespace Go.Proofs.Ytnjfiinnidklaaa.Lat
open Go.RowKit Go.Proofs.YtnjfiinnidklaaaW.PrintWords
set_option linter.unusedVariables false
set_option linter.unusedSimpArgs false

/-! ### Edges that follow from others -/
def compOf (es : List (Int × Int)) (e : Int × Int) : List (Int × Int) := (es.filter (fun f => e.2 == f.1)).map (fun f => (e.1, f.2))
def moreE (es : List (Int × Int)) : List (Int × Int) := es ++ es.flatMap (compOf es) ++ es
theorem mem_comp {es : List (Int × Int)} {x : Int × Int} (h : x ∈ es.flatMap (compOf es)) : ∃ e ∈ es, ∃ f ∈ es, e.2 = f.1 ∧ x = (e.1, f.2) := by
  rw [List.mem_flatMap] at h
  obtain ⟨e, he, h⟩ := h
  rw [compOf, List.mem_map] at h
  obtain ⟨f, hf, rfl⟩ := h
  rw [List.mem_filter, beq_iff_eq] at hf
  exact ⟨e, he, f, hf.1, hf.2, rfl⟩
theorem mem_more {es : List (Int × Int)} {x : Int × Int} (h : x ∈ moreE es) : x ∈ es ∨ ∃ e ∈ es, ∃ f ∈ es, e.2 = f.1 ∧ x = (e.1, f.2) := by
  rw [moreE, List.mem_append, List.mem_append] at h
  rcases h with (h | h) | h
  · exact .inl h
  · exact .inr (mem_comp h)
  · exact .inl h
theorem bad_more (n : Int) (es : List (Int × Int)) : badE n (moreE es) = badE n es := by
  rw [Bool.eq_iff_iff, badE, badE, List.any_eq_true, List.any_eq_true]
  constructor
  · rintro ⟨x, hx, hb⟩
    rcases mem_more hx with h | ⟨e, he, f, hf, h1, rfl⟩
    · exact ⟨x, h, hb⟩
    · simp only [badB, Bool.or_eq_true, Bool.not_eq_true'] at hb
      rcases hb with hb | hb
      · exact ⟨e, he, by simp [badB, hb]⟩
      · exact ⟨f, hf, by simp [badB, hb]⟩
  · rintro ⟨x, hx, hb⟩
    exact ⟨x, by rw [moreE, List.mem_append]; exact .inr hx, hb⟩
theorem rch_more {n : Nat} {es : List (Int × Int)} (hb : badE n es = false) {a j : Nat} (hj : j < n) : rch n (natE (moreE es)) a j = rch n (natE es) a j := by
  have hok := natE_ok hb
  have hok2 : ∀ e ∈ natE (moreE es), e.1 < n ∧ e.2 < n := natE_ok (by rw [bad_more]; exact hb)
  rw [Bool.eq_iff_iff]
  constructor
  · intro h
    refine rch_min (j := j) (fun x => rch n (natE es) x j = true) (rch_refl _ j) (fun x y he ih => ?_) h
    rw [natE, List.mem_map] at he
    obtain ⟨p, hp, e⟩ := he
    simp only [Prod.mk.injEq] at e
    obtain ⟨rfl, rfl⟩ := e
    rcases mem_more hp with h | ⟨e, he, f, hf, h1, rfl⟩
    · exact rch_edge hok hj (List.mem_map.2 ⟨p, h, rfl⟩) ih
    · have k1 : (e.1.toNat, e.2.toNat) ∈ natE es := List.mem_map.2 ⟨e, he, rfl⟩
      have k2 : (f.1.toNat, f.2.toNat) ∈ natE es := List.mem_map.2 ⟨f, hf, rfl⟩
      rw [h1] at k1
      exact rch_edge hok hj k1 (rch_edge hok hj k2 ih)
  · intro h
    refine rch_min (j := j) (fun x => rch n (natE (moreE es)) x j = true) (rch_refl _ j) (fun x y he ih => ?_) h
    refine rch_edge hok2 hj ?_ ih
    rw [natE, List.mem_map] at he ⊢
    obtain ⟨p, hp, e⟩ := he
    exact ⟨p, by rw [moreE, List.mem_append]; exact .inr hp, e⟩
theorem clos_more {n : Nat} (hn : n ≤ 8) {es : List (Int × Int)} (hb : badE n es = false) : closE n (moreE es) = closE n es := by
  obtain ⟨h1, h2⟩ := clos_Mk hn hb
  obtain ⟨k1, k2⟩ := clos_Mk hn (es := moreE es) (by rw [bad_more]; exact hb)
  have e1 := (k1.ext (fun i hi j hj => rch_more hb hj)).unique h1
  have e2 := (k2.ext (fun i hi j hj => rch_more hb hi)).unique h2
  exact Prod.ext e1 e2
theorem code_more (n : Int) (es : List (Int × Int)) : codeM n (moreE es) = codeM n es := by
  unfold codeM
  split
  · rfl
  · rename_i h
    rw [bad_more]
    cases hb : badE n es with
    | true => rfl
    | false =>
      obtain ⟨m, rfl⟩ := Int.eq_ofNat_of_zero_le (show 0 ≤ n by omega)
      rw [Int.toNat_natCast, clos_more (by omega) hb]
theorem more_len (es : List (Int × Int)) : (moreE es).length ≤ es.length * es.length + 2 * es.length := by
  have : ∀ L : List (Int × Int), (L.flatMap (compOf es)).length ≤ L.length * es.length := by
    intro L
    induction L with
    | nil => simp
    | cons e L ih =>
      rw [List.flatMap_cons, List.length_append, List.length_cons, Nat.add_mul, Nat.one_mul]
      have : (compOf es e).length ≤ es.length := by
        rw [compOf, List.length_map]
        exact List.length_filter_le _ _
      omega
  have := this es
  rw [moreE, List.length_append, List.length_append]
  omega
end Go.Proofs.Ytnjfiinnidklaaa.Lat
