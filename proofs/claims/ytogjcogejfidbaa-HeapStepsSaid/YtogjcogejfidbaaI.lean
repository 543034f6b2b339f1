import Derived.Test.YtogjcogejfidbaaH
namespace Go.Proofs.Ytogjcogejfidbaa.Heap
open Go.RowKit Go.Proofs.YtogjcogejfidbaaW.PrintWords Go.Proofs.YtogjcogejfidbaaW.PrintLast Go.Proofs.YtogjcogejfidbaaW.PrintMore Go.Proofs.Ytogjcogejfidbaa.PHeapSteps
set_option linter.unusedVariables false
set_option linter.unusedSimpArgs false
section
variable {w : World} {base : Nat} {F : Nat → Prop} {hb : Nat} {A : List S65}

theorem of_any (h : HR w base F hb A) (a : Int) (hm : a ≤ 9223372036854775807) :
    Calls Try.prog 18 #[.pointer (some ⟨hb, 0, none⟩), .int .i64 a] w fun e w' => e = .returned (.tuple #[.int .i64 (objOf A a).1, .agg #[.int .i64 (objOf A a).2.1.f0, .int .i64 (objOf A a).2.1.f1, .int .i64 (objOf A a).2.1.f2, .int .i64 (objOf A a).2.1.f3], .bool (objOf A a).2.2]) ∧ Below w.heap.size w w' := by
  obtain ⟨ab, vs, h⟩ := h
  have hB : ∀ W, Below w.heap.size w W → HRx W base F hb ab vs A := fun W hW => h.foot (S := fun _ => False) (Foot.of_below hW) (fun _ _ h => h)
  unfold objOf
  cases hp : Heap.place A a with
  | none => exact of_of_no _ _ _ fun W hW => word_none (hB W hW) a hm hp
  | some tk =>
    obtain ⟨t, k⟩ := tk
    obtain ⟨h1, h2, h3, h4, h5⟩ := place_some hp
    obtain ⟨p, x, hv, hx', hx, hgood, _, _, _, c1, _, R1⟩ := h.at_ t h4
    obtain ⟨A1, cc, he, hle, hC⟩ := Kd.R_reads R1
    rw [he] at c1
    rw [hx] at h5
    dsimp only
    rw [hx]
    have := contig_len hgood.2
    have := hgood.1
    refine of_of_yes _ _ _ t k ab A.length A.length A1 cc x.f1 x.f0.length (fun W hW => ?_) h.c0 h4 h.le4 c1 hC (by omega) (by omega) hgood.2 (by omega) (by omega) _ rfl
    obtain ⟨g', c', p', hv', hpe', hc⟩ := word_some (hB W hW) a hm hp
    exact ⟨_, hc⟩
end

theorem words_none (hh : Addr) (t : Int) (w : World) (hw : Calls Try.prog 22 #[.pointer (some hh), .int .i64 t] w fun e w' => e = .returned (.pointer none) ∧ w = w') :
    Calls Try.prog 10 #[.pointer (some hh), .int .i64 t] w fun e w' => e = .returned (.slice none 0 0) ∧ w = w' := by
  have HW := Aside0.mk hw
  clear hw
  go_enter Try.func10, Try.ntmps10
  go_wp2_with (go_at_call 22; refine (HW.out).mono ?_; rintro e w' ⟨rfl, rfl⟩)
  go_ret
  exact ⟨rfl, rfl⟩
theorem words_some (hh : Addr) (t : Int) (w : World) (ab o : Nat) (hw : Calls Try.prog 22 #[.pointer (some hh), .int .i64 t] w fun e w' => e = .returned (.pointer (some ⟨ab, o, none⟩)) ∧ w = w')
    (A1 : Option Addr) (c1 : Nat) (xs : List S46) (h1 : w.cell? ⟨ab, o, none⟩ = some (.slice A1 xs.length c1)) (hc : A1 = none → c1 = 0) (hr : Kd.C k46 w A1 xs.length xs) (hl : xs.length ≤ 64) :
    Calls Try.prog 10 #[.pointer (some hh), .int .i64 t] w fun e w' => ∃ v, e = .returned v ∧ k46.R 46 w' w.heap.size (fun _ => True) v xs ∧ Below w.heap.size w w' := by
  have HW := Aside0.mk hw
  have HR := Aside0.mk hr
  clear hw hr
  go_enter Try.func10, Try.ntmps10
  go_wp2_with (first
    | (go_at_call 22; refine (HW.out).mono ?_; rintro e w' ⟨rfl, rfl⟩)
    | (go_at_call 23; refine (clone46 A1 c1 xs _ hc HR.out (by omega)).mono ?_; rintro e w' ⟨v, rfl, hv, hb⟩; have HV := Aside0.mk hv; clear hv))
  go_ret
  exact ⟨v, rfl, HV.out, hb⟩
theorem words_any {w : World} {base : Nat} {F : Nat → Prop} {hb : Nat} {A : List S65} (h : HR w base F hb A) (t : Int) :
    Calls Try.prog 10 #[.pointer (some ⟨hb, 0, none⟩), .int .i64 t] w fun e w' => ∃ v, e = .returned v ∧ k46.R 46 w' w.heap.size (fun _ => True) v (ar A t).f0 ∧ Below w.heap.size w w' := by
  obtain ⟨ab, vs, h⟩ := h
  have nil : ∀ xs : List S46, xs = [] → (Calls Try.prog 22 #[.pointer (some ⟨hb, 0, none⟩), .int .i64 t] w fun e w' => e = .returned (.pointer none) ∧ w = w') → Calls Try.prog 10 #[.pointer (some ⟨hb, 0, none⟩), .int .i64 t] w fun e w' => ∃ v, e = .returned v ∧ k46.R 46 w' w.heap.size (fun _ => True) v xs ∧ Below w.heap.size w w' := by
    rintro xs rfl hw
    refine (words_none _ _ _ hw).mono ?_
    rintro e w' ⟨rfl, rfl⟩
    exact ⟨_, rfl, Kd.R_nil _ _ _ _ _, Below.refl _ _⟩
  by_cases h0 : t < 0
  · exact nil _ (by unfold ar; rw [if_pos h0]; rfl) (of_neg _ _ _ h0)
  · by_cases h1 : (A.length : Int) ≤ t
    · refine nil _ ?_ (of_ge _ _ _ _ _ _ h.c0 h0 h1)
      rw [ar_nat _ _ (by omega), List.getD_eq_getElem?_getD, List.getElem?_eq_none (by omega)]; rfl
    · obtain ⟨p, x, hv, hx', hx, hgood, _, _, c0, c1, R0, R1⟩ := h.at_ t.toNat (by omega)
      obtain ⟨A1, cc, he, hle, hC⟩ := Kd.R_reads R0
      have hn : A1 = none → cc = 0 := by
        rintro rfl
        obtain ⟨_, inner, ho, _⟩ := R0
        rw [he] at ho
        rcases ho.2 with ⟨e1, _⟩ | ⟨_, _, _, e1, _⟩
        · injection e1
        · injection e1 with e1; cases e1
      rw [he] at c0
      rw [ar_nat _ _ (by omega), hx]
      have := contig_len hgood.2
      have := hgood.1
      exact words_some _ _ _ ab (t.toNat * 2) (of_yes _ _ _ _ _ _ h.c0 h0 (by omega)) A1 cc x.f0 c0 hn hC (by omega)

theorem objects_none (hh : Addr) (t : Int) (w : World) (hw : Calls Try.prog 22 #[.pointer (some hh), .int .i64 t] w fun e w' => e = .returned (.pointer none) ∧ w = w') :
    Calls Try.prog 11 #[.pointer (some hh), .int .i64 t] w fun e w' => e = .returned (.slice none 0 0) ∧ w = w' := by
  have HW := Aside0.mk hw
  clear hw
  go_enter Try.func11, Try.ntmps11
  go_wp2_with (go_at_call 22; refine (HW.out).mono ?_; rintro e w' ⟨rfl, rfl⟩)
  go_ret
  exact ⟨rfl, rfl⟩
theorem objects_some (hh : Addr) (t : Int) (w : World) (ab o : Nat) (hw : Calls Try.prog 22 #[.pointer (some hh), .int .i64 t] w fun e w' => e = .returned (.pointer (some ⟨ab, o, none⟩)) ∧ w = w')
    (A1 : Option Addr) (c1 : Nat) (xs : List S51) (h1 : w.cell? ⟨ab, o + 1, none⟩ = some (.slice A1 xs.length c1)) (hc : A1 = none → c1 = 0) (hr : Kd.C k51 w A1 xs.length xs) (hl : xs.length ≤ 64) :
    Calls Try.prog 11 #[.pointer (some hh), .int .i64 t] w fun e w' => ∃ v, e = .returned v ∧ k51.R 51 w' w.heap.size (fun _ => True) v xs ∧ Below w.heap.size w w' := by
  have HW := Aside0.mk hw
  have HR := Aside0.mk hr
  clear hw hr
  go_enter Try.func11, Try.ntmps11
  go_wp2_with (first
    | (go_at_call 22; refine (HW.out).mono ?_; rintro e w' ⟨rfl, rfl⟩)
    | (go_at_call 24; refine (clone51 A1 c1 xs _ hc HR.out (by omega)).mono ?_; rintro e w' ⟨v, rfl, hv, hb⟩; have HV := Aside0.mk hv; clear hv))
  go_ret
  exact ⟨v, rfl, HV.out, hb⟩
theorem objects_any {w : World} {base : Nat} {F : Nat → Prop} {hb : Nat} {A : List S65} (h : HR w base F hb A) (t : Int) :
    Calls Try.prog 11 #[.pointer (some ⟨hb, 0, none⟩), .int .i64 t] w fun e w' => ∃ v, e = .returned v ∧ k51.R 51 w' w.heap.size (fun _ => True) v (ar A t).f1 ∧ Below w.heap.size w w' := by
  obtain ⟨ab, vs, h⟩ := h
  have nil : ∀ xs : List S51, xs = [] → (Calls Try.prog 22 #[.pointer (some ⟨hb, 0, none⟩), .int .i64 t] w fun e w' => e = .returned (.pointer none) ∧ w = w') → Calls Try.prog 11 #[.pointer (some ⟨hb, 0, none⟩), .int .i64 t] w fun e w' => ∃ v, e = .returned v ∧ k51.R 51 w' w.heap.size (fun _ => True) v xs ∧ Below w.heap.size w w' := by
    rintro xs rfl hw
    refine (objects_none _ _ _ hw).mono ?_
    rintro e w' ⟨rfl, rfl⟩
    exact ⟨_, rfl, Kd.R_nil _ _ _ _ _, Below.refl _ _⟩
  by_cases h0 : t < 0
  · exact nil _ (by unfold ar; rw [if_pos h0]; rfl) (of_neg _ _ _ h0)
  · by_cases h1 : (A.length : Int) ≤ t
    · refine nil _ ?_ (of_ge _ _ _ _ _ _ h.c0 h0 h1)
      rw [ar_nat _ _ (by omega), List.getD_eq_getElem?_getD, List.getElem?_eq_none (by omega)]; rfl
    · obtain ⟨p, x, hv, hx', hx, hgood, _, _, c0, c1, R0, R1⟩ := h.at_ t.toNat (by omega)
      obtain ⟨A1, cc, he, hle, hC⟩ := Kd.R_reads R1
      have hn : A1 = none → cc = 0 := by
        rintro rfl
        obtain ⟨_, inner, ho, _⟩ := R1
        rw [he] at ho
        rcases ho.2 with ⟨e1, _⟩ | ⟨_, _, _, e1, _⟩
        · injection e1
        · injection e1 with e1; cases e1
      rw [he] at c1
      rw [ar_nat _ _ (by omega), hx]
      have := contig_len hgood.2
      have := hgood.1
      exact objects_some _ _ _ ab (t.toNat * 2) (of_yes _ _ _ _ _ _ h.c0 h0 (by omega)) A1 cc x.f1 c1 hn hC (by omega)

end Go.Proofs.Ytogjcogejfidbaa.Heap
