import Derived.Test.YtpbaebjohioijaaG
namespace Go.Proofs.Ytpbaebjohioijaa.Lat
open Go.RowKit Go.Proofs.YtpbaebjohioijaaW.PrintWords Go.Proofs.YtpbaebjohioijaaW.PrintLast Go.Proofs.YtpbaebjohioijaaW.PrintMore Go.Proofs.Ytpbaebjohioijaa.PSolveLeast
set_option linter.unusedVariables false
set_option linter.unusedSimpArgs false

/-! ### Edges -/
abbrev KE : Kd (Int × Int) := Kd.pair (Kd.int .i64) (Kd.int .i64)
def rdE (es : List (Int × Int)) (i : Nat) : Int × Int := es.getD i (0, 0)
theorem at_E {w : World} {A : Option Addr} {n : Nat} {es : List (Int × Int)} (h : Kd.C KE w A n es) (i : Nat) (h1 : i < n) : ∃ ad, A = some ad ∧ w.cell? (ad.add (i * 2)) = some (.int .i64 (rdE es i).1) ∧ w.cell? ⟨(ad.add (i * 2)).block, (ad.add (i * 2)).off + 1, none⟩ = some (.int .i64 (rdE es i).2) := by
  obtain ⟨ad, c, e, _, hK, hc0⟩ := Kd.C_get h (0, 0) (i : Nat) (by omega) (by omega)
  have hc : ∀ j u, c[j]? = some u → w.cell? (ad.add ((i : Int).toNat * 2 + j)) = some u := hc0
  rw [Int.toNat_natCast] at hc hK
  obtain ⟨c1, c2, rfl, h1, h2⟩ := hK
  subst h1 h2
  exact ⟨ad, e, hc 0 _ rfl, by rw [← add_field _ _ 1 (by omega)]; exact hc 1 _ rfl⟩
def badB (n : Int) (e : Int × Int) : Bool := !lev n e.1 || !lev n e.2
def badE (n : Int) (es : List (Int × Int)) : Bool := es.any (badB n)

/-! ### The closure, IndexFunc, ContainsFunc -/
theorem clos_any (n a b : Int) (nb : Nat) (w : World) (hn : w.heap[nb]? = some (.cells #[.int .i64 n] 3 (0, 0))) :
    Calls Try.prog 36 #[.agg #[.int .i64 a, .int .i64 b], .pointer (some ⟨nb, 0, none⟩)] w fun e w' => e = .returned (.bool (badB n (a, b))) ∧ Below w.heap.size w w' := by
  have bA := below_alloc (Below.refl w.heap.size w) (.cells #[.int .i64 a, .int .i64 b] 48)
  have cn : (w.alloc (.cells #[.int .i64 a, .int .i64 b] 48)).cell? ⟨nb, 0, none⟩ = some (.int .i64 n) := (blk_cell (blk_below hn bA) 0).trans rfl
  have HA := Aside0.mk (level_any n a (w.alloc (.cells #[.int .i64 a, .int .i64 b] 48)))
  have HB := Aside0.mk (level_any n b (w.alloc (.cells #[.int .i64 a, .int .i64 b] 48)))
  have BA := Aside0.mk bA
  clear bA hn
  by_cases ha : lev n a = true
  · by_cases hb : lev n b = true
    all_goals
      first
      | (rw [show badB n (a, b) = false from by simp [badB, ha, hb]]; rw [hb] at HB)
      | (obtain hb : lev n b = false := by simpa using hb
         rw [show badB n (a, b) = true from by simp [badB, ha, hb]]; rw [hb] at HB)
      rw [ha] at HA
      clear ha hb
      go_enter Try.func36, Try.ntmps36
      go_wp2_with (first | (go_at_call_of 32 (Value.int .i64 a); refine HA.out.mono ?_; rintro e w' ⟨rfl, rfl⟩) | (go_at_call_of 32 (Value.int .i64 b); refine HB.out.mono ?_; rintro e w' ⟨rfl, rfl⟩))
      go_ret
      exact ⟨rfl, BA.out⟩
  · obtain ha : lev n a = false := by simpa using ha
    rw [show badB n (a, b) = true from by simp [badB, ha]]
    rw [ha] at HA
    clear ha
    go_enter Try.func36, Try.ntmps36
    go_wp2_with (first | (go_at_call_of 32 (Value.int .i64 a); refine HA.out.mono ?_; rintro e w' ⟨rfl, rfl⟩))
    go_ret
    exact ⟨rfl, BA.out⟩
theorem bad_all {n : Int} {es : List (Int × Int)} (h : ∀ j < es.length, badB n (rdE es j) = false) : badE n es = false := by
  rw [badE, List.any_eq_false]
  intro e he
  obtain ⟨i, hi, rfl⟩ := List.getElem_of_mem he
  have := h i hi
  rw [rdE, List.getD_eq_getElem?_getD, List.getElem?_eq_getElem hi] at this
  simp at this
  simp [this]
theorem bad_one {n : Int} {es : List (Int × Int)} {j : Nat} (hj : j < es.length) (h : badB n (rdE es j) = true) : badE n es = true := by
  rw [badE, List.any_eq_true]
  rw [rdE, List.getD_eq_getElem?_getD, List.getElem?_eq_getElem hj] at h
  exact ⟨es[j], List.getElem_mem hj, h⟩
theorem index_any (n : Int) (nb : Nat) (A : Option Addr) (c : Nat) (es : List (Int × Int)) (w : World) (hn : w.heap[nb]? = some (.cells #[.int .i64 n] 3 (0, 0))) (hr : Kd.C KE w A es.length es) (hl : es.length ≤ 1000000) :
    Calls Try.prog 53 #[.slice A es.length c, .func (.func 36) #[] #[.pointer (some ⟨nb, 0, none⟩)]] w fun e w' => (∃ m : Int, e = .returned (.int .i64 m) ∧ decide (0 ≤ m) = badE n es) ∧ Below w.heap.size w w' := by
  have HN := Aside0.mk hn
  have HR := Aside0.mk hr
  clear hn hr
  go_enter Try.func53, Try.ntmps53
  go_wp2
  go_loopw [8] (fun i wr => ∃ k : Nat, i = .int .i64 k ∧ k ≤ es.length ∧ Aside0 (∀ j < k, badB n (rdE es j) = false) ∧ Aside0 (Below w.heap.size w wr)) (fun i _ => es.length - (intOf i).toNat)
  case atStart => exact ⟨0, rfl, Nat.zero_le _, ⟨fun j hj => absurd hj (Nat.not_lt_zero j)⟩, ⟨Below.refl _ _⟩⟩
  case round =>
    obtain ⟨k, rfl, hk, H0, HB⟩ := hrel
    obtain ⟨wi, rfl⟩ : ∃ wi : World, wi = wr := ⟨_, rfl⟩
    by_cases hlt : k < es.length
    · obtain ⟨ad, eA, c0, c1⟩ := at_E (Kd.C_below HR.out HB.out) k hlt
      subst eA
      have HC : Aside0 (∀ a b, Calls Try.prog 36 #[.agg #[.int .i64 a, .int .i64 b], .pointer (some ⟨nb, 0, none⟩)] wi fun e w' => e = .returned (.bool (badB n (a, b))) ∧ Below wi.heap.size wi w') := ⟨fun a b => clos_any n a b nb wi (blk_below HN.out HB.out)⟩
      have HE : Aside0 (badB n ((rdE es k).1, (rdE es k).2) = badB n (rdE es k)) := ⟨rfl⟩
      have hsz := HB.out.size
      obtain ⟨a, ha⟩ : ∃ a, (rdE es k).1 = a := ⟨_, rfl⟩
      obtain ⟨b, hb⟩ : ∃ a, (rdE es k).2 = a := ⟨_, rfl⟩
      rw [ha, hb] at HE
      rw [ha] at c0
      rw [hb] at c1
      clear ha hb
      have HC2 := Aside0.mk (HC.out a b)
      obtain ⟨t, ht⟩ : ∃ t, badB n (a, b) = t := ⟨_, rfl⟩
      rw [ht] at HC2 HE
      clear ht HC
      cases t with
      | false =>
        go_wp2_with fail
        refine HC2.out.mono ?_
        rintro e w2 ⟨rfl, b2⟩
        have B2 := Aside0.mk (below_then HB.out hsz b2)
        clear b2
        go_wp2_with fail
        go_roundw
        case rel => exact ⟨k + 1, by go_num, by omega, ⟨fun j hj => by
          by_cases e : j = k
          · rw [e, ← HE.out]
          · exact H0.out j (by omega)⟩, B2⟩
        case measure => simp [intOf]; omega
      | true =>
        have R := Aside0.mk (bad_one hlt HE.out.symm)
        go_wp2_with fail
        refine HC2.out.mono ?_
        rintro e w2 ⟨rfl, b2⟩
        have B2 := Aside0.mk (below_then HB.out hsz b2)
        clear b2
        go_wp2_with fail
        go_ret
        exact ⟨⟨(k : Int), rfl, by rw [R.out]; simp⟩, B2.out⟩
    · have R := Aside0.mk (bad_all (fun j hj => H0.out j (by omega)))
      go_wp2_with fail
      go_ret
      exact ⟨⟨(-1 : Int), rfl, by rw [R.out]; decide⟩, HB.out⟩
theorem contains_any (n : Int) (nb : Nat) (A : Option Addr) (c : Nat) (es : List (Int × Int)) (w : World) (hn : w.heap[nb]? = some (.cells #[.int .i64 n] 3 (0, 0))) (hr : Kd.C KE w A es.length es) (hl : es.length ≤ 1000000) :
    Calls Try.prog 35 #[.slice A es.length c, .func (.func 36) #[] #[.pointer (some ⟨nb, 0, none⟩)]] w fun e w' => e = .returned (.bool (badE n es)) ∧ Below w.heap.size w w' := by
  have H := Aside0.mk (index_any n nb A c es w hn hr hl)
  clear hn hr
  go_enter Try.func35, Try.ntmps35
  go_wp2_with fail
  refine H.out.mono ?_
  rintro e w' ⟨⟨m, rfl, hm⟩, b⟩
  have HM := Aside0.mk hm
  have B := Aside0.mk b
  clear hm b
  go_wp2_with fail
  go_ret
  exact ⟨by rw [← HM.out]; rfl, B.out⟩
end Go.Proofs.Ytpbaebjohioijaa.Lat
