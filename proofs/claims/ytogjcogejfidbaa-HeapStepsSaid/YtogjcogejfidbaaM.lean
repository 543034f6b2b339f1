import Derived.Test.YtogjcogejfidbaaL
import Derived.Test.YtogjcogejfidbaaT
namespace Go.Proofs.Ytogjcogejfidbaa.Heap
open Go.RowKit Go.Proofs.YtogjcogejfidbaaW.PrintWords Go.Proofs.YtogjcogejfidbaaW.PrintLast Go.Proofs.YtogjcogejfidbaaW.PrintMore Go.Proofs.Ytogjcogejfidbaa.PHeapSteps
set_option linter.unusedVariables false
set_option linter.unusedSimpArgs false
structure S40 where
  f0 : Int
  f1 : Int
  f2 : Int
  f3 : Int
  f4 : Int
def z40 : S40 := ⟨(0 : Int), (0 : Int), (0 : Int), (0 : Int), (0 : Int)⟩
def k40 : Kd S40 := Kd.iso (Kd.pair (Kd.int .i64) (Kd.pair (Kd.int .i64) (Kd.pair (Kd.int .i64) (Kd.pair (Kd.int .i64) (Kd.int .i64))))) (fun x : S40 => (x.f0, x.f1, x.f2, x.f3, x.f4))
theorem k40_open {w : World} {x : S40} {cs : List Value} (h : k40.K w x cs) : cs = [.int .i64 x.f0, .int .i64 x.f1, .int .i64 x.f2, .int .i64 x.f3, .int .i64 x.f4] := by
  obtain ⟨_, _, rfl, rfl, ⟨_, _, rfl, rfl, ⟨_, _, rfl, rfl, ⟨_, _, rfl, rfl, rfl⟩⟩⟩⟩ := h
  exact rfl
theorem k40_openM {w : World} {base : Nat} {ok : Nat → Prop} {x : S40} {cs : List Value} (h : k40.M w base ok x cs) : cs = [.int .i64 x.f0, .int .i64 x.f1, .int .i64 x.f2, .int .i64 x.f3, .int .i64 x.f4] := by
  obtain ⟨_, _, rfl, rfl, ⟨_, _, rfl, rfl, ⟨_, _, rfl, rfl, ⟨_, _, rfl, rfl, rfl⟩⟩⟩⟩ := h
  exact rfl
theorem k40_mk (w : World) (x : S40) : k40.K w x [.int .i64 x.f0, .int .i64 x.f1, .int .i64 x.f2, .int .i64 x.f3, .int .i64 x.f4] := ⟨[.int .i64 x.f0], [.int .i64 x.f1, .int .i64 x.f2, .int .i64 x.f3, .int .i64 x.f4], rfl, rfl, ⟨[.int .i64 x.f1], [.int .i64 x.f2, .int .i64 x.f3, .int .i64 x.f4], rfl, rfl, ⟨[.int .i64 x.f2], [.int .i64 x.f3, .int .i64 x.f4], rfl, rfl, ⟨[.int .i64 x.f3], [.int .i64 x.f4], rfl, rfl, rfl⟩⟩⟩⟩
theorem k40_mkM (w : World) (base : Nat) (ok : Nat → Prop) (x : S40) : k40.M w base ok x [.int .i64 x.f0, .int .i64 x.f1, .int .i64 x.f2, .int .i64 x.f3, .int .i64 x.f4] := ⟨[.int .i64 x.f0], [.int .i64 x.f1, .int .i64 x.f2, .int .i64 x.f3, .int .i64 x.f4], rfl, rfl, ⟨[.int .i64 x.f1], [.int .i64 x.f2, .int .i64 x.f3, .int .i64 x.f4], rfl, rfl, ⟨[.int .i64 x.f2], [.int .i64 x.f3, .int .i64 x.f4], rfl, rfl, ⟨[.int .i64 x.f3], [.int .i64 x.f4], rfl, rfl, rfl⟩⟩⟩⟩
def rd_T40 (xs : List S40) (i : Int) : S40 := xs.getD i.toNat z40
theorem at_T40 {w : World} {A : Option Addr} {n : Nat} {xs : List S40} (h : Kd.C k40 w A n xs) (i : Int) (h0 : 0 ≤ i) (h1 : i < n) : ∃ ad, A = some ad ∧ w.cell? (ad.add (i.toNat * 5)) = some (.int .i64 (rd_T40 xs i).f0) ∧ w.cell? ⟨(ad.add (i.toNat * 5)).block, (ad.add (i.toNat * 5)).off + 1, none⟩ = some (.int .i64 (rd_T40 xs i).f1) ∧ w.cell? ⟨(ad.add (i.toNat * 5)).block, (ad.add (i.toNat * 5)).off + 2, none⟩ = some (.int .i64 (rd_T40 xs i).f2) ∧ w.cell? ⟨(ad.add (i.toNat * 5)).block, (ad.add (i.toNat * 5)).off + 3, none⟩ = some (.int .i64 (rd_T40 xs i).f3) ∧ w.cell? ⟨(ad.add (i.toNat * 5)).block, (ad.add (i.toNat * 5)).off + 4, none⟩ = some (.int .i64 (rd_T40 xs i).f4) := by
  obtain ⟨ad, c, e, _, hK, hc0⟩ := Kd.C_get h z40 i h0 h1
  have hc : ∀ j u, c[j]? = some u → w.cell? (ad.add (i.toNat * 5 + j)) = some u := hc0
  obtain rfl := k40_open hK
  exact ⟨ad, e, hc 0 _ rfl, by rw [← add_field _ _ 1 (by omega)]; exact hc 1 _ rfl, by rw [← add_field _ _ 2 (by omega)]; exact hc 2 _ rfl, by rw [← add_field _ _ 3 (by omega)]; exact hc 3 _ rfl, by rw [← add_field _ _ 4 (by omega)]; exact hc 4 _ rfl⟩
def G40 (x : S40) : Prop := (Lit.int .i64 x.f0).wf = true ∧ (Lit.int .i64 x.f1).wf = true ∧ (Lit.int .i64 x.f2).wf = true ∧ (Lit.int .i64 x.f3).wf = true ∧ (Lit.int .i64 x.f4).wf = true
theorem o_40 : Opens Try.prog 40 k40 G40 := by
  have h := opens_struct (fun x : S40 => (x.f0, x.f1, x.f2, x.f3, x.f4)) (fun y => ⟨y.1, y.2.1, y.2.2.1, y.2.2.2.1, y.2.2.2.2⟩) (fun _ => rfl) Try.underlying40 (by kernel_rfl) (OpensF.cons rfl o_int (OpensF.cons rfl o_int (OpensF.cons rfl o_int (OpensF.cons rfl o_int (OpensF.one rfl o_int)))))
  exact h.imp (fun _ h => h)
theorem o_ops : Opens Try.prog 33 (Kd.slice 40 k40) (fun xs => ∀ x ∈ xs, G40 x) := opens_slice Try.underlying33 (by kernel_rfl) o_40

theorem place_store (A : List S65) (a b : Int) (x : S46) : Heap.place (store A a x).1 b = Heap.place A b := by
  unfold store
  cases hp : Heap.place A a with
  | none => rfl
  | some tk =>
    obtain ⟨t, k⟩ := tk
    obtain ⟨h1, h2, h3, h4, h5⟩ := place_some hp
    have hl : ∀ s : Int, (ar (A.set t ⟨(A.getD t z65).f0.set k x, (A.getD t z65).f1⟩) s).f0.length = (ar A s).f0.length := by
      intro s
      unfold ar
      split
      · rfl
      · rw [List.getD_eq_getElem?_getD]
        by_cases e : t = s.toNat
        · rw [← e, List.getElem?_set_self h4]
          simp
        · rw [List.getElem?_set_ne e, ← List.getD_eq_getElem?_getD]
    dsimp only
    unfold Heap.place
    rw [hl]
theorem load_store (A : List S65) (a b : Int) (x : S46) (hab : a ≠ b) : load (store A a x).1 b = load A b := by
  unfold load
  rw [place_store]
  cases hb : Heap.place A b with
  | none => rfl
  | some tk =>
    obtain ⟨t, k⟩ := tk
    obtain ⟨h1, h2, h3, h4, h5⟩ := place_some hb
    dsimp only
    congr 1
    unfold store rdw
    cases hp : Heap.place A a with
    | none => rfl
    | some tk =>
      obtain ⟨t', k'⟩ := tk
      obtain ⟨g1, g2, g3, g4, g5⟩ := place_some hp
      dsimp only
      by_cases e : t' = t
      · subst e
        have e2 : (A.set t' ⟨(A.getD t' z65).f0.set k' x, (A.getD t' z65).f1⟩).getD t' z65 = ⟨(A.getD t' z65).f0.set k' x, (A.getD t' z65).f1⟩ := by
          rw [List.getD_eq_getElem?_getD, List.getElem?_set_self h4]; rfl
        rw [e2]
        dsimp only
        rw [List.getD_eq_getElem?_getD, List.getElem?_set_ne (by omega), ← List.getD_eq_getElem?_getD]
      · have e2 : (A.set t' ⟨(A.getD t' z65).f0.set k' x, (A.getD t' z65).f1⟩).getD t z65 = A.getD t z65 := by
          rw [List.getD_eq_getElem?_getD, List.getElem?_set_ne e, ← List.getD_eq_getElem?_getD]
        rw [e2]
theorem load_stored (A : List S65) (a : Int) (x : S46) (h : (store A a x).2 = true) : load (store A a x).1 a = (x, true) := by
  unfold load
  rw [place_store]
  unfold store at h ⊢
  cases hp : Heap.place A a with
  | none => rw [hp] at h; cases h
  | some tk =>
    obtain ⟨t', k'⟩ := tk
    obtain ⟨g1, g2, g3, g4, g5⟩ := place_some hp
    dsimp only
    unfold rdw
    have e2 : (A.set t' ⟨(A.getD t' z65).f0.set k' x, (A.getD t' z65).f1⟩).getD t' z65 = ⟨(A.getD t' z65).f0.set k' x, (A.getD t' z65).f1⟩ := by
      rw [List.getD_eq_getElem?_getD, List.getElem?_set_self g4]; rfl
    rw [e2]
    dsimp only
    rw [List.getD_eq_getElem?_getD, List.getElem?_set_self g5]; rfl
theorem load_none (A : List S65) (a : Int) (x : S46) (h : (store A a x).2 = false) : (load (store A a x).1 a).2 = false := by
  unfold load
  rw [place_store]
  unfold store at h
  cases hp : Heap.place A a with
  | none => rfl
  | some tk => rw [hp] at h; cases h
end Go.Proofs.Ytogjcogejfidbaa.Heap
