import Derived.Test.YtnjfiinnidklaaaBA
namespace Go.Proofs.Ytnjfiinnidklaaa.Lat
open Go.RowKit Go.Proofs.YtnjfiinnidklaaaW.PrintWords Go.Proofs.YtnjfiinnidklaaaW.PrintLast Go.Proofs.YtnjfiinnidklaaaW.PrintMore Go.Proofs.Ytnjfiinnidklaaa.PLatticeNews
set_option linter.unusedVariables false
set_option linter.unusedSimpArgs false

/-! ### A row of rows, told by its blocks -/
/-- A slice of n that begins at its block's head, told by the block. -/
def kSl (n : Nat) : Kd Nat where
  sz := 1
  E := []
  K := fun _ b cs => cs = [.slice (some ⟨b, 0, none⟩) n n]
  M := fun _ _ _ b cs => cs = [.slice (some ⟨b, 0, none⟩) n n]
  K_len := by rintro _ _ _ rfl; rfl
  K_one := by
    rintro _ _ _ rfl u hu
    rw [List.mem_singleton.1 hu]
    rfl
  K_below := fun _ h => h
  K_of_M := fun h => h
  M_mono := fun _ h => h
  M_bound := fun h => h
  M_move := fun _ h => h
  M_lower := fun _ h => h
def boolN (n : Nat) (f : Nat → Bool) : Array Value := ((List.range n).map fun j => Value.bool (f j)).toArray
theorem boolN_get (n : Nat) (f : Nat → Bool) (j : Nat) (h : j < n) : (boolN n f)[j]? = some (.bool (f j)) := by
  simp [boolN, h]
def bsAt (bs : List Nat) (i : Nat) : Nat := bs.getD i 0
/-- The rows' blocks, each apart. -/
structure LQ (w : World) (base : Nat) (v : Value) (bs : List Nat) (n : Nat) (M : Nat → Nat → Bool) : Prop where
  row : (kSl n).R 60 w base (fun k => k ∉ bs) v bs
  inn : ∀ i < bs.length, w.heap[bsAt bs i]? = some (.cells (boolN n (M i)) 4 (0, 0)) ∧ base ≤ bsAt bs i
  nd : bs.Nodup
theorem bs_mem {bs : List Nat} {i : Nat} (h : i < bs.length) : bsAt bs i ∈ bs := by
  have : bsAt bs i = bs[i] := by simp [bsAt, List.getD_eq_getElem?_getD, h]
  rw [this]
  exact List.getElem_mem h
theorem bs_inj {bs : List Nat} (hd : bs.Nodup) {i j : Nat} (hi : i < bs.length) (hj : j < bs.length) (h : bsAt bs i = bsAt bs j) : i = j := by
  have e1 : bsAt bs i = bs[i] := by simp [bsAt, List.getD_eq_getElem?_getD, hi]
  have e2 : bsAt bs j = bs[j] := by simp [bsAt, List.getD_eq_getElem?_getD, hj]
  rw [e1, e2] at h
  rw [List.Nodup, List.pairwise_iff_getElem] at hd
  rcases Nat.lt_trichotomy i j with h1 | h1 | h1
  · exact absurd h (hd i j hi hj h1)
  · exact h1
  · exact absurd h.symm (hd j i hj hi h1)
section
variable {w w' : World} {base n : Nat} {v : Value} {bs : List Nat} {M : Nat → Nat → Bool} (h : LQ w base v bs n M)
include h
theorem LQ.below (b : Below w.heap.size w w') : LQ w' base v bs n M :=
  ⟨Kd.R_mono (Kd.R_old h.row b) (fun _ hk => hk.1), fun i hi => ⟨blk_below (h.inn i hi).1 b, (h.inn i hi).2⟩, h.nd⟩
theorem LQ.put {i j : Nat} (hi : i < bs.length) : LQ (w.setCell ⟨bsAt bs i, j, none⟩ (.bool true)) base v bs n (fun x y => M x y || (x == i && y == j)) := by
  refine ⟨R_foot h.row ((Foot.refl (fun k => k = bsAt bs i) w).setCell (p := ⟨bsAt bs i, j, none⟩) (fun _ => rfl) _) (fun k hk e => hk (e ▸ bs_mem hi)), fun x hx => ⟨?_, (h.inn x hx).2⟩, h.nd⟩
  by_cases e : x = i
  · subst e
    rw [blk_set (h.inn x hx).1 j (.bool true)]
    congr 2
    apply Array.ext'
    apply List.ext_getElem
    · simp [boolN]
    · intro y h1 h2
      simp [boolN, List.getElem_set]
      by_cases e : j = y
      · subst e; simp
      · have : ¬ y = j := fun h => e h.symm
        simp [e, this]
  · have hne : bsAt bs x ≠ bsAt bs i := fun he => e (bs_inj h.nd hx hi he)
    have := blk_far (h.inn x hx).1 (p := ⟨bsAt bs i, j, none⟩) hne (.bool true)
    have e2 : (x == i) = false := beq_eq_false_iff_ne.2 e
    simpa [e2] using this
theorem LQ.inn_at {i j : Nat} (hi : i < bs.length) (hj : j < n) : w.cell? ⟨bsAt bs i, j, none⟩ = some (.bool (M i j)) ∧ w.frozen? ⟨bsAt bs i, j, none⟩ = false :=
  ⟨(blk_cell (h.inn i hi).1 _).trans (boolN_get n (M i) j hj), blk_frozen (h.inn i hi).1 _⟩
theorem LQ.ext {M' : Nat → Nat → Bool} (e : ∀ i < bs.length, ∀ j < n, M i j = M' i j) : LQ w base v bs n M' :=
  ⟨h.row, fun i hi => ⟨by
    rw [(h.inn i hi).1]
    congr 2
    unfold boolN
    congr 1
    apply List.map_congr_left
    intro j hj
    rw [e i hi j (List.mem_range.1 hj)], (h.inn i hi).2⟩, h.nd⟩
theorem LQ.out_at {A : Option Addr} {m c : Nat} (e : v = .slice A m c) {i : Nat} (hi : i < bs.length) : ∃ ad, A = some ad ∧ w.cell? (ad.add i) = some (.slice (some ⟨bsAt bs i, 0, none⟩) n n) := by
  obtain ⟨A', c', e', _, hC⟩ := Kd.R_reads h.row
  rw [e] at e'
  simp only [Value.slice.injEq] at e'
  obtain ⟨rfl, _, _⟩ := e'
  obtain ⟨ad, cs, eA, _, hK, hc⟩ := Kd.C_get hC 0 (i : Nat) (by omega) (by omega)
  rw [Int.toNat_natCast] at hK hc
  have hK' : cs = [.slice (some ⟨bsAt bs i, 0, none⟩) n n] := hK
  subst hK'
  have := hc 0 _ rfl
  exact ⟨ad, eA, by
    have e2 : i * (kSl n).sz + 0 = i := by simp [kSl]
    rw [e2] at this
    exact this⟩
end
end Go.Proofs.Ytnjfiinnidklaaa.Lat
