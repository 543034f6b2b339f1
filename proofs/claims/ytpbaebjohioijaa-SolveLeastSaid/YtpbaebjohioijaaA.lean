import Derived.Test.YtpbaebjohioijaaX0
import Derived.Test.YtpbaebjohioijaaFoot
import Derived.WalkSpells
import Derived.StillTailTactics
import Derived.Laws.CopyOwn
namespace Go.Proofs.Ytpbaebjohioijaa.Lat
open Go.RowKit Go.Proofs.YtpbaebjohioijaaW.PrintWords Go.Proofs.YtpbaebjohioijaaW.PrintLast Go.Proofs.YtpbaebjohioijaaW.PrintMore Go.Proofs.Ytpbaebjohioijaa.PSolveLeast
set_option linter.unusedVariables false
set_option linter.unusedSimpArgs false

/-- A row of sets at block b. -/
structure RB (w : World) (b n : Nat) (xs : List Int) : Prop where
  bk : w.heap[b]? = some (.cells (nums .u64 xs).toArray 78 (0, 0))
  len : xs.length = n
/-- The order at block hb. -/
structure TO (w : World) (hb ub db n : Nat) (us ds : List Int) : Prop where
  hbk : w.heap[hb]? = some (.cells #[.slice (some ⟨ub, 0, none⟩) n n, .slice (some ⟨db, 0, none⟩) n n] 81 (0, 0))
  u : RB w ub n us
  d : RB w db n ds
  ne : ub ≠ db
  le8 : n ≤ 8
theorem nums_get (xs : List Int) (i : Nat) (h : i < xs.length) : (nums .u64 xs).toArray[i]? = some (.int .u64 (rd xs i)) := by
  simp [nums, rd, List.getD_eq_getElem?_getD, h]
theorem RB.at_ {w : World} {b n : Nat} {xs : List Int} (h : RB w b n xs) (i : Nat) (h1 : i < n) : w.cell? ⟨b, i, none⟩ = some (.int .u64 (rd xs i)) ∧ w.frozen? ⟨b, i, none⟩ = false :=
  ⟨(blk_cell h.bk _).trans (nums_get xs i (by rw [h.len]; exact h1)), blk_frozen h.bk _⟩
theorem RB.atZ {w : World} {b n : Nat} {xs : List Int} (h : RB w b n xs) (i : Int) (h0 : 0 ≤ i) (h1 : i < n) : w.cell? ⟨b, i.toNat, none⟩ = some (.int .u64 (rd xs i)) ∧ w.frozen? ⟨b, i.toNat, none⟩ = false := by
  have := h.at_ i.toNat (by omega)
  rwa [Int.toNat_of_nonneg h0] at this
theorem RB.below {w w' : World} {b n : Nat} {xs : List Int} (h : RB w b n xs) (hb' : Below w.heap.size w w') : RB w' b n xs := ⟨blk_below h.bk hb', h.len⟩
theorem RB.put {w : World} {b n : Nat} {xs : List Int} (h : RB w b n xs) (i : Nat) (v : Int) : RB (w.setCell ⟨b, i, none⟩ (.int .u64 v)) b n (xs.set i v) := by
  refine ⟨?_, by rw [List.length_set, h.len]⟩
  have := blk_set h.bk i (.int .u64 v)
  rw [this]
  congr 2
  apply Array.ext'
  simp [nums, List.map_set]
theorem RB.far {w : World} {b n : Nat} {xs : List Int} (h : RB w b n xs) {p : Addr} (hne : b ≠ p.block) (v : Value) : RB (w.setCell p v) b n xs := ⟨blk_far h.bk hne v, h.len⟩
theorem TO.below {w w' : World} {hb ub db n : Nat} {us ds : List Int} (h : TO w hb ub db n us ds) (hb' : Below w.heap.size w w') : TO w' hb ub db n us ds := ⟨blk_below h.hbk hb', h.u.below hb', h.d.below hb', h.ne, h.le8⟩
theorem TO.c0 {w : World} {hb ub db n : Nat} {us ds : List Int} (h : TO w hb ub db n us ds) : w.cell? ⟨hb, 0, none⟩ = some (.slice (some ⟨ub, 0, none⟩) n n) := blk_cell h.hbk 0
theorem TO.c1 {w : World} {hb ub db n : Nat} {us ds : List Int} (h : TO w hb ub db n us ds) : w.cell? ⟨hb, 1, none⟩ = some (.slice (some ⟨db, 0, none⟩) n n) := blk_cell h.hbk 1
theorem TO.hu {w : World} {hb ub db n : Nat} {us ds : List Int} (h : TO w hb ub db n us ds) : hb ≠ ub := blk_ne h.hbk h.u.bk (by decide)
theorem TO.hd {w : World} {hb ub db n : Nat} {us ds : List Int} (h : TO w hb ub db n us ds) : hb ≠ db := blk_ne h.hbk h.d.bk (by decide)

/-! ### one, level, has -/
theorem eight {P : Int → Prop} (h : P 0 ∧ P 1 ∧ P 2 ∧ P 3 ∧ P 4 ∧ P 5 ∧ P 6 ∧ P 7 ∧ P 8) (l : Int) (h0 : 0 ≤ l) (h1 : l ≤ 8) : P l := by
  obtain ⟨a0, a1, a2, a3, a4, a5, a6, a7, a8⟩ := h
  have : l = 0 ∨ l = 1 ∨ l = 2 ∨ l = 3 ∨ l = 4 ∨ l = 5 ∨ l = 6 ∨ l = 7 ∨ l = 8 := by omega
  rcases this with rfl | rfl | rfl | rfl | rfl | rfl | rfl | rfl | rfl <;> assumption
theorem one_any (l : Int) (h0 : 0 ≤ l) (h1 : l ≤ 8) (w : World) : Calls Try.prog 37 #[.int .i64 l] w fun e w' => e = .returned (.int .u64 (2 ^ l.toNat)) ∧ w = w' := by
  revert l
  intro l h0 h1
  refine eight (P := fun l => Calls Try.prog 37 #[.int .i64 l] w fun e w' => e = .returned (.int .u64 (2 ^ l.toNat)) ∧ w = w') ?_ l h0 h1
  refine ⟨?_, ?_, ?_, ?_, ?_, ?_, ?_, ?_, ?_⟩
  all_goals
    go_enter Try.func37, Try.ntmps37
    go_wp2
    go_ret
    exact ⟨by first | rfl | (simp; done) | decide, rfl⟩
def lev (n l : Int) : Bool := decide (0 ≤ l) && decide (l < n)
theorem level_any (n l : Int) (w : World) : Calls Try.prog 32 #[.int .i64 n, .int .i64 l] w fun e w' => e = .returned (.bool (lev n l)) ∧ w = w' := by
  by_cases c : 0 ≤ l
  · rw [show lev n l = decide (l < n) from by simp [lev, c]]
    go_enter Try.func32, Try.ntmps32
    go_wp2
    go_ret
    exact ⟨rfl, rfl⟩
  · rw [show lev n l = false from by simp [lev, c]]
    go_enter Try.func32, Try.ntmps32
    go_wp2
    go_ret
    exact ⟨rfl, rfl⟩
def hasb (a l : Int) : Bool := Go.bits .and .u64 a (2 ^ l.toNat) != 0
theorem has_any (a l : Int) (h0 : 0 ≤ l) (h1 : l ≤ 8) (w : World) : Calls Try.prog 34 #[.int .u64 a, .int .i64 l] w fun e w' => e = .returned (.bool (hasb a l)) ∧ w = w' := by
  have H := Aside0.mk (one_any l h0 h1 w)
  obtain ⟨x, hx⟩ : ∃ x : Int, 2 ^ l.toNat = x := ⟨_, rfl⟩
  unfold hasb
  rw [hx] at H ⊢
  clear hx
  go_enter Try.func34, Try.ntmps34
  go_wp2_with (go_at_call 37; refine H.out.mono ?_; rintro e w' ⟨rfl, rfl⟩)
  go_ret
  exact ⟨rfl, rfl⟩

/-! ### Size -/
theorem size_any {w : World} {hb ub db n : Nat} {us ds : List Int} (h : TO w hb ub db n us ds) : Calls Try.prog 33 #[.pointer (some ⟨hb, 0, none⟩)] w fun e w' => e = .returned (.int .i64 n) ∧ w = w' := by
  have h0 := h.c0
  have h8 := h.le8
  clear h
  go_enter Try.func33, Try.ntmps33
  go_wp2
  go_ret
  exact ⟨rfl, rfl⟩
end Go.Proofs.Ytpbaebjohioijaa.Lat
