import Derived.Test.YtdildjgkjmoihaaPLatchStepsx
import Derived.Test.YtdildjgkjmoihaaFoot
import Derived.WalkSpells
import Derived.StillTailTactics
import Derived.Laws.CopyOwn
namespace Go.Proofs.Ytdildjgkjmoihaa.Latch
open Go.RowKit Go.Proofs.YtdildjgkjmoihaaW.PrintWords Go.Proofs.YtdildjgkjmoihaaW.PrintLast Go.Proofs.YtdildjgkjmoihaaW.PrintMore Go.Proofs.Ytdildjgkjmoihaa.PLatchSteps
set_option linter.unusedVariables false
set_option linter.unusedSimpArgs false

/-- The table at block hb: its row lies at block ab. -/
structure TB (w : World) (hb ab : Nat) (xs : List Int) : Prop where
  hbk : w.heap[hb]? = some (.cells #[.slice (some ⟨ab, 0, none⟩) xs.length xs.length] 48 (0, 0))
  abk : w.heap[ab]? = some (.cells (nums .i64 xs).toArray 3 (0, 0))
  le8 : xs.length ≤ 8
theorem TB.c0 {w : World} {hb ab : Nat} {xs : List Int} (h : TB w hb ab xs) : w.cell? ⟨hb, 0, none⟩ = some (.slice (some ⟨ab, 0, none⟩) xs.length xs.length) := blk_cell h.hbk 0
theorem nums_get (xs : List Int) (i : Nat) (h : i < xs.length) : (nums .i64 xs).toArray[i]? = some (.int .i64 (rd xs i)) := by
  simp [nums, rd, List.getD_eq_getElem?_getD, h]
theorem TB.at_ {w : World} {hb ab : Nat} {xs : List Int} (h : TB w hb ab xs) (i : Int) (h0 : 0 ≤ i) (h1 : i < xs.length) : w.cell? ⟨ab, i.toNat, none⟩ = some (.int .i64 (rd xs i)) ∧ w.frozen? ⟨ab, i.toNat, none⟩ = false := by
  refine ⟨(blk_cell h.abk _).trans ?_, blk_frozen h.abk _⟩
  have := nums_get xs i.toNat (by omega)
  rwa [Int.toNat_of_nonneg h0] at this
theorem TB.below {w w' : World} {hb ab : Nat} {xs : List Int} (h : TB w hb ab xs) (hb' : Below w.heap.size w w') : TB w' hb ab xs := ⟨blk_below h.hbk hb', blk_below h.abk hb', h.le8⟩
theorem TB.ne {w : World} {hb ab : Nat} {xs : List Int} (h : TB w hb ab xs) : hb ≠ ab := blk_ne h.hbk h.abk (by decide)
theorem TB.put {w : World} {hb ab : Nat} {xs : List Int} (h : TB w hb ab xs) (i v : Int) : TB (w.setCell ⟨ab, i.toNat, none⟩ (.int .i64 v)) hb ab (xs.set i.toNat v) := by
  refine ⟨?_, ?_, by simpa using h.le8⟩
  · rw [List.length_set]
    exact blk_far h.hbk (p := ⟨ab, i.toNat, none⟩) h.ne _
  · have := blk_set h.abk i.toNat (.int .i64 v)
    rw [this]
    congr 2
    apply Array.ext'
    simp [nums, List.map_set]

/-! ### Holder -/
def holder (xs : List Int) (l : Int) : Int := if l < 0 then -1 else if (xs.length : Int) ≤ l then -1 else rd xs l
theorem holder_any {w : World} {hb ab : Nat} {xs : List Int} (h : TB w hb ab xs) (l : Int) :
    Calls Try.prog 15 #[.pointer (some ⟨hb, 0, none⟩), .int .i64 l] w fun e w' => e = .returned (.int .i64 (holder xs l)) ∧ w = w' := by
  have h0 := h.c0
  have hl8 := h.le8
  by_cases c1 : l < 0
  · rw [show holder xs l = -1 from by unfold holder; rw [if_pos c1]]
    go_enter Try.func15, Try.ntmps15
    go_wp2
    go_ret
    exact ⟨rfl, rfl⟩
  · by_cases c2 : (xs.length : Int) ≤ l
    · rw [show holder xs l = -1 from by unfold holder; rw [if_neg c1, if_pos c2]]
      go_enter Try.func15, Try.ntmps15
      go_wp2
      go_ret
      exact ⟨rfl, rfl⟩
    · rw [show holder xs l = rd xs l from by unfold holder; rw [if_neg c1, if_neg c2]]
      obtain ⟨k0, k1⟩ := h.at_ l (by omega) (by omega)
      have c3 : l < xs.length := by omega
      clear c2
      go_enter Try.func15, Try.ntmps15
      go_wp2
      go_ret
      exact ⟨by simp, rfl⟩

/-! ### turn, Take, Drop -/
def turns (xs : List Int) (l a : Int) : Bool := decide (0 ≤ l) && (decide (l < xs.length) && rd xs l == a)
theorem turn_any {w : World} {hb ab : Nat} {xs : List Int} (h : TB w hb ab xs) (l a b : Int) :
    Calls Try.prog 24 #[.pointer (some ⟨hb, 0, none⟩), .int .i64 l, .int .i64 a, .int .i64 b] w fun e w' => e = .returned (.bool (turns xs l a)) ∧ w' = if turns xs l a then w.setCell ⟨ab, l.toNat, none⟩ (.int .i64 b) else w := by
  have h0 := h.c0
  have hl8 := h.le8
  by_cases c1 : 0 ≤ l
  · by_cases c2 : l < xs.length
    · obtain ⟨k0, k1⟩ := h.at_ l c1 c2
      obtain ⟨y, hy⟩ : ∃ y, rd xs l = y := ⟨_, rfl⟩
      rw [hy] at k0
      by_cases c3 : y = a
      · rw [show turns xs l a = true from by unfold turns; simp [c1, c2, hy, c3]]
        subst c3
        clear hy
        go_enter Try.func24, Try.ntmps24
        go_wp2
        go_ret
        exact ⟨rfl, by simp⟩
      · rw [show turns xs l a = false from by unfold turns; simp [hy, c3]]
        have c4 : (y == a) = false := beq_eq_false_iff_ne.2 c3
        clear hy c3
        go_enter Try.func24, Try.ntmps24
        go_wp2
        go_ret
        exact ⟨rfl, by simp⟩
    · rw [show turns xs l a = false from by unfold turns; simp; omega]
      go_enter Try.func24, Try.ntmps24
      go_wp2
      go_ret
      exact ⟨rfl, by simp⟩
  · rw [show turns xs l a = false from by unfold turns; simp; omega]
    go_enter Try.func24, Try.ntmps24
    go_wp2
    go_ret
    exact ⟨rfl, by simp⟩
end Go.Proofs.Ytdildjgkjmoihaa.Latch
