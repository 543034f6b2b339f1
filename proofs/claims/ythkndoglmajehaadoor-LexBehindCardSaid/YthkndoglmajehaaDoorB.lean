import Derived.Test.YthkndoglmajehaaDoorA
import Derived.Test.YthkndoglmajehaaDoorShelf
import Derived.Test.YthkndoglmajehaaDoorFoot
import Derived.Shelf.Strings.SlTrimAscii
import Derived.WalkSpells
import Derived.BigQuiet
namespace Go.Proofs.YthkndoglmajehaaDoor.Lex
open Go.RowKit Go.Proofs.YthkndoglmajehaaDoorW.PrintWords Go.Proofs.YthkndoglmajehaaDoorW.PrintLast Go.Proofs.YthkndoglmajehaaDoorW.PrintMore Go.Proofs.YthkndoglmajehaaDoor.PLexTokens
set_option linter.unusedVariables false
set_option linter.unusedSimpArgs false

/-- The library's own variable holds some number. -/
structure ML (w : World) : Prop where
  cell : ∃ m, w.cell? ⟨0, 0, none⟩ = some (.int .i64 m)
  pos : 0 < w.heap.size
theorem ML.below {w w' : World} {B : Nat} (h : ML w) (hb : Below B w w') (hB : 0 < B) (hs : w.heap.size ≤ w'.heap.size) : ML w' := by
  obtain ⟨m, hm⟩ := h.cell
  exact ⟨⟨m, (hb.cell (p := ⟨0, 0, none⟩) hB).trans hm⟩, Nat.lt_of_lt_of_le h.pos hs⟩
theorem ML.next {w w' : World} (h : ML w) (hb : Below w.heap.size w w') : ML w' := h.below hb h.pos hb.size
def str (l : List UInt8) : ByteArray := ⟨l.toArray⟩
theorem str_data (s : ByteArray) : str s.data.toList = s := by
  cases s with
  | mk a => simp only [str, Array.toArray_toList]
theorem data_str (l : List UInt8) : (str l).data.toList = l := rfl
theorem size_str (l : List UInt8) : (str l).size = l.length := by
  show l.toArray.size = l.length
  exact List.size_toArray
theorem size_list (s : ByteArray) : s.data.toList.length = s.size := by
  show s.data.toList.length = s.data.size
  exact Array.length_toList

/-! ### The library's -/
theorem trim_any (s cs : ByteArray) (w : World) (hs : s.size ≤ 9223372036854775807) (hcs : cs.size < 4294967281) (ha : cs.data.toList.all (fun b => decide (b.toNat < 128)) = true) :
    Calls Tryd.prog 18 #[.string s, .string cs] w fun e w' => e = .returned (.string (str (Lib.trimS s.data.toList cs.data.toList))) ∧ Below w.heap.size w w' :=
  Any.strings_Trim_laid Tryd.lays160 (by kernel_rfl) s cs w hs hcs (ascii_of_all ha)
theorem trimLeft_any (s cs : ByteArray) (w : World) (hcs : cs.size < 4294967281) (ha : cs.data.toList.all (fun b => decide (b.toNat < 128)) = true) :
    Calls Tryd.prog 36 #[.string s, .string cs] w fun e w' => e = .returned (.string (str (Lib.trimLeftS s.data.toList cs.data.toList))) ∧ Below w.heap.size w w' :=
  Any.strings_TrimLeft_laid Tryd.lays161 (by kernel_rfl) s cs w hcs (ascii_of_all ha)
theorem has_any (s sub : ByteArray) (w : World) (h : ML w) (hs : s.size < 4294967281) :
    Calls Tryd.prog 19 #[.string s, .string sub] w fun e w' => e = .returned (.bool (Lib.contains s.data.toList sub.data.toList)) ∧ w = w' := by
  obtain ⟨m, hm⟩ := h.cell
  exact (Tryd.strings_Contains s sub m w hs hm).mono fun _ _ h => ⟨h.1, h.2.symm⟩
theorem byte_any (s : ByteArray) (c : Int) (w : World) :
    Calls Tryd.prog 17 #[.string s, .int .u8 c] w fun e w' => e = .returned (.int .i64 (Lib.indexByte s.data.toList c.toNat.toUInt8)) ∧ w = w' :=
  (Tryd.strings_IndexByte s c w).mono fun _ _ h => ⟨h.1, h.2.symm⟩

/-! ### front -/
theorem front_any (s cs : ByteArray) (p : UInt8 → Bool) (w : World) (hs : s.size ≤ 1000000) (hcs : cs.size < 4294967281) (ha : cs.data.toList.all (fun b => decide (b.toNat < 128)) = true) (hp : ∀ c, cs.data.toList.contains c = p c) :
    Calls Tryd.prog 21 #[.string s, .string cs] w fun e w' => e = .returned (.int .i64 ((s.data.toList.takeWhile p).length : Nat)) ∧ Below w.heap.size w w' := by
  have h1 := trimLeft_len s.data.toList cs.data.toList p hp
  rw [size_list] at h1
  have HC := Aside0.mk (trimLeft_any s cs w hcs ha)
  obtain ⟨l, hl⟩ : ∃ l, Lib.trimLeftS s.data.toList cs.data.toList = l := ⟨_, rfl⟩
  rw [hl] at h1 HC
  have h2 : (str l).size = l.length := size_str l
  obtain ⟨t, ht⟩ : ∃ t, str l = t := ⟨_, rfl⟩
  rw [ht] at HC h2
  obtain ⟨n, hn⟩ : ∃ n, (s.data.toList.takeWhile p).length = n := ⟨_, rfl⟩
  rw [hn] at h1 ⊢
  have b1 : t.size ≤ s.size := by omega
  have HE := Aside0.mk (show (s.size : Int) - (t.size : Int) = (n : Int) by omega)
  clear h1 h2 hn hl ht ha hp hcs
  go_enter Tryd.func21, Tryd.ntmps21
  go_wp2_with (go_at_call 36; refine HC.out.mono ?_; rintro e w' ⟨rfl, hb⟩)
  go_ret
  exact ⟨by rw [← HE.out]; rfl, hb⟩

/-! ### Word -/
theorem word_any (s : ByteArray) (w : World) (hm : ML w) (hs : s.size ≤ 1000000) :
    Calls Tryd.prog 10 #[.string s] w fun e w' => e = .returned (.bool (isWord s.data.toList)) ∧ Below w.heap.size w w' := by
  have hw := word_is s.data.toList
  have HC := Aside0.mk (trim_any s ⟨#[97, 98, 99, 100, 101, 102, 103, 104, 105, 106, 107, 108, 109, 110, 111, 112, 113, 114, 115, 116, 117, 118, 119, 120, 121, 122]⟩ w (by omega) (by decide) (by decide))
  change Aside0 (Calls Tryd.prog 18 _ w fun e w' => e = .returned (.string (str (Lib.trimS s.data.toList letters))) ∧ Below w.heap.size w w') at HC
  obtain ⟨l, hl⟩ : ∃ l, Lib.trimS s.data.toList letters = l := ⟨_, rfl⟩
  rw [hl] at HC hw
  by_cases h0 : s.data.toList = []
  · have h1 : isWord s.data.toList = false := by rw [h0]; rfl
    have h2 : s.toList.isEmpty = true := by rw [Lib.toList_data, h0]; rfl
    have h3 : s.toList = [] := by rw [Lib.toList_data, h0]
    have h4 : (!s.toList.isEmpty) = false := by rw [h2]; rfl
    rw [h1]
    clear hl HC hw h0 h1
    go_enter Tryd.func10, Tryd.ntmps10
    go_wp2_with fail
    go_ret
    exact ⟨rfl, Below.refl _ _⟩
  · have h2 : s.toList.isEmpty = false := by rw [Lib.toList_data]; cases h : s.data.toList with
      | nil => exact absurd h h0
      | cons _ _ => rfl
    have h4 : (!s.toList.isEmpty) = true := by rw [h2]; rfl
    have h3 : ¬ s.toList = [] := by rw [Lib.toList_data]; exact h0
    rw [decide_eq_true h0, Bool.true_and] at hw
    obtain ⟨t, ht⟩ : ∃ t, str l = t := ⟨_, rfl⟩
    have hd : t.toList = l := by rw [← ht, Lib.toList_data, data_str]
    rw [ht] at HC
    by_cases e : l = []
    · rw [decide_eq_true e, Bool.true_and, words_spaced] at hw
      rw [e] at hd
      have e2 : t.toList.isEmpty = true := by rw [hd]; rfl
      obtain ⟨b, hb⟩ : ∃ b, isWord s.data.toList = b := ⟨_, rfl⟩
      rw [hb] at hw ⊢
      have HW := Aside0.mk hw
      clear hl hw hb h0 h3 ht e
      go_enter Tryd.func10, Tryd.ntmps10
      go_wp2_with fail
      refine HC.out.mono ?_
      rintro e w1 ⟨rfl, b1⟩
      have HM := Aside0.mk (hm.next b1)
      have B1 := Aside0.mk b1
      clear b1
      go_wp2_with fail
      refine (has_any _ _ _ HM.out (by decide +kernel)).mono ?_
      rintro e w2 ⟨rfl, rfl⟩
      go_wp2_with fail
      go_ret
      refine ⟨?_, B1.out⟩
      rw [← HW.out]
      show Ending.returned (Value.bool (Lib.contains _ _)) = _
      congr 3
    · have e2 : t.toList.isEmpty = false := by rw [hd]; cases l with
        | nil => exact absurd rfl e
        | cons _ _ => rfl
      rw [decide_eq_false e, Bool.false_and] at hw
      rw [← hw]
      rw [← hd] at e
      clear hl hw h0 h3 ht hd
      go_enter Tryd.func10, Tryd.ntmps10
      go_wp2_with fail
      refine HC.out.mono ?_
      rintro e w1 ⟨rfl, b1⟩
      have B1 := Aside0.mk b1
      clear b1
      go_wp2_with fail
      go_ret
      exact ⟨rfl, B1.out⟩
end Go.Proofs.YthkndoglmajehaaDoor.Lex
