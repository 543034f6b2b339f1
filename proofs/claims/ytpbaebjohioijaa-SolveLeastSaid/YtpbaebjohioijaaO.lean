import Derived.Test.YtpbaebjohioijaaK
import Derived.Laws.BitsAllLaws
namespace Go.Proofs.Ytpbaebjohioijaa.Lat
open Go.RowKit Go.Proofs.YtpbaebjohioijaaW.PrintWords
set_option linter.unusedVariables false
set_option linter.unusedSimpArgs false

/-! ### right, extreme, all in words of the order -/
theorem code_zero {n : Int} {es : List (Int × Int)} (h : codeM n es = 0) : ∃ m : Nat, n = m ∧ 0 < m ∧ m ≤ 8 ∧ badE m es = false ∧ rightb m (closE m es).1 (closE m es).2 = true := by
  unfold codeM at h
  split at h
  · cases h
  · rename_i h1
    split at h
    · cases h
    · rename_i h2
      split at h
      · rename_i h3
        obtain ⟨m, rfl⟩ := Int.eq_ofNat_of_zero_le (show 0 ≤ n by omega)
        exact ⟨m, rfl, by omega, by omega, by simpa using h2, h3⟩
      · cases h
theorem ext_is {n : Nat} (hn : n ≤ 8) {us : List Int} {U : Nat → Nat → Bool} (h : Mk n us U) (o : Nat → Bool) :
    (∃ l : Nat, l < n ∧ ext (mask n o : Nat) us = ((l : Int), true) ∧ o l = true ∧ ∀ i < n, o i = true → U l i = true) ∨ (ext (mask n o : Nat) us = (0, false) ∧ ¬ ∃ l < n, o l = true ∧ ∀ i < n, o i = true → U l i = true) := by
  unfold ext
  cases hf : (List.range us.length).find? (exP (mask n o : Nat) us) with
  | some l =>
    rw [List.find?_range_eq_some] at hf
    obtain ⟨h1, h2, h3⟩ := hf
    rw [h.len, List.mem_range] at h2
    rw [exP_mask hn h o h2, Bool.and_eq_true, decide_eq_true_iff] at h1
    exact .inl ⟨l, h2, rfl, h1.1, h1.2⟩
  | none =>
    refine .inr ⟨rfl, ?_⟩
    rintro ⟨l, hl, h1, h2⟩
    rw [List.find?_eq_none] at hf
    apply hf l (by rw [h.len]; exact List.mem_range.2 hl)
    rw [exP_mask hn h o hl, Bool.and_eq_true, decide_eq_true_iff]
    exact ⟨h1, h2⟩
theorem ext_ok {n : Nat} (hn : n ≤ 8) {us : List Int} {U : Nat → Nat → Bool} (h : Mk n us U) (o : Nat → Bool) : (ext (mask n o : Nat) us).2 = true ↔ ∃ l < n, o l = true ∧ ∀ i < n, o i = true → U l i = true := by
  rcases ext_is hn h o with ⟨l, hl, e, h1, h2⟩ | ⟨e, h1⟩
  · rw [e]
    exact ⟨fun _ => ⟨l, hl, h1, h2⟩, fun _ => rfl⟩
  · rw [e]
    exact ⟨fun h => (by cases h), fun h => absurd h h1⟩
theorem okP_is {n : Nat} (hn : n ≤ 8) {us ds : List Int} {U V : Nat → Nat → Bool} (h : Mk n us U) (k : Mk n ds V) {a b : Nat} (ha : a < n) (hb : b < n) :
    okP us ds a b = true ↔ (a ≠ b → ¬ (U a b = true ∧ V a b = true)) ∧ (∃ l < n, (U a l && U b l) = true ∧ ∀ i < n, (U a i && U b i) = true → U l i = true) ∧ (∃ l < n, (V a l && V b l) = true ∧ ∀ i < n, (V a i && V b i) = true → V l i = true) := by
  rw [okP, Bool.and_eq_true, Bool.and_eq_true, badP, h.at_ a ha, h.at_ b hb, k.at_ a ha, k.at_ b hb, mask_and hn, mask_and hn, mask_and hn, ext_ok hn h, ext_ok hn k]
  have : (Go.bits .and .u64 (mask n (fun i => U a i && V a i) : Nat) (2 ^ b) != 0) = (U a b && V a b) := by
    have := hasb_mask hn (fun i => U a i && V a i) hb
    rw [hasb, Int.toNat_natCast] at this
    exact this
  rw [this]
  constructor
  · rintro ⟨h1, h2, h3⟩
    refine ⟨fun hne hh => ?_, h2, h3⟩
    simp [hne, hh.1, hh.2] at h1
  · rintro ⟨h1, h2, h3⟩
    refine ⟨?_, h2, h3⟩
    by_cases e : a = b
    · simp [e]
    · have := h1 e
      rw [Bool.not_eq_true', ← Bool.not_eq_true, Bool.and_eq_true, Bool.and_eq_true]
      rintro ⟨_, hh⟩
      exact this hh
theorem rightb_is {n : Nat} {us ds : List Int} : rightb n us ds = true ↔ ∀ a < n, ∀ b < n, okP us ds a b = true := by
  rw [rightb, List.all_eq_true]
  constructor
  · intro h a ha b hb
    have := h a (List.mem_range.2 ha)
    rw [List.all_eq_true] at this
    exact this b (List.mem_range.2 hb)
  · intro h a ha
    rw [List.all_eq_true]
    intro b hb
    exact h a (List.mem_range.1 ha) b (List.mem_range.1 hb)
theorem lat_of {n : Nat} (hn : n ≤ 8) {us ds : List Int} {le : Nat → Nat → Bool} (h : Mk n us le) (k : Mk n ds (fun a b => le b a)) (hr : ∀ a < n, le a a = true) (ht : ∀ a b c, a < n → b < n → c < n → le a b = true → le b c = true → le a c = true) (hR : rightb n us ds = true) : Lat n le := by
  rw [rightb_is] at hR
  have hok := fun a b (ha : a < n) (hb : b < n) => (okP_is hn h k ha hb).1 (hR a ha b hb)
  refine ⟨hr, ht, fun a b ha hb h1 h2 => ?_, fun a b ha hb => ?_, fun a b ha hb => ?_⟩
  · apply Classical.byContradiction
    intro hne
    exact (hok a b ha hb).1 hne ⟨h1, h2⟩
  · obtain ⟨l, hl, h1, h2⟩ := (hok a b ha hb).2.1
    rw [Bool.and_eq_true] at h1
    exact ⟨l, hl, h1.1, h1.2, fun i hi ha hb => h2 i hi (by simp [ha, hb])⟩
  · obtain ⟨l, hl, h1, h2⟩ := (hok a b ha hb).2.2
    rw [Bool.and_eq_true] at h1
    exact ⟨l, hl, h1.1, h1.2, fun i hi ha hb => h2 i hi (by simp [ha, hb])⟩
theorem lat_clos {m : Nat} (hm : m ≤ 8) {es : List (Int × Int)} (hb : badE m es = false) (hR : rightb m (closE m es).1 (closE m es).2 = true) : Lat m (rch m (natE es)) := by
  obtain ⟨h1, h2⟩ := clos_Mk hm hb
  have hok := natE_ok hb
  exact lat_of hm h1 h2 (fun a _ => rch_refl _ a) (fun a b c _ _ hc h3 h4 => rch_trans hok hc h3 h4) hR

/-! ### all -/
/-- Those of the list that are levels. -/
def inr (n : Nat) (list : List Int) : List Nat := (list.filter (lev n)).map Int.toNat
theorem inr_lt {n : Nat} {list : List Int} : ∀ l ∈ inr n list, l < n := by
  intro l hl
  rw [inr, List.mem_map] at hl
  obtain ⟨x, hx, rfl⟩ := hl
  rw [List.mem_filter] at hx
  have := hx.2
  simp [lev] at this
  omega
theorem fold_all {n : Nat} (hn : n ≤ 8) {us : List Int} {U : Nat → Nat → Bool} (h : Mk n us U) (list : List Int) : ∀ o : Nat → Bool, list.foldl (allStep n us) (mask n o : Nat) = ((mask n (fun i => o i && (inr n list).all (fun l => U l i)) : Nat) : Int) := by
  induction list with
  | nil => intro o; simp [inr]
  | cons l list ih =>
    intro o
    rw [List.foldl_cons]
    by_cases hl : lev n l = true
    · have hl2 : 0 ≤ l ∧ l < n := by simpa [lev] using hl
      obtain ⟨l, rfl⟩ := Int.eq_ofNat_of_zero_le hl2.1
      have e : allStep n us (mask n o : Nat) (l : Nat) = ((mask n (fun i => o i && U l i) : Nat) : Int) := by
        rw [allStep, if_pos hl, h.at_ l (by omega), mask_and hn]
      rw [e, ih]
      congr 1
      apply mask_ext
      intro i hi
      simp [inr, List.filter_cons, hl, Bool.and_assoc]
    · have e : allStep n us (mask n o : Nat) l = (mask n o : Nat) := by rw [allStep, if_neg hl]
      rw [e, ih]
      congr 1
      apply mask_ext
      intro i hi
      simp [inr, List.filter_cons, hl]
theorem allM_lub {n : Nat} (hn : n ≤ 8) (h0 : 0 < n) {us : List Int} {le : Nat → Nat → Bool} (h : Mk n us le) (hL : Lat n le) (list : List Int) : ∃ j, IsLub n le (inr n list) j ∧ allM n us list = (j : Nat) := by
  obtain ⟨j, hj⟩ := lub_any hL h0 (inr n list) inr_lt
  refine ⟨j, hj, ?_⟩
  rw [allM, mask_top, fold_all hn h list]
  rcases ext_is hn h (fun i => true && (inr n list).all (fun l => le l i)) with ⟨l, hl, e, h1, h2⟩ | ⟨e, h1⟩
  · rw [e]
    have : IsLub n le (inr n list) l := ⟨hl, by simpa [List.all_eq_true] using h1, fun i hi hu => h2 i hi (by simpa [List.all_eq_true] using hu)⟩
    rw [IsLub.unique hL hj this]
  · exfalso
    apply h1
    exact ⟨j, hj.lt, by simpa [List.all_eq_true] using hj.up, fun i hi hu => hj.least i hi (by simpa [List.all_eq_true] using hu)⟩
theorem inr_two {n a b : Nat} (ha : a < n) (hb : b < n) : inr n [(a : Int), (b : Int)] = [a, b] := by
  simp [inr, lev, ha, hb]

/-! ### Joins and meets of two -/
structure IsJ (n : Nat) (le : Nat → Nat → Bool) (a b j : Nat) : Prop where
  lt : j < n
  l : le a j = true
  r : le b j = true
  least : ∀ i < n, le a i = true → le b i = true → le j i = true
theorem all_two {n : Nat} (hn : n ≤ 8) {us : List Int} {le : Nat → Nat → Bool} (h : Mk n us le) (hL : Lat n le) {a b : Nat} (ha : a < n) (hb : b < n) : ∃ j, IsJ n le a b j ∧ allM n us [(a : Int), (b : Int)] = (j : Nat) := by
  obtain ⟨j, hj, e⟩ := allM_lub hn (by omega) h hL [(a : Int), (b : Int)]
  rw [inr_two ha hb] at hj
  exact ⟨j, ⟨hj.lt, hj.up a (by simp), hj.up b (by simp), fun i hi h1 h2 => hj.least i hi (by intro l hl; simp at hl; rcases hl with rfl | rfl <;> assumption)⟩, e⟩
theorem IsJ.unique {n : Nat} {le : Nat → Nat → Bool} (hL : Lat n le) {a b c d j k : Nat} (h : IsJ n le a b j) (hk : IsJ n le c d k) (h1 : le c j = true) (h2 : le d j = true) (h3 : le a k = true) (h4 : le b k = true) : j = k :=
  hL.anti j k h.lt hk.lt (h.least k hk.lt h3 h4) (hk.least j h.lt h1 h2)
theorem IsJ.comm {n : Nat} {le : Nat → Nat → Bool} {a b j : Nat} (h : IsJ n le a b j) : IsJ n le b a j := ⟨h.lt, h.r, h.l, fun i hi h1 h2 => h.least i hi h2 h1⟩
theorem allM_nat {n : Nat} (hn : n ≤ 8) {us : List Int} {le : Nat → Nat → Bool} (h : Mk n us le) (hL : Lat n le) {a b j : Nat} (ha : a < n) (hb : b < n) (hj : IsJ n le a b j) : allM n us [(a : Int), (b : Int)] = (j : Nat) := by
  obtain ⟨k, hk, e⟩ := all_two hn h hL ha hb
  rw [e, IsJ.unique hL hj hk hj.l hj.r hk.l hk.r]
theorem most_is {n : Nat} (hn : n ≤ 8) {us : List Int} {le : Nat → Nat → Bool} (h : Mk n us le) {a b : Nat} (ha : a < n) (hb : b < n) : mostM n us a b = le a b := by
  have h1 : lev n a = true := by simp [lev, ha]
  have h2 : lev n b = true := by simp [lev, hb]
  rw [mostM, h1, h2, h.at_ a ha, hasb_mask hn _ hb]
  rfl
theorem J_eq {n : Nat} {le : Nat → Nat → Bool} (hL : Lat n le) {a b j : Nat} (ha : a < n) (hb : b < n) (hj : IsJ n le a b j) : ((j : Int) == (b : Int)) = le a b := by
  rw [Bool.eq_iff_iff, beq_iff_eq]
  constructor
  · intro h
    obtain rfl : j = b := by omega
    exact hj.l
  · intro h
    rw [hL.anti j b hj.lt hb (hj.least b hb h (hL.refl b hb)) hj.r]
theorem J_assoc {n : Nat} {le : Nat → Nat → Bool} (hL : Lat n le) {a b c ab bc abc : Nat} (ha : a < n) (hb : b < n) (hc : c < n) (h1 : IsJ n le a b ab) (h2 : IsJ n le b c bc) (h3 : IsJ n le a bc abc) : IsJ n le ab c abc :=
  ⟨h3.lt, h1.least abc h3.lt h3.l (hL.trans b bc abc hb h2.lt h3.lt h2.l h3.r), hL.trans c bc abc hc h2.lt h3.lt h2.r h3.r, fun i hi k1 k2 => h3.least i hi (hL.trans a ab i ha h1.lt hi h1.l k1) (h2.least i hi (hL.trans b ab i hb h1.lt hi h1.r k1) k2)⟩
theorem J_take {n : Nat} {le : Nat → Nat → Bool} (hL : Lat n le) {a b j : Nat} (ha : a < n) (hj : IsJ n (fun a b => le b a) a b j) : IsJ n le a j a :=
  ⟨ha, hL.refl a ha, hj.l, fun i hi h1 h2 => h1⟩

/-- What LatticeAlgebra asks. -/
structure AlgF (n : Nat) (us ds : List Int) (a b c ab bc abc mab mbc mabc bot top : Int) (t : Bool) : Prop where
  j1 : allM n us [a, b] = ab
  j2 : allM n us [b, a] = ab
  m1 : allM n ds [a, b] = mab
  m2 : allM n ds [b, a] = mab
  j3 : allM n us [b, c] = bc
  j4 : allM n us [a, bc] = abc
  j5 : allM n us [ab, c] = abc
  m3 : allM n ds [b, c] = mbc
  m4 : allM n ds [a, mbc] = mabc
  m5 : allM n ds [mab, c] = mabc
  j6 : allM n us [a, mab] = a
  m6 : allM n ds [a, ab] = a
  o1 : mostM n us a b = t
  o2 : (ab == b) = t
  o3 : (mab == a) = t
  b1 : allM n us [] = bot
  b2 : mostM n us bot a = true
  t1 : allM n ds [] = top
  t2 : mostM n us a top = true
theorem alg {n : Nat} (hn : n ≤ 8) {us ds : List Int} {le : Nat → Nat → Bool} (h : Mk n us le) (k : Mk n ds (fun a b => le b a)) (hL : Lat n le) {a b c : Nat} (ha : a < n) (hb : b < n) (hc : c < n) : ∃ ab bc abc mab mbc mabc bot top t, AlgF n us ds a b c ab bc abc mab mbc mabc bot top t := by
  obtain ⟨ab, h1, e1⟩ := all_two hn h hL ha hb
  obtain ⟨bc, h2, e2⟩ := all_two hn h hL hb hc
  obtain ⟨abc, h3, e3⟩ := all_two hn h hL ha h2.lt
  obtain ⟨mab, k1, f1⟩ := all_two hn k hL.flip ha hb
  obtain ⟨mbc, k2, f2⟩ := all_two hn k hL.flip hb hc
  obtain ⟨mabc, k3, f3⟩ := all_two hn k hL.flip ha k2.lt
  obtain ⟨bot, hbot, eb⟩ := allM_lub hn (by omega) h hL []
  obtain ⟨top, htop, et⟩ := allM_lub hn (by omega) k hL.flip []
  refine ⟨ab, bc, abc, mab, mbc, mabc, bot, top, le a b, e1, allM_nat hn h hL hb ha h1.comm, f1, allM_nat hn k hL.flip hb ha k1.comm, e2, e3, allM_nat hn h hL h1.lt hc (J_assoc hL ha hb hc h1 h2 h3), f2, f3, allM_nat hn k hL.flip k1.lt hc (J_assoc hL.flip ha hb hc k1 k2 k3), allM_nat hn h hL ha k1.lt (J_take hL ha k1), allM_nat hn k hL.flip ha h1.lt (J_take hL.flip ha h1), most_is hn h ha hb, J_eq hL ha hb h1, J_eq hL.flip hb ha k1.comm, eb, ?_, et, ?_⟩
  · rw [most_is hn h hbot.lt ha]
    exact hbot.least a ha (by simp [inr])
  · rw [most_is hn h ha htop.lt]
    exact htop.least a ha (by simp [inr])
end Go.Proofs.Ytpbaebjohioijaa.Lat
namespace Go.Proofs.Ytpbaebjohioijaa.Lat
open Go.RowKit Go.Proofs.YtpbaebjohioijaaW.PrintWords
set_option linter.unusedVariables false
set_option linter.unusedSimpArgs false

/-! ### The chain -/
theorem mask_andNot {n : Nat} (hn : n ≤ 8) (p q : Nat → Bool) : Go.bits .andNot .u64 (mask n p : Nat) (mask n q : Nat) = ((mask n (fun i => p i && !q i) : Nat) : Int) := by
  have e : Go.bits .andNot .u64 (mask n p : Nat) (mask n q : Nat) = ((BitVec.ofNat 64 (mask n p) &&& ~~~ BitVec.ofNat 64 (mask n q)).toNat : Nat) := by
    unfold Go.bits
    rw [IntKind.wrap_u64]
    have h1 : BitVec.ofInt 64 (mask n p : Nat) = BitVec.ofNat 64 (mask n p) := by simp
    have h2 : BitVec.ofInt 64 (mask n q : Nat) = BitVec.ofNat 64 (mask n q) := by simp
    show ((BitVec.ofInt 64 (mask n p : Nat) &&& ~~~ BitVec.ofInt 64 (mask n q : Nat)).toNat : Int) % 18446744073709551616 = _
    rw [h1, h2]
    have := (BitVec.ofNat 64 (mask n p) &&& ~~~ BitVec.ofNat 64 (mask n q)).isLt
    omega
  rw [e]
  congr 1
  apply Nat.eq_of_testBit_eq
  intro i
  rw [mask_bit, BitVec.testBit_toNat, BitVec.getLsbD_and, BitVec.getLsbD_not, BitVec.getLsbD_ofNat, BitVec.getLsbD_ofNat, mask_bit, mask_bit]
  by_cases hi : i < n
  · have : i < 64 := by omega
    simp [hi, this]
  · simp [hi]
theorem chP_is {n : Nat} (hn : n ≤ 8) {ds : List Int} {V : Nat → Nat → Bool} (k : Mk n ds V) (S : Nat → Bool) {l : Nat} (hl : l < n) : chP ds (mask n S : Nat) l = true ↔ S l = false ∧ ∀ b < n, V l b = true → b ≠ l → S b = true := by
  rw [chP, hasb_mask hn S hl, k.at_ l hl, mask_one hl, mask_andNot hn, mask_andNot hn, Bool.and_eq_true, Bool.not_eq_true', beq_iff_eq]
  have : (((mask n (fun i => (V l i && !decide (i = l)) && !S i) : Nat) : Int) = 0) ↔ ∀ b < n, V l b = true → b ≠ l → S b = true := by
    constructor
    · intro h b hb h1 h2
      have h0 : mask n (fun i => (V l i && !decide (i = l)) && !S i) = 0 := by omega
      have := mask_zero.1 h0 b hb
      simpa [h1, h2] using this
    · intro h
      have : mask n (fun i => (V l i && !decide (i = l)) && !S i) = 0 := by
        rw [mask_zero]
        intro b hb
        cases h1 : V l b with
        | false => simp
        | true =>
          by_cases h2 : b = l
          · simp [h2]
          · simp [h b hb h1 h2]
      omega
  rw [this]
theorem down_least {n : Nat} {le : Nat → Nat → Bool} (hL : Lat n le) (S : Nat → Bool) : ∀ (m x : Nat), x < n → S x = false → (List.range n).countP (fun b => le b x) ≤ m → ∃ l < n, S l = false ∧ ∀ b < n, le b l = true → b ≠ l → S b = true := by
  intro m
  induction m with
  | zero =>
    intro x hx hS hc
    have : 0 < (List.range n).countP (fun b => le b x) := List.countP_pos_iff.2 ⟨x, List.mem_range.2 hx, hL.refl x hx⟩
    omega
  | succ m ih =>
    intro x hx hS hc
    by_cases h : ∀ b < n, le b x = true → b ≠ x → S b = true
    · exact ⟨x, hx, hS, h⟩
    · have : ∃ b, b < n ∧ le b x = true ∧ b ≠ x ∧ S b = false := by
        apply Classical.byContradiction
        intro hno
        apply h
        intro b hb h1 h2
        cases h3 : S b with
        | true => rfl
        | false => exact absurd ⟨b, hb, h1, h2, h3⟩ hno
      obtain ⟨b, hb, h1, h2, h3⟩ := this
      have hlt : (List.range n).countP (fun c => le c b) < (List.range n).countP (fun c => le c x) := countP_lt (fun c hc h => hL.trans c b x (List.mem_range.1 hc) hb hx h h1) ⟨x, List.mem_range.2 hx, hL.refl x hx, by
        cases h4 : le x b with
        | false => rfl
        | true => exact absurd (hL.anti b x hb hx h1 h4) h2⟩
      exact ih b hb h3 (by omega)
theorem next_some {n : Nat} (hn : n ≤ 8) {ds : List Int} {le : Nat → Nat → Bool} (k : Mk n ds (fun a b => le b a)) (hL : Lat n le) (S : Nat → Bool) (hS : ∃ x < n, S x = false) : ∃ l, nextl n ds (mask n S : Nat) = some l := by
  obtain ⟨x, hx, h0⟩ := hS
  obtain ⟨l, hl, h1, h2⟩ := down_least hL S _ x hx h0 (Nat.le_refl _)
  cases h : nextl n ds (mask n S : Nat) with
  | some l => exact ⟨l, rfl⟩
  | none =>
    rw [nextl, List.find?_eq_none] at h
    exact absurd ((chP_is hn k S hl).2 ⟨h1, h2⟩) (h l (List.mem_range.2 hl))
theorem or_one {n : Nat} (hn : n ≤ 8) (S : Nat → Bool) {l : Nat} (hl : l < n) : Go.bits .or .u64 (mask n S : Nat) (2 ^ l) = ((mask n (fun i => S i || decide (i = l)) : Nat) : Int) := by
  rw [mask_one hl, mask_or hn]
theorem count_or {n : Nat} (S : Nat → Bool) (l : Nat) : (List.range n).countP (fun i => S i || decide (i = l)) ≤ (List.range n).countP S + 1 := by
  have h : ∀ L : List Nat, L.Nodup → L.countP (fun i => S i || decide (i = l)) ≤ L.countP S + (if l ∈ L then 1 else 0) := by
    intro L
    induction L with
    | nil => intro _; simp
    | cons a L ih =>
      intro hd
      rw [List.nodup_cons] at hd
      have := ih hd.2
      rw [List.countP_cons, List.countP_cons]
      by_cases e : a = l
      · subst e
        rw [if_neg hd.1] at this
        simp
        split <;> omega
      · have h2 : ¬ l = a := fun h => e h.symm
        simp [e, h2]
        omega
  have := h (List.range n) List.nodup_range
  split at this <;> omega
theorem chain_some {n : Nat} (hn : n ≤ 8) {ds : List Int} {le : Nat → Nat → Bool} (k : Mk n ds (fun a b => le b a)) (hL : Lat n le) : ∀ (m : Nat) (S : Nat → Bool), (List.range n).countP S + m ≤ n → ∃ ys, chainF n ds m (mask n S : Nat) = some ys ∧ (∀ y ∈ ys, S y.toNat = false) ∧ ys.Pairwise (fun x y => x ≠ y ∧ le y.toNat x.toNat = false) := by
  intro m
  induction m with
  | zero => intro S _; exact ⟨[], rfl, by simp, List.Pairwise.nil⟩
  | succ m ih =>
    intro S hc
    have hex : ∃ x < n, S x = false := by
      apply Classical.byContradiction
      intro hno
      have : (List.range n).countP S = (List.range n).length := by
        rw [List.countP_eq_length]
        intro x hx
        cases h : S x with
        | true => rfl
        | false => exact absurd ⟨x, List.mem_range.1 hx, h⟩ hno
      rw [List.length_range] at this
      omega
    obtain ⟨l, hl⟩ := next_some hn k hL S hex
    have hl' := hl
    rw [nextl, List.find?_range_eq_some] at hl'
    obtain ⟨h1, h2, _⟩ := hl'
    rw [List.mem_range] at h2
    obtain ⟨h3, h4⟩ := (chP_is hn k S h2).1 h1
    have hcn := count_or (n := n) S l
    obtain ⟨zs, e, z1, z2⟩ := ih (fun i => S i || decide (i = l)) (by omega)
    refine ⟨(l : Int) :: zs, ?_, ?_, ?_⟩
    · rw [chainF, hl]
      dsimp only
      rw [or_one hn S h2, e]
      rfl
    · intro y hy
      rcases List.mem_cons.1 hy with rfl | hy
      · exact h3
      · have := z1 y hy
        simp at this
        exact this.1
    · rw [List.pairwise_cons]
      refine ⟨fun y hy => ?_, z2⟩
      have hz := z1 y hy
      simp at hz
      obtain ⟨y0, y1⟩ := chainF_lt e y hy
      refine ⟨fun he => hz.2 (by omega), ?_⟩
      rw [Int.toNat_natCast]
      cases h5 : le y.toNat l with
      | false => rfl
      | true =>
        have := h4 y.toNat (by omega) h5 hz.2
        rw [this] at hz
        exact absurd hz.1 (by simp)
theorem chain_all {n : Nat} (hn : n ≤ 8) {ds : List Int} {le : Nat → Nat → Bool} (k : Mk n ds (fun a b => le b a)) (hL : Lat n le) : ∃ ys, chainF n ds n 0 = some ys ∧ ys.Pairwise (fun x y => x ≠ y ∧ le y.toNat x.toNat = false) := by
  have h0 : ((mask n (fun _ => false) : Nat) : Int) = 0 := by
    have : mask n (fun _ => false) = 0 := mask_zero.2 (fun _ _ => rfl)
    omega
  obtain ⟨ys, e, _, h⟩ := chain_some hn k hL n (fun _ => false) (by simp)
  rw [h0] at e
  exact ⟨ys, e, h⟩
end Go.Proofs.Ytpbaebjohioijaa.Lat
namespace Go.Proofs.Ytpbaebjohioijaa.Lat
open Go.RowKit Go.Proofs.YtpbaebjohioijaaW.PrintWords
set_option linter.unusedVariables false
set_option linter.unusedSimpArgs false

/-! ### What LatticeBelow sees -/
def seenE (S : Nat → Bool) (e : Nat × Nat) : Nat → Bool := if S e.1 then fun x => S x || x == e.2 else S
def seenN (es : List (Nat × Nat)) (S : Nat → Bool) : Nat → Nat → Bool
  | 0 => S
  | k + 1 => es.foldl seenE (seenN es S k)
theorem seenE_mono {S : Nat → Bool} {e : Nat × Nat} {x : Nat} (h : S x = true) : seenE S e x = true := by
  unfold seenE
  split
  · simp [h]
  · exact h
theorem seenF_mono {es : List (Nat × Nat)} : ∀ {S : Nat → Bool} {x : Nat}, S x = true → es.foldl seenE S x = true := by
  induction es with
  | nil => intro S x h; exact h
  | cons e es ih => intro S x h; exact ih (seenE_mono h)
theorem seenF_edge {es : List (Nat × Nat)} {a b : Nat} : ∀ {S : Nat → Bool}, (a, b) ∈ es → S a = true → es.foldl seenE S b = true := by
  induction es with
  | nil => intro S he; cases he
  | cons e es ih =>
    intro S he h
    rcases List.mem_cons.1 he with rfl | he
    · have h2 : seenE S (a, b) b = true := by simp [seenE, h]
      show es.foldl seenE (seenE S (a, b)) b = true
      exact seenF_mono h2
    · exact ih he (seenE_mono h)
theorem seenF_sound {n : Nat} {es fs : List (Nat × Nat)} {a : Nat} (hes : ∀ e ∈ es, e.1 < n ∧ e.2 < n) (hfs : ∀ e ∈ fs, e ∈ es) : ∀ {S : Nat → Bool}, (∀ x, S x = true → rch n es a x = true) → ∀ x, fs.foldl seenE S x = true → rch n es a x = true := by
  induction fs with
  | nil => intro S h; exact h
  | cons e fs ih =>
    intro S h
    refine ih (fun e he => hfs e (by simp [he])) (fun x hx => ?_)
    unfold seenE at hx
    split at hx
    · rename_i h1
      rw [Bool.or_eq_true, beq_iff_eq] at hx
      rcases hx with hx | rfl
      · exact h x hx
      · have he := hfs e (by simp)
        exact rch_trans hes (hes e he).2 (h _ h1) (rch_one hes he)
    · exact h x hx
theorem seenN_sound {n : Nat} {es : List (Nat × Nat)} {a : Nat} (hes : ∀ e ∈ es, e.1 < n ∧ e.2 < n) (k : Nat) : ∀ x, seenN es (fun x => x == a) k x = true → rch n es a x = true := by
  induction k with
  | zero => intro x h; simp [seenN] at h; rw [h]; exact rch_refl es a
  | succ k ih => exact seenF_sound hes (fun e he => he) ih
theorem seenN_all {es : List (Nat × Nat)} {a : Nat} (k : Nat) : ∀ x, iterS (swapE es) a k x = true → seenN es (fun x => x == a) k x = true := by
  induction k with
  | zero => intro x h; exact h
  | succ k ih =>
    intro x h
    rw [iterS, stepS_iff] at h
    rcases h with h | ⟨b, hb, h⟩
    · exact seenF_mono (ih x h)
    · exact seenF_edge (mem_swapE.1 hb) (ih b h)
theorem seen_is {n : Nat} {es : List (Nat × Nat)} (hes : ∀ e ∈ es, e.1 < n ∧ e.2 < n) {a x : Nat} (ha : a < n) (hx : x < n) : seenN es (fun x => x == a) n x = rch n es a x := by
  rw [Bool.eq_iff_iff]
  refine ⟨seenN_sound hes n x, fun h => seenN_all n x ?_⟩
  have := rch_swap hes ha hx
  rw [h] at this
  exact this
/-- The same over the edges as they come. -/
def seenI (S : Nat → Bool) (e : Int × Int) : Nat → Bool := seenE S (e.1.toNat, e.2.toNat)
theorem seenI_fold (es : List (Int × Int)) (S : Nat → Bool) : es.foldl seenI S = (natE es).foldl seenE S := by
  rw [natE, List.foldl_map]
  rfl

/-! ### The height's bounds -/
structure BD (n k : Nat) (rk : List Int) : Prop where
  len : rk.length = n
  bd : ∀ y ∈ rk, 0 ≤ y ∧ y ≤ k
theorem BD.at_ {n k : Nat} {rk : List Int} (h : BD n k rk) {i : Nat} (hi : i < n) : 0 ≤ rd rk i ∧ rd rk i ≤ k := h.bd _ (rd_mem (by rw [h.len]; exact hi))
theorem BD.set {n k k' : Nat} {rk : List Int} (h : BD n k rk) (i : Nat) {v : Int} (hk : k ≤ k') (hv : 0 ≤ v ∧ v ≤ k') : BD n k' (rk.set i v) :=
  ⟨by rw [List.length_set, h.len], fun y hy => by
    rcases List.mem_or_eq_of_mem_set hy with hy | rfl
    · have := h.bd y hy
      omega
    · exact hv⟩
theorem BD.hIn {n k : Nat} {ds rk : List Int} {l b : Nat} (h : BD n k rk) (hl : l < n) (hb : b < n) : BD n k (hIn ds l rk b) := by
  unfold Lat.hIn
  split
  · have h1 := h.at_ hl
    have h2 := h.at_ hb
    refine h.set _ (Nat.le_refl _) ?_
    unfold mx
    split <;> omega
  · exact h
theorem BD.hMid {n k : Nat} {ds rk : List Int} {l : Nat} (h : BD n k rk) (hl : l < n) : BD n k (hMid n ds l rk) := by
  have : ∀ (L : List Nat), (∀ b ∈ L, b < n) → ∀ rk, BD n k rk → BD n k (L.foldl (Lat.hIn ds l) rk) := by
    intro L
    induction L with
    | nil => intro _ rk h; exact h
    | cons b L ih => intro hL rk h; exact ih (fun b hb => hL b (by simp [hb])) _ (h.hIn hl (hL b (by simp)))
  exact this (List.range n) (fun b hb => List.mem_range.1 hb) rk h
theorem BD.hOut {n k : Nat} {ds rk : List Int} {l : Nat} (h : BD n k rk) (hl : l < n) : BD n (k + 1) (hOut n ds rk l) := by
  have h1 := h.hMid (ds := ds) hl
  have h2 := h1.at_ hl
  exact h1.set _ (by omega) ⟨by omega, by omega⟩
theorem BD.fold {n : Nat} {ds : List Int} : ∀ {xs : List Int}, (∀ y ∈ xs, 0 ≤ y ∧ y < n) → ∀ {k : Nat} {rk : List Int}, BD n k rk → BD n (k + xs.length) (xs.foldl (Lat.hOut n ds) rk) := by
  intro xs
  induction xs with
  | nil => intro _ k rk h; exact h
  | cons x xs ih =>
    intro hx k rk h
    obtain ⟨h0, h1⟩ := hx x (by simp)
    obtain ⟨x, rfl⟩ := Int.eq_ofNat_of_zero_le h0
    have := ih (fun y hy => hx y (by simp [hy])) (h.hOut (ds := ds) (l := x) (by omega))
    rw [List.length_cons, show k + (xs.length + 1) = k + 1 + xs.length from by omega]
    exact this
theorem maxN_le {xs : List Int} {B : Int} (h : ∀ y ∈ xs, y ≤ B) : ∀ j, j < xs.length → maxN xs j ≤ B := by
  intro j
  induction j with
  | zero => intro hj; exact h _ (rd_mem hj)
  | succ j ih =>
    intro hj
    have h1 := ih (by omega)
    have h2 := h _ (rd_mem hj)
    rw [maxN, mx]
    split <;> assumption
theorem le_maxN {xs : List Int} : ∀ j i, i ≤ j → rd xs (i : Nat) ≤ maxN xs j := by
  intro j
  induction j with
  | zero =>
    intro i hi
    obtain rfl : i = 0 := by omega
    exact Int.le_refl _
  | succ j ih =>
    intro i hi
    rw [maxN, mx]
    rcases Nat.lt_or_ge j i with h | h
    · obtain rfl : i = j + 1 := by omega
      split <;> omega
    · have := ih i h
      split <;> omega
theorem height_bd {n : Nat} (hn : 0 < n) {ds xs : List Int} (hx : ∀ y ∈ xs, 0 ≤ y ∧ y < n) (hl : xs.length = n) : 1 ≤ heightM n ds xs ∧ heightM n ds xs ≤ n := by
  have h0 : BD n 0 (List.replicate n (0 : Int)) := ⟨by simp, fun y hy => by rw [(List.mem_replicate.1 hy).2]; decide⟩
  have hB := BD.fold (ds := ds) hx h0
  rw [hl, Nat.zero_add] at hB
  have hlen : (ranks n ds xs).length = n := hB.len
  constructor
  · obtain ⟨ys, l, rfl⟩ : ∃ ys l, xs = ys ++ [l] := ⟨xs.dropLast, xs.getLast (by intro h; simp [h] at hl; omega), (List.dropLast_concat_getLast _).symm⟩
    obtain ⟨l0, l1⟩ := hx l (by simp)
    obtain ⟨l, rfl⟩ := Int.eq_ofNat_of_zero_le l0
    have hY := BD.fold (ds := ds) (xs := ys) (fun y hy => hx y (by simp [hy])) h0
    have hM := hY.hMid (ds := ds) (l := l) (by omega)
    have e : ranks n ds (ys ++ [(l : Int)]) = (hMid n ds l (ys.foldl (hOut n ds) (List.replicate n 0))).set l (rd (hMid n ds l (ys.foldl (hOut n ds) (List.replicate n 0))) l + 1) := by
      rw [ranks, List.foldl_append]
      rfl
    have h1 := hM.at_ (i := l) (by omega)
    have h2 : rd (ranks n ds (ys ++ [(l : Int)])) l = rd (hMid n ds l (ys.foldl (hOut n ds) (List.replicate n 0))) l + 1 := by
      rw [e, rd_set (by rw [hM.len]; omega), if_pos rfl]
    have h3 := le_maxN (xs := ranks n ds (ys ++ [(l : Int)])) ((ranks n ds (ys ++ [(l : Int)])).length - 1) l (by rw [hlen]; omega)
    rw [heightM, maxM]
    omega
  · rw [heightM, maxM]
    exact maxN_le (xs := ranks n ds xs) (fun y hy => (hB.bd y hy).2) _ (by rw [hlen]; omega)
end Go.Proofs.Ytpbaebjohioijaa.Lat
