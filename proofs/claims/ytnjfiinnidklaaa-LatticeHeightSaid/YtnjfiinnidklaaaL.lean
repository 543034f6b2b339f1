import Derived.Test.YtnjfiinnidklaaaK
namespace Go.Proofs.Ytnjfiinnidklaaa.Lat
open Go.RowKit Go.Proofs.YtnjfiinnidklaaaW.PrintWords
set_option linter.unusedVariables false
set_option linter.unusedSimpArgs false

/-! ### right, extreme, all in words of the order -/
theorem code_zero {n : Int} {es : List (Int × Int)} (h : codeM n es = 0) : ∃ m : Nat, n = m ∧ 0 < m ∧ m ≤ 8 ∧ badE m es = false ∧ rightb m (closE m es).1 (closE m es).2 = true := by
  unfold codeM at h
  split at h
  · cases h
  · rename_i h1
    split at h
    · cases h
    · rename_i h2
      split at h
      · rename_i h3
        obtain ⟨m, rfl⟩ := Int.eq_ofNat_of_zero_le (show 0 ≤ n by omega)
        exact ⟨m, rfl, by omega, by omega, by simpa using h2, h3⟩
      · cases h
theorem ext_is {n : Nat} (hn : n ≤ 8) {us : List Int} {U : Nat → Nat → Bool} (h : Mk n us U) (o : Nat → Bool) :
    (∃ l : Nat, l < n ∧ ext (mask n o : Nat) us = ((l : Int), true) ∧ o l = true ∧ ∀ i < n, o i = true → U l i = true) ∨ (ext (mask n o : Nat) us = (0, false) ∧ ¬ ∃ l < n, o l = true ∧ ∀ i < n, o i = true → U l i = true) := by
  unfold ext
  cases hf : (List.range us.length).find? (exP (mask n o : Nat) us) with
  | some l =>
    rw [List.find?_range_eq_some] at hf
    obtain ⟨h1, h2, h3⟩ := hf
    rw [h.len, List.mem_range] at h2
    rw [exP_mask hn h o h2, Bool.and_eq_true, decide_eq_true_iff] at h1
    exact .inl ⟨l, h2, rfl, h1.1, h1.2⟩
  | none =>
    refine .inr ⟨rfl, ?_⟩
    rintro ⟨l, hl, h1, h2⟩
    rw [List.find?_eq_none] at hf
    apply hf l (by rw [h.len]; exact List.mem_range.2 hl)
    rw [exP_mask hn h o hl, Bool.and_eq_true, decide_eq_true_iff]
    exact ⟨h1, h2⟩
theorem ext_ok {n : Nat} (hn : n ≤ 8) {us : List Int} {U : Nat → Nat → Bool} (h : Mk n us U) (o : Nat → Bool) : (ext (mask n o : Nat) us).2 = true ↔ ∃ l < n, o l = true ∧ ∀ i < n, o i = true → U l i = true := by
  rcases ext_is hn h o with ⟨l, hl, e, h1, h2⟩ | ⟨e, h1⟩
  · rw [e]
    exact ⟨fun _ => ⟨l, hl, h1, h2⟩, fun _ => rfl⟩
  · rw [e]
    exact ⟨fun h => (by cases h), fun h => absurd h h1⟩
theorem okP_is {n : Nat} (hn : n ≤ 8) {us ds : List Int} {U V : Nat → Nat → Bool} (h : Mk n us U) (k : Mk n ds V) {a b : Nat} (ha : a < n) (hb : b < n) :
    okP us ds a b = true ↔ (a ≠ b → ¬ (U a b = true ∧ V a b = true)) ∧ (∃ l < n, (U a l && U b l) = true ∧ ∀ i < n, (U a i && U b i) = true → U l i = true) ∧ (∃ l < n, (V a l && V b l) = true ∧ ∀ i < n, (V a i && V b i) = true → V l i = true) := by
  rw [okP, Bool.and_eq_true, Bool.and_eq_true, badP, h.at_ a ha, h.at_ b hb, k.at_ a ha, k.at_ b hb, mask_and hn, mask_and hn, mask_and hn, ext_ok hn h, ext_ok hn k]
  have : (Go.bits .and .u64 (mask n (fun i => U a i && V a i) : Nat) (2 ^ b) != 0) = (U a b && V a b) := by
    have := hasb_mask hn (fun i => U a i && V a i) hb
    rw [hasb, Int.toNat_natCast] at this
    exact this
  rw [this]
  constructor
  · rintro ⟨h1, h2, h3⟩
    refine ⟨fun hne hh => ?_, h2, h3⟩
    simp [hne, hh.1, hh.2] at h1
  · rintro ⟨h1, h2, h3⟩
    refine ⟨?_, h2, h3⟩
    by_cases e : a = b
    · simp [e]
    · have := h1 e
      rw [Bool.not_eq_true', ← Bool.not_eq_true, Bool.and_eq_true, Bool.and_eq_true]
      rintro ⟨_, hh⟩
      exact this hh
theorem rightb_is {n : Nat} {us ds : List Int} : rightb n us ds = true ↔ ∀ a < n, ∀ b < n, okP us ds a b = true := by
  rw [rightb, List.all_eq_true]
  constructor
  · intro h a ha b hb
    have := h a (List.mem_range.2 ha)
    rw [List.all_eq_true] at this
    exact this b (List.mem_range.2 hb)
  · intro h a ha
    rw [List.all_eq_true]
    intro b hb
    exact h a (List.mem_range.1 ha) b (List.mem_range.1 hb)
theorem lat_of {n : Nat} (hn : n ≤ 8) {us ds : List Int} {le : Nat → Nat → Bool} (h : Mk n us le) (k : Mk n ds (fun a b => le b a)) (hr : ∀ a < n, le a a = true) (ht : ∀ a b c, a < n → b < n → c < n → le a b = true → le b c = true → le a c = true) (hR : rightb n us ds = true) : Lat n le := by
  rw [rightb_is] at hR
  have hok := fun a b (ha : a < n) (hb : b < n) => (okP_is hn h k ha hb).1 (hR a ha b hb)
  refine ⟨hr, ht, fun a b ha hb h1 h2 => ?_, fun a b ha hb => ?_, fun a b ha hb => ?_⟩
  · apply Classical.byContradiction
    intro hne
    exact (hok a b ha hb).1 hne ⟨h1, h2⟩
  · obtain ⟨l, hl, h1, h2⟩ := (hok a b ha hb).2.1
    rw [Bool.and_eq_true] at h1
    exact ⟨l, hl, h1.1, h1.2, fun i hi ha hb => h2 i hi (by simp [ha, hb])⟩
  · obtain ⟨l, hl, h1, h2⟩ := (hok a b ha hb).2.2
    rw [Bool.and_eq_true] at h1
    exact ⟨l, hl, h1.1, h1.2, fun i hi ha hb => h2 i hi (by simp [ha, hb])⟩
theorem lat_clos {m : Nat} (hm : m ≤ 8) {es : List (Int × Int)} (hb : badE m es = false) (hR : rightb m (closE m es).1 (closE m es).2 = true) : Lat m (rch m (natE es)) := by
  obtain ⟨h1, h2⟩ := clos_Mk hm hb
  have hok := natE_ok hb
  exact lat_of hm h1 h2 (fun a _ => rch_refl _ a) (fun a b c _ _ hc h3 h4 => rch_trans hok hc h3 h4) hR

/-! ### all -/
/-- Those of the list that are levels. -/
def inr (n : Nat) (list : List Int) : List Nat := (list.filter (lev n)).map Int.toNat
theorem inr_lt {n : Nat} {list : List Int} : ∀ l ∈ inr n list, l < n := by
  intro l hl
  rw [inr, List.mem_map] at hl
  obtain ⟨x, hx, rfl⟩ := hl
  rw [List.mem_filter] at hx
  have := hx.2
  simp [lev] at this
  omega
theorem fold_all {n : Nat} (hn : n ≤ 8) {us : List Int} {U : Nat → Nat → Bool} (h : Mk n us U) (list : List Int) : ∀ o : Nat → Bool, list.foldl (allStep n us) (mask n o : Nat) = ((mask n (fun i => o i && (inr n list).all (fun l => U l i)) : Nat) : Int) := by
  induction list with
  | nil => intro o; simp [inr]
  | cons l list ih =>
    intro o
    rw [List.foldl_cons]
    by_cases hl : lev n l = true
    · have hl2 : 0 ≤ l ∧ l < n := by simpa [lev] using hl
      obtain ⟨l, rfl⟩ := Int.eq_ofNat_of_zero_le hl2.1
      have e : allStep n us (mask n o : Nat) (l : Nat) = ((mask n (fun i => o i && U l i) : Nat) : Int) := by
        rw [allStep, if_pos hl, h.at_ l (by omega), mask_and hn]
      rw [e, ih]
      congr 1
      apply mask_ext
      intro i hi
      simp [inr, List.filter_cons, hl, Bool.and_assoc]
    · have e : allStep n us (mask n o : Nat) l = (mask n o : Nat) := by rw [allStep, if_neg hl]
      rw [e, ih]
      congr 1
      apply mask_ext
      intro i hi
      simp [inr, List.filter_cons, hl]
theorem allM_lub {n : Nat} (hn : n ≤ 8) (h0 : 0 < n) {us : List Int} {le : Nat → Nat → Bool} (h : Mk n us le) (hL : Lat n le) (list : List Int) : ∃ j, IsLub n le (inr n list) j ∧ allM n us list = (j : Nat) := by
  obtain ⟨j, hj⟩ := lub_any hL h0 (inr n list) inr_lt
  refine ⟨j, hj, ?_⟩
  rw [allM, mask_top, fold_all hn h list]
  rcases ext_is hn h (fun i => true && (inr n list).all (fun l => le l i)) with ⟨l, hl, e, h1, h2⟩ | ⟨e, h1⟩
  · rw [e]
    have : IsLub n le (inr n list) l := ⟨hl, by simpa [List.all_eq_true] using h1, fun i hi hu => h2 i hi (by simpa [List.all_eq_true] using hu)⟩
    rw [IsLub.unique hL hj this]
  · exfalso
    apply h1
    exact ⟨j, hj.lt, by simpa [List.all_eq_true] using hj.up, fun i hi hu => hj.least i hi (by simpa [List.all_eq_true] using hu)⟩
theorem inr_two {n a b : Nat} (ha : a < n) (hb : b < n) : inr n [(a : Int), (b : Int)] = [a, b] := by
  simp [inr, lev, ha, hb]

/-! ### Joins and meets of two -/
structure IsJ (n : Nat) (le : Nat → Nat → Bool) (a b j : Nat) : Prop where
  lt : j < n
  l : le a j = true
  r : le b j = true
  least : ∀ i < n, le a i = true → le b i = true → le j i = true
theorem all_two {n : Nat} (hn : n ≤ 8) {us : List Int} {le : Nat → Nat → Bool} (h : Mk n us le) (hL : Lat n le) {a b : Nat} (ha : a < n) (hb : b < n) : ∃ j, IsJ n le a b j ∧ allM n us [(a : Int), (b : Int)] = (j : Nat) := by
  obtain ⟨j, hj, e⟩ := allM_lub hn (by omega) h hL [(a : Int), (b : Int)]
  rw [inr_two ha hb] at hj
  exact ⟨j, ⟨hj.lt, hj.up a (by simp), hj.up b (by simp), fun i hi h1 h2 => hj.least i hi (by intro l hl; simp at hl; rcases hl with rfl | rfl <;> assumption)⟩, e⟩
theorem IsJ.unique {n : Nat} {le : Nat → Nat → Bool} (hL : Lat n le) {a b c d j k : Nat} (h : IsJ n le a b j) (hk : IsJ n le c d k) (h1 : le c j = true) (h2 : le d j = true) (h3 : le a k = true) (h4 : le b k = true) : j = k :=
  hL.anti j k h.lt hk.lt (h.least k hk.lt h3 h4) (hk.least j h.lt h1 h2)
theorem IsJ.comm {n : Nat} {le : Nat → Nat → Bool} {a b j : Nat} (h : IsJ n le a b j) : IsJ n le b a j := ⟨h.lt, h.r, h.l, fun i hi h1 h2 => h.least i hi h2 h1⟩
theorem allM_nat {n : Nat} (hn : n ≤ 8) {us : List Int} {le : Nat → Nat → Bool} (h : Mk n us le) (hL : Lat n le) {a b j : Nat} (ha : a < n) (hb : b < n) (hj : IsJ n le a b j) : allM n us [(a : Int), (b : Int)] = (j : Nat) := by
  obtain ⟨k, hk, e⟩ := all_two hn h hL ha hb
  rw [e, IsJ.unique hL hj hk hj.l hj.r hk.l hk.r]
theorem most_is {n : Nat} (hn : n ≤ 8) {us : List Int} {le : Nat → Nat → Bool} (h : Mk n us le) {a b : Nat} (ha : a < n) (hb : b < n) : mostM n us a b = le a b := by
  have h1 : lev n a = true := by simp [lev, ha]
  have h2 : lev n b = true := by simp [lev, hb]
  rw [mostM, h1, h2, h.at_ a ha, hasb_mask hn _ hb]
  rfl
theorem J_eq {n : Nat} {le : Nat → Nat → Bool} (hL : Lat n le) {a b j : Nat} (ha : a < n) (hb : b < n) (hj : IsJ n le a b j) : ((j : Int) == (b : Int)) = le a b := by
  rw [Bool.eq_iff_iff, beq_iff_eq]
  constructor
  · intro h
    obtain rfl : j = b := by omega
    exact hj.l
  · intro h
    rw [hL.anti j b hj.lt hb (hj.least b hb h (hL.refl b hb)) hj.r]
theorem J_assoc {n : Nat} {le : Nat → Nat → Bool} (hL : Lat n le) {a b c ab bc abc : Nat} (ha : a < n) (hb : b < n) (hc : c < n) (h1 : IsJ n le a b ab) (h2 : IsJ n le b c bc) (h3 : IsJ n le a bc abc) : IsJ n le ab c abc :=
  ⟨h3.lt, h1.least abc h3.lt h3.l (hL.trans b bc abc hb h2.lt h3.lt h2.l h3.r), hL.trans c bc abc hc h2.lt h3.lt h2.r h3.r, fun i hi k1 k2 => h3.least i hi (hL.trans a ab i ha h1.lt hi h1.l k1) (h2.least i hi (hL.trans b ab i hb h1.lt hi h1.r k1) k2)⟩
theorem J_take {n : Nat} {le : Nat → Nat → Bool} (hL : Lat n le) {a b j : Nat} (ha : a < n) (hj : IsJ n (fun a b => le b a) a b j) : IsJ n le a j a :=
  ⟨ha, hL.refl a ha, hj.l, fun i hi h1 h2 => h1⟩

/-- What LatticeAlgebra asks. -/
structure AlgF (n : Nat) (us ds : List Int) (a b c ab bc abc mab mbc mabc bot top : Int) (t : Bool) : Prop where
  j1 : allM n us [a, b] = ab
  j2 : allM n us [b, a] = ab
  m1 : allM n ds [a, b] = mab
  m2 : allM n ds [b, a] = mab
  j3 : allM n us [b, c] = bc
  j4 : allM n us [a, bc] = abc
  j5 : allM n us [ab, c] = abc
  m3 : allM n ds [b, c] = mbc
  m4 : allM n ds [a, mbc] = mabc
  m5 : allM n ds [mab, c] = mabc
  j6 : allM n us [a, mab] = a
  m6 : allM n ds [a, ab] = a
  o1 : mostM n us a b = t
  o2 : (ab == b) = t
  o3 : (mab == a) = t
  b1 : allM n us [] = bot
  b2 : mostM n us bot a = true
  t1 : allM n ds [] = top
  t2 : mostM n us a top = true
theorem alg {n : Nat} (hn : n ≤ 8) {us ds : List Int} {le : Nat → Nat → Bool} (h : Mk n us le) (k : Mk n ds (fun a b => le b a)) (hL : Lat n le) {a b c : Nat} (ha : a < n) (hb : b < n) (hc : c < n) : ∃ ab bc abc mab mbc mabc bot top t, AlgF n us ds a b c ab bc abc mab mbc mabc bot top t := by
  obtain ⟨ab, h1, e1⟩ := all_two hn h hL ha hb
  obtain ⟨bc, h2, e2⟩ := all_two hn h hL hb hc
  obtain ⟨abc, h3, e3⟩ := all_two hn h hL ha h2.lt
  obtain ⟨mab, k1, f1⟩ := all_two hn k hL.flip ha hb
  obtain ⟨mbc, k2, f2⟩ := all_two hn k hL.flip hb hc
  obtain ⟨mabc, k3, f3⟩ := all_two hn k hL.flip ha k2.lt
  obtain ⟨bot, hbot, eb⟩ := allM_lub hn (by omega) h hL []
  obtain ⟨top, htop, et⟩ := allM_lub hn (by omega) k hL.flip []
  refine ⟨ab, bc, abc, mab, mbc, mabc, bot, top, le a b, e1, allM_nat hn h hL hb ha h1.comm, f1, allM_nat hn k hL.flip hb ha k1.comm, e2, e3, allM_nat hn h hL h1.lt hc (J_assoc hL ha hb hc h1 h2 h3), f2, f3, allM_nat hn k hL.flip k1.lt hc (J_assoc hL.flip ha hb hc k1 k2 k3), allM_nat hn h hL ha k1.lt (J_take hL ha k1), allM_nat hn k hL.flip ha h1.lt (J_take hL.flip ha h1), most_is hn h ha hb, J_eq hL ha hb h1, J_eq hL.flip hb ha k1.comm, eb, ?_, et, ?_⟩
  · rw [most_is hn h hbot.lt ha]
    exact hbot.least a ha (by simp [inr])
  · rw [most_is hn h ha htop.lt]
    exact htop.least a ha (by simp [inr])
end Go.Proofs.Ytnjfiinnidklaaa.Lat
