import Derived.Test.YtpbaebjohioijaaY5
import Derived.Test.YtpbaebjohioijaaY3
import Derived.Test.YtpbaebjohioijaaS
namespace Go.Proofs.Ytpbaebjohioijaa.Lat
open Go.RowKit Go.Proofs.YtpbaebjohioijaaW.PrintWords Go.Proofs.YtpbaebjohioijaaW.PrintLast Go.Proofs.YtpbaebjohioijaaW.PrintMore Go.Proofs.Ytpbaebjohioijaa.PSolveLeast
set_option linter.unusedVariables false
set_option linter.unusedSimpArgs false

/-! ### The reference's order as rows of Booleans -/
def LL (n : Nat) (M : Nat → Nat → Bool) : List (List Bool) := (List.range n).map fun i => (List.range n).map (M i)
theorem LL_len (n : Nat) (M : Nat → Nat → Bool) : (LL n M).length = n := by simp [LL]
theorem LL_row {n : Nat} {M : Nat → Nat → Bool} {i : Nat} (h : i < n) : rd_L5 (LL n M) (i : Nat) = (List.range n).map (M i) := by
  simp [rd_L5, LL, List.getD_eq_getElem?_getD, h]
theorem row_len (n : Nat) (f : Nat → Bool) : ((List.range n).map f).length = n := by simp
theorem row_at {n : Nat} {f : Nat → Bool} {j : Nat} (h : j < n) : rdOf false ((List.range n).map f) (j : Nat) = f j := by
  simp [rdOf, List.getD_eq_getElem?_getD, h]
theorem wrap1 {i : Nat} (h : i < 1000000000) : wrap64 ((i : Int) + 1) = ((i + 1 : Nat) : Int) := by unfold wrap64; omega
/-- A list of levels. -/
structure Lv (n : Nat) (list : List Int) : Prop where
  lt : ∀ i < list.length, 0 ≤ rd list (i : Nat) ∧ rd list (i : Nat) < n
  len : list.length ≤ 1000000
def nat (list : List Int) (i : Nat) : Nat := (rd list (i : Nat)).toNat
def allF (M : Nat → Nat → Bool) (list : List Int) (c i : Nat) : Bool := (list.drop i).all fun l => M l.toNat c
theorem allF_step {M : Nat → Nat → Bool} {list : List Int} {c i : Nat} (h : i < list.length) : allF M list c i = (M (nat list i) c && allF M list c (i + 1)) := by
  have : list.drop i = rd list (i : Nat) :: list.drop (i + 1) := by
    rw [List.drop_eq_getElem_cons h]
    simp [rd, List.getD_eq_getElem?_getD, h]
  rw [allF, this, List.all_cons]
  rfl
theorem allF_end {M : Nat → Nat → Bool} {list : List Int} {c i : Nat} (h : list.length ≤ i) : allF M list c i = true := by
  rw [allF, List.drop_eq_nil_of_le h]
  rfl
section
set_option linter.unusedSectionVars false
variable {n : Nat} (hn : n ≤ 8) {M : Nat → Nat → Bool} {list : List Int} (hv : Lv n list)
include hn hv
theorem least_l1 {c : Nat} (hc : c < n) {r : Int} : ∀ (d i : Nat) (t : Bool), i + d = list.length → (∃ k, portcullisref01_Order_least.l2 k list c (t && allF M list c i) 0 (LL n M) = some r) → ∃ k, portcullisref01_Order_least.l1 k list c t i (LL n M) = some r := by
  intro d
  induction d with
  | zero =>
    rintro i t hi ⟨k, hk⟩
    refine ⟨k + 1, ?_⟩
    rw [portcullisref01_Order_least.l1, if_neg (by omega)]
    rw [allF_end (by omega), Bool.and_true] at hk
    exact hk
  | succ d ih =>
    rintro i t hi ⟨k, hk⟩
    have hil : i < list.length := by omega
    obtain ⟨h0, h1⟩ := hv.lt i hil
    have hl := hv.len
    have hx : rd list (i : Nat) = (nat list i : Nat) := by rw [nat, Int.toNat_of_nonneg h0]
    have hxn : nat list i < n := by omega
    rw [allF_step hil, ← Bool.and_assoc] at hk
    obtain ⟨k', hk'⟩ := ih (i + 1) (t && M (nat list i) c) (by omega) ⟨k, hk⟩
    refine ⟨k' + 1, ?_⟩
    rw [portcullisref01_Order_least.l1, if_pos (by omega), wrap1 (by omega)]
    cases t with
    | true =>
      rw [if_pos rfl, if_pos (by omega), if_pos h0, if_pos (by rw [LL_len]; omega), if_pos (by omega), hx, LL_row hxn, if_pos (by rw [row_len]; omega), row_at hc]
      exact hk'
    | false =>
      rw [if_neg (by decide)]
      exact hk'
theorem least_l3 {c e : Nat} (hc : c < n) (he : e < n) {r : Int} : ∀ (d i : Nat) (t : Bool), i + d = list.length → (∃ k, portcullisref01_Order_least.l2 k list c (!(t && allF M list e i) || M c e) ((e + 1 : Nat) : Int) (LL n M) = some r) → ∃ k, portcullisref01_Order_least.l3 k list c e t i (LL n M) = some r := by
  intro d
  induction d with
  | zero =>
    rintro i t hi ⟨k, hk⟩
    refine ⟨k + 1, ?_⟩
    rw [portcullisref01_Order_least.l3, if_neg (by omega)]
    rw [allF_end (by omega), Bool.and_true] at hk
    cases t with
    | true =>
      rw [if_pos rfl, if_pos (by omega), if_pos (by rw [LL_len]; omega), if_pos (by omega), LL_row hc, if_pos (by rw [row_len]; omega), row_at he, wrap1 (by omega)]
      simpa using hk
    | false =>
      rw [if_neg (by decide), wrap1 (by omega)]
      simpa using hk
  | succ d ih =>
    rintro i t hi ⟨k, hk⟩
    have hil : i < list.length := by omega
    obtain ⟨h0, h1⟩ := hv.lt i hil
    have hl := hv.len
    have hx : rd list (i : Nat) = (nat list i : Nat) := by rw [nat, Int.toNat_of_nonneg h0]
    have hxn : nat list i < n := by omega
    rw [allF_step hil, ← Bool.and_assoc] at hk
    obtain ⟨k', hk'⟩ := ih (i + 1) (t && M (nat list i) e) (by omega) ⟨k, hk⟩
    refine ⟨k' + 1, ?_⟩
    rw [portcullisref01_Order_least.l3, if_pos (by omega), wrap1 (by omega)]
    cases t with
    | true =>
      rw [if_pos rfl, if_pos (by omega), if_pos h0, if_pos (by rw [LL_len]; omega), if_pos (by omega), hx, LL_row hxn, if_pos (by rw [row_len]; omega), row_at he]
      exact hk'
    | false =>
      rw [if_neg (by decide)]
      exact hk'
/-- Of the levels from e on: those above the list are above c. -/
def onlyF (n : Nat) (M : Nat → Nat → Bool) (list : List Int) (c : Nat) : Nat → Nat → Bool
  | 0, _ => true
  | d + 1, e => (!allF M list e 0 || M c e) && onlyF n M list c d (e + 1)
theorem least_l2 {c : Nat} (hc : c < n) {r : Int} : ∀ (d e : Nat) (t : Bool), e + d = n → (∃ k, (if (t && onlyF n M list c d e) = true then some (c : Int) else portcullisref01_Order_least.l0 k list ((c + 1 : Nat) : Int) (LL n M)) = some r) → ∃ k, portcullisref01_Order_least.l2 k list c t e (LL n M) = some r := by
  intro d
  induction d with
  | zero =>
    rintro e t he ⟨k, hk⟩
    refine ⟨k + 2, ?_⟩
    rw [portcullisref01_Order_least.l2, if_neg (by rw [LL_len]; omega), portcullisref01_Order_least.j3, if_neg (by decide), wrap1 (by omega)]
    simpa [onlyF] using hk
  | succ d ih =>
    rintro e t he ⟨k, hk⟩
    cases t with
    | false =>
      refine ⟨k + 2, ?_⟩
      rw [portcullisref01_Order_least.l2, if_pos (by rw [LL_len]; omega), portcullisref01_Order_least.j3, if_neg (by decide), if_neg (by decide), wrap1 (by omega)]
      simpa using hk
    | true =>
      have h2 := ih (e + 1) (!allF M list e 0 || M c e) (by omega) ⟨k, by rw [onlyF, Bool.true_and] at hk; exact hk⟩
      obtain ⟨k', hk'⟩ := least_l3 hn hv hc (by omega : e < n) list.length 0 true (by omega) (r := r) (by simpa using h2)
      refine ⟨k' + 2, ?_⟩
      rw [portcullisref01_Order_least.l2, if_pos (by rw [LL_len]; omega), portcullisref01_Order_least.j3, if_pos rfl]
      exact hk'
/-- The first level from c on that is it. -/
def leastG (n : Nat) (M : Nat → Nat → Bool) (list : List Int) : Nat → Nat → Int
  | 0, _ => -1
  | d + 1, c => if (allF M list c 0 && onlyF n M list c n 0) = true then (c : Int) else leastG n M list d (c + 1)
theorem least_l0 : ∀ (d c : Nat), c + d = n → ∃ k, portcullisref01_Order_least.l0 k list (c : Nat) (LL n M) = some (leastG n M list d c) := by
  intro d
  induction d with
  | zero =>
    intro c hc
    refine ⟨1, ?_⟩
    rw [portcullisref01_Order_least.l0, if_neg (by rw [LL_len]; omega)]
    rfl
  | succ d ih =>
    intro c hc
    obtain ⟨k0, h0⟩ := ih (c + 1) (by omega)
    have hcn : c < n := by omega
    have h2 := least_l2 hn hv hcn (r := leastG n M list (d + 1) c) n 0 (allF M list c 0) (by omega) ⟨k0, by
      rw [leastG]
      by_cases hb : (allF M list c 0 && onlyF n M list c n 0) = true
      · rw [if_pos hb, if_pos hb]
      · rw [if_neg hb, if_neg hb]
        exact h0⟩
    obtain ⟨k1, h1⟩ := least_l1 hn hv hcn (M := M) list.length 0 true (by omega) (by rw [Bool.true_and]; exact h2)
    refine ⟨k1 + 1, ?_⟩
    rw [portcullisref01_Order_least.l0, if_pos (by rw [LL_len]; omega)]
    exact h1
theorem least_ex : ∃ k, portcullisref01_Order_least.f k (LL n M) list = some (leastG n M list n 0) := least_l0 hn hv n 0 (by omega)
end
/-! ### levels, turned, Join, Meet -/
theorem levels_ex {n : Nat} (hn : n ≤ 8) {M : Nat → Nat → Bool} {list : List Int} (hl : list.length ≤ 1000000) : ∃ k, portcullisref01_Order_levels.f k (LL n M) list = some (list.filter (lev n)) := by
  have : ∀ (d i : Nat) (out : List Int), i + d = list.length → out.length ≤ i → ∃ k, portcullisref01_Order_levels.l0 k list out i (LL n M) = some (out ++ (list.drop i).filter (lev n)) := by
    intro d
    induction d with
    | zero =>
      intro i out hi _
      refine ⟨1, ?_⟩
      rw [portcullisref01_Order_levels.l0, if_neg (by omega), List.drop_eq_nil_of_le (by omega)]
      simp
    | succ d ih =>
      intro i out hi ho
      have hil : i < list.length := by omega
      have hd : list.drop i = rd list (i : Nat) :: list.drop (i + 1) := by
        rw [List.drop_eq_getElem_cons hil]
        simp [rd, List.getD_eq_getElem?_getD, hil]
      rw [hd]
      by_cases h0 : rd list (i : Nat) ≥ 0
      · by_cases h1 : rd list (i : Nat) < n
        · obtain ⟨k, hk⟩ := ih (i + 1) (out ++ [rd list (i : Nat)]) (by omega) (by simp; omega)
          refine ⟨k + 1, ?_⟩
          rw [portcullisref01_Order_levels.l0, if_pos (by omega), if_pos (by omega), if_pos h0, if_pos (by rw [LL_len]; omega), if_pos (by omega), wrap1 (by omega), hk]
          have : lev n (rd list (i : Nat)) = true := by simp [lev]; omega
          rw [List.filter_cons, if_pos this, List.append_assoc]
          rfl
        · obtain ⟨k, hk⟩ := ih (i + 1) out (by omega) (by omega)
          refine ⟨k + 1, ?_⟩
          rw [portcullisref01_Order_levels.l0, if_pos (by omega), if_pos (by omega), if_pos h0, if_neg (by rw [LL_len]; omega), wrap1 (by omega), hk]
          have : ¬ lev n (rd list (i : Nat)) = true := by simp [lev]; omega
          rw [List.filter_cons, if_neg this]
      · obtain ⟨k, hk⟩ := ih (i + 1) out (by omega) (by omega)
        refine ⟨k + 1, ?_⟩
        rw [portcullisref01_Order_levels.l0, if_pos (by omega), if_pos (by omega), if_neg h0, wrap1 (by omega), hk]
        have : ¬ lev n (rd list (i : Nat)) = true := by simp [lev]; omega
        rw [List.filter_cons, if_neg this]
  obtain ⟨k, hk⟩ := this list.length 0 [] (by omega) (by simp)
  exact ⟨k, by simpa [portcullisref01_Order_levels.f] using hk⟩
theorem turned_ex {n : Nat} (hn : n ≤ 8) {M : Nat → Nat → Bool} : ∃ k, portcullisref01_Order_turned.f k (LL n M) = some (LL n (fun i j => M j i)) := by
  have h1 : ∀ (i : Nat), i < n → ∀ (acc r : List (List Bool)), acc.length ≤ 8 → (∃ k, portcullisref01_Order_turned.l0 k ((i + 1 : Nat) : Int) (LL n M) (acc ++ [(List.range n).map (fun j => M j i)]) = some r) → ∀ (d j : Nat), j + d = n → ∃ k, portcullisref01_Order_turned.l1 k i ((List.range j).map (fun j => M j i)) j (LL n M) acc = some r := by
    intro i hi acc r hacc hr d
    induction d with
    | zero =>
      intro j hj
      obtain ⟨k, hk⟩ := hr
      obtain rfl : j = n := by omega
      refine ⟨k + 1, ?_⟩
      rw [portcullisref01_Order_turned.l1, if_neg (by rw [LL_len]; omega), if_pos (by omega), wrap1 (by omega)]
      exact hk
    | succ d ih =>
      intro j hj
      have hjn : j < n := by omega
      obtain ⟨k, hk⟩ := ih (j + 1) (by omega)
      refine ⟨k + 1, ?_⟩
      rw [portcullisref01_Order_turned.l1, if_pos (by rw [LL_len]; omega), if_pos (by omega), if_pos (by omega), LL_row hjn, if_pos (by rw [row_len]; omega), if_pos (by simp; omega), row_at hi, wrap1 (by omega)]
      rw [List.range_succ, List.map_append] at hk
      exact hk
  have h2 : ∀ (d i : Nat), i + d = n → ∃ k, portcullisref01_Order_turned.l0 k i (LL n M) ((List.range i).map (fun i => (List.range n).map (fun j => M j i))) = some (LL n (fun i j => M j i)) := by
    intro d
    induction d with
    | zero =>
      intro i hi
      obtain rfl : i = n := by omega
      refine ⟨1, ?_⟩
      rw [portcullisref01_Order_turned.l0, if_neg (by rw [LL_len]; omega)]
      rfl
    | succ d ih =>
      intro i hi
      obtain ⟨k, hk⟩ := ih (i + 1) (by omega)
      rw [List.range_succ, List.map_append] at hk
      obtain ⟨k', hk'⟩ := h1 i (by omega) _ _ (by simp; omega) ⟨k, hk⟩ n 0 (by omega)
      refine ⟨k' + 1, ?_⟩
      rw [portcullisref01_Order_turned.l0, if_pos (by rw [LL_len]; omega)]
      exact hk'
  obtain ⟨k, hk⟩ := h2 n 0 (by omega)
  exact ⟨k, hk⟩
theorem mono_le {α : Type} {f : Nat → Option α} (hm : ∀ k, LeO (f k) (f (k + 1))) {k : Nat} {r : α} (h : f k = some r) (d : Nat) : f (k + d) = some r := by
  induction d with
  | zero => exact h
  | succ d ih => exact hm _ r ih
theorem lv_filter {n : Nat} (list : List Int) (hl : list.length ≤ 1000000) : Lv n (list.filter (lev n)) := by
  refine ⟨fun i hi => ?_, Nat.le_trans (List.length_filter_le _ _) hl⟩
  have := (List.mem_filter.1 (rd_mem hi)).2
  simpa [lev] using this
def joinG (n : Nat) (M : Nat → Nat → Bool) (list : List Int) : Int := leastG n M (list.filter (lev n)) n 0
theorem join_ex {n : Nat} (hn : n ≤ 8) {M : Nat → Nat → Bool} {list : List Int} (hl : list.length ≤ 1000000) : ∃ k, portcullisref01_Order_Join.f k (LL n M) list = some (joinG n M list) := by
  obtain ⟨k1, h1⟩ := levels_ex hn (M := M) hl
  obtain ⟨k2, h2⟩ := least_ex hn (M := M) (lv_filter (n := n) list hl)
  have e1 := mono_le (f := fun k => portcullisref01_Order_levels.f k (LL n M) list) (fun k => portcullisref01_Order_levels.mono _ _ k) h1 k2
  have e2 := mono_le (f := fun k => portcullisref01_Order_least.f k (LL n M) (list.filter (lev n))) (fun k => portcullisref01_Order_least.mono _ _ k) h2 k1
  refine ⟨k1 + k2, ?_⟩
  rw [portcullisref01_Order_Join.f]
  rw [e1, Option.bind_some, Nat.add_comm, e2]
  rfl
/-! ### What the reference's levels are -/
theorem onlyF_is {n : Nat} {M : Nat → Nat → Bool} {list : List Int} {c : Nat} : ∀ (d e : Nat), onlyF n M list c d e = true ↔ ∀ x, e ≤ x → x < e + d → allF M list x 0 = true → M c x = true := by
  intro d
  induction d with
  | zero => intro e; simp [onlyF]; intro x h1 h2; omega
  | succ d ih =>
    intro e
    rw [onlyF, Bool.and_eq_true, ih]
    constructor
    · rintro ⟨h1, h2⟩ x hx hx2 ha
      rcases Nat.eq_or_lt_of_le hx with rfl | h
      · rw [ha] at h1
        simpa using h1
      · exact h2 x (by omega) (by omega) ha
    · intro h
      refine ⟨?_, fun x hx hx2 => h x (by omega) (by omega)⟩
      cases ha : allF M list e 0 with
      | false => rfl
      | true => simpa using h e (Nat.le_refl _) (by omega) ha
theorem allF_is {M : Nat → Nat → Bool} {list : List Int} {c : Nat} : allF M list c 0 = true ↔ ∀ l ∈ list.map Int.toNat, M l c = true := by
  rw [allF, List.drop_zero, List.all_eq_true]
  constructor
  · intro h l hl
    obtain ⟨x, hx, rfl⟩ := List.mem_map.1 hl
    exact h x hx
  · intro h x hx
    exact h _ (List.mem_map.2 ⟨x, hx, rfl⟩)
theorem leastG_is {n : Nat} {M : Nat → Nat → Bool} {list : List Int} : ∀ (d c : Nat), c + d = n → (∃ j, c ≤ j ∧ leastG n M list d c = (j : Nat) ∧ IsLub n M (list.map Int.toNat) j) ∨ (leastG n M list d c = -1 ∧ ∀ j, c ≤ j → ¬ IsLub n M (list.map Int.toNat) j) := by
  intro d
  induction d with
  | zero =>
    intro c hc
    exact .inr ⟨rfl, fun j hj hl => by have := hl.lt; omega⟩
  | succ d ih =>
    intro c hc
    rw [leastG]
    have hP : (allF M list c 0 && onlyF n M list c n 0) = true ↔ IsLub n M (list.map Int.toNat) c := by
      rw [Bool.and_eq_true, allF_is, onlyF_is]
      constructor
      · rintro ⟨h1, h2⟩
        exact ⟨by omega, h1, fun i hi hu => h2 i (Nat.zero_le _) (by omega) (allF_is.2 hu)⟩
      · intro h
        exact ⟨h.up, fun x _ hx ha => h.least x (by omega) (allF_is.1 ha)⟩
    by_cases hb : (allF M list c 0 && onlyF n M list c n 0) = true
    · rw [if_pos hb]
      exact .inl ⟨c, Nat.le_refl _, rfl, hP.1 hb⟩
    · rw [if_neg hb]
      rcases ih (c + 1) (by omega) with ⟨j, h1, h2, h3⟩ | ⟨h1, h2⟩
      · exact .inl ⟨j, by omega, h2, h3⟩
      · refine .inr ⟨h1, fun j hj hl => ?_⟩
        rcases Nat.eq_or_lt_of_le hj with rfl | h
        · exact hb (hP.2 hl)
        · exact h2 j h hl
/-- The reference's join is the program's. -/
theorem joinG_is {n : Nat} (hn : n ≤ 8) (h0 : 0 < n) {us : List Int} {le : Nat → Nat → Bool} (h : Mk n us le) (hL : Lat n le) (list : List Int) : joinG n le list = allM n us list := by
  obtain ⟨j, hj, e⟩ := allM_lub hn h0 h hL list
  have hi : (list.filter (lev n)).map Int.toNat = inr n list := rfl
  rcases leastG_is (n := n) (M := le) (list := list.filter (lev n)) n 0 (by omega) with ⟨k, _, h1, h2⟩ | ⟨_, h2⟩
  · rw [joinG, h1, e, IsLub.unique hL h2 (hi ▸ hj)]
  · exact absurd (hi ▸ hj) (h2 j (Nat.zero_le _))
end Go.Proofs.Ytpbaebjohioijaa.Lat
namespace Go.Proofs.Ytpbaebjohioijaa.Lat
open Go.RowKit Go.Proofs.YtpbaebjohioijaaW.PrintWords Go.Proofs.YtpbaebjohioijaaW.PrintLast Go.Proofs.YtpbaebjohioijaaW.PrintMore Go.Proofs.Ytpbaebjohioijaa.PSolveLeast
set_option linter.unusedVariables false
set_option linter.unusedSimpArgs false

/-! ### A row of rows, told by its blocks -/
/-- A slice of n that begins at its block's head, told by the block. -/
def kSl (n : Nat) : Kd Nat where
  sz := 1
  E := []
  K := fun _ b cs => cs = [.slice (some ⟨b, 0, none⟩) n n]
  M := fun _ _ _ b cs => cs = [.slice (some ⟨b, 0, none⟩) n n]
  K_len := by rintro _ _ _ rfl; rfl
  K_one := by
    rintro _ _ _ rfl u hu
    rw [List.mem_singleton.1 hu]
    rfl
  K_below := fun _ h => h
  K_of_M := fun h => h
  M_mono := fun _ h => h
  M_bound := fun h => h
  M_move := fun _ h => h
  M_lower := fun _ h => h
def boolN (n : Nat) (f : Nat → Bool) : Array Value := ((List.range n).map fun j => Value.bool (f j)).toArray
theorem boolN_get (n : Nat) (f : Nat → Bool) (j : Nat) (h : j < n) : (boolN n f)[j]? = some (.bool (f j)) := by
  simp [boolN, h]
def bsAt (bs : List Nat) (i : Nat) : Nat := bs.getD i 0
/-- The rows' blocks, each apart. -/
structure LQ (w : World) (base : Nat) (v : Value) (bs : List Nat) (n : Nat) (M : Nat → Nat → Bool) : Prop where
  row : (kSl n).R 67 w base (fun k => k ∉ bs) v bs
  inn : ∀ i < bs.length, w.heap[bsAt bs i]? = some (.cells (boolN n (M i)) 4 (0, 0)) ∧ base ≤ bsAt bs i
  nd : bs.Nodup
theorem bs_mem {bs : List Nat} {i : Nat} (h : i < bs.length) : bsAt bs i ∈ bs := by
  have : bsAt bs i = bs[i] := by simp [bsAt, List.getD_eq_getElem?_getD, h]
  rw [this]
  exact List.getElem_mem h
theorem bs_inj {bs : List Nat} (hd : bs.Nodup) {i j : Nat} (hi : i < bs.length) (hj : j < bs.length) (h : bsAt bs i = bsAt bs j) : i = j := by
  have e1 : bsAt bs i = bs[i] := by simp [bsAt, List.getD_eq_getElem?_getD, hi]
  have e2 : bsAt bs j = bs[j] := by simp [bsAt, List.getD_eq_getElem?_getD, hj]
  rw [e1, e2] at h
  rw [List.Nodup, List.pairwise_iff_getElem] at hd
  rcases Nat.lt_trichotomy i j with h1 | h1 | h1
  · exact absurd h (hd i j hi hj h1)
  · exact h1
  · exact absurd h.symm (hd j i hj hi h1)
section
variable {w w' : World} {base n : Nat} {v : Value} {bs : List Nat} {M : Nat → Nat → Bool} (h : LQ w base v bs n M)
include h
theorem LQ.below (b : Below w.heap.size w w') : LQ w' base v bs n M :=
  ⟨Kd.R_mono (Kd.R_old h.row b) (fun _ hk => hk.1), fun i hi => ⟨blk_below (h.inn i hi).1 b, (h.inn i hi).2⟩, h.nd⟩
theorem LQ.put {i j : Nat} (hi : i < bs.length) : LQ (w.setCell ⟨bsAt bs i, j, none⟩ (.bool true)) base v bs n (fun x y => M x y || (x == i && y == j)) := by
  refine ⟨R_foot h.row ((Foot.refl (fun k => k = bsAt bs i) w).setCell (p := ⟨bsAt bs i, j, none⟩) (fun _ => rfl) _) (fun k hk e => hk (e ▸ bs_mem hi)), fun x hx => ⟨?_, (h.inn x hx).2⟩, h.nd⟩
  by_cases e : x = i
  · subst e
    rw [blk_set (h.inn x hx).1 j (.bool true)]
    congr 2
    apply Array.ext'
    apply List.ext_getElem
    · simp [boolN]
    · intro y h1 h2
      simp [boolN, List.getElem_set]
      by_cases e : j = y
      · subst e; simp
      · have : ¬ y = j := fun h => e h.symm
        simp [e, this]
  · have hne : bsAt bs x ≠ bsAt bs i := fun he => e (bs_inj h.nd hx hi he)
    have := blk_far (h.inn x hx).1 (p := ⟨bsAt bs i, j, none⟩) hne (.bool true)
    have e2 : (x == i) = false := beq_eq_false_iff_ne.2 e
    simpa [e2] using this
theorem LQ.inn_at {i j : Nat} (hi : i < bs.length) (hj : j < n) : w.cell? ⟨bsAt bs i, j, none⟩ = some (.bool (M i j)) ∧ w.frozen? ⟨bsAt bs i, j, none⟩ = false :=
  ⟨(blk_cell (h.inn i hi).1 _).trans (boolN_get n (M i) j hj), blk_frozen (h.inn i hi).1 _⟩
theorem LQ.ext {M' : Nat → Nat → Bool} (e : ∀ i < bs.length, ∀ j < n, M i j = M' i j) : LQ w base v bs n M' :=
  ⟨h.row, fun i hi => ⟨by
    rw [(h.inn i hi).1]
    congr 2
    unfold boolN
    congr 1
    apply List.map_congr_left
    intro j hj
    rw [e i hi j (List.mem_range.1 hj)], (h.inn i hi).2⟩, h.nd⟩
theorem LQ.out_at {A : Option Addr} {m c : Nat} (e : v = .slice A m c) {i : Nat} (hi : i < bs.length) : ∃ ad, A = some ad ∧ w.cell? (ad.add i) = some (.slice (some ⟨bsAt bs i, 0, none⟩) n n) := by
  obtain ⟨A', c', e', _, hC⟩ := Kd.R_reads h.row
  rw [e] at e'
  simp only [Value.slice.injEq] at e'
  obtain ⟨rfl, _, _⟩ := e'
  obtain ⟨ad, cs, eA, _, hK, hc⟩ := Kd.C_get hC 0 (i : Nat) (by omega) (by omega)
  rw [Int.toNat_natCast] at hK hc
  have hK' : cs = [.slice (some ⟨bsAt bs i, 0, none⟩) n n] := hK
  subst hK'
  have := hc 0 _ rfl
  exact ⟨ad, eA, by
    have e2 : i * (kSl n).sz + 0 = i := by simp [kSl]
    rw [e2] at this
    exact this⟩
end
end Go.Proofs.Ytpbaebjohioijaa.Lat
