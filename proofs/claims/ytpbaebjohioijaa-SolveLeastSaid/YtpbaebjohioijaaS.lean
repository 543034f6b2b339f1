import Derived.Test.YtpbaebjohioijaaO
namespace Go.Proofs.Ytpbaebjohioijaa.Lat
open Go.RowKit Go.Proofs.YtpbaebjohioijaaW.PrintWords
set_option linter.unusedVariables false
set_option linter.unusedSimpArgs false

/-! ### Rows of levels each below the next -/
/-- There are k levels below one another, the uppermost of them below l. -/
def Ch (n : Nat) (le : Nat → Nat → Bool) : Nat → Nat → Prop
  | 0, l => l < n
  | k + 1, l => l < n ∧ ∃ b, b ≠ l ∧ le b l = true ∧ Ch n le k b
def Pth (n : Nat) (le : Nat → Nat → Bool) : Nat → Nat → Nat → Prop
  | 0, b, l => b = l ∧ l < n
  | k + 1, b, l => l < n ∧ ∃ c, c ≠ l ∧ le c l = true ∧ Pth n le k b c
theorem Ch_lt {n : Nat} {le : Nat → Nat → Bool} {k l : Nat} (h : Ch n le k l) : l < n := by
  cases k with
  | zero => exact h
  | succ k => exact h.1
theorem Pth_lt {n : Nat} {le : Nat → Nat → Bool} {k b l : Nat} (h : Pth n le k b l) : l < n := by
  cases k with
  | zero => exact h.2
  | succ k => exact h.1
theorem Pth_of_Ch {n : Nat} {le : Nat → Nat → Bool} : ∀ {k l : Nat}, Ch n le k l → ∃ b, Pth n le k b l := by
  intro k
  induction k with
  | zero => intro l h; exact ⟨l, rfl, h⟩
  | succ k ih =>
    intro l h
    obtain ⟨hl, b, h1, h2, h3⟩ := h
    obtain ⟨c, hc⟩ := ih h3
    exact ⟨c, hl, b, h1, h2, hc⟩
theorem Ch_of_Pth {n : Nat} {le : Nat → Nat → Bool} : ∀ {k b l : Nat}, Pth n le k b l → Ch n le k l := by
  intro k
  induction k with
  | zero => intro b l h; exact h.2
  | succ k ih =>
    intro b l h
    obtain ⟨hl, c, h1, h2, h3⟩ := h
    exact ⟨hl, c, h1, h2, ih h3⟩
theorem Pth_cons {n : Nat} {le : Nat → Nat → Bool} {b c : Nat} (hb : b < n) (hne : b ≠ c) (hle : le b c = true) : ∀ {k l : Nat}, Pth n le k c l → Pth n le (k + 1) b l := by
  intro k
  induction k with
  | zero =>
    intro l h
    obtain ⟨rfl, hl⟩ := h
    exact ⟨hl, b, hne, hle, rfl, hb⟩
  | succ k ih =>
    intro l h
    obtain ⟨hl, d, h1, h2, h3⟩ := h
    exact ⟨hl, d, h1, h2, ih h3⟩
theorem Pth_flip {n : Nat} {le : Nat → Nat → Bool} : ∀ {k b l : Nat}, Pth n le k b l → Pth n (fun x y => le y x) k l b := by
  intro k
  induction k with
  | zero =>
    intro b l h
    obtain ⟨rfl, hl⟩ := h
    exact ⟨rfl, hl⟩
  | succ k ih =>
    intro b l h
    obtain ⟨hl, c, h1, h2, h3⟩ := h
    exact Pth_cons hl (fun e => h1 e.symm) h2 (ih h3)
/-- K is how many levels follow one another. -/
structure Hgt (n : Nat) (le : Nat → Nat → Bool) (K : Nat) : Prop where
  ex : ∃ k l, K = k + 1 ∧ Ch n le k l
  all : ∀ k l, Ch n le k l → k + 1 ≤ K
theorem Hgt.unique {n : Nat} {le : Nat → Nat → Bool} {K K' : Nat} (h : Hgt n le K) (h' : Hgt n le K') : K = K' := by
  obtain ⟨k, l, e, hc⟩ := h.ex
  obtain ⟨k', l', e', hc'⟩ := h'.ex
  have := h.all k' l' hc'
  have := h'.all k l hc
  omega
theorem Hgt.flip {n : Nat} {le : Nat → Nat → Bool} {K : Nat} (h : Hgt n le K) : Hgt n (fun x y => le y x) K := by
  obtain ⟨k, l, e, hc⟩ := h.ex
  obtain ⟨b, hp⟩ := Pth_of_Ch hc
  refine ⟨⟨k, b, e, Ch_of_Pth (Pth_flip hp)⟩, fun k' l' hc' => ?_⟩
  obtain ⟨b', hp'⟩ := Pth_of_Ch hc'
  exact h.all k' b' (Ch_of_Pth (Pth_flip hp'))

/-! ### The ranks -/
/-- r is the rank of l: r levels end there, no more. -/
structure IsR (n : Nat) (le : Nat → Nat → Bool) (l : Nat) (r : Int) : Prop where
  ex : ∃ k : Nat, r = k + 1 ∧ Ch n le k l
  all : ∀ k : Nat, Ch n le k l → (k : Int) + 1 ≤ r
/-- What is reckoned for l: the greatest rank of those below. -/
structure Mid (n : Nat) (le : Nat → Nat → Bool) (l : Nat) (L : List Nat) (rk out : List Int) : Prop where
  same : ∀ i : Nat, i ≠ l → rd out i = rd rk i
  len : out.length = n
  ge : rd rk l ≤ rd out l
  up : ∀ b ∈ L, b ≠ l → le b l = true → rd rk b ≤ rd out l
  at_ : rd out l = rd rk l ∨ ∃ b ∈ L, b ≠ l ∧ le b l = true ∧ rd out l = rd rk b
theorem hMid_is {n : Nat} (hn : n ≤ 8) {ds : List Int} {le : Nat → Nat → Bool} (k : Mk n ds (fun a b => le b a)) {l : Nat} (hl : l < n) :
    ∀ (L : List Nat) (rk : List Int), (∀ b ∈ L, b < n) → rk.length = n → Mid n le l L rk (L.foldl (hIn ds l) rk) := by
  intro L
  induction L with
  | nil => intro rk _ hlen; exact ⟨fun _ _ => rfl, hlen, Int.le_refl _, fun b hb => absurd hb (by simp), .inl rfl⟩
  | cons b L ih =>
    intro rk hL hlen
    have hb := hL b (by simp)
    rw [List.foldl_cons]
    have hh : hasb (rd ds l) b = le b l := by rw [k.at_ l hl, hasb_mask hn _ hb]
    by_cases c : b ≠ l ∧ le b l = true
    · have e1 : hIn ds l rk b = rk.set l (mx (rd rk l) (rd rk b)) := by
        have c2 : ¬ (b : Int) = l := by omega
        rw [hIn, hh, c.2, Int.toNat_natCast]
        simp [c2]
      have r1 : ∀ i : Nat, rd (hIn ds l rk b) i = if i = l then mx (rd rk l) (rd rk b) else rd rk i := fun i => by rw [e1, rd_set (by omega)]
      have h := ih (hIn ds l rk b) (fun x hx => hL x (by simp [hx])) (by rw [e1, List.length_set, hlen])
      have rl := r1 l
      rw [if_pos rfl] at rl
      have m1 : rd rk l ≤ mx (rd rk l) (rd rk b) ∧ rd rk b ≤ mx (rd rk l) (rd rk b) := by unfold mx; split <;> omega
      refine ⟨fun i hi => (h.same i hi).trans ((r1 i).trans (if_neg hi)), h.len, ?_, fun x hx hne hle => ?_, ?_⟩
      · have := h.ge; omega
      · rcases List.mem_cons.1 hx with rfl | hx
        · have := h.ge; omega
        · have := h.up x hx hne hle
          rw [r1 x, if_neg hne] at this
          exact this
      · rcases h.at_ with h2 | ⟨x, hx, hne, hle, h2⟩
        · rw [rl] at h2
          have : mx (rd rk l) (rd rk b) = rd rk l ∨ mx (rd rk l) (rd rk b) = rd rk b := by unfold mx; split <;> simp
          rcases this with e | e
          · exact .inl (h2.trans e)
          · exact .inr ⟨b, by simp, c.1, c.2, h2.trans e⟩
        · rw [r1 x, if_neg hne] at h2
          exact .inr ⟨x, by simp [hx], hne, hle, h2⟩
    · have e1 : hIn ds l rk b = rk := by
        rw [hIn, hh]
        by_cases c2 : b = l
        · subst c2; simp
        · have : le b l = false := by
            cases h : le b l with
            | false => rfl
            | true => exact absurd ⟨c2, h⟩ c
          simp [this]
      rw [e1]
      have h := ih rk (fun x hx => hL x (by simp [hx])) hlen
      refine ⟨h.same, h.len, h.ge, fun x hx hne hle => ?_, ?_⟩
      · rcases List.mem_cons.1 hx with rfl | hx
        · exact absurd ⟨hne, hle⟩ c
        · exact h.up x hx hne hle
      · rcases h.at_ with h2 | ⟨x, hx, h2⟩
        · exact .inl h2
        · exact .inr ⟨x, by simp [hx], h2⟩
/-- The ranks of those done, nought for the others. -/
structure RK (n : Nat) (le : Nat → Nat → Bool) (P : Nat → Prop) (rk : List Int) : Prop where
  len : rk.length = n
  done : ∀ i < n, P i → IsR n le i (rd rk i)
  rest : ∀ i < n, ¬ P i → rd rk i = 0
theorem IsR.pos {n : Nat} {le : Nat → Nat → Bool} {l : Nat} {r : Int} (h : IsR n le l r) : 1 ≤ r := by
  obtain ⟨k, e, _⟩ := h.ex
  omega
theorem RK.next {n : Nat} (hn : n ≤ 8) {ds : List Int} {le : Nat → Nat → Bool} (k : Mk n ds (fun a b => le b a)) {P : Nat → Prop} {rk : List Int} (h : RK n le P rk) {l : Nat} (hl : l < n) (hP : ¬ P l) (hdn : ∀ b < n, b ≠ l → le b l = true → P b) : RK n le (fun i => P i ∨ i = l) (hOut n ds rk l) := by
  have hM := hMid_is hn k hl (List.range n) rk (fun b hb => List.mem_range.1 hb) h.len
  have r0 := h.rest l hl hP
  have eo : hOut n ds rk l = (hMid n ds l rk).set l (rd (hMid n ds l rk) l + 1) := by rw [hOut, Int.toNat_natCast]
  have hlen : (hMid n ds l rk).length = n := hM.len
  have r1 : ∀ i : Nat, rd (hOut n ds rk l) i = if i = l then rd (hMid n ds l rk) l + 1 else rd (hMid n ds l rk) i := fun i => by rw [eo, rd_set (by omega)]
  refine ⟨by rw [eo, List.length_set, hlen], fun i hi hPi => ?_, fun i hi hPi => ?_⟩
  · rw [r1]
    by_cases e : i = l
    · subst e
      rw [if_pos rfl]
      refine ⟨?_, fun q hq => ?_⟩
      · rcases hM.at_ with h2 | ⟨b, hb, hne, hle, h2⟩
        · refine ⟨0, ?_, hl⟩
          show rd (hMid n ds i rk) i + 1 = _
          have : rd (hMid n ds i rk) i = rd rk i := h2
          rw [this, r0]
          rfl
        · obtain ⟨q, e1, hq⟩ := (h.done b (List.mem_range.1 hb) (hdn b (List.mem_range.1 hb) hne hle)).ex
          refine ⟨q + 1, ?_, hl, b, hne, hle, hq⟩
          have : rd (hMid n ds i rk) i = rd rk b := h2
          rw [this, e1]
          simp
      · cases q with
        | zero =>
          have := hM.ge
          have h3 : rd (hMid n ds i rk) i = rd ((List.range n).foldl (hIn ds i) rk) i := rfl
          omega
        | succ q =>
          obtain ⟨_, b, hne, hle, hc⟩ := hq
          have hb := Ch_lt hc
          have h1 := (h.done b hb (hdn b hb hne hle)).all q hc
          have h2 := hM.up b (List.mem_range.2 hb) hne hle
          have h3 : rd (hMid n ds i rk) i = rd ((List.range n).foldl (hIn ds i) rk) i := rfl
          omega
    · rw [if_neg e]
      have : rd (hMid n ds l rk) i = rd rk i := hM.same i e
      rw [this]
      exact h.done i hi (hPi.resolve_right e)
  · have e : i ≠ l := fun e => hPi (.inr e)
    rw [r1, if_neg e]
    have : rd (hMid n ds l rk) i = rd rk i := hM.same i e
    rw [this]
    exact h.rest i hi (fun hp => hPi (.inl hp))
theorem RK.fold {n : Nat} (hn : n ≤ 8) {ds : List Int} {le : Nat → Nat → Bool} (k : Mk n ds (fun a b => le b a)) : ∀ (zs : List Int) (P : Nat → Prop) (rk : List Int), RK n le P rk → (∀ y ∈ zs, 0 ≤ y ∧ y < n ∧ ¬ P y.toNat) → zs.Pairwise (fun x y => x ≠ y ∧ le y.toNat x.toNat = false) → (∀ i < n, P i ∨ (i : Int) ∈ zs) → RK n le (fun _ => True) (zs.foldl (hOut n ds) rk) := by
  intro zs
  induction zs with
  | nil =>
    intro P rk h _ _ hall
    exact ⟨h.len, fun i hi _ => h.done i hi ((hall i hi).resolve_right (by simp)), fun i hi hn => absurd trivial hn⟩
  | cons z zs ih =>
    intro P rk h hz hpw hall
    obtain ⟨z0, z1, z2⟩ := hz z (by simp)
    obtain ⟨z, rfl⟩ := Int.eq_ofNat_of_zero_le z0
    rw [Int.toNat_natCast] at z2
    rw [List.pairwise_cons] at hpw
    have hnext := h.next hn k (l := z) (by omega) z2 (fun b hb hne hle => by
      rcases hall b hb with hp | hm
      · exact hp
      · rcases List.mem_cons.1 hm with e | hm
        · exact absurd (by omega) hne
        · have := (hpw.1 _ hm).2
          rw [Int.toNat_natCast, Int.toNat_natCast, hle] at this
          cases this)
    refine ih (fun i => P i ∨ i = z) _ hnext (fun y hy => ?_) hpw.2 (fun i hi => ?_)
    · obtain ⟨y0, y1, y2⟩ := hz y (by simp [hy])
      refine ⟨y0, y1, ?_⟩
      rintro (hp | e)
      · exact y2 hp
      · exact (hpw.1 y hy).1 (by omega)
    · rcases hall i hi with hp | hm
      · exact .inl (.inl hp)
      · rcases List.mem_cons.1 hm with e | hm
        · exact .inl (.inr (by omega))
        · exact .inr hm
theorem chain_cover {n : Nat} (hn : n ≤ 8) {ds : List Int} {V : Nat → Nat → Bool} (k : Mk n ds V) : ∀ (m : Nat) (S : Nat → Bool) (ys : List Int), chainF n ds m (mask n S : Nat) = some ys → n ≤ (List.range n).countP S + m → ∀ x < n, S x = true ∨ (x : Int) ∈ ys := by
  intro m
  induction m with
  | zero =>
    intro S ys h hc x hx
    have h1 : (List.range n).countP S = (List.range n).length := by
      have := List.countP_le_length (p := S) (l := List.range n)
      rw [List.length_range] at this ⊢
      omega
    exact .inl (List.countP_eq_length.1 h1 x (List.mem_range.2 hx))
  | succ m ih =>
    intro S ys h hc x hx
    obtain ⟨l, zs, hl, rfl, h2, _, h4⟩ := chainF_succ h
    have h5 := ((chP_is hn k S hl).1 h4).1
    rw [or_one hn S hl] at h2
    have hlt : (List.range n).countP S < (List.range n).countP (fun i => S i || decide (i = l)) := countP_lt (fun x _ h => by simp [h]) ⟨l, List.mem_range.2 hl, by simp, h5⟩
    rcases ih _ zs h2 (by omega) x hx with h6 | h6
    · rw [Bool.or_eq_true, decide_eq_true_iff] at h6
      rcases h6 with h6 | h6
      · exact .inl h6
      · exact .inr (by rw [h6]; simp)
    · exact .inr (by simp [h6])
/-- The ranks that are reckoned along the chain are the ranks. -/
theorem ranks_are {n : Nat} (hn : n ≤ 8) {ds : List Int} {le : Nat → Nat → Bool} (k : Mk n ds (fun a b => le b a)) {ys : List Int} (hy : chainF n ds n 0 = some ys) (hpw : ys.Pairwise (fun x y => x ≠ y ∧ le y.toNat x.toNat = false)) : RK n le (fun _ => True) (ranks n ds ys) := by
  have h0 : ((mask n (fun _ => false) : Nat) : Int) = 0 := by
    have : mask n (fun _ => false) = 0 := mask_zero.2 (fun _ _ => rfl)
    omega
  have hcov := chain_cover hn k n (fun _ => false) ys (by rw [h0]; exact hy) (by omega)
  refine RK.fold hn k ys (fun _ => False) _ ⟨by simp, fun i _ h => h.elim, fun i hi _ => ?_⟩ (fun y hyy => ⟨(chainF_lt hy y hyy).1, (chainF_lt hy y hyy).2, fun h => h⟩) hpw (fun i hi => ?_)
  · simp [rd, List.getD_eq_getElem?_getD, hi]
  · rcases hcov i hi with h | h
    · cases h
    · exact .inr h
theorem maxN_mem {xs : List Int} : ∀ j, j < xs.length → ∃ i, i < xs.length ∧ maxN xs j = rd xs (i : Nat) := by
  intro j
  induction j with
  | zero => intro h; exact ⟨0, h, rfl⟩
  | succ j ih =>
    intro h
    obtain ⟨i, hi, e⟩ := ih (by omega)
    rw [maxN, mx]
    split
    · exact ⟨j + 1, h, rfl⟩
    · exact ⟨i, hi, e⟩
/-- The height is how many levels follow one another. -/
theorem height_is {n : Nat} (hn : n ≤ 8) (h0 : 0 < n) {ds : List Int} {le : Nat → Nat → Bool} (k : Mk n ds (fun a b => le b a)) {ys : List Int} (hy : chainF n ds n 0 = some ys) (hpw : ys.Pairwise (fun x y => x ≠ y ∧ le y.toNat x.toNat = false)) : ∃ K : Nat, heightM n ds ys = K ∧ Hgt n le K := by
  have hR := ranks_are hn k hy hpw
  have hl := hR.len
  obtain ⟨i, hi, e⟩ := maxN_mem (xs := ranks n ds ys) ((ranks n ds ys).length - 1) (by omega)
  have hi2 : i < n := by omega
  obtain ⟨q, e1, hq⟩ := (hR.done i hi2 trivial).ex
  refine ⟨q + 1, ?_, ⟨q, i, rfl, hq⟩, fun q' l' hc => ?_⟩
  · rw [heightM, maxM, e, e1]
    simp
  · have hl' := Ch_lt hc
    have h1 := (hR.done l' hl' trivial).all q' hc
    have h2 := le_maxN (xs := ranks n ds ys) ((ranks n ds ys).length - 1) l' (by omega)
    omega

/-! ### The edges turned -/
def backE (es : List (Int × Int)) : List (Int × Int) := es.map (fun e => (e.2, e.1))
theorem bad_back (n : Int) (es : List (Int × Int)) : badE n (backE es) = badE n es := by
  rw [badE, badE, backE, List.any_map]
  congr 1
  funext e
  simp [badB, Bool.or_comm]
theorem natE_back (es : List (Int × Int)) : natE (backE es) = swapE (natE es) := by
  simp [natE, backE, swapE]
theorem clos_back {n : Nat} (hn : n ≤ 8) {es : List (Int × Int)} (hb : badE n es = false) : closE n (backE es) = ((closE n es).2, (closE n es).1) := by
  have hok := natE_ok hb
  obtain ⟨h1, h2⟩ := clos_Mk hn hb
  obtain ⟨k1, k2⟩ := clos_Mk hn (es := backE es) (by rw [bad_back]; exact hb)
  rw [natE_back] at k1 k2
  exact Prod.ext ((k1.ext (fun i hi j hj => rch_swap hok hj hi)).unique h2) ((k2.ext (fun i hi j hj => rch_swap hok hi hj)).unique h1)
theorem right_turn {n : Nat} (hn : n ≤ 8) {us ds : List Int} {U V : Nat → Nat → Bool} (h : Mk n us U) (k : Mk n ds V) : rightb n ds us = rightb n us ds := by
  rw [Bool.eq_iff_iff, rightb_is, rightb_is]
  have : ∀ a b, a < n → b < n → (okP ds us a b = true ↔ okP us ds a b = true) := fun a b ha hb => by
    rw [okP_is hn h k ha hb, okP_is hn k h ha hb]
    constructor
    · rintro ⟨h1, h2, h3⟩
      exact ⟨fun hne hh => h1 hne ⟨hh.2, hh.1⟩, h3, h2⟩
    · rintro ⟨h1, h2, h3⟩
      exact ⟨fun hne hh => h1 hne ⟨hh.2, hh.1⟩, h3, h2⟩
  exact ⟨fun h a ha b hb => (this a b ha hb).1 (h a ha b hb), fun h a ha b hb => (this a b ha hb).2 (h a ha b hb)⟩
theorem code_back (n : Int) (es : List (Int × Int)) : codeM n (backE es) = codeM n es := by
  unfold codeM
  split
  · rfl
  · rename_i h
    rw [bad_back]
    cases hb : badE n es with
    | true => rfl
    | false =>
      obtain ⟨m, rfl⟩ := Int.eq_ofNat_of_zero_le (show 0 ≤ n by omega)
      obtain ⟨h1, h2⟩ := clos_Mk (n := m) (by omega) hb
      rw [Int.toNat_natCast, clos_back (by omega) hb, right_turn (by omega) h1 h2]
theorem most_turn {n : Nat} (hn : n ≤ 8) {us ds : List Int} {le : Nat → Nat → Bool} (h : Mk n us le) (k : Mk n ds (fun a b => le b a)) (a b : Int) : mostM n ds b a = mostM n us a b := by
  by_cases ha : lev n a = true
  · by_cases hb : lev n b = true
    · have ha2 : 0 ≤ a ∧ a < n := by simpa [lev] using ha
      have hb2 : 0 ≤ b ∧ b < n := by simpa [lev] using hb
      obtain ⟨a, rfl⟩ := Int.eq_ofNat_of_zero_le ha2.1
      obtain ⟨b, rfl⟩ := Int.eq_ofNat_of_zero_le hb2.1
      rw [most_is hn h (by omega) (by omega), most_is hn k (by omega) (by omega)]
    · simp [mostM, hb]
  · simp [mostM, ha]
theorem height_turn {n : Nat} (hn : n ≤ 8) (h0 : 0 < n) {us ds : List Int} {le : Nat → Nat → Bool} (h : Mk n us le) (k : Mk n ds (fun a b => le b a)) (hL : Lat n le) : ∃ ys zs H, chainF n ds n 0 = some ys ∧ chainF n us n 0 = some zs ∧ heightM n ds ys = H ∧ heightM n us zs = H := by
  obtain ⟨ys, h1, h2⟩ := chain_all hn k hL
  obtain ⟨zs, k1, k2⟩ := chain_all hn h hL.flip
  obtain ⟨K, e1, hK⟩ := height_is hn h0 k h1 h2
  obtain ⟨K', e2, hK'⟩ := height_is hn h0 h k1 k2
  obtain rfl := hK.flip.unique hK'
  exact ⟨ys, zs, K, h1, k1, e1, e2⟩
end Go.Proofs.Ytpbaebjohioijaa.Lat
