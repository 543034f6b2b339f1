import Derived.Test.YtpbaebjohioijaaBC
namespace Go.Proofs.Ytpbaebjohioijaa.Lat
open Go.RowKit Go.Proofs.YtpbaebjohioijaaW.PrintWords Go.Proofs.YtpbaebjohioijaaW.PrintLast Go.Proofs.YtpbaebjohioijaaW.PrintMore Go.Proofs.Ytpbaebjohioijaa.PSolveLeast
set_option linter.unusedVariables false
set_option linter.unusedSimpArgs false

/-! ### Closed is who leads where -/
def LeM (M N : Nat → Nat → Bool) : Prop := ∀ x y, M x y = true → N x y = true
theorem LeM.refl (M : Nat → Nat → Bool) : LeM M M := fun _ _ h => h
theorem LeM.trans {M N O : Nat → Nat → Bool} (h : LeM M N) (k : LeM N O) : LeM M O := fun x y e => k x y (h x y e)
theorem setM_le (M : Nat → Nat → Bool) (a b : Nat) : LeM M (setM M a b) := fun x y h => by simp [setM, h]
theorem setM_at (M : Nat → Nat → Bool) (a b : Nat) : setM M a b a b = true := by simp [setM]
theorem foldM_le {α : Type} {f : (Nat → Nat → Bool) → α → (Nat → Nat → Bool)} (hf : ∀ M a, LeM M (f M a)) : ∀ (L : List α) (M : Nat → Nat → Bool), LeM M (L.foldl f M) := by
  intro L
  induction L with
  | nil => intro M; exact LeM.refl M
  | cons a L ih => intro M; exact (hf M a).trans (ih (f M a))
theorem fwIn_le (k i : Nat) (M : Nat → Nat → Bool) (j : Nat) : LeM M (fwIn k i M j) := by
  unfold fwIn
  split
  · exact setM_le M i j
  · exact LeM.refl M
theorem fwRow_le (n k : Nat) (M : Nat → Nat → Bool) (i : Nat) : LeM M (fwRow n k M i) := foldM_le (fwIn_le k i) _ _
theorem fwK_le (n : Nat) (M : Nat → Nat → Bool) (k : Nat) : LeM M (fwK n M k) := foldM_le (fwRow_le n k) _ _
/-- What is on the way of a fold stays. -/
theorem foldM_mem {α : Type} {f : (Nat → Nat → Bool) → α → (Nat → Nat → Bool)} (hf : ∀ M a, LeM M (f M a)) {a : α} {x y : Nat} : ∀ (L : List α) (M : Nat → Nat → Bool), a ∈ L → (∀ N, LeM M N → f N a x y = true) → L.foldl f M x y = true := by
  intro L
  induction L with
  | nil => intro M h; cases h
  | cons b L ih =>
    intro M h hN
    rcases List.mem_cons.1 h with rfl | h
    · exact foldM_le hf L _ x y (hN M (LeM.refl M))
    · exact ih (f M b) h (fun N hN2 => hN N ((hf M b).trans hN2))
theorem fwK_get {n k i j : Nat} {M : Nat → Nat → Bool} (hi : i < n) (hj : j < n) (h1 : M i k = true) (h2 : M k j = true) : fwK n M k i j = true := by
  refine foldM_mem (fwRow_le n k) (a := i) _ _ (List.mem_range.2 hi) (fun N hN => ?_)
  refine foldM_mem (fwIn_le k i) (a := j) _ _ (List.mem_range.2 hj) (fun O hO => ?_)
  rw [fwIn, hO i k (hN i k h1), hO k j (hN k j h2)]
  exact setM_at O i j
/-- Ways whose inner levels are below k. -/
def PK (B : Nat → Nat → Prop) : Nat → Nat → Nat → Prop
  | 0, i, j => B i j
  | k + 1, i, j => PK B k i j ∨ (PK B k i k ∧ PK B k k j)
theorem PK_trans {B : Nat → Nat → Prop} : ∀ (k a b c : Nat), b < k → PK B k a b → PK B k b c → PK B k a c := by
  intro k
  induction k with
  | zero => intro a b c h; omega
  | succ k ih =>
    intro a b c hb h1 h2
    rcases Nat.lt_or_ge b k with hb2 | hb2
    · rcases h1 with h1 | ⟨h1, h1'⟩ <;> rcases h2 with h2 | ⟨h2, h2'⟩
      · exact .inl (ih a b c hb2 h1 h2)
      · exact .inr ⟨ih a b k hb2 h1 h2, h2'⟩
      · exact .inr ⟨h1, ih k b c hb2 h1' h2⟩
      · exact .inr ⟨h1, h2'⟩
    · obtain rfl : b = k := by omega
      have e1 : PK B b a b := by rcases h1 with h1 | ⟨h1, _⟩ <;> exact h1
      have e2 : PK B b b c := by rcases h2 with h2 | ⟨_, h2⟩ <;> exact h2
      exact .inr ⟨e1, e2⟩
theorem PK_base {B : Nat → Nat → Prop} {i j : Nat} (h : B i j) : ∀ k, PK B k i j := by
  intro k
  induction k with
  | zero => exact h
  | succ k ih => exact .inl ih
theorem fw_all {n : Nat} {M : Nat → Nat → Bool} : ∀ k, k ≤ n → ∀ i j, i < n → j < n → PK (fun a b => M a b = true) k i j → (List.range k).foldl (fwK n) M i j = true := by
  intro k
  induction k with
  | zero => intro _ i j _ _ h; exact h
  | succ k ih =>
    intro hk i j hi hj h
    rw [range_fold]
    rcases h with h | ⟨h1, h2⟩
    · exact fwK_le n _ k i j (ih (by omega) i j hi hj h)
    · exact fwK_get hi hj (ih (by omega) i k hi (by omega) h1) (ih (by omega) k j (by omega) hj h2)
theorem fold_sound {α : Type} {f : (Nat → Nat → Bool) → α → (Nat → Nat → Bool)} {Q : (Nat → Nat → Bool) → Prop} (hf : ∀ M a, Q M → Q (f M a)) : ∀ (L : List α) (M : Nat → Nat → Bool), Q M → Q (L.foldl f M) := by
  intro L
  induction L with
  | nil => intro M h; exact h
  | cons a L ih => intro M h; exact ih _ (hf M a h)
theorem edge_get {es : List (Int × Int)} {M : Nat → Nat → Bool} {e : Int × Int} (he : e ∈ es) : es.foldl edgeM M e.1.toNat e.2.toNat = true :=
  foldM_mem (f := edgeM) (fun M a => setM_le M _ _) es M he (fun N _ => setM_at N _ _)
theorem edge_sound {M : Nat → Nat → Bool} {x y : Nat} : ∀ (fs : List (Int × Int)), fs.foldl edgeM M x y = true → M x y = true ∨ ∃ e ∈ fs, x = e.1.toNat ∧ y = e.2.toNat := by
  intro fs
  induction fs generalizing M with
  | nil => intro h; exact .inl h
  | cons e fs ih =>
    intro h
    rcases ih h with h | ⟨f, hf, h⟩
    · simp only [edgeM, setM, Bool.or_eq_true, Bool.and_eq_true, beq_iff_eq] at h
      rcases h with h | ⟨rfl, rfl⟩
      · exact .inl h
      · exact .inr ⟨e, by simp, rfl, rfl⟩
    · exact .inr ⟨f, by simp [hf], h⟩
theorem closG_is {n : Nat} {es : List (Int × Int)} (hb : badE n es = false) {i j : Nat} (hi : i < n) (hj : j < n) : closG n es i j = rch n (natE es) i j := by
  have hok := natE_ok hb
  rw [Bool.eq_iff_iff]
  constructor
  · have hQ : ∀ x y, y < n → closG n es x y = true → rch n (natE es) x y = true := by
      have hset : ∀ (k i : Nat), k < n → ∀ (M : Nat → Nat → Bool) (j : Nat), (∀ x y, y < n → M x y = true → rch n (natE es) x y = true) → ∀ x y, y < n → fwIn k i M j x y = true → rch n (natE es) x y = true := by
        intro k i hk M j hM x y hy h
        unfold fwIn at h
        split at h
        · rename_i h1
          rw [Bool.and_eq_true] at h1
          simp only [setM, Bool.or_eq_true, Bool.and_eq_true, beq_iff_eq] at h
          rcases h with h | ⟨rfl, rfl⟩
          · exact hM x y hy h
          · exact rch_trans hok hy (hM _ _ hk h1.1) (hM _ _ hy h1.2)
        · exact hM x y hy h
      have hK : ∀ k, k < n → ∀ M : Nat → Nat → Bool, (∀ x y, y < n → M x y = true → rch n (natE es) x y = true) → (∀ x y, y < n → fwK n M k x y = true → rch n (natE es) x y = true) := fun k hk M hM =>
        fold_sound (Q := fun M => ∀ x y, y < n → M x y = true → rch n (natE es) x y = true) (fun M i hM => fold_sound (Q := fun M => ∀ x y, y < n → M x y = true → rch n (natE es) x y = true) (fun M j hM => hset k i hk M j hM) _ M hM) _ M hM
      have hL : ∀ (L : List Nat), (∀ k ∈ L, k < n) → ∀ M : Nat → Nat → Bool, (∀ x y, y < n → M x y = true → rch n (natE es) x y = true) → (∀ x y, y < n → L.foldl (fwK n) M x y = true → rch n (natE es) x y = true) := by
        intro L
        induction L with
        | nil => intro _ M hM; exact hM
        | cons k L ih => intro hL M hM; exact ih (fun k hk => hL k (by simp [hk])) _ (hK k (hL k (by simp)) M hM)
      refine hL (List.range n) (fun k hk => List.mem_range.1 hk) _ (fun x y hy h => ?_)
      rcases edge_sound es h with h | ⟨e, he, rfl, rfl⟩
      · simp [idM] at h
        rw [h.1]
        exact rch_refl _ y
      · exact rch_one hok (List.mem_map.2 ⟨e, he, rfl⟩)
    exact hQ i j hj
  · intro h
    refine fw_all n (Nat.le_refl n) i j hi hj ?_
    refine (rch_min (j := j) (fun x => x < n → PK (fun a b => es.foldl edgeM (idM n) a b = true) n x j) (fun hx => PK_base ?_ n) (fun a b he ih ha => ?_) h) hi
    · exact foldM_le (fun M a => setM_le M _ _) es (idM n) j j (by simp [idM, hx])
    · obtain ⟨e, hee, e2⟩ := List.mem_map.1 he
      simp only [Prod.mk.injEq] at e2
      obtain ⟨rfl, rfl⟩ := e2
      have hb2 := (hok _ (List.mem_map.2 ⟨e, hee, rfl⟩ : (e.1.toNat, e.2.toNat) ∈ natE es)).2
      exact PK_trans n _ _ _ hb2 (PK_base (edge_get hee) n) (ih hb2)
/-- The rows as the printed contracts read them. -/
theorem LQ.C {w : World} {base n : Nat} {A : Option Addr} {c : Nat} {bs : List Nat} {M : Nat → Nat → Bool} (h : LQ w base (.slice A n c) bs n M) (hl : bs.length = n) (hn : n ≤ 8) : Kd.C (Kd.slice 4 Kd.bool) w A (LL n M).length (LL n M) := by
  refine ⟨rfl, by rw [LL_len]; omega, fun h0 => ?_⟩
  rw [LL_len] at h0
  obtain ⟨ad, eA, _⟩ := h.out_at rfl (i := 0) (by omega)
  refine ⟨ad, eA, fun j p hj => ?_⟩
  have hjn : j < n := by
    have := (List.getElem?_eq_some_iff.1 hj).1
    rwa [LL_len] at this
  have hp : p = (List.range n).map (M j) := by
    have : (LL n M)[j]? = some ((List.range n).map (M j)) := by simp [LL, hjn]
    rw [this] at hj
    injection hj with hj
    exact hj.symm
  obtain ⟨ad2, e2, o1⟩ := h.out_at rfl (i := j) (by omega)
  obtain rfl : ad = ad2 := by rw [eA] at e2; injection e2
  refine ⟨[.slice (some ⟨bsAt bs j, 0, none⟩) n n], rfl, ⟨some ⟨bsAt bs j, 0, none⟩, n, ?_, ?_, ?_⟩, fun i u hi => ?_⟩
  · rw [hp, row_len]
  · rw [hp, row_len]; exact Nat.le_refl _
  · rw [hp, row_len]
    refine Kd.C_of_reads (d := false) (h1 := fun _ => rfl) ⟨by simp, by omega, fun _ => ⟨_, rfl, fun y hy => ?_⟩⟩
    rw [add_plain, (h.inn_at (i := j) (j := y) (by omega) hy).1]
    simp [List.getD_eq_getElem?_getD, hy]
  · cases i with
    | zero =>
      obtain rfl : Value.slice (some ⟨bsAt bs j, 0, none⟩) n n = u := by simpa using hi
      show w.cell? (ad.add (j * 1 + 0)) = _
      rw [Nat.mul_one, Nat.add_zero]
      exact o1
    | succ i => simp at hi
end Go.Proofs.Ytpbaebjohioijaa.Lat
namespace Go.Proofs.Ytpbaebjohioijaa.Lat
open Go.RowKit Go.Proofs.YtpbaebjohioijaaW.PrintWords Go.Proofs.YtpbaebjohioijaaW.PrintLast Go.Proofs.YtpbaebjohioijaaW.PrintMore Go.Proofs.Ytpbaebjohioijaa.PSolveLeast
set_option linter.unusedVariables false
set_option linter.unusedSimpArgs false

/-! ### The reference's New -/
/-- Two levels are as a lattice wants it. -/
def pairG (n : Nat) (M : Nat → Nat → Bool) (i j : Nat) : Bool := !((decide (i ≠ j) && (M i j && M j i)) || (decide (leastG n M [(i : Int), (j : Int)] n 0 < 0) || decide (leastG n (fun a b => M b a) [(i : Int), (j : Int)] n 0 < 0)))
theorem lub_two {n : Nat} {M : Nat → Nat → Bool} {i j : Nat} : (¬ leastG n M [(i : Int), (j : Int)] n 0 < 0) ↔ ∃ l < n, (M i l && M j l) = true ∧ ∀ x < n, (M i x && M j x) = true → M l x = true := by
  have e : ([(i : Int), (j : Int)].map Int.toNat) = [i, j] := by simp
  rcases leastG_is (n := n) (M := M) (list := [(i : Int), (j : Int)]) n 0 (by omega) with ⟨k, _, h1, h2⟩ | ⟨h1, h2⟩
  · rw [h1, e] at *
    constructor
    · intro _
      refine ⟨k, h2.lt, by simp [h2.up i (by simp), h2.up j (by simp)], fun x hx ha => h2.least x hx (fun l hl => ?_)⟩
      rw [Bool.and_eq_true] at ha
      rcases List.mem_cons.1 hl with rfl | hl
      · exact ha.1
      · rw [List.mem_singleton.1 hl]; exact ha.2
    · intro _; omega
  · rw [h1]
    constructor
    · intro h; exact absurd (by decide) h
    · rintro ⟨l, hl, ha, hx⟩ _
      rw [Bool.and_eq_true] at ha
      refine h2 l (Nat.zero_le _) ⟨hl, fun y hy => ?_, fun x hxn hu => hx x hxn ?_⟩
      · rw [e] at hy
        rcases List.mem_cons.1 hy with rfl | hy
        · exact ha.1
        · rw [List.mem_singleton.1 hy]; exact ha.2
      · rw [e] at hu
        simp [hu i (by simp), hu j (by simp)]
theorem pair_is {n : Nat} (hn : n ≤ 8) {us ds : List Int} {le : Nat → Nat → Bool} (h : Mk n us le) (k : Mk n ds (fun a b => le b a)) {a b : Nat} (ha : a < n) (hb : b < n) : pairG n le a b = okP us ds a b := by
  rw [Bool.eq_iff_iff, okP_is hn h k ha hb, ← lub_two, ← lub_two (M := fun a b => le b a), pairG]
  simp only [Bool.not_eq_true', Bool.or_eq_false_iff, decide_eq_false_iff_not, Bool.and_eq_false_iff]
  constructor
  · rintro ⟨h1, h2, h3⟩
    refine ⟨fun hne hh => ?_, h2, h3⟩
    rcases h1 with h1 | h1 | h1
    · exact h1 hne
    · rw [hh.1] at h1; cases h1
    · rw [hh.2] at h1; cases h1
  · rintro ⟨h1, h2, h3⟩
    refine ⟨?_, h2, h3⟩
    by_cases e : a = b
    · exact .inl (fun hne => hne e)
    · have := h1 e
      cases h4 : le a b with
      | false => exact .inr (.inl rfl)
      | true =>
        cases h5 : le b a with
        | false => exact .inr (.inr rfl)
        | true => exact absurd ⟨h4, h5⟩ this
/-- Right edges: the answer hangs on the pairs. -/
theorem code_pairs {m : Nat} (h0 : 0 < m) (hm : m ≤ 8) {es : List (Int × Int)} (hb : badE m es = false) : codeM m es = if ∀ i < m, ∀ j < m, pairG m (rch m (natE es)) i j = true then 0 else 31 := by
  obtain ⟨h1, h2⟩ := clos_Mk hm hb
  rw [codeM, if_neg (by omega), hb, Int.toNat_natCast]
  have : rightb m (closE m es).1 (closE m es).2 = true ↔ ∀ i < m, ∀ j < m, pairG m (rch m (natE es)) i j = true := by
    rw [rightb_is]
    exact ⟨fun h i hi j hj => (pair_is hm h1 h2 hi hj).trans (h i hi j hj), fun h i hi j hj => (pair_is hm h1 h2 hi hj).symm.trans (h i hi j hj)⟩
  by_cases hr : rightb m (closE m es).1 (closE m es).2 = true
  · rw [if_pos (this.1 hr)]
    simp [hr]
  · rw [if_neg (fun h => hr (this.2 h))]
    simp [hr]
end Go.Proofs.Ytpbaebjohioijaa.Lat
namespace Go.Proofs.Ytpbaebjohioijaa.Lat
open Go.RowKit Go.Proofs.YtpbaebjohioijaaW.PrintWords Go.Proofs.YtpbaebjohioijaaW.PrintLast Go.Proofs.YtpbaebjohioijaaW.PrintMore Go.Proofs.Ytpbaebjohioijaa.PSolveLeast
set_option linter.unusedVariables false
set_option linter.unusedSimpArgs false

theorem LQ.foot {w w' : World} {base n : Nat} {v : Value} {bs : List Nat} {M : Nat → Nat → Bool} {S : Nat → Prop} (h : LQ w base v bs n M) (hf : Foot S w w') (hS : ∀ k, base ≤ k → ¬ S k) : LQ w' base v bs n M :=
  ⟨Kd.R_mono (R_foot (Kd.R_mono (Kd.R_bound h.row) (ok' := fun k => k ∉ bs ∧ base ≤ k) (fun k hk => ⟨hk.1, hk.2.1⟩)) hf (fun k hk => hS k hk.2)) (fun _ hk => hk.1), fun i hi => ⟨hf.blk (h.inn i hi).1 (hS _ (h.inn i hi).2), (h.inn i hi).2⟩, h.nd⟩
theorem LQ.lower {w : World} {base base' n : Nat} {v : Value} {bs : List Nat} {M : Nat → Nat → Bool} (h : LQ w base v bs n M) (hb : base' ≤ base) : LQ w base' v bs n M :=
  ⟨Kd.R_lower h.row hb, fun i hi => ⟨(h.inn i hi).1, Nat.le_trans hb (h.inn i hi).2⟩, h.nd⟩
theorem least_two (n : Nat) (hn : n ≤ 8) (M : Nat → Nat → Bool) (A : Option Addr) (c : Nat) (W : World) (hc : n ≤ c) (hC : Kd.C (Kd.slice 4 Kd.bool) W A (LL n M).length (LL n M)) (i j : Nat) (hi : i < n) (hj : j < n) :
    Calls Try.prog 45 #[.agg #[.slice A n c], .slice (some ⟨W.heap.size, 0, none⟩) 2 2] (W.alloc (.cells #[.int .i64 i, .int .i64 j] 3)) fun e w' => e = .returned (.int .i64 (leastG n M [(i : Int), (j : Int)] n 0)) ∧ Below (W.alloc (.cells #[.int .i64 i, .int .i64 j] 3)).heap.size (W.alloc (.cells #[.int .i64 i, .int .i64 j] 3)) w' := by
  have hv : Lv n [(i : Int), (j : Int)] := ⟨fun x hx => by
    have : x = 0 ∨ x = 1 := by simp at hx; omega
    rcases this with rfl | rfl <;> simp [rd] <;> omega, by simp⟩
  obtain ⟨k, hk⟩ := least_ex hn (M := M) hv
  have := portcullisref01_Order_least.calls k A c (LL n M) (some ⟨W.heap.size, 0, none⟩) 2 [(i : Int), (j : Int)] _ (W.alloc (.cells #[.int .i64 i, .int .i64 j] 3)) (Kd.C_below hC (below_alloc (Below.refl _ _) _)) (by rw [LL_len]; exact hc) (C_ints _ _ [(i : Int), (j : Int)] (blk_new W _) (by simp)) (Nat.le_refl _) hk
  rw [LL_len] at this
  exact this
set_option maxHeartbeats 8000000 in
set_option maxRecDepth 100000 in
theorem refNew_any (n : Int) (A : Option Addr) (c : Nat) (es : List (Int × Int)) (w : World) (hr : Kd.C KE w A es.length es) (hl : es.length ≤ 1000000) :
    Calls Try.prog 20 #[.int .i64 n, .slice A es.length c] w fun e w' => Below w.heap.size w w' ∧
      ((codeM n es ≠ 0 ∧ e = .returned (.tuple #[.agg #[.slice none 0 0], .int .i64 (codeM n es)])) ∨
        (codeM n es = 0 ∧ ∃ A' c' bs, e = .returned (.tuple #[.agg #[.slice A' n.toNat c'], .int .i64 0]) ∧ LQ w' w.heap.size (.slice A' n.toNat c') bs n.toNat (rch n.toNat (natE es)) ∧ bs.length = n.toNat)) := by
  have HC := Aside0.mk hr
  clear hr
  have D1 := Aside0.mk (below_alloc (Below.refl w.heap.size w) (.cells #[.slice none 0 0] 31))
  by_cases h1 : n < 1
  · have E : Aside0 (codeM n es = 22) := ⟨by rw [codeM, if_pos (.inl h1)]⟩
    go_enter Try.func20, Try.ntmps20
    go_wp2
    refine bodyPost_ret (results_ct rfl _ _ w.heap.size 31 #[.slice none 0 0] (0, 0) _ rfl (by first | exact blk_new _ _ | exact (blk_set (blk_new _ _) 0 _)) Try.underlying31 rfl (by kernel_rfl)) rfl ?_
    exact ⟨by first | exact D1.out | exact below_set D1.out (Nat.le_refl _), .inl ⟨by rw [E.out]; decide, by rw [E.out]; rfl⟩⟩
  by_cases h2 : 8 < n
  · have E : Aside0 (codeM n es = 22) := ⟨by rw [codeM, if_pos (.inr h2)]⟩
    go_enter Try.func20, Try.ntmps20
    go_wp2
    refine bodyPost_ret (results_ct rfl _ _ w.heap.size 31 #[.slice none 0 0] (0, 0) _ rfl (by first | exact blk_new _ _ | exact (blk_set (blk_new _ _) 0 _)) Try.underlying31 rfl (by kernel_rfl)) rfl ?_
    exact ⟨by first | exact D1.out | exact below_set D1.out (Nat.le_refl _), .inl ⟨by rw [E.out]; decide, by rw [E.out]; rfl⟩⟩
  obtain ⟨m, rfl⟩ := Int.eq_ofNat_of_zero_le (show 0 ≤ n by omega)
  have hm0 : 0 < m := by omega
  have hm8 : m ≤ 8 := by omega
  clear h1 h2
  rw [Int.toNat_natCast]
  have G1 := Aside0.mk (blk_new w (.cells #[.slice none 0 0] 31))
  obtain ⟨gb, hgb⟩ : ∃ gb, w.heap.size = gb := ⟨_, rfl⟩
  go_enter Try.func20, Try.ntmps20
  go_wp2_with fail
  obtain ⟨wa, hwa⟩ : ∃ wa, w.alloc (.cells #[.slice none 0 0] 31) = wa := ⟨_, rfl⟩
  rw [hwa] at D1 G1 ⊢
  have HGB := Aside0.mk hgb
  rw [hgb] at G1
  try rw [hgb]
  clear hwa hgb
  go_loopw [6] (fun i wr => ∃ q : Nat, i = .int .i64 q ∧ q ≤ es.length ∧ Aside0 (∀ j < q, badB m (rdE es j) = false) ∧ Aside0 (Below wa.heap.size wa wr)) (fun i _ => es.length - (intOf i).toNat)
  case atStart => exact ⟨0, rfl, Nat.zero_le _, ⟨fun j hj => absurd hj (Nat.not_lt_zero j)⟩, ⟨Below.refl _ _⟩⟩
  case round =>
    obtain ⟨q, rfl, hq, H0, B⟩ := hrel
    obtain ⟨wi, rfl⟩ : ∃ wi : World, wi = wr := ⟨_, rfl⟩
    have G2 := Aside0.mk (blk_below G1.out B.out)
    by_cases hqe : q < es.length
    · obtain ⟨ad, eA, e0, e1⟩ := at_E (Kd.C_below HC.out (below_then D1.out D1.out.size B.out)) q hqe
      subst eA
      have HV : Aside0 (badB m (rdE es q) = (!(decide (0 ≤ (rdE es q).1) && decide ((rdE es q).1 < m)) || !(decide (0 ≤ (rdE es q).2) && decide ((rdE es q).2 < m)))) := ⟨rfl⟩
      have HB1 : Aside0 (badB m (rdE es q) = true → codeM m es = 30) := ⟨fun h => by rw [codeM, if_neg (by omega), if_pos (bad_one hqe h)]⟩
      obtain ⟨a, ha⟩ : ∃ a, (rdE es q).1 = a := ⟨_, rfl⟩
      obtain ⟨b, hb⟩ : ∃ a, (rdE es q).2 = a := ⟨_, rfl⟩
      rw [ha] at e0
      rw [hb] at e1
      rw [ha, hb] at HV
      clear ha hb
      have hfz := blk_frozen G2.out 0
      have hcz : wi.cell? ⟨gb, 0, none⟩ = some (.slice none 0 0) := (blk_cell G2.out 0).trans rfl
      have BAD : Aside0 (badB m (rdE es q) = true → Below w.heap.size w (wi.setCell ⟨gb, 0, none⟩ (.slice none 0 0)) ∧ codeM m es = 30) := ⟨fun h => ⟨below_set (below_then D1.out D1.out.size B.out) (by rw [HGB.out]; exact Nat.le_refl _), HB1.out h⟩⟩
      by_cases g0 : a < 0
      · have Z := BAD.out (HV.out.trans (by simp; omega))
        have ZB := Aside0.mk Z.1
        have ZC := Aside0.mk Z.2
        clear Z BAD HB1 HV
        go_wp2
        refine bodyPost_ret (results_ct rfl _ _ gb 31 #[.slice none 0 0] (0, 0) _ rfl (blk_set G2.out 0 _) Try.underlying31 rfl (by kernel_rfl)) rfl ?_
        exact ⟨ZB.out, .inl ⟨by rw [ZC.out]; decide, by rw [ZC.out]; rfl⟩⟩
      by_cases g1 : (m : Int) ≤ a
      · have Z := BAD.out (HV.out.trans (by simp; omega))
        have ZB := Aside0.mk Z.1
        have ZC := Aside0.mk Z.2
        clear Z BAD HB1 HV
        go_wp2
        refine bodyPost_ret (results_ct rfl _ _ gb 31 #[.slice none 0 0] (0, 0) _ rfl (blk_set G2.out 0 _) Try.underlying31 rfl (by kernel_rfl)) rfl ?_
        exact ⟨ZB.out, .inl ⟨by rw [ZC.out]; decide, by rw [ZC.out]; rfl⟩⟩
      by_cases g2 : b < 0
      · have Z := BAD.out (HV.out.trans (by simp; omega))
        have ZB := Aside0.mk Z.1
        have ZC := Aside0.mk Z.2
        clear Z BAD HB1 HV
        go_wp2
        refine bodyPost_ret (results_ct rfl _ _ gb 31 #[.slice none 0 0] (0, 0) _ rfl (blk_set G2.out 0 _) Try.underlying31 rfl (by kernel_rfl)) rfl ?_
        exact ⟨ZB.out, .inl ⟨by rw [ZC.out]; decide, by rw [ZC.out]; rfl⟩⟩
      by_cases g3 : (m : Int) ≤ b
      · have Z := BAD.out (HV.out.trans (by simp; omega))
        have ZB := Aside0.mk Z.1
        have ZC := Aside0.mk Z.2
        clear Z BAD HB1 HV
        go_wp2
        refine bodyPost_ret (results_ct rfl _ _ gb 31 #[.slice none 0 0] (0, 0) _ rfl (blk_set G2.out 0 _) Try.underlying31 rfl (by kernel_rfl)) rfl ?_
        exact ⟨ZB.out, .inl ⟨by rw [ZC.out]; decide, by rw [ZC.out]; rfl⟩⟩
      have HG : Aside0 (badB m (rdE es q) = false) := ⟨HV.out.trans (by simp; omega)⟩
      clear BAD HB1 HV hfz hcz
      go_wp2_with fail
      go_roundw
      case rel => exact ⟨q + 1, by go_num, by omega, ⟨fun j hj => by
        by_cases e : j = q
        · rw [e]; exact HG.out
        · exact H0.out j (by omega)⟩, B⟩
      case measure => simp [intOf]; omega
    · have hbad : badE m es = false := bad_all (fun j hj => H0.out j (by omega))
      have HBAD := Aside0.mk hbad
      have HCP := Aside0.mk (code_pairs hm0 hm8 hbad)
      have HM : Aside0 (∀ i j, i < m → j < m → closG m es i j = rch m (natE es) i j) := ⟨fun i j hi hj => closG_is hbad hi hj⟩
      have BI := Aside0.mk (below_then D1.out D1.out.size B.out)
      clear hbad H0 G1 D1 B
      go_wp2_with fail
      refine (closed_any m hm0 hm8 A c es wi (Kd.C_below HC.out BI.out) hl HBAD.out).mono ?_
      rintro e w2 ⟨v, bs, rfl, Q, hbl, b2⟩
      have Q2 := Aside0.mk (Q.ext (M' := rch m (natE es)) (fun i hi j hj => HM.out i j (by omega) hj))
      have HBL := Aside0.mk hbl
      have BW2 := Aside0.mk (below_then BI.out BI.out.size b2)
      have G3 := Aside0.mk (blk_below G2.out b2)
      have hbs := BI.out.size
      have HGW : Aside0 (gb < wi.heap.size) := ⟨blk_lt G2.out⟩
      clear Q hbl b2 BI G2 HM HBAD
      obtain ⟨A2, c2, rfl, hl2, hC2⟩ := Kd.R_reads Q2.out.row
      rw [HBL.out] at Q2 hl2 ⊢
      clear hC2
      obtain ⟨M, hM⟩ : ∃ M, rch m (natE es) = M := ⟨_, rfl⟩
      have HMM := Aside0.mk hM
      rw [hM] at Q2 HCP
      clear hM
      go_wp2_with fail
      obtain ⟨k0, hk0⟩ := turned_ex hm8 (M := M)
      have b3 := below_alloc (Below.refl w2.heap.size w2) (.cells #[.slice A2 m c2] 31)
      have T := portcullisref01_Order_turned.calls k0 A2 c2 (LL m M) _ _ ((Q2.out.below b3).C HBL.out hm8) (by rw [LL_len]; exact hl2) hk0
      rw [LL_len] at T
      refine T.mono ?_
      clear T hk0
      rintro e w4 ⟨v0, rfl, S4, b4⟩
      obtain ⟨A4, c4, e4, hl4, hC4⟩ := Kd.S_reads S4
      rw [LL_len] at e4 hl4
      subst e4
      have b24 := below_then b3 b3.size b4
      have b5 := below_alloc (Below.refl w4.heap.size w4) (.cells #[.slice A4 m c4] 31)
      have b25 := below_then b24 b24.size b5
      have Q5 := Aside0.mk (Q2.out.below b25)
      have C5 := Aside0.mk (Kd.C_below hC4 b5)
      have BW5 := Aside0.mk (below_then BW2.out BW2.out.size b25)
      have G5 := Aside0.mk (blk_below G3.out b25)
      have OB := Aside0.mk (blk_below (blk_below (blk_new w2 (.cells #[.slice A2 m c2] 31)) b4) b5)
      have TB := Aside0.mk (blk_new w4 (.cells #[.slice A4 m c4] 31))
      go_wp2_with fail
      obtain ⟨w5, hw5⟩ : ∃ w5, w4.alloc (.cells #[.slice A4 m c4] 31) = w5 := ⟨_, rfl⟩
      obtain ⟨ob, hob⟩ : ∃ ob, w2.heap.size = ob := ⟨_, rfl⟩
      obtain ⟨tb, htb⟩ : ∃ tb, w4.heap.size = tb := ⟨_, rfl⟩
      rw [hw5] at Q5 C5 BW5 G5 OB TB
      rw [hob] at OB
      rw [htb] at TB
      try rw [hw5]
      try rw [hob]
      try rw [htb]
      clear hw5 hob htb b3 b4 b5 b24 b25 S4 hC4 Q2 BW2 G3
      have HBD : Aside0 (∀ i j, i < m → j < m → pairG m M i j = false → codeM m es = 31) := ⟨fun i j hi hj h => by
        rw [HCP.out, if_neg (fun h2 => by rw [h2 i hi j hj] at h; cases h)]⟩
      have HL1 : Aside0 (∀ W, Below w5.heap.size w5 W → ∀ i j : Nat, i < m → j < m → Calls Try.prog 45 #[.agg #[.slice A2 m c2], .slice (some ⟨W.heap.size, 0, none⟩) 2 2] (W.alloc (.cells #[.int .i64 i, .int .i64 j] 3)) fun e w' => e = .returned (.int .i64 (leastG m M [(i : Int), (j : Int)] m 0)) ∧ Below (W.alloc (.cells #[.int .i64 i, .int .i64 j] 3)).heap.size (W.alloc (.cells #[.int .i64 i, .int .i64 j] 3)) w') := ⟨fun W B i j hi hj => least_two m hm8 M A2 c2 W hl2 ((Q5.out.below B).C HBL.out hm8) i j hi hj⟩
      have HL2 : Aside0 (∀ W, Below w5.heap.size w5 W → ∀ i j : Nat, i < m → j < m → Calls Try.prog 45 #[.agg #[.slice A4 m c4], .slice (some ⟨W.heap.size, 0, none⟩) 2 2] (W.alloc (.cells #[.int .i64 i, .int .i64 j] 3)) fun e w' => e = .returned (.int .i64 (leastG m (fun a b => M b a) [(i : Int), (j : Int)] m 0)) ∧ Below (W.alloc (.cells #[.int .i64 i, .int .i64 j] 3)).heap.size (W.alloc (.cells #[.int .i64 i, .int .i64 j] 3)) w') := ⟨fun W B i j hi hj => least_two m hm8 (fun a b => M b a) A4 c4 W hl4 (Kd.C_below C5.out B) i j hi hj⟩
      obtain ⟨ad, eA, _⟩ := Q5.out.out_at rfl (i := 0) (by rw [HBL.out]; exact hm0)
      subst eA
      have GET : Aside0 (∀ (W : World), Below w5.heap.size w5 W → ∀ a b, a < m → b < m → W.cell? (ad.add a) = some (.slice (some ⟨bsAt bs a, 0, none⟩) m m) ∧ W.cell? ⟨bsAt bs a, b, none⟩ = some (.bool (M a b))) := ⟨fun W B a b h1 h2 => by
        have q := Q5.out.below B
        obtain ⟨ad2, e2, o1⟩ := q.out_at rfl (i := a) (by rw [HBL.out]; exact h1)
        obtain rfl : ad = ad2 := by injection e2
        exact ⟨o1, (q.inn_at (i := a) (j := b) (by rw [HBL.out]; exact h1) h2).1⟩⟩
      clear C5
      go_loopw [9] (fun x wr => ∃ i : Nat, x = .int .i64 i ∧ i ≤ m ∧ Aside0 (∀ a < i, ∀ b < m, pairG m M a b = true) ∧ Aside0 (Below w5.heap.size w5 wr)) (fun x _ => m - (intOf x).toNat)
      case atStart => exact ⟨0, rfl, Nat.zero_le _, ⟨fun a ha => absurd ha (Nat.not_lt_zero a)⟩, ⟨Below.refl _ _⟩⟩
      case round =>
        obtain ⟨i, rfl, hi, H0, D0⟩ := hrel
        obtain ⟨wo, rfl⟩ : ∃ wi : World, wi = wr := ⟨_, rfl⟩
        by_cases him : i < m
        · go_wp2_with fail
          go_loopw [10] (fun x wr => ∃ j : Nat, x = .int .i64 j ∧ j ≤ m ∧ Aside0 (∀ b < j, pairG m M i b = true) ∧ Aside0 (Below w5.heap.size w5 wr)) (fun x _ => m - (intOf x).toNat)
          case atStart => exact ⟨0, rfl, Nat.zero_le _, ⟨fun b hb => absurd hb (Nat.not_lt_zero b)⟩, D0⟩
          case round =>
            obtain ⟨j, rfl, hj, H1, D⟩ := hrel
            obtain ⟨wj, rfl⟩ : ∃ wi : World, wi = wr := ⟨_, rfl⟩
            by_cases hjm : j < m
            · obtain ⟨o1, i1⟩ := GET.out wj D.out i j him hjm
              obtain ⟨o2, i2⟩ := GET.out wj D.out j i hjm him
              have f0 : wj.cell? ⟨ob, 0, none⟩ = some (.slice (some ad) m c2) := (blk_cell (blk_below OB.out D.out) 0).trans rfl
              have HPG : Aside0 (pairG m M i j = !((decide (i ≠ j) && (M i j && M j i)) || (decide (leastG m M [(i : Int), (j : Int)] m 0 < 0) || decide (leastG m (fun a b => M b a) [(i : Int), (j : Int)] m 0 < 0)))) := ⟨rfl⟩
              have HBD' := Aside0.mk (HBD.out i j him hjm)
              obtain ⟨u1, hu1⟩ : ∃ u, M i j = u := ⟨_, rfl⟩
              obtain ⟨u2, hu2⟩ : ∃ u, M j i = u := ⟨_, rfl⟩
              have HX1 : ∃ x, leastG m M [(i : Int), (j : Int)] m 0 = x := ⟨_, rfl⟩
              have HX2 : ∃ x, leastG m (fun a b => M b a) [(i : Int), (j : Int)] m 0 = x := ⟨_, rfl⟩
              obtain ⟨x1, hx1⟩ := HX1
              obtain ⟨x2, hx2⟩ := HX2
              rw [hu1, hu2, hx1, hx2] at HPG
              rw [hu1] at i1
              rw [hu2] at i2
              clear hu1 hu2
              by_cases hij : i = j
              · subst hij
                have HBD := HBD'
                go_wp2_with fail
                refine (HL1.out wj D.out i i him hjm).mono ?_
                rintro e w6 ⟨rfl, b6⟩
                have D6 := Aside0.mk (below_then (below_alloc D.out (.cells #[.int .i64 i, .int .i64 i] 3)) (below_alloc D.out (.cells #[.int .i64 i, .int .i64 i] 3)).size b6)
                clear b6
                rw [hx1]
                by_cases n1 : x1 < 0
                · have ZB : Aside0 (Below w.heap.size w (w6.setCell ⟨gb, 0, none⟩ (.slice none 0 0))) := ⟨below_set (below_then BW5.out BW5.out.size D6.out) (by rw [HGB.out]; exact Nat.le_refl _)⟩
                  have ZC := Aside0.mk (HBD.out (by rw [HPG.out]; simp [n1]))
                  have GX := Aside0.mk (blk_below G5.out D6.out)
                  have hfz := blk_frozen GX.out 0
                  have hcz : w6.cell? ⟨gb, 0, none⟩ = some (.slice none 0 0) := (blk_cell GX.out 0).trans rfl
                  go_wp2
                  refine bodyPost_ret (results_ct rfl _ _ gb 31 #[.slice none 0 0] (0, 0) _ rfl (blk_set GX.out 0 _) Try.underlying31 rfl (by kernel_rfl)) rfl ?_
                  exact ⟨ZB.out, .inl ⟨by rw [ZC.out]; decide, by rw [ZC.out]; rfl⟩⟩
                have f2 : w6.cell? ⟨tb, 0, none⟩ = some (.slice A4 m c4) := (blk_cell (blk_below TB.out D6.out) 0).trans rfl
                go_wp2_with fail
                refine (HL2.out w6 D6.out i i him hjm).mono ?_
                rintro e w7 ⟨rfl, b7⟩
                have D7 := Aside0.mk (below_then (below_alloc D6.out (.cells #[.int .i64 i, .int .i64 i] 3)) (below_alloc D6.out (.cells #[.int .i64 i, .int .i64 i] 3)).size b7)
                clear b7
                rw [hx2]
                by_cases n2 : x2 < 0
                · have ZB : Aside0 (Below w.heap.size w (w7.setCell ⟨gb, 0, none⟩ (.slice none 0 0))) := ⟨below_set (below_then BW5.out BW5.out.size D7.out) (by rw [HGB.out]; exact Nat.le_refl _)⟩
                  have ZC := Aside0.mk (HBD.out (by rw [HPG.out]; simp [n2]))
                  have GX := Aside0.mk (blk_below G5.out D7.out)
                  have hfz := blk_frozen GX.out 0
                  have hcz : w7.cell? ⟨gb, 0, none⟩ = some (.slice none 0 0) := (blk_cell GX.out 0).trans rfl
                  go_wp2
                  refine bodyPost_ret (results_ct rfl _ _ gb 31 #[.slice none 0 0] (0, 0) _ rfl (blk_set GX.out 0 _) Try.underlying31 rfl (by kernel_rfl)) rfl ?_
                  exact ⟨ZB.out, .inl ⟨by rw [ZC.out]; decide, by rw [ZC.out]; rfl⟩⟩
                have HPT : Aside0 (pairG m M i i = true) := ⟨by rw [HPG.out]; simp [n1, n2]⟩
                go_wp2_with fail
                go_roundw
                case rel => exact ⟨i + 1, by go_num, by omega, ⟨fun b hb => by
                  by_cases e : b = i
                  · rw [e]; exact HPT.out
                  · exact H1.out b (by omega)⟩, D7⟩
                case measure => simp [intOf]; omega
              · have k1 : ((i : Int) == (j : Int)) = false := beq_eq_false_iff_ne.2 (by omega)
                have k2 : ¬ (i : Int) = j := by omega
                have k3 : ((i : Int) != (j : Int)) = true := by simp [k2]
                have HBD := HBD'
                cases u1 with
                | false =>
                  go_wp2_with fail
                  refine (HL1.out wj D.out i j him hjm).mono ?_
                  rintro e w6 ⟨rfl, b6⟩
                  have D6 := Aside0.mk (below_then (below_alloc D.out (.cells #[.int .i64 i, .int .i64 j] 3)) (below_alloc D.out (.cells #[.int .i64 i, .int .i64 j] 3)).size b6)
                  clear b6
                  rw [hx1]
                  by_cases n1 : x1 < 0
                  · have ZB : Aside0 (Below w.heap.size w (w6.setCell ⟨gb, 0, none⟩ (.slice none 0 0))) := ⟨below_set (below_then BW5.out BW5.out.size D6.out) (by rw [HGB.out]; exact Nat.le_refl _)⟩
                    have ZC := Aside0.mk (HBD.out (by rw [HPG.out]; simp [n1]))
                    have GX := Aside0.mk (blk_below G5.out D6.out)
                    have hfz := blk_frozen GX.out 0
                    have hcz : w6.cell? ⟨gb, 0, none⟩ = some (.slice none 0 0) := (blk_cell GX.out 0).trans rfl
                    go_wp2
                    refine bodyPost_ret (results_ct rfl _ _ gb 31 #[.slice none 0 0] (0, 0) _ rfl (blk_set GX.out 0 _) Try.underlying31 rfl (by kernel_rfl)) rfl ?_
                    exact ⟨ZB.out, .inl ⟨by rw [ZC.out]; decide, by rw [ZC.out]; rfl⟩⟩
                  have f2 : w6.cell? ⟨tb, 0, none⟩ = some (.slice A4 m c4) := (blk_cell (blk_below TB.out D6.out) 0).trans rfl
                  go_wp2_with fail
                  refine (HL2.out w6 D6.out i j him hjm).mono ?_
                  rintro e w7 ⟨rfl, b7⟩
                  have D7 := Aside0.mk (below_then (below_alloc D6.out (.cells #[.int .i64 i, .int .i64 j] 3)) (below_alloc D6.out (.cells #[.int .i64 i, .int .i64 j] 3)).size b7)
                  clear b7
                  rw [hx2]
                  by_cases n2 : x2 < 0
                  · have ZB : Aside0 (Below w.heap.size w (w7.setCell ⟨gb, 0, none⟩ (.slice none 0 0))) := ⟨below_set (below_then BW5.out BW5.out.size D7.out) (by rw [HGB.out]; exact Nat.le_refl _)⟩
                    have ZC := Aside0.mk (HBD.out (by rw [HPG.out]; simp [n2]))
                    have GX := Aside0.mk (blk_below G5.out D7.out)
                    have hfz := blk_frozen GX.out 0
                    have hcz : w7.cell? ⟨gb, 0, none⟩ = some (.slice none 0 0) := (blk_cell GX.out 0).trans rfl
                    go_wp2
                    refine bodyPost_ret (results_ct rfl _ _ gb 31 #[.slice none 0 0] (0, 0) _ rfl (blk_set GX.out 0 _) Try.underlying31 rfl (by kernel_rfl)) rfl ?_
                    exact ⟨ZB.out, .inl ⟨by rw [ZC.out]; decide, by rw [ZC.out]; rfl⟩⟩
                  have HPT : Aside0 (pairG m M i j = true) := ⟨by rw [HPG.out]; simp [n1, n2]⟩
                  go_wp2_with fail
                  go_roundw
                  case rel => exact ⟨j + 1, by go_num, by omega, ⟨fun b hb => by
                    by_cases e : b = j
                    · rw [e]; exact HPT.out
                    · exact H1.out b (by omega)⟩, D7⟩
                  case measure => simp [intOf]; omega
                | true =>
                  cases u2 with
                  | false =>
                    go_wp2_with fail
                    refine (HL1.out wj D.out i j him hjm).mono ?_
                    rintro e w6 ⟨rfl, b6⟩
                    have D6 := Aside0.mk (below_then (below_alloc D.out (.cells #[.int .i64 i, .int .i64 j] 3)) (below_alloc D.out (.cells #[.int .i64 i, .int .i64 j] 3)).size b6)
                    clear b6
                    rw [hx1]
                    by_cases n1 : x1 < 0
                    · have ZB : Aside0 (Below w.heap.size w (w6.setCell ⟨gb, 0, none⟩ (.slice none 0 0))) := ⟨below_set (below_then BW5.out BW5.out.size D6.out) (by rw [HGB.out]; exact Nat.le_refl _)⟩
                      have ZC := Aside0.mk (HBD.out (by rw [HPG.out]; simp [n1]))
                      have GX := Aside0.mk (blk_below G5.out D6.out)
                      have hfz := blk_frozen GX.out 0
                      have hcz : w6.cell? ⟨gb, 0, none⟩ = some (.slice none 0 0) := (blk_cell GX.out 0).trans rfl
                      go_wp2
                      refine bodyPost_ret (results_ct rfl _ _ gb 31 #[.slice none 0 0] (0, 0) _ rfl (blk_set GX.out 0 _) Try.underlying31 rfl (by kernel_rfl)) rfl ?_
                      exact ⟨ZB.out, .inl ⟨by rw [ZC.out]; decide, by rw [ZC.out]; rfl⟩⟩
                    have f2 : w6.cell? ⟨tb, 0, none⟩ = some (.slice A4 m c4) := (blk_cell (blk_below TB.out D6.out) 0).trans rfl
                    go_wp2_with fail
                    refine (HL2.out w6 D6.out i j him hjm).mono ?_
                    rintro e w7 ⟨rfl, b7⟩
                    have D7 := Aside0.mk (below_then (below_alloc D6.out (.cells #[.int .i64 i, .int .i64 j] 3)) (below_alloc D6.out (.cells #[.int .i64 i, .int .i64 j] 3)).size b7)
                    clear b7
                    rw [hx2]
                    by_cases n2 : x2 < 0
                    · have ZB : Aside0 (Below w.heap.size w (w7.setCell ⟨gb, 0, none⟩ (.slice none 0 0))) := ⟨below_set (below_then BW5.out BW5.out.size D7.out) (by rw [HGB.out]; exact Nat.le_refl _)⟩
                      have ZC := Aside0.mk (HBD.out (by rw [HPG.out]; simp [n2]))
                      have GX := Aside0.mk (blk_below G5.out D7.out)
                      have hfz := blk_frozen GX.out 0
                      have hcz : w7.cell? ⟨gb, 0, none⟩ = some (.slice none 0 0) := (blk_cell GX.out 0).trans rfl
                      go_wp2
                      refine bodyPost_ret (results_ct rfl _ _ gb 31 #[.slice none 0 0] (0, 0) _ rfl (blk_set GX.out 0 _) Try.underlying31 rfl (by kernel_rfl)) rfl ?_
                      exact ⟨ZB.out, .inl ⟨by rw [ZC.out]; decide, by rw [ZC.out]; rfl⟩⟩
                    have HPT : Aside0 (pairG m M i j = true) := ⟨by rw [HPG.out]; simp [n1, n2]⟩
                    go_wp2_with fail
                    go_roundw
                    case rel => exact ⟨j + 1, by go_num, by omega, ⟨fun b hb => by
                      by_cases e : b = j
                      · rw [e]; exact HPT.out
                      · exact H1.out b (by omega)⟩, D7⟩
                    case measure => simp [intOf]; omega
                  | true =>
                    have ZB : Aside0 (Below w.heap.size w (wj.setCell ⟨gb, 0, none⟩ (.slice none 0 0))) := ⟨below_set (below_then BW5.out BW5.out.size D.out) (by rw [HGB.out]; exact Nat.le_refl _)⟩
                    have ZC := Aside0.mk (HBD.out (by rw [HPG.out]; simp [hij]))
                    have GX := Aside0.mk (blk_below G5.out D.out)
                    have hfz := blk_frozen GX.out 0
                    have hcz : wj.cell? ⟨gb, 0, none⟩ = some (.slice none 0 0) := (blk_cell GX.out 0).trans rfl
                    go_wp2
                    refine bodyPost_ret (results_ct rfl _ _ gb 31 #[.slice none 0 0] (0, 0) _ rfl (blk_set GX.out 0 _) Try.underlying31 rfl (by kernel_rfl)) rfl ?_
                    exact ⟨ZB.out, .inl ⟨by rw [ZC.out]; decide, by rw [ZC.out]; rfl⟩⟩
            · go_wp2_with fail
              go_roundw
              case rel => exact ⟨i + 1, by go_num, by omega, ⟨fun a ha => by
                by_cases e : a = i
                · rw [e]; exact fun b hb => H1.out b (by omega)
                · exact H0.out a (by omega)⟩, D⟩
              case measure => simp [intOf]; omega
        · have HC0 : Aside0 (codeM m es = 0) := ⟨by rw [HCP.out, if_pos (fun a ha b hb => H0.out a (by omega) b hb)]⟩
          have f0 : wo.cell? ⟨ob, 0, none⟩ = some (.slice (some ad) m c2) := (blk_cell (blk_below OB.out D0.out) 0).trans rfl
          have GX := Aside0.mk (blk_below G5.out D0.out)
          have hfz := blk_frozen GX.out 0
          have hcz : wo.cell? ⟨gb, 0, none⟩ = some (.slice none 0 0) := (blk_cell GX.out 0).trans rfl
          have hgl := HGW.out
          have ZB : Aside0 (Below w.heap.size w (wo.setCell ⟨gb, 0, none⟩ (.slice (some ad) m c2))) := ⟨below_set (below_then BW5.out BW5.out.size D0.out) (by rw [HGB.out]; exact Nat.le_refl _)⟩
          have ZQ : Aside0 (LQ (wo.setCell ⟨gb, 0, none⟩ (.slice (some ad) m c2)) w.heap.size (.slice (some ad) m c2) bs m M) := ⟨((Q5.out.below D0.out).foot ((Foot.refl (fun k => k = gb) wo).setCell (p := ⟨gb, 0, none⟩) (fun _ => rfl) _) (fun k hk e => by omega)).lower hbs⟩
          go_wp2
          refine bodyPost_ret (results_ct rfl _ _ gb 31 #[.slice (some ad) m c2] (0, 0) _ rfl (blk_set GX.out 0 _) Try.underlying31 rfl (by kernel_rfl)) rfl ?_
          exact ⟨ZB.out, .inr ⟨HC0.out, some ad, c2, bs, rfl, by rw [HMM.out]; exact ZQ.out, HBL.out⟩⟩
end Go.Proofs.Ytpbaebjohioijaa.Lat
