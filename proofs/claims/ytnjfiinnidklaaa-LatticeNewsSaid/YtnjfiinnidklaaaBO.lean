/- The law LatticeNews: contracts of what remains of the reference (Most, Chain, Height), of sameEdges; the bottom is the meet of all; the walk. No condition. -/
import Derived.Test.YtnjfiinnidklaaaBF
import Derived.Test.YtnjfiinnidklaaaBJ
import Derived.Test.YtnjfiinnidklaaaV
import Derived.ChangeKeysEq
import Derived.Deep.RegionHeld3
namespace Go.Proofs.Ytnjfiinnidklaaa.Lat
open Go.RowKit Go.Proofs.YtnjfiinnidklaaaW.PrintWords Go.Proofs.YtnjfiinnidklaaaW.PrintLast Go.Proofs.YtnjfiinnidklaaaW.PrintMore Go.Proofs.Ytnjfiinnidklaaa.PLatticeNews
set_option linter.unusedVariables false
set_option linter.unusedSimpArgs false
set_option linter.unusedSectionVars false

theorem lit2 (W : World) (x y : Int) : Kd.C (Kd.int .i64) (W.alloc (.cells #[.int .i64 x, .int .i64 y] 3)) (some ⟨W.heap.size, 0, none⟩) 2 [x, y] := C_ints _ _ [x, y] (blk_new W _) (by simp)
/-! ### SameInts -/
theorem same_loop (a b : List Int) (hl : a.length = b.length) (hm : a.length ≤ 9223372036854775800) : ∀ (d k i : Nat), i + d = a.length → d < k → portcullisref00_SameInts.l0 k a b (i : Int) = some (decide (a.drop i = b.drop i)) := by
  intro d
  induction d with
  | zero =>
    intro k i hi hk
    obtain ⟨k, rfl⟩ : ∃ m, k = m + 1 := ⟨k - 1, by omega⟩
    simp only [portcullisref00_SameInts.l0]
    rw [if_neg (by omega), List.drop_eq_nil_of_le (by omega), List.drop_eq_nil_of_le (by omega)]
    rfl
  | succ d ih =>
    intro k i hi hk
    obtain ⟨k, rfl⟩ : ∃ m, k = m + 1 := ⟨k - 1, by omega⟩
    simp only [portcullisref00_SameInts.l0]
    rw [if_pos (by omega), if_pos (by omega), if_pos (by omega)]
    have ha : a.drop i = rd a i :: a.drop (i + 1) := by
      rw [List.drop_eq_getElem_cons (by omega)]
      simp [rd, List.getD_eq_getElem?_getD, List.getElem?_eq_getElem (show i < a.length by omega)]
    have hb : b.drop i = rd b i :: b.drop (i + 1) := by
      rw [List.drop_eq_getElem_cons (by omega)]
      simp [rd, List.getD_eq_getElem?_getD, List.getElem?_eq_getElem (show i < b.length by omega)]
    have hw : wrap64 ((i : Int) + 1) = ((i + 1 : Nat) : Int) := by unfold wrap64; omega
    by_cases c : rd a i = rd b i
    · rw [if_pos c, hw, ih k (i + 1) (by omega) (by omega), ha, hb, c]
      simp
    · rw [if_neg c, ha, hb]
      simp [c]
theorem same_ints (a b : List Int) (hm : a.length ≤ 9223372036854775800) : portcullisref00_SameInts.f (a.length + 1) a b = some (decide (a = b)) := by
  unfold portcullisref00_SameInts.f
  by_cases h : a.length = b.length
  · rw [if_pos (by omega)]
    have := same_loop a b h hm a.length (a.length + 1) 0 (by omega) (by omega)
    simpa using this
  · rw [if_neg (by omega)]
    have : ¬ a = b := fun e => h (by rw [e])
    simp [this]
theorem sameInts_any (a b : List Int) (A B : Option Addr) (ca cb : Nat) (w : World) (ha : Kd.C (Kd.int .i64) w A a.length a) (hca : a.length ≤ ca) (hb : Kd.C (Kd.int .i64) w B b.length b) (hcb : b.length ≤ cb) (hm : a.length ≤ 1000000) :
    Calls Try.prog 19 #[.slice A a.length ca, .slice B b.length cb] w fun e w' => e = .returned (.bool (decide (a = b))) ∧ Drawn0 w w' :=
  portcullisref00_SameInts.calls (a.length + 1) A ca a B cb b _ w ha hca hb hcb (same_ints a b (by omega))


/-! ### The reference's Most -/
theorem refMost_ex {n : Nat} (hn : n ≤ 8) {us : List Int} {le : Nat → Nat → Bool} (h : Mk n us le) (a b : Int) : ∃ k, portcullisref01_Order_Most.f k (LL n le) a b = some (mostM n us a b) := by
  obtain ⟨k, hk⟩ := levels_ex hn (M := le) (list := [a, b]) (by simp)
  refine ⟨k, ?_⟩
  rw [portcullisref01_Order_Most.f, hk, Option.bind_some]
  by_cases ha : lev n a = true
  · have ha2 : 0 ≤ a ∧ a < n := by simpa [lev] using ha
    by_cases hb : lev n b = true
    · have hb2 : 0 ≤ b ∧ b < n := by simpa [lev] using hb
      obtain ⟨a, rfl⟩ := Int.eq_ofNat_of_zero_le ha2.1
      obtain ⟨b, rfl⟩ := Int.eq_ofNat_of_zero_le hb2.1
      have han : a < n := by omega
      have hbn : b < n := by omega
      rw [most_is hn h han hbn]
      have : ([(a : Int), (b : Int)].filter (lev n)).length = 2 := by simp [ha, hb]
      rw [this, if_pos (by rfl), if_pos ha2.1, if_pos (by rw [LL_len]; omega), if_pos hb2.1, LL_row han, if_pos (by rw [row_len]; omega), row_at hbn]
    · have : ([a, b].filter (lev n)).length = 1 := by simp [ha, hb]
      rw [this, if_neg (by decide)]
      simp [mostM, hb]
  · have : ([a, b].filter (lev n)).length ≤ 1 := by
      rw [List.filter_cons, if_neg ha]
      exact Nat.le_trans (List.length_filter_le _ _) (by simp)
    rw [if_neg (by omega)]
    simp [mostM, ha]

/-! ### The reference's Chain -/
def okC (le : Nat → Nat → Bool) (S : Nat → Bool) (c d : Nat) : Bool := decide (d = c) || (S d || !le d c)
def allC (le : Nat → Nat → Bool) (S : Nat → Bool) (c : Nat) : Nat → Nat → Bool
  | 0, _ => true
  | e + 1, d => okC le S c d && allC le S c e (d + 1)
theorem allC_is {le : Nat → Nat → Bool} {S : Nat → Bool} {c : Nat} : ∀ (e d : Nat), allC le S c e d = true ↔ ∀ x, d ≤ x → x < d + e → okC le S c x = true := by
  intro e
  induction e with
  | zero => intro d; simp [allC]; intro x h1 h2; omega
  | succ e ih =>
    intro d
    rw [allC, Bool.and_eq_true, ih]
    constructor
    · rintro ⟨h1, h2⟩ x hx hx2
      rcases Nat.eq_or_lt_of_le hx with rfl | h
      · exact h1
      · exact h2 x (by omega) (by omega)
    · intro h
      exact ⟨h d (Nat.le_refl _) (by omega), fun x hx hx2 => h x (by omega) (by omega)⟩
def SL (n : Nat) (S : Nat → Bool) : List Bool := (List.range n).map S
theorem SL_set {n : Nat} {S : Nat → Bool} {c : Nat} : (SL n S).set c true = SL n (fun i => S i || decide (i = c)) := by
  apply List.ext_getElem
  · simp [SL]
  · intro i h1 h2
    simp [SL, List.getElem_set]
    by_cases e : c = i
    · subst e; simp
    · have : ¬ i = c := fun h => e h.symm
      simp [e, this]
section
variable {n : Nat} (hn : n ≤ 8) {le : Nat → Nat → Bool} {S : Nat → Bool} {out r : List Int} (ho : out.length ≤ 8)
include hn ho
theorem chain_l2 {c : Nat} (hc : c < n) : ∀ (e d : Nat) (t : Bool), d + e = n → (∃ k, (if (t && allC le S c e d) = true then portcullisref01_Order_Chain.l0 k (out ++ [(c : Int)]) ((SL n S).set c true) (LL n le) else portcullisref01_Order_Chain.l1 k out (SL n S) ((c + 1 : Nat) : Int) (LL n le)) = some r) → ∃ k, portcullisref01_Order_Chain.l2 k out (SL n S) c t d (LL n le) = some r := by
  intro e
  induction e with
  | zero =>
    rintro d t hd ⟨k, hk⟩
    refine ⟨k + 1, ?_⟩
    rw [allC, Bool.and_true] at hk
    rw [portcullisref01_Order_Chain.l2, if_neg (by rw [LL_len]; omega)]
    cases t with
    | true =>
      rw [if_pos rfl] at hk
      rw [if_pos rfl, if_pos (by omega), if_pos (by rw [SL, row_len]; omega), if_pos (by omega), Int.toNat_natCast]
      exact hk
    | false =>
      rw [if_neg (by decide)] at hk
      rw [if_neg (by decide), wrap1 (by omega)]
      exact hk
  | succ e ih =>
    rintro d t hd ⟨k, hk⟩
    have hdn : d < n := by omega
    cases t with
    | false =>
      obtain ⟨k', hk'⟩ := ih (d + 1) false (by omega) ⟨k, by simpa using hk⟩
      refine ⟨k' + 1, ?_⟩
      rw [portcullisref01_Order_Chain.l2, if_pos (by rw [LL_len]; omega), if_neg (by decide), wrap1 (by omega)]
      exact hk'
    | true =>
      obtain ⟨k', hk'⟩ := ih (d + 1) (okC le S c d) (by omega) ⟨k, by rw [allC, Bool.true_and] at hk; exact hk⟩
      refine ⟨k' + 1, ?_⟩
      rw [portcullisref01_Order_Chain.l2, if_pos (by rw [LL_len]; omega), if_pos rfl, wrap1 (by omega)]
      by_cases hdc : d = c
      · subst hdc
        rw [if_pos rfl]
        simpa [okC] using hk'
      · rw [if_neg (by omega), if_pos (by omega), if_pos (by rw [SL, row_len]; omega)]
        have e1 : rdOf false (SL n S) (d : Nat) = S d := row_at hdn
        rw [e1]
        cases hS : S d with
        | true =>
          rw [if_pos rfl]
          simpa [okC, hS] using hk'
        | false =>
          rw [if_neg (by decide), if_pos (by omega), LL_row hdn, if_pos (by rw [row_len]; omega), row_at hc]
          simpa [okC, hS, hdc] using hk'
theorem chain_l1 {l : Nat} (hl : l < n) (hyes : (!S l && allC le S l n 0) = true) (hr : ∃ k, portcullisref01_Order_Chain.l0 k (out ++ [(l : Int)]) ((SL n S).set l true) (LL n le) = some r) : ∀ (d c : Nat), c + d = l → (∀ x, c ≤ x → x < l → (!S x && allC le S x n 0) = false) → ∃ k, portcullisref01_Order_Chain.l1 k out (SL n S) c (LL n le) = some r := by
  intro d
  induction d with
  | zero =>
    intro c hc _
    obtain rfl : c = l := by omega
    obtain ⟨k, hk⟩ := hr
    obtain ⟨k', hk'⟩ := chain_l2 (r := r) hn ho hl n 0 (!S c) (by omega) ⟨k, by rw [if_pos hyes]; exact hk⟩
    refine ⟨k' + 1, ?_⟩
    have e1 : rdOf false (SL n S) (c : Nat) = S c := row_at hl
    rw [portcullisref01_Order_Chain.l1, if_pos (by rw [LL_len]; omega), if_pos (by omega), if_pos (by rw [SL, row_len]; omega), e1]
    exact hk'
  | succ d ih =>
    intro c hc hno
    have hcn : c < n := by omega
    obtain ⟨k, hk⟩ := ih (c + 1) (by omega) (fun x h1 h2 => hno x (by omega) h2)
    have hcno := hno c (Nat.le_refl _) (by omega)
    obtain ⟨k', hk'⟩ := chain_l2 (r := r) hn ho hcn n 0 (!S c) (by omega) ⟨k, by rw [if_neg (by rw [hcno]; decide)]; exact hk⟩
    refine ⟨k' + 1, ?_⟩
    have e1 : rdOf false (SL n S) (c : Nat) = S c := row_at hcn
    rw [portcullisref01_Order_Chain.l1, if_pos (by rw [LL_len]; omega), if_pos (by omega), if_pos (by rw [SL, row_len]; omega), e1]
    exact hk'
end
theorem okC_is {n : Nat} (hn : n ≤ 8) {ds : List Int} {le : Nat → Nat → Bool} (k : Mk n ds (fun a b => le b a)) (S : Nat → Bool) {c : Nat} (hc : c < n) : (!S c && allC le S c n 0) = chP ds (mask n S : Nat) c := by
  rw [Bool.eq_iff_iff, chP_is hn k S hc, Bool.and_eq_true, Bool.not_eq_true', allC_is]
  constructor
  · rintro ⟨h1, h2⟩
    refine ⟨h1, fun b hb hle hne => ?_⟩
    have := h2 b (Nat.zero_le _) (by omega)
    simpa [okC, hne, hle] using this
  · rintro ⟨h1, h2⟩
    refine ⟨h1, fun x _ hx => ?_⟩
    by_cases e : x = c
    · simp [okC, e]
    · cases hle : le x c with
      | false => simp [okC, hle]
      | true => simp [okC, h2 x (by omega) hle e]
theorem chain_l0 {n : Nat} (hn : n ≤ 8) {ds : List Int} {le : Nat → Nat → Bool} (k : Mk n ds (fun a b => le b a)) : ∀ (m : Nat) (S : Nat → Bool) (out zs : List Int), out.length + m = n → chainF n ds m (mask n S : Nat) = some zs → ∃ q, portcullisref01_Order_Chain.l0 q out (SL n S) (LL n le) = some (out ++ zs) := by
  intro m
  induction m with
  | zero =>
    intro S out zs ho h
    injection h with h
    refine ⟨1, ?_⟩
    rw [portcullisref01_Order_Chain.l0, if_neg (by rw [LL_len]; omega), ← h, List.append_nil]
  | succ m ih =>
    intro S out zs ho h
    obtain ⟨l, ys, hl, rfl, h2, h3, h4⟩ := chainF_succ h
    rw [or_one hn S hl] at h2
    obtain ⟨q, hq⟩ := ih (fun i => S i || decide (i = l)) (out ++ [(l : Int)]) ys (by simp; omega) h2
    rw [← SL_set, List.append_assoc] at hq
    obtain ⟨q', hq'⟩ := chain_l1 hn (by omega : out.length ≤ 8) hl ((okC_is hn k S hl).trans h4) ⟨q, hq⟩ l 0 (by omega) (fun x _ hx => (okC_is hn k S (by omega)).trans (h3 x hx))
    refine ⟨q' + 1, ?_⟩
    rw [portcullisref01_Order_Chain.l0, if_pos (by rw [LL_len]; omega)]
    exact hq'
theorem refChain_ex {n : Nat} (hn : n ≤ 8) {ds : List Int} {le : Nat → Nat → Bool} (k : Mk n ds (fun a b => le b a)) {ys : List Int} (hy : chainF n ds n 0 = some ys) : ∃ q, portcullisref01_Order_Chain.f q (LL n le) = some ys := by
  have h0 : ((mask n (fun _ => false) : Nat) : Int) = 0 := by
    have : mask n (fun _ => false) = 0 := mask_zero.2 (fun _ _ => rfl)
    omega
  obtain ⟨q, hq⟩ := chain_l0 hn k n (fun _ => false) [] ys (by simp) (by rw [h0]; exact hy)
  refine ⟨q, ?_⟩
  rw [portcullisref01_Order_Chain.f, if_pos (by omega), if_pos (by rw [LL_len]; omega)]
  have : List.replicate ((LL n le).length : Int).toNat false = SL n (fun _ => false) := by
    rw [LL_len, Int.toNat_natCast]
    apply List.ext_getElem
    · simp [SL]
    · intro i h1 h2
      simp [SL]
  rw [this]
  simpa using hq

section
/-! ### sameEdges of a copy -/
theorem eqE41 (d : Nat) (w : World) (a b : Int) : (Op.equalIn (d + 2) 41 (.agg #[.int .i64 a, .int .i64 b]) (.agg #[.int .i64 a, .int .i64 b])).run Try.prog w = .ok true w := by
  have h3 : Try.prog.cellsOf 3 = 1 := by kernel_rfl
  obtain ⟨i, hi, _⟩ := Option.map_eq_some_iff.1 info3
  rw [run_equalIn_array (P := Try.prog) (w := w) (d + 1) _ _ Try.underlying41 hi, h3]
  have hr : List.range 2 = [0, 1] := rfl
  rw [hr]
  simp only [Op.eqItems]
  go_simp
attribute [local go_sem high] eqE41
theorem sameEdges_any (A B : Option Addr) (ca cb : Nat) (es : List (Int × Int)) (w : World) (ha : Kd.C KE w A es.length es) (hb : Kd.C KE w B es.length es) (hl : es.length ≤ 1000000) :
    Calls Try.prog 24 #[.slice A es.length ca, .slice B es.length cb] w fun e w' => e = .returned (.bool true) ∧ Drawn0 w w' := by
  have HA := Aside0.mk ha
  have HB := Aside0.mk hb
  clear ha hb
  go_enter Try.func24, Try.ntmps24
  go_wp2
  go_loopw [5] (fun i wr => ∃ k : Nat, i = .int .i64 k ∧ k ≤ es.length ∧ Aside0 (Drawn0 w wr)) (fun i _ => es.length - (intOf i).toNat)
  case atStart => exact ⟨0, rfl, Nat.zero_le _, ⟨Drawn0.refl _⟩⟩
  case round =>
    obtain ⟨k, rfl, hk, D⟩ := hrel
    obtain ⟨wi, rfl⟩ : ∃ wi : World, wi = wr := ⟨_, rfl⟩
    by_cases hlt : k < es.length
    · obtain ⟨ad, eA, c0, c1⟩ := at_E (Kd.C_below HA.out D.out.below) k hlt
      obtain ⟨ad2, eB, d0, d1⟩ := at_E (Kd.C_below HB.out D.out.below) k hlt
      subst eA eB
      obtain ⟨a, ha⟩ : ∃ a, (rdE es k).1 = a := ⟨_, rfl⟩
      obtain ⟨b, hb⟩ : ∃ a, (rdE es k).2 = a := ⟨_, rfl⟩
      rw [ha] at c0 d0
      rw [hb] at c1 d1
      clear ha hb
      go_wp2_with fail
      go_quiet (fail)
      go_wp2_with fail
      go_roundw
      case rel => exact ⟨k + 1, by go_num, by omega, ⟨Drawn0.step D.out nq⟩⟩
      case measure => simp [intOf]; omega
    · go_wp2
      go_ret
      exact ⟨rfl, D.out⟩
end

/-! ### The reference's Height -/
def RL (n : Nat) (R : Nat → Int) : List Int := (List.range n).map R
theorem RL_len (n : Nat) (R : Nat → Int) : (RL n R).length = n := by simp [RL]
theorem RL_at {n : Nat} {R : Nat → Int} {l : Nat} (h : l < n) : rd (RL n R) (l : Nat) = R l := by
  simp [rd, RL, List.getD_eq_getElem?_getD, h]
theorem RL_set {n : Nat} {R : Nat → Int} {l : Nat} {v : Int} : (RL n R).set l v = RL n (upd R l v) := by
  apply List.ext_getElem
  · simp [RL]
  · intro i h1 h2
    simp [RL, List.getElem_set, upd]
    by_cases e : l = i
    · subst e; simp
    · have : ¬ i = l := fun h => e h.symm
      simp [e, this]
theorem refHeight_l1 {n : Nat} (hn : n ≤ 8) {le : Nat → Nat → Bool} {ys : List Int} {K : Nat} (hK : Hgt n le K) (hK8 : K ≤ 8) (hc : Chn n le ys) (hl : ys.length = n) {i : Nat} (hi : i < n) {R0 : Nat → Int} {top : Int} (ho : Outer n le ys i R0 top)
    (hk : ∀ R, Inner n le ys (nth ys i) i R0 R → ∃ k, portcullisref01_Order_Height.l0 k (RL n R) ys (if top < R (nth ys i) then R (nth ys i) else top) ((i + 1 : Nat) : Int) (LL n le) = some (K : Int)) :
    ∀ (d q : Nat) (R : Nat → Int), q + d = i → Inner n le ys (nth ys i) q R0 R → ∃ k, portcullisref01_Order_Height.l1 k (RL n R) ys top i q (LL n le) = some (K : Int) := by
  have hlm := hc.lt i hi
  intro d
  induction d with
  | zero =>
    intro q R hq h
    obtain rfl : q = i := by omega
    obtain ⟨k, hk2⟩ := hk R h
    refine ⟨k + 1, ?_⟩
    rw [portcullisref01_Order_Height.l1, if_neg (by omega), if_pos (by omega), if_pos (by omega), hc.val q hi, if_pos (by omega), if_pos (by rw [RL_len]; omega), RL_at hlm, wrap1 (by omega)]
    by_cases ht : top < R (nth ys q)
    · rw [if_pos ht] at hk2 ⊢
      exact hk2
    · rw [if_neg ht] at hk2 ⊢
      exact hk2
  | succ d ih =>
    intro q R hq h
    have hqi : q < i := by omega
    have hqn : q < n := by omega
    have hbm := hc.lt q hqn
    have hne := (hc.ne q i hqi hi).1
    have hrb := isR_bd hK (ho.rk q hqi)
    rw [← h.same _ hne] at hrb
    by_cases hle : le (nth ys q) (nth ys i) = true
    · by_cases hge : R (nth ys i) ≤ R (nth ys q)
      · obtain ⟨k, hk2⟩ := ih (q + 1) _ (by omega) (h.yes hne hle hge)
        refine ⟨k + 1, ?_⟩
        rw [portcullisref01_Order_Height.l1, if_pos (by omega), if_pos (by omega), if_pos (by omega), hc.val q hqn, hc.val i hi, if_pos (by omega), if_pos (by rw [LL_len]; omega), if_pos (by omega), if_pos (by omega), if_pos (by omega), LL_row hbm, if_pos (by rw [row_len]; omega), row_at hlm, if_pos hle, if_pos (by rw [RL_len]; omega), if_pos (by rw [RL_len]; omega), RL_at hbm, RL_at hlm, if_pos hge, wrap1 (by omega), Int.toNat_natCast, RL_set]
        have : wrap64 (R (nth ys q) + 1) = R (nth ys q) + 1 := by unfold wrap64; omega
        rw [this]
        exact hk2
      · obtain ⟨k, hk2⟩ := ih (q + 1) _ (by omega) (h.no hne (fun _ => hge))
        refine ⟨k + 1, ?_⟩
        rw [portcullisref01_Order_Height.l1, if_pos (by omega), if_pos (by omega), if_pos (by omega), hc.val q hqn, hc.val i hi, if_pos (by omega), if_pos (by rw [LL_len]; omega), if_pos (by omega), if_pos (by omega), if_pos (by omega), LL_row hbm, if_pos (by rw [row_len]; omega), row_at hlm, if_pos hle, if_pos (by rw [RL_len]; omega), if_pos (by rw [RL_len]; omega), RL_at hbm, RL_at hlm, if_neg hge, wrap1 (by omega)]
        exact hk2
    · obtain ⟨k, hk2⟩ := ih (q + 1) _ (by omega) (h.no hne (fun h2 => absurd h2 hle))
      refine ⟨k + 1, ?_⟩
      rw [portcullisref01_Order_Height.l1, if_pos (by omega), if_pos (by omega), if_pos (by omega), hc.val q hqn, hc.val i hi, if_pos (by omega), if_pos (by rw [LL_len]; omega), if_pos (by omega), if_pos (by omega), if_pos (by omega), LL_row hbm, if_pos (by rw [row_len]; omega), row_at hlm, if_neg hle, wrap1 (by omega)]
      exact hk2
theorem refHeight_l0 {n : Nat} (hn : n ≤ 8) (h0 : 0 < n) {le : Nat → Nat → Bool} {ys : List Int} {K : Nat} (hK : Hgt n le K) (hK8 : K ≤ 8) (hc : Chn n le ys) (hl : ys.length = n) : ∀ (d i : Nat) (R : Nat → Int) (top : Int), i + d = n → Outer n le ys i R top → ∃ k, portcullisref01_Order_Height.l0 k (RL n R) ys top i (LL n le) = some (K : Int) := by
  intro d
  induction d with
  | zero =>
    intro i R top hi ho
    obtain rfl : i = n := by omega
    refine ⟨1, ?_⟩
    rw [portcullisref01_Order_Height.l0, if_neg (by omega), ho.top_is hc h0 hK]
  | succ d ih =>
    intro i R top hi ho
    have hin : i < n := by omega
    have hlm := hc.lt i hin
    obtain ⟨k, hk⟩ := refHeight_l1 hn hK hK8 hc hl hin ho (fun R' h => ih (i + 1) R' _ (by omega) (ho.next hc hin h)) i 0 (upd R (nth ys i) 1) (by omega) (Inner.start _ _)
    refine ⟨k + 1, ?_⟩
    rw [portcullisref01_Order_Height.l0, if_pos (by omega), if_pos (by omega), hc.val i hin, if_pos (by omega), if_pos (by rw [RL_len]; omega), Int.toNat_natCast, RL_set]
    exact hk
theorem refHeight_ex {n : Nat} (hn : n ≤ 8) (h0 : 0 < n) {ds : List Int} {le : Nat → Nat → Bool} (k : Mk n ds (fun a b => le b a)) {ys : List Int} (hy : chainF n ds n 0 = some ys) (hpw : ys.Pairwise (fun x y => x ≠ y ∧ le y.toNat x.toNat = false)) : ∃ q, portcullisref01_Order_Height.f q (LL n le) = some (heightM n ds ys) := by
  obtain ⟨K, e, hK⟩ := height_is hn h0 k hy hpw
  have hb := height_bd (ds := ds) h0 (chainF_lt hy) (chainF_len hy)
  obtain ⟨q1, h1⟩ := refChain_ex hn k hy
  obtain ⟨q2, h2⟩ := refHeight_l0 hn h0 hK (by omega) (chn_of hn k hy hpw) (chainF_len hy) n 0 (fun _ => 0) 0 (by omega) ⟨fun p hp => absurd hp (Nat.not_lt_zero p), fun p hp => absurd hp (Nat.not_lt_zero p), .inl ⟨rfl, rfl⟩⟩
  have e1 := mono_le (f := fun k => portcullisref01_Order_Chain.f k (LL n le)) (fun k => portcullisref01_Order_Chain.mono _ k) h1 q2
  have e2 := mono_le (f := fun k => portcullisref01_Order_Height.l0 k (RL n (fun _ => 0)) ys 0 (0 : Nat) (LL n le)) (fun k => (portcullisref01_Order_Height.mono_l k).1 _ _ _ _ _) h2 q1
  refine ⟨q1 + q2, ?_⟩
  have hr : List.replicate ((LL n le).length : Int).toNat (0 : Int) = RL n (fun _ => 0) := by
    rw [LL_len, Int.toNat_natCast]
    apply List.ext_getElem
    · simp [RL]
    · intro i h1 h2
      simp [RL]
  rw [portcullisref01_Order_Height.f, if_pos (by omega), if_pos (by rw [LL_len]; omega), e1, Option.bind_some, hr, e, Nat.add_comm q1 q2]
  exact e2

/-! ### The bottom is the meet of all -/
theorem bottom_meet {n : Nat} (hn : n ≤ 8) (h0 : 0 < n) {us ds : List Int} {le : Nat → Nat → Bool} (h : Mk n us le) (k : Mk n ds (fun a b => le b a)) (hL : Lat n le) {ys : List Int} (hl : ys.length = n) (hc : Chn n le ys) : allM n ds ys = allM n us [] := by
  obtain ⟨j, hj, e1⟩ := allM_lub hn h0 h hL []
  obtain ⟨q, hq, e2⟩ := allM_lub hn h0 k hL.flip ys
  have h1 : le j q = true := hj.least q hq.lt (by simp [inr])
  have h2 : le q j = true := by
    obtain ⟨p, hp, rfl⟩ := hc.cov j hj.lt
    refine hq.up _ ?_
    rw [inr, List.mem_map]
    refine ⟨rd ys (p : Nat), List.mem_filter.2 ⟨rd_mem (by omega), ?_⟩, rfl⟩
    rw [hc.val p hp]
    have := hc.lt p hp
    simp [lev]
    omega
  rw [e1, e2, hL.anti j q hj.lt hq.lt h1 h2]
theorem chn_flip {n : Nat} (hn : n ≤ 8) {us ds : List Int} {le : Nat → Nat → Bool} {ys : List Int} (hc : Chn n le ys) (hl : ys.length = n) : ∀ x < n, x ∈ inr n ys := by
  intro x hx
  obtain ⟨p, hp, rfl⟩ := hc.cov x hx
  rw [inr, List.mem_map]
  refine ⟨rd ys (p : Nat), List.mem_filter.2 ⟨rd_mem (by omega), ?_⟩, rfl⟩
  rw [hc.val p hp]
  have := hc.lt p hp
  simp [lev]
  omega
/-- And the top is the join of all. -/
theorem top_join {n : Nat} (hn : n ≤ 8) (h0 : 0 < n) {us ds : List Int} {le : Nat → Nat → Bool} (h : Mk n us le) (k : Mk n ds (fun a b => le b a)) (hL : Lat n le) {ys : List Int} (hl : ys.length = n) (hc : Chn n le ys) : allM n us ys = allM n ds [] := by
  obtain ⟨j, hj, e1⟩ := allM_lub hn h0 k hL.flip []
  obtain ⟨q, hq, e2⟩ := allM_lub hn h0 h hL ys
  have h1 : le q j = true := hj.least q hq.lt (by simp [inr])
  have h2 : le j q = true := hq.up _ (chn_flip hn (us := us) (ds := ds) hc hl j hj.lt)
  rw [e1, e2, hL.anti j q hj.lt hq.lt h2 h1]

/-- Contracts at every world above one at which the lattice, the reference's rows and nothing else are held. -/
structure NewsC (w0 : World) (hb m : Nat) (A4 : Option Addr) (c4 : Nat) (us ds ys : List Int) : Prop where
  most : ∀ W, Aside0 (Below w0.heap.size w0 W) → ∀ (x y : Int) (t : Bool), mostM m us x y = t → Calls Try.prog 20 #[.pointer (some ⟨hb, 0, none⟩), .int .i64 x, .int .i64 y] W fun e w' => e = .returned (.bool t) ∧ Below W.heap.size W w'
  most' : ∀ W, Aside0 (Below w0.heap.size w0 W) → ∀ (x y : Int) (t : Bool), mostM m us x y = t → Calls Try.prog 25 #[.agg #[.slice A4 m c4], .int .i64 x, .int .i64 y] W fun e w' => e = .returned (.bool t) ∧ Below W.heap.size W w'
  join : ∀ W, Aside0 (Below w0.heap.size w0 W) → ∀ (B : Nat) (x y z : Int), Kd.C (Kd.int .i64) W (some ⟨B, 0, none⟩) 2 [x, y] → allM m us [x, y] = z → Calls Try.prog 15 #[.pointer (some ⟨hb, 0, none⟩), .slice (some ⟨B, 0, none⟩) 2 2] W fun e w' => e = .returned (.int .i64 z) ∧ Below W.heap.size W w'
  meet : ∀ W, Aside0 (Below w0.heap.size w0 W) → ∀ (B : Nat) (x y z : Int), Kd.C (Kd.int .i64) W (some ⟨B, 0, none⟩) 2 [x, y] → allM m ds [x, y] = z → Calls Try.prog 17 #[.pointer (some ⟨hb, 0, none⟩), .slice (some ⟨B, 0, none⟩) 2 2] W fun e w' => e = .returned (.int .i64 z) ∧ Below W.heap.size W w'
  join' : ∀ W, Aside0 (Below w0.heap.size w0 W) → ∀ (B : Nat) (x y z : Int), Kd.C (Kd.int .i64) W (some ⟨B, 0, none⟩) 2 [x, y] → allM m us [x, y] = z → Calls Try.prog 16 #[.agg #[.slice A4 m c4], .slice (some ⟨B, 0, none⟩) 2 2] W fun e w' => e = .returned (.int .i64 z) ∧ Below W.heap.size W w'
  meet' : ∀ W, Aside0 (Below w0.heap.size w0 W) → ∀ (B : Nat) (x y z : Int), Kd.C (Kd.int .i64) W (some ⟨B, 0, none⟩) 2 [x, y] → allM m ds [x, y] = z → Calls Try.prog 18 #[.agg #[.slice A4 m c4], .slice (some ⟨B, 0, none⟩) 2 2] W fun e w' => e = .returned (.int .i64 z) ∧ Below W.heap.size W w'
  size : ∀ W, Aside0 (Below w0.heap.size w0 W) → Calls Try.prog 26 #[.pointer (some ⟨hb, 0, none⟩)] W fun e w' => e = .returned (.int .i64 m) ∧ Below W.heap.size W w'
  height : ∀ W, Aside0 (Below w0.heap.size w0 W) → ∀ z, heightM m ds ys = z → Calls Try.prog 22 #[.pointer (some ⟨hb, 0, none⟩)] W fun e w' => e = .returned (.int .i64 z) ∧ Below W.heap.size W w'
  height' : ∀ W, Aside0 (Below w0.heap.size w0 W) → ∀ z, heightM m ds ys = z → Calls Try.prog 27 #[.agg #[.slice A4 m c4]] W fun e w' => e = .returned (.int .i64 z) ∧ Below W.heap.size W w'
  chain : ∀ W, Aside0 (Below w0.heap.size w0 W) → Calls Try.prog 21 #[.pointer (some ⟨hb, 0, none⟩)] W fun e w' => ∃ A c, e = .returned (.slice A ys.length c) ∧ Aside0 (ys.length ≤ c ∧ Kd.C (Kd.int .i64) w' A ys.length ys) ∧ Below W.heap.size W w'
  chain' : ∀ W, Aside0 (Below w0.heap.size w0 W) → Calls Try.prog 28 #[.agg #[.slice A4 m c4]] W fun e w' => ∃ A c, e = .returned (.slice A ys.length c) ∧ Aside0 (ys.length ≤ c ∧ Kd.C (Kd.int .i64) w' A ys.length ys) ∧ Below W.heap.size W w'
  same : ∀ W A c B d, ys.length ≤ c ∧ Kd.C (Kd.int .i64) W A ys.length ys → ys.length ≤ d ∧ Kd.C (Kd.int .i64) W B ys.length ys → Calls Try.prog 19 #[.slice A ys.length c, .slice B ys.length d] W fun e w' => e = .returned (.bool true) ∧ Below W.heap.size W w'
  bottom : ∀ W, Aside0 (Below w0.heap.size w0 W) → ∀ z, allM m us [] = z → Calls Try.prog 29 #[.pointer (some ⟨hb, 0, none⟩)] W fun e w' => e = .returned (.int .i64 z) ∧ Below W.heap.size W w'
  top : ∀ W, Aside0 (Below w0.heap.size w0 W) → ∀ z, allM m ds [] = z → Calls Try.prog 23 #[.pointer (some ⟨hb, 0, none⟩)] W fun e w' => e = .returned (.int .i64 z) ∧ Below W.heap.size W w'
  meetC : ∀ W, Aside0 (Below w0.heap.size w0 W) → ∀ A c z, ys.length ≤ c ∧ Kd.C (Kd.int .i64) W A ys.length ys → allM m us [] = z → Calls Try.prog 18 #[.agg #[.slice A4 m c4], .slice A ys.length c] W fun e w' => e = .returned (.int .i64 z) ∧ Below W.heap.size W w'
  joinC : ∀ W, Aside0 (Below w0.heap.size w0 W) → ∀ A c z, ys.length ≤ c ∧ Kd.C (Kd.int .i64) W A ys.length ys → allM m ds [] = z → Calls Try.prog 16 #[.agg #[.slice A4 m c4], .slice A ys.length c] W fun e w' => e = .returned (.int .i64 z) ∧ Below W.heap.size W w'

theorem newsC {w0 : World} {hb ub db m : Nat} {A4 : Option Addr} {c4 : Nat} {us ds : List Int} {M : Nat → Nat → Bool} (T : TO w0 hb ub db m us ds) (hl4 : m ≤ c4) (hC : Kd.C (Kd.slice 4 Kd.bool) w0 A4 m (LL m M)) (hm8 : m ≤ 8) (hm0 : 0 < m) (h1 : Mk m us M) (h2 : Mk m ds (fun a b => M b a)) (hL : Lat m M) : ∃ ys, ys.length = m ∧ NewsC w0 hb m A4 c4 us ds ys := by
  obtain ⟨ys, hy, hpw⟩ := chain_all hm8 h2 hL
  have hyl := chainF_len hy
  have hch := chn_of hm8 h2 hy hpw
  have hC' : ∀ W, Aside0 (Below w0.heap.size w0 W) → Kd.C (Kd.slice 4 Kd.bool) W A4 (LL m M).length (LL m M) := fun W h => by rw [LL_len]; exact Kd.C_below hC h.out
  have hl4' : (LL m M).length ≤ c4 := by rw [LL_len]; exact hl4
  have hJ : ∀ list : List Int, list.length ≤ 1000000 → ∃ k, portcullisref01_Order_Join.f k (LL m M) list = some (allM m us list) := fun list hl => by
    obtain ⟨k, e⟩ := join_ex hm8 (M := M) hl
    exact ⟨k, by rw [e, joinG_is hm8 hm0 h1 hL]⟩
  have hM : ∀ list : List Int, list.length ≤ 1000000 → ∃ k, portcullisref01_Order_Meet.f k (LL m M) list = some (allM m ds list) := fun list hl => by
    obtain ⟨k, e⟩ := meet_ex hm8 (M := M) hl
    exact ⟨k, by rw [e, joinG_is hm8 hm0 h2 hL.flip]⟩
  refine ⟨ys, hyl, ?_, ?_, ?_, ?_, ?_, ?_, ?_, ?_, ?_, ?_, ?_, ?_, ?_, ?_, ?_, ?_⟩
  · intro W h x y t e
    exact (most_any (T.below h.out) x y).mono (fun _ _ q => ⟨by rw [q.1, e], q.2 ▸ Below.refl _ _⟩)
  · intro W h x y t e
    obtain ⟨k, hk⟩ := refMost_ex hm8 h1 x y
    have := portcullisref01_Order_Most.calls k A4 c4 (LL m M) x y _ W (hC' W h) hl4' hk
    rw [LL_len, e] at this
    exact this
  · intro W h B x y z hc e
    exact (join_any (T.below h.out) _ [x, y] 2 (Nat.le_refl _) hc (by simp)).mono (fun _ _ q => ⟨by rw [q.1, e], q.2 ▸ Below.refl _ _⟩)
  · intro W h B x y z hc e
    exact (meet_any (T.below h.out) _ [x, y] 2 (Nat.le_refl _) hc (by simp)).mono (fun _ _ q => ⟨by rw [q.1, e], q.2 ▸ Below.refl _ _⟩)
  · intro W h B x y z hc e
    obtain ⟨k, hk⟩ := hJ [x, y] (by simp)
    have := portcullisref01_Order_Join.calls k A4 c4 (LL m M) _ 2 [x, y] _ W (hC' W h) hl4' hc (Nat.le_refl _) hk
    rw [LL_len, e] at this
    exact this
  · intro W h B x y z hc e
    obtain ⟨k, hk⟩ := hM [x, y] (by simp)
    have := portcullisref01_Order_Meet.calls k A4 c4 (LL m M) _ 2 [x, y] _ W (hC' W h) hl4' hc (Nat.le_refl _) hk
    rw [LL_len, e] at this
    exact this
  · intro W h
    exact (size_any (T.below h.out)).mono (fun _ _ q => ⟨q.1, q.2 ▸ Below.refl _ _⟩)
  · intro W h z e
    exact (height_any (T.below h.out) hm0 hy).mono (fun _ _ q => ⟨by rw [q.1, e], q.2⟩)
  · intro W h z e
    obtain ⟨k, hk⟩ := refHeight_ex hm8 hm0 h2 hy hpw
    have := portcullisref01_Order_Height.calls k A4 c4 (LL m M) _ W (hC' W h) hl4' hk
    rw [LL_len, e] at this
    exact this
  · intro W h
    refine (chain_any (T.below h.out) hy).mono ?_
    rintro e w' ⟨v, rfl, r, b⟩
    obtain ⟨A, c, rfl, hl, hC⟩ := Kd.R_reads r
    exact ⟨A, c, rfl, ⟨hl, hC⟩, b⟩
  · intro W h
    obtain ⟨k, hk⟩ := refChain_ex hm8 h2 hy
    have := portcullisref01_Order_Chain.calls k A4 c4 (LL m M) _ W (hC' W h) hl4' hk
    rw [LL_len] at this
    refine this.mono ?_
    rintro e w' ⟨v, rfl, r, b⟩
    obtain ⟨A, c, rfl, hl, hC⟩ := Kd.R_reads r
    exact ⟨A, c, rfl, ⟨hl, hC⟩, b⟩
  · intro W A c B d ha hb
    exact (sameInts_any ys ys A B c d W ha.2 ha.1 hb.2 hb.1 (by omega)).mono (fun _ _ q => ⟨by rw [q.1]; simp, q.2.below⟩)
  · intro W h z e
    exact (bottom_any (T.below h.out)).mono (fun _ _ q => ⟨by rw [q.1, e], q.2 ▸ Below.refl _ _⟩)
  · intro W h z e
    exact (top_any (T.below h.out)).mono (fun _ _ q => ⟨by rw [q.1, e], q.2 ▸ Below.refl _ _⟩)
  · intro W h A c z hc e
    obtain ⟨k, hk⟩ := hM ys (by omega)
    have := portcullisref01_Order_Meet.calls k A4 c4 (LL m M) A c ys _ W (hC' W h) hl4' hc.2 hc.1 hk
    rw [LL_len, bottom_meet hm8 hm0 h1 h2 hL hyl hch, e] at this
    exact this
  · intro W h A c z hc e
    obtain ⟨k, hk⟩ := hJ ys (by omega)
    have := portcullisref01_Order_Join.calls k A4 c4 (LL m M) A c ys _ W (hC' W h) hl4' hc.2 hc.1 hk
    rw [LL_len, top_join hm8 hm0 h1 h2 hL hyl hch, e] at this
    exact this

theorem lit2s (W : World) (c : Array Value) (t : TypeId) (x y : Int) : Kd.C (Kd.int .i64) ((W.alloc (.cells c t)).alloc (.cells #[.int .i64 x, .int .i64 y] 3)) (some ⟨W.heap.size + 1, 0, none⟩) 2 [x, y] := by
  have h := lit2 (W.alloc (.cells c t)) x y
  have e : (W.alloc (.cells c t)).heap.size = W.heap.size + 1 := by first | exact World.size_alloc _ _ | simp | (rw [World.alloc_eq]; simp)
  rw [e] at h
  exact h
theorem wrap64_1 {a : Int} (h1 : -1 ≤ a) (h2 : a ≤ 8) : wrap64 (a + 1) = a + 1 := by unfold wrap64; omega
set_option maxHeartbeats 16000000 in
set_option maxRecDepth 100000 in
theorem latticeNews_walk (n : Int) (A : Option Addr) (cE : Nat) (es : List (Int × Int)) (w : World) (_hn : (Lit.int .i64 n).wf = true) (hr : Kd.C KE w A es.length es) (_hw : ∀ x ∈ es, (Lit.int .i64 x.1).wf = true ∧ (Lit.int .i64 x.2).wf = true) (hcA : es.length ≤ cE) :
    Calls Try.prog 7 #[.int .i64 n, .slice A es.length cE] w fun e w' => e = .returned (.bool true) ∧ Below w.heap.size w w' := by
  have hmax := Kd.C_max hr
  have HC := Aside0.mk hr
  clear hr _hw
  by_cases hl : 200 < es.length
  · go_enter Try.func7, Try.ntmps7
    go_wp2_with fail
    refine (alive w).mono ?_
    rintro e w1 ⟨rfl, b1⟩
    go_wp2
    go_ret
    exact ⟨rfl, b1⟩
  · go_enter Try.func7, Try.ntmps7
    go_wp2_with fail
    refine (alive w).mono ?_
    rintro e w1 ⟨rfl, b1⟩
    have B1 := Aside0.mk b1
    clear b1
    go_wp2_with fail
    refine (copies_any A cE es w1 (Kd.C_below HC.out B1.out) (by omega)).mono ?_
    rintro e w2 ⟨v, rfl, r2, b2⟩
    have B2 := Aside0.mk (below_then B1.out B1.out.size b2)
    obtain ⟨A2, c2, hv2, hl2', hC2⟩ := Kd.R_reads r2
    subst hv2
    have HC2 := Aside0.mk hC2
    clear r2 b2 hC2 B1
    go_wp2_with fail
    refine (new_any n A2 c2 es w2 HC2.out (by omega)).mono ?_
    rintro e w3 ⟨b3, h3⟩
    have B3 := Aside0.mk (below_then B2.out B2.out.size b3)
    have HC3 := Aside0.mk (Kd.C_below HC2.out b3)
    clear b3 B2 HC2
    rcases h3 with ⟨hne, rfl⟩ | ⟨h0, hb, ub, db, rfl, T⟩
    · go_wp2_with fail
      refine (refNew_any n A cE es w3 (Kd.C_below HC.out B3.out) (by omega)).mono ?_
      rintro e w4 ⟨b4, ⟨_, rfl⟩ | ⟨h, _⟩⟩
      rotate_left
      · exact absurd h hne
      have B4 := Aside0.mk (below_alloc (below_then B3.out B3.out.size b4) (.cells #[.slice none 0 0] 32))
      have C4 := Aside0.mk (Kd.C_below HC3.out (below_alloc b4 (.cells #[.slice none 0 0] 32)))
      obtain ⟨w5, hw5⟩ : ∃ W, w4.alloc (.cells #[.slice none 0 0] 32) = W := ⟨_, rfl⟩
      have HW5 := Aside0.mk hw5
      rw [hw5] at B4 C4
      clear b4 hw5
      obtain ⟨cd, hcd⟩ : ∃ cd, codeM n es = cd := ⟨_, rfl⟩
      rw [hcd] at hne ⊢
      clear hcd
      have n1 : (cd == 0) = false := beq_eq_false_iff_ne.2 hne
      have n2 : (cd != 0) = true := bne_iff_ne.2 hne
      go_wp2_with fail
      try rw [HW5.out]
      refine (sameEdges_any A2 A c2 cE es _ C4.out (Kd.C_below HC.out B4.out) (by omega)).mono ?_
      rintro e w6 ⟨rfl, d6⟩
      have B6 := Aside0.mk (below_then B4.out B4.out.size d6.below)
      clear d6
      go_wp2_with fail
      go_ret
      exact ⟨by first | rfl | simp [n1, n2] | simp [hne], B6.out⟩
    · have T3 := Aside0.mk T
      clear T
      go_wp2_with fail
      refine (refNew_any n A cE es w3 (Kd.C_below HC.out B3.out) (by omega)).mono ?_
      rintro e w4 ⟨b4, ⟨h, _⟩ | ⟨_, A4, c4, bs, rfl, Q, hbl⟩⟩
      · exact absurd h0 h
      obtain ⟨m, rfl, hm0, hm8, hbad, hR⟩ := code_zero h0
      rw [Int.toNat_natCast] at T3 Q hbl ⊢
      obtain ⟨h1, h2⟩ := clos_Mk hm8 hbad
      have hL := lat_clos hm8 hbad hR
      have hl4 := (Kd.R_reads' Q.row).2.1
      have B4 := Aside0.mk (below_then B3.out B3.out.size b4)
      have T4 := T3.out.below b4
      have C4 := Q.C hbl hm8
      rw [LL_len] at C4
      have b5 := below_alloc (Below.refl w4.heap.size w4) (.cells #[.slice A4 m c4] 32)
      have hb5 := blk_new w4 (.cells #[.slice A4 m c4] 32)
      obtain ⟨w5, hw5⟩ : ∃ W, w4.alloc (.cells #[.slice A4 m c4] 32) = W := ⟨_, rfl⟩
      have HW5 := Aside0.mk hw5
      rw [hw5] at b5 hb5
      obtain ⟨ob, hob⟩ : ∃ ob, w4.heap.size = ob := ⟨_, rfl⟩
      have HOB := Aside0.mk hob
      rw [hob] at hb5
      obtain ⟨ys, hyl, N⟩ := newsC (T4.below b5) hl4 (Kd.C_below C4 b5) hm8 hm0 h1 h2 hL
      have NC := Aside0.mk N
      have HYL := Aside0.mk hyl
      have B5 := Aside0.mk (below_then B4.out B4.out.size b5)
      have O5 := Aside0.mk hb5
      have CE5 := Aside0.mk (Kd.C_below HC.out B5.out)
      have CO5 := Aside0.mk (Kd.C_below HC3.out (below_then b4 b4.size b5))
      clear h1 h2 hL Q hbl b4 hbad hR h0 T3 B3 B4 T4 C4 b5 hb5 hw5 hob N hyl hl4 HC3
      obtain ⟨us, hus⟩ : ∃ us, (closE m es).1 = us := ⟨_, rfl⟩
      obtain ⟨ds, hds⟩ : ∃ ds, (closE m es).2 = ds := ⟨_, rfl⟩
      rw [hus, hds] at NC
      clear hus hds
      go_wp2_with fail
      try rw [HW5.out]
      try rw [HOB.out]
      clear HW5 HOB
      refine (sameEdges_any A2 A c2 cE es _ CO5.out CE5.out (by omega)).mono ?_
      rintro e w6 ⟨rfl, d6⟩
      have D6 := Aside0.mk d6.below
      clear d6 CO5 CE5
      have KEEP : Aside0 (∀ W', Aside0 (Below w5.heap.size w5 W') → W'.cell? ⟨ob, 0, none⟩ = some (.slice A4 m c4) ∧ Aside0 (Below w5.heap.size w5 W')) := ⟨fun W' h => ⟨(blk_cell (blk_below O5.out h.out) 0).trans rfl, h⟩⟩
      have BT : Aside0 (∀ W W', Aside0 (Below w5.heap.size w5 W) → Below W.heap.size W W' → Aside0 (Below w5.heap.size w5 W')) := ⟨fun W W' h1 h2 => ⟨below_then h1.out h1.out.size h2⟩⟩
      have BA : Aside0 (∀ W c t, Aside0 (Below w5.heap.size w5 W) → Aside0 (Below w5.heap.size w5 (W.alloc (.cells c t)))) := ⟨fun W c t h => ⟨below_alloc h.out _⟩⟩
      go_wp2_with fail
      go_loopw [10] (fun i wr => ∃ a : Int, i = .int .i64 a ∧ -1 ≤ a ∧ a ≤ m + 1 ∧ Aside0 (Below w5.heap.size w5 wr)) (fun i _ => (m + 1 - intOf i).toNat)
      case atStart => exact ⟨-1, rfl, by omega, by omega, D6⟩
      case round =>
        clear D6
        obtain ⟨a, rfl, ha0, ha, D⟩ := hrel
        obtain ⟨wo, rfl⟩ : ∃ wo : World, wo = wr := ⟨_, rfl⟩
        by_cases ham : a ≤ m
        · have hwa := wrap64_1 ha0 (by omega : a ≤ 8)
          go_wp2_with fail
          go_loopw [11] (fun i wr => ∃ b : Int, i = .int .i64 b ∧ -1 ≤ b ∧ b ≤ m + 1 ∧ Aside0 (Below w5.heap.size w5 wr)) (fun i _ => (m + 1 - intOf i).toNat)
          case atStart => exact ⟨-1, rfl, by omega, by omega, D⟩
          case round =>
            clear D
            obtain ⟨b, rfl, hb0, hb3, D3⟩ := hrel
            obtain ⟨w7, rfl⟩ : ∃ w3 : World, w3 = wr := ⟨_, rfl⟩
            by_cases hbm : b ≤ m
            · have hwb := wrap64_1 hb0 (by omega : b ≤ 8)
              obtain ⟨t, ht⟩ : ∃ t, mostM m us a b = t := ⟨_, rfl⟩
              obtain ⟨z1, hz1⟩ : ∃ z, allM m us [a, b] = z := ⟨_, rfl⟩
              obtain ⟨z2, hz2⟩ : ∃ z, allM m ds [a, b] = z := ⟨_, rfl⟩
              have HT := Aside0.mk ht
              have HZ1 := Aside0.mk hz1
              have HZ2 := Aside0.mk hz2
              clear ht hz1 hz2
              go_wp2_with fail
              have DW : Aside0 (Below w5.heap.size w5 w7.drew) := ⟨below_drew D3.out⟩
              first | (go_region_held3 (fun w' => w'.cell? ⟨ob, 0, none⟩ = some (.slice A4 m c4) ∧ Aside0 (Below w5.heap.size w5 w'))
                (first | exact KEEP.out _ (by assumption) | exact KEEP.out _ (BA.out _ _ _ (by assumption)) | exact KEEP.out _ (BA.out _ _ _ (BA.out _ _ _ (by assumption))))
                (first
                  | (go_at_call 20; refine (NC.out.most _ (by assumption) _ _ _ HT.out).mono ?_; rintro e w' ⟨rfl, b⟩; have z := BT.out _ _ (by assumption) b; have q := Aside0.mk b; clear b)
                  | (go_at_call 25; refine (NC.out.most' _ (by assumption) _ _ _ HT.out).mono ?_; rintro e w' ⟨rfl, b⟩; have z := BT.out _ _ (by assumption) b; have q := Aside0.mk b; clear b)
                  | (go_at_call 15; refine (NC.out.join _ (by first | assumption | exact BA.out _ _ _ (by assumption) | exact BA.out _ _ _ (BA.out _ _ _ (by assumption))) _ _ _ _ (by first | exact lit2 _ _ _ | exact lit2s _ _ _ _ _ | exact Kd.C_below (lit2s _ _ _ _ _) (Aside0.out (by assumption)) | exact Kd.C_below (lit2 _ _ _) (Aside0.out (by assumption)) | exact Kd.C_below (lit2 _ _ _) (below_alloc (Below.refl _ _) _) | exact Kd.C_below (Kd.C_below (lit2 _ _ _) (below_alloc (Below.refl _ _) _)) (Aside0.out (by assumption))) HZ1.out).mono ?_; rintro e w' ⟨rfl, b⟩; have z := BT.out _ _ (by first | assumption | exact BA.out _ _ _ (by assumption) | exact BA.out _ _ _ (BA.out _ _ _ (by assumption))) b; have q := Aside0.mk b; clear b)
                  | (go_at_call 16; refine (NC.out.join' _ (by first | assumption | exact BA.out _ _ _ (by assumption) | exact BA.out _ _ _ (BA.out _ _ _ (by assumption))) _ _ _ _ (by first | exact lit2 _ _ _ | exact lit2s _ _ _ _ _ | exact Kd.C_below (lit2s _ _ _ _ _) (Aside0.out (by assumption)) | exact Kd.C_below (lit2 _ _ _) (Aside0.out (by assumption)) | exact Kd.C_below (lit2 _ _ _) (below_alloc (Below.refl _ _) _) | exact Kd.C_below (Kd.C_below (lit2 _ _ _) (below_alloc (Below.refl _ _) _)) (Aside0.out (by assumption))) HZ1.out).mono ?_; rintro e w' ⟨rfl, b⟩; have z := BT.out _ _ (by first | assumption | exact BA.out _ _ _ (by assumption) | exact BA.out _ _ _ (BA.out _ _ _ (by assumption))) b; have q := Aside0.mk b; clear b)
                  | (go_at_call 17; refine (NC.out.meet _ (by first | assumption | exact BA.out _ _ _ (by assumption) | exact BA.out _ _ _ (BA.out _ _ _ (by assumption))) _ _ _ _ (by first | exact lit2 _ _ _ | exact lit2s _ _ _ _ _ | exact Kd.C_below (lit2s _ _ _ _ _) (Aside0.out (by assumption)) | exact Kd.C_below (lit2 _ _ _) (Aside0.out (by assumption)) | exact Kd.C_below (lit2 _ _ _) (below_alloc (Below.refl _ _) _) | exact Kd.C_below (Kd.C_below (lit2 _ _ _) (below_alloc (Below.refl _ _) _)) (Aside0.out (by assumption))) HZ2.out).mono ?_; rintro e w' ⟨rfl, b⟩; have z := BT.out _ _ (by first | assumption | exact BA.out _ _ _ (by assumption) | exact BA.out _ _ _ (BA.out _ _ _ (by assumption))) b; have q := Aside0.mk b; clear b)
                  | (go_at_call 18; refine (NC.out.meet' _ (by first | assumption | exact BA.out _ _ _ (by assumption) | exact BA.out _ _ _ (BA.out _ _ _ (by assumption))) _ _ _ _ (by first | exact lit2 _ _ _ | exact lit2s _ _ _ _ _ | exact Kd.C_below (lit2s _ _ _ _ _) (Aside0.out (by assumption)) | exact Kd.C_below (lit2 _ _ _) (Aside0.out (by assumption)) | exact Kd.C_below (lit2 _ _ _) (below_alloc (Below.refl _ _) _) | exact Kd.C_below (Kd.C_below (lit2 _ _ _) (below_alloc (Below.refl _ _) _)) (Aside0.out (by assumption))) HZ2.out).mono ?_; rintro e w' ⟨rfl, b⟩; have z := BT.out _ _ (by first | assumption | exact BA.out _ _ _ (by assumption) | exact BA.out _ _ _ (BA.out _ _ _ (by assumption))) b; have q := Aside0.mk b; clear b))) | fail
              all_goals (
                go_wp2_with fail
                go_roundw
                case rel => exact ⟨b + 1, by first | go_num | rw [hwb] | simp [hwb], by omega, by omega, by assumption⟩
                case measure => first | (simp [intOf, hwb]; omega) | (simp [intOf]; omega))
            · go_wp2_with fail
              go_roundw
              case rel => exact ⟨a + 1, by first | go_num | rw [hwa] | simp [hwa], by omega, by omega, D3⟩
              case measure => first | (simp [intOf, hwa]; omega) | (simp [intOf]; omega)
        · go_wp2_with fail
          obtain ⟨hh, hhh⟩ : ∃ z, heightM m ds ys = z := ⟨_, rfl⟩
          obtain ⟨zb, hzb⟩ : ∃ z, allM m us [] = z := ⟨_, rfl⟩
          obtain ⟨zt, hzt⟩ : ∃ z, allM m ds [] = z := ⟨_, rfl⟩
          have HH := Aside0.mk hhh
          have HB := Aside0.mk hzb
          have HT := Aside0.mk hzt
          clear hhh hzb hzt
          have DW : Aside0 (Below w5.heap.size w5 wo.drew) := ⟨below_drew D.out⟩
          first | (go_region_held3 (fun w' => w'.cell? ⟨ob, 0, none⟩ = some (.slice A4 m c4) ∧ Aside0 (Below w5.heap.size w5 w'))
            (exact KEEP.out _ (by assumption))
            (first
              | (go_at_call 26; refine (NC.out.size _ (by assumption)).mono ?_; rintro e w' ⟨rfl, b⟩; have z := BT.out _ _ (by assumption) b)
              | (go_at_call 22; refine (NC.out.height _ (by assumption) _ HH.out).mono ?_; rintro e w' ⟨rfl, b⟩; have z := BT.out _ _ (by assumption) b)
              | (go_at_call 27; refine (NC.out.height' _ (by assumption) _ HH.out).mono ?_; rintro e w' ⟨rfl, b⟩; have z := BT.out _ _ (by assumption) b)
              | (go_at_call 21; refine (NC.out.chain _ (by assumption)).mono ?_; rintro e w' ⟨A, c, rfl, C21, b⟩; have z := BT.out _ _ (by assumption) b)
              | (go_at_call 28; refine (NC.out.chain' _ (by assumption)).mono ?_; rintro e w' ⟨A, c, rfl, C28, b28⟩; have z := BT.out _ _ (by assumption) b28)
              | (go_at_call 19; refine (NC.out.same _ _ _ _ _ (by exact ⟨(C21.out).1, Kd.C_below (C21.out).2 b28⟩) (by exact C28.out)).mono ?_; rintro e w' ⟨rfl, b⟩; have z := BT.out _ _ (by assumption) b)
              | (go_at_call 29; refine (NC.out.bottom _ (by assumption) _ HB.out).mono ?_; rintro e w' ⟨rfl, b⟩; have z := BT.out _ _ (by assumption) b)
              | (go_at_call 23; refine (NC.out.top _ (by assumption) _ HT.out).mono ?_; rintro e w' ⟨rfl, b⟩; have z := BT.out _ _ (by assumption) b)
              | (go_at_call 18; refine (NC.out.meetC _ (by assumption) _ _ _ (Aside0.out (by assumption)) HB.out).mono ?_; rintro e w' ⟨rfl, b⟩; have z := BT.out _ _ (by assumption) b)
              | (go_at_call 16; refine (NC.out.joinC _ (by assumption) _ _ _ (Aside0.out (by assumption)) HT.out).mono ?_; rintro e w' ⟨rfl, b⟩; have z := BT.out _ _ (by assumption) b))) | fail
          all_goals (
            go_wp2_with fail
            go_ret
            exact ⟨by first | rfl | simp, below_then B5.out B5.out.size (Aside0.out (by assumption))⟩)

end Go.Proofs.Ytnjfiinnidklaaa.Lat
