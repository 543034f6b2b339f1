import Derived.Test.YtpbaebjohioijaaRH
import Derived.Test.YtpbaebjohioijaaS
namespace Go.Proofs.Ytpbaebjohioijaa.Lat
open Go.RowKit Go.Proofs.YtpbaebjohioijaaW.PrintWords Go.Proofs.YtpbaebjohioijaaW.PrintLast Go.Proofs.YtpbaebjohioijaaW.PrintMore Go.Proofs.Ytpbaebjohioijaa.PSolveLeast
set_option linter.unusedVariables false
set_option linter.unusedSimpArgs false

/-! ### Sums -/
def sm (g : Nat → Int) : Nat → Int
  | 0 => 0
  | k + 1 => sm g k + g k
theorem sm_le {g g' : Nat → Int} : ∀ n, (∀ i, i < n → g i ≤ g' i) → sm g n ≤ sm g' n
  | 0, _ => Int.le_refl _
  | n + 1, h => by
    have := sm_le n (fun i hi => h i (by omega))
    have := h n (by omega)
    simp only [sm]
    omega
theorem sm_at {g g' : Nat → Int} {v : Nat} {d : Int} : ∀ n, v < n → (∀ i, i < n → i ≠ v → g i ≤ g' i) → g v + d ≤ g' v → sm g n + d ≤ sm g' n
  | 0, h, _, _ => by omega
  | n + 1, hv, h, hd => by
    simp only [sm]
    by_cases e : v = n
    · subst e
      have := sm_le v (fun i hi => h i (by omega) (by omega))
      omega
    · have := sm_at n (by omega) (fun i hi hne => h i (by omega) hne) hd
      have := h n (by omega) (fun h => e h.symm)
      omega
theorem sm_nonneg {g : Nat → Int} (n : Nat) (h : ∀ i, i < n → 0 ≤ g i) : 0 ≤ sm g n := by
  have := sm_le (g := fun _ => 0) (g' := g) n h
  have e : ∀ n, sm (fun _ => 0) n = 0 := by
    intro n
    induction n with
    | zero => rfl
    | succ n ih => simp only [sm, ih]; rfl
  rw [e] at this
  exact this

/-! ### What is known of the lattice -/
def vl (n : Nat) (a : Int) : Prop := 0 ≤ a ∧ a < n
structure LF (n : Nat) (us : List Int) (rk : Int → Int) (H : Int) : Prop where
  refl : ∀ a, vl n a → mostM n us a a = true
  trans : ∀ a b c, vl n a → vl n b → vl n c → mostM n us a b = true → mostM n us b c = true → mostM n us a c = true
  anti : ∀ a b, vl n a → vl n b → mostM n us a b = true → mostM n us b a = true → a = b
  jv : ∀ a b, vl n a → vl n b → vl n (allM n us [a, b])
  j1 : ∀ a b, vl n a → vl n b → mostM n us a (allM n us [a, b]) = true
  j2 : ∀ a b, vl n a → vl n b → mostM n us b (allM n us [a, b]) = true
  jl : ∀ a b s, vl n a → vl n b → vl n s → mostM n us a s = true → mostM n us b s = true → mostM n us (allM n us [a, b]) s = true
  bv : vl n (allM n us [])
  bl : ∀ s, vl n s → mostM n us (allM n us []) s = true
  rk1 : ∀ a, vl n a → 1 ≤ rk a
  rkH : ∀ a, vl n a → rk a ≤ H
  rks : ∀ a b, vl n a → vl n b → mostM n us a b = true → mostM n us b a = false → rk a + 1 ≤ rk b
  H1 : 1 ≤ H
theorem vl_nat {n : Nat} {a : Int} (h : vl n a) : ∃ k : Nat, k < n ∧ a = (k : Int) := ⟨a.toNat, by have := h.1; have := h.2; omega, by have := h.1; omega⟩
theorem lf_of {n : Nat} (hn : n ≤ 8) (h0 : 0 < n) {us ds : List Int} {le : Nat → Nat → Bool} (h : Mk n us le) (k : Mk n ds (fun a b => le b a)) (hL : Lat n le) :
    ∃ ys rk K, chainF n ds n 0 = some ys ∧ heightM n ds ys = ((K : Nat) : Int) ∧ LF n us rk (K : Nat) := by
  obtain ⟨ys, hy, hpw⟩ := chain_all hn k hL
  have hR := ranks_are hn k hy hpw
  obtain ⟨K, hK, hH⟩ := height_is hn h0 k hy hpw
  obtain ⟨jb, hjb, eb⟩ := allM_lub hn h0 h hL []
  refine ⟨ys, fun a => rd (ranks n ds ys) a, K, hy, hK, ?_⟩
  have up : ∀ a b : Nat, a < n → b < n → ∃ j : Nat, IsJ n le a b j ∧ allM n us [(a : Int), (b : Int)] = (j : Nat) := fun a b ha hb => all_two hn h hL ha hb
  constructor
  · intro a ha
    obtain ⟨a, ha', rfl⟩ := vl_nat ha
    rw [most_is hn h ha' ha']
    exact hL.refl a ha'
  · intro a b c ha hb hc h1 h2
    obtain ⟨a, ha', rfl⟩ := vl_nat ha
    obtain ⟨b, hb', rfl⟩ := vl_nat hb
    obtain ⟨c, hc', rfl⟩ := vl_nat hc
    rw [most_is hn h (by assumption) (by assumption)] at h1 h2 ⊢
    exact hL.trans a b c ha' hb' hc' h1 h2
  · intro a b ha hb h1 h2
    obtain ⟨a, ha', rfl⟩ := vl_nat ha
    obtain ⟨b, hb', rfl⟩ := vl_nat hb
    rw [most_is hn h (by assumption) (by assumption)] at h1 h2
    rw [hL.anti a b ha' hb' h1 h2]
  · intro a b ha hb
    obtain ⟨a, ha', rfl⟩ := vl_nat ha
    obtain ⟨b, hb', rfl⟩ := vl_nat hb
    obtain ⟨j, hj, e⟩ := up a b ha' hb'
    rw [e]
    have := hj.lt
    exact ⟨by omega, by omega⟩
  · intro a b ha hb
    obtain ⟨a, ha', rfl⟩ := vl_nat ha
    obtain ⟨b, hb', rfl⟩ := vl_nat hb
    obtain ⟨j, hj, e⟩ := up a b ha' hb'
    rw [e, most_is hn h ha' hj.lt]
    exact hj.l
  · intro a b ha hb
    obtain ⟨a, ha', rfl⟩ := vl_nat ha
    obtain ⟨b, hb', rfl⟩ := vl_nat hb
    obtain ⟨j, hj, e⟩ := up a b ha' hb'
    rw [e, most_is hn h hb' hj.lt]
    exact hj.r
  · intro a b s ha hb hs h1 h2
    obtain ⟨a, ha', rfl⟩ := vl_nat ha
    obtain ⟨b, hb', rfl⟩ := vl_nat hb
    obtain ⟨s, hs', rfl⟩ := vl_nat hs
    obtain ⟨j, hj, e⟩ := up a b ha' hb'
    rw [most_is hn h (by assumption) (by assumption)] at h1 h2
    rw [e, most_is hn h hj.lt hs']
    exact hj.least s hs' h1 h2
  · rw [eb]
    have := hjb.lt
    exact ⟨by omega, by omega⟩
  · intro s hs
    obtain ⟨s, hs', rfl⟩ := vl_nat hs
    rw [eb, most_is hn h hjb.lt hs']
    exact hjb.least s hs' (fun l hl => by simp [inr] at hl)
  · intro a ha
    obtain ⟨a, ha', rfl⟩ := vl_nat ha
    exact (hR.done a ha' trivial).pos
  · intro a ha
    obtain ⟨a, ha', rfl⟩ := vl_nat ha
    obtain ⟨k', e, hc⟩ := (hR.done a ha' trivial).ex
    have := hH.all k' a hc
    show rd (ranks n ds ys) (a : Nat) ≤ _
    omega
  · intro a b ha hb h1 h2
    obtain ⟨a, ha', rfl⟩ := vl_nat ha
    obtain ⟨b, hb', rfl⟩ := vl_nat hb
    rw [most_is hn h (by assumption) (by assumption)] at h1 h2
    obtain ⟨k', e, hc⟩ := (hR.done a ha' trivial).ex
    have := (hR.done b hb' trivial).all (k' + 1) ⟨hb', a, (fun he => by subst he; rw [hL.refl a ha'] at h2; cases h2), h1, hc⟩
    show rd (ranks n ds ys) (a : Nat) + 1 ≤ rd (ranks n ds ys) (b : Nat)
    omega
  · obtain ⟨k', l, e, _⟩ := hH.ex
    omega

/-! ### The solver's state, plain -/
def outAt (cs : List S43) (v : Nat) : List Int := (cs.filter fun c => decide (c.f1 = (v : Int))).map (·.f0)
def bit (b : Bool) : Int := if b then 1 else 0
def SolF (n : Nat) (us : List Int) (nv : Nat) (cs : List S43) (σ : List Int) : Prop :=
  σ.length = nv ∧ (∀ i : Nat, i < nv → vl n (rd σ i)) ∧ ∀ c ∈ cs, mostM n us (if 0 ≤ c.f1 then rd σ c.f1 else c.f2) (rd σ c.f0) = true
def Phi (rk : Int → Int) (nv : Nat) (cs : List S43) (lv : List Int) (rdy : List Bool) : Int := sm (fun v => ((outAt cs v).length : Int) * (rk (rd lv v) - 1 - bit (rdb rdy v))) nv
def Mu (rk : Int → Int) (H : Int) (nv : Nat) (lv : List Int) (xs : List Int) : Int := 2 * sm (fun v => H - rk (rd lv v)) nv + xs.length
def ups (bot a : Int) (b : Bool) : Int := if a = bot then 0 else if b then 0 else 1
theorem ups_le (bot a : Int) (b : Bool) : 0 ≤ ups bot a b ∧ ups bot a b ≤ 1 := by
  unfold ups
  split
  · omega
  · split <;> omega
def Psi (bot : Int) (nv : Nat) (cs : List S43) (lv : List Int) (rdy : List Bool) : Int := sm (fun v => ((outAt cs v).length : Int) * ups bot (rd lv v) (rdb rdy v)) nv
structure PI (n : Nat) (us : List Int) (rk : Int → Int) (nv : Nat) (cs : List S43) (W : Nat → List Int) (D : List S43) (slack : Int) (lv : List Int) (rdy : List Bool) (xs : List Int) (work : Int) : Prop where
  ll : lv.length = nv
  rl : rdy.length = nv
  lvv : ∀ i : Nat, i < nv → vl n (rd lv i)
  rowR : ∀ x ∈ xs, ∃ i : Nat, i < nv ∧ x = i
  nd : xs.Nodup
  rx : ∀ i : Nat, i < nv → (rdb rdy i = true ↔ (i : Int) ∈ xs)
  xl : xs.length = rdy.count true
  least : ∀ σ, SolF n us nv cs σ → ∀ i : Nat, i < nv → mostM n us (rd lv i) (rd σ i) = true
  pend : ∀ f : Nat, f < nv → rdb rdy f = true ∨ ∀ t ∈ W f, mostM n us (rd lv f) (rd lv t) = true
  dn : ∀ c ∈ D, mostM n us c.f2 (rd lv c.f0) = true
  w0 : 0 ≤ work
  bud : work + slack ≤ D.length + Phi rk nv cs lv rdy
  low : D.length + Psi (allM n us []) nv cs lv rdy ≤ work + slack
theorem rd_setN {us : List Int} {a i : Nat} {v : Int} (ha : a < us.length) : rd (us.set a v) (i : Nat) = if i = a then v else rd us (i : Nat) := rd_set ha
theorem rdb_set {l : List Bool} {a i : Nat} {b : Bool} (ha : a < l.length) : rdb (l.set a b) i = if i = a then b else rdb l i := by
  unfold rdb
  rw [List.getD_eq_getElem?_getD, List.getD_eq_getElem?_getD, List.getElem?_set]
  by_cases e : a = i
  · subst e
    simp [ha]
  · simp [e, Ne.symm e]
theorem count_true_set (l : List Bool) (i : Nat) (hi : i < l.length) (h : rdb l i = false) : (l.set i true).count true = l.count true + 1 := by
  induction l generalizing i with
  | nil => simp at hi
  | cons x t ih =>
    cases i with
    | zero =>
      have hx : x = false := by simpa [rdb] using h
      subst hx
      simp
    | succ i =>
      have := ih i (by simpa using hi) (by simpa [rdb] using h)
      simp only [List.set_cons_succ, List.count_cons]
      omega
theorem count_false_set (l : List Bool) (i : Nat) (hi : i < l.length) (h : rdb l i = true) : (l.set i false).count true + 1 = l.count true := by
  induction l generalizing i with
  | nil => simp at hi
  | cons x t ih =>
    cases i with
    | zero =>
      have hx : x = true := by simpa [rdb] using h
      subst hx
      simp
    | succ i =>
      have := ih i (by simpa using hi) (by simpa [rdb] using h)
      simp only [List.set_cons_succ, List.count_cons]
      omega
theorem PI.xle {n : Nat} {us : List Int} {rk : Int → Int} {nv : Nat} {cs : List S43} {W : Nat → List Int} {D : List S43} {slack : Int} {lv : List Int} {rdy : List Bool} {xs : List Int} {work : Int} (h : PI n us rk nv cs W D slack lv rdy xs work) : xs.length ≤ nv := by
  rw [h.xl, ← h.rl]
  exact List.count_le_length
end Go.Proofs.Ytpbaebjohioijaa.Lat
namespace Go.Proofs.Ytpbaebjohioijaa.Lat
open Go.RowKit Go.Proofs.YtpbaebjohioijaaW.PrintWords Go.Proofs.YtpbaebjohioijaaW.PrintLast Go.Proofs.YtpbaebjohioijaaW.PrintMore Go.Proofs.Ytpbaebjohioijaa.PSolveLeast
set_option linter.unusedVariables false
set_option linter.unusedSimpArgs false
section
variable {n : Nat} {us : List Int} {rk : Int → Int} {H : Int} {nv : Nat} {cs : List S43} {W : Nat → List Int} {D : List S43} {slack : Int} {lv : List Int} {rdy : List Bool} {xs : List Int} {work : Int}
/-- One raise keeps the state. -/
theorem PI.raise (hF : LF n us rk H) (h : PI n us rk nv cs W D slack lv rdy xs work) (hW : ∀ f : Nat, f < nv → ∀ t ∈ W f, ∃ i : Nat, i < nv ∧ t = i) (hD : ∀ c ∈ D, vl n c.f2 ∧ ∃ i : Nat, i < nv ∧ c.f0 = i) {x : Nat} (hx : x < nv) {l : Int} (hl : vl n l)
    (hσ : ∀ σ, SolF n us nv cs σ → mostM n us l (rd σ x) = true) {lv' : List Int} {rdy' : List Bool} {xs' : List Int} (hr : Raised n us x l lv rdy xs lv' rdy' xs') :
    PI n us rk nv cs W D (slack - 1) lv' rdy' xs' (work + 1) ∧ mostM n us l (rd lv' x) = true ∧ (∀ i : Nat, i < nv → mostM n us (rd lv i) (rd lv' i) = true) ∧ Mu rk H nv lv' xs' ≤ Mu rk H nv lv xs := by
  have hw := h.w0
  have hb := h.bud
  have hlow := h.low
  rcases hr with ⟨hm, rfl, rfl, rfl⟩ | ⟨hm, rfl, hr⟩
  · refine ⟨⟨h.ll, h.rl, h.lvv, h.rowR, h.nd, h.rx, h.xl, h.least, h.pend, h.dn, by omega, by omega, by omega⟩, hm, fun i hi => hF.refl _ (h.lvv i hi), Int.le_refl _⟩
  · have hxl : x < lv.length := by rw [h.ll]; exact hx
    obtain ⟨j, hj⟩ : ∃ j, allM n us [l, rd lv x] = j := ⟨_, rfl⟩
    have hvx := h.lvv x hx
    have hjv : vl n j := hj ▸ hF.jv l _ hl hvx
    have hj1 : mostM n us l j = true := hj ▸ hF.j1 l _ hl hvx
    have hj2 : mostM n us (rd lv x) j = true := hj ▸ hF.j2 l _ hl hvx
    have hjl : ∀ s, vl n s → mostM n us l s = true → mostM n us (rd lv x) s = true → mostM n us j s = true := fun s hs h1 h2 => hj ▸ hF.jl l _ s hl hvx hs h1 h2
    have hnot : mostM n us j (rd lv x) = false := by
      cases hb' : mostM n us j (rd lv x) with
      | false => rfl
      | true =>
        rw [hF.trans l j _ hl hjv hvx hj1 hb'] at hm
        cases hm
    have hrk := hF.rks _ _ hvx hjv hj2 hnot
    rw [hj] at *
    have at_ : ∀ i : Nat, rd (lv.set x j) (i : Nat) = if i = x then j else rd lv (i : Nat) := fun i => rd_setN hxl
    have up : ∀ i : Nat, i < nv → mostM n us (rd lv i) (rd (lv.set x j) i) = true := by
      intro i hi
      rw [at_]
      split
      · rename_i e; subst e; exact hj2
      · exact hF.refl _ (h.lvv i hi)
    have vv : ∀ i : Nat, i < nv → vl n (rd (lv.set x j) i) := by
      intro i hi
      rw [at_]
      split
      · exact hjv
      · exact h.lvv i hi
    have le' : ∀ σ, SolF n us nv cs σ → ∀ i : Nat, i < nv → mostM n us (rd (lv.set x j) i) (rd σ i) = true := by
      intro σ hs i hi
      rw [at_]
      split
      · rename_i e
        subst e
        exact hjl _ (hs.2.1 _ hi) (hσ σ hs) (h.least σ hs _ hi)
      · exact h.least σ hs i hi
    have dn' : ∀ c ∈ D, mostM n us c.f2 (rd (lv.set x j) c.f0) = true := by
      intro c hc
      obtain ⟨h1, i, hi, e⟩ := hD c hc
      have := h.dn c hc
      rw [e] at this ⊢
      exact hF.trans _ _ _ h1 (h.lvv i hi) (vv i hi) this (up i hi)
    have keep : ∀ f : Nat, f < nv → f ≠ x → (∀ t ∈ W f, mostM n us (rd lv f) (rd lv t) = true) → ∀ t ∈ W f, mostM n us (rd (lv.set x j) f) (rd (lv.set x j) t) = true := by
      intro f hf hne hp t ht
      obtain ⟨i, hi, e⟩ := hW f hf t ht
      have := hp t ht
      rw [e] at this ⊢
      rw [show rd (lv.set x j) (f : Nat) = rd lv (f : Nat) from by rw [at_, if_neg hne]]
      exact hF.trans _ _ _ (h.lvv f hf) (h.lvv i hi) (vv i hi) this (up i hi)
    have phi : ∀ r' : List Bool, (∀ i : Nat, i < nv → i ≠ x → rdb r' i = rdb rdy i) → Phi rk nv cs lv rdy ≤ Phi rk nv cs (lv.set x j) r' := by
      intro r' hr'
      have := sm_at (g := fun v => ((outAt cs v).length : Int) * (rk (rd lv v) - 1 - bit (rdb rdy v))) (g' := fun v => ((outAt cs v).length : Int) * (rk (rd (lv.set x j) v) - 1 - bit (rdb r' v))) (d := 0) nv hx
        (fun i hi hne => by
          show _ ≤ ((outAt cs i).length : Int) * (rk (rd (lv.set x j) i) - 1 - bit (rdb r' i))
          rw [at_, if_neg hne, hr' i hi hne]
          exact Int.le_refl _)
        (by
          show _ ≤ ((outAt cs x).length : Int) * (rk (rd (lv.set x j) x) - 1 - bit (rdb r' x))
          rw [at_, if_pos rfl, Int.add_zero]
          refine Int.mul_le_mul_of_nonneg_left ?_ (by omega)
          have : bit (rdb r' x) ≤ bit (rdb rdy x) + 1 := by
            unfold bit
            split <;> split <;> omega
          omega)
      unfold Phi
      omega
    have psi : ∀ r' : List Bool, (∀ i : Nat, i < nv → i ≠ x → rdb r' i = rdb rdy i) → rdb r' x = true → Psi (allM n us []) nv cs (lv.set x j) r' ≤ Psi (allM n us []) nv cs lv rdy := by
      intro r' hr' hrx
      refine sm_le nv (fun i hi => ?_)
      show ((outAt cs i).length : Int) * ups (allM n us []) (rd (lv.set x j) i) (rdb r' i) ≤ ((outAt cs i).length : Int) * ups (allM n us []) (rd lv i) (rdb rdy i)
      refine Int.mul_le_mul_of_nonneg_left ?_ (by omega)
      by_cases e : i = x
      · subst e
        rw [hrx]
        have := (ups_le (allM n us []) (rd lv i) (rdb rdy i)).1
        have e2 : ups (allM n us []) (rd (lv.set i j) i) true = 0 := by unfold ups; split <;> rfl
        omega
      · rw [at_, if_neg e, hr' i hi e]
        exact Int.le_refl _
    have mu : sm (fun v => H - rk (rd (lv.set x j) v)) nv + 1 ≤ sm (fun v => H - rk (rd lv v)) nv :=
      sm_at (g := fun v => H - rk (rd (lv.set x j) v)) (g' := fun v => H - rk (rd lv v)) (d := 1) nv hx
        (fun i hi hne => by
          show H - rk (rd (lv.set x j) i) ≤ _
          rw [at_, if_neg hne]
          exact Int.le_refl _)
        (by
          show H - rk (rd (lv.set x j) x) + 1 ≤ _
          rw [at_, if_pos rfl]
          omega)
    have hmost : mostM n us l (rd (lv.set x j) x) = true := by rw [at_, if_pos rfl]; exact hj1
    rcases hr with ⟨hy, rfl, rfl⟩ | ⟨hy, rfl, hp⟩
    · refine ⟨⟨by rw [List.length_set]; exact h.ll, h.rl, vv, h.rowR, h.nd, h.rx, h.xl, le', fun f hf => ?_, dn', by omega, by have := phi rdy' (fun _ _ _ => rfl); omega, by have := psi rdy' (fun _ _ _ => rfl) hy; omega⟩, hmost, up, by unfold Mu; omega⟩
      by_cases e : f = x
      · subst e; exact .inl hy
      · exact (h.pend f hf).imp id (keep f hf e)
    · have hxr : x < rdy.length := by rw [h.rl]; exact hx
      have yat : ∀ i : Nat, rdb (rdy.set x true) i = if i = x then true else rdb rdy i := fun i => rdb_set hxr
      have hnx : ((x : Nat) : Int) ∉ xs := fun hc => by rw [(h.rx x hx).2 hc] at hy; cases hy
      refine ⟨⟨by rw [List.length_set]; exact h.ll, by rw [List.length_set]; exact h.rl, vv, fun y hy' => ?_, hp.nodup_iff.2 (List.nodup_cons.2 ⟨hnx, h.nd⟩), fun i hi => ?_, ?_, le', fun f hf => ?_, dn', by omega, ?_, by have := psi (rdy.set x true) (fun i hi hne => by rw [yat, if_neg hne]) (by rw [yat, if_pos rfl]); omega⟩, hmost, up, ?_⟩
      · rcases List.mem_cons.1 (hp.mem_iff.1 hy') with rfl | hm'
        · exact ⟨x, hx, rfl⟩
        · exact h.rowR y hm'
      · rw [yat, hp.mem_iff, List.mem_cons]
        by_cases e : i = x
        · subst e; simp
        · rw [if_neg e, h.rx i hi]
          constructor
          · exact fun h => .inr h
          · rintro (h' | h')
            · exact absurd (by omega) e
            · exact h'
      · rw [hp.length_eq, List.length_cons, h.xl, count_true_set rdy x hxr hy]
      · rw [yat]
        by_cases e : f = x
        · rw [if_pos e]; exact .inl rfl
        · rw [if_neg e]
          exact (h.pend f hf).imp id (keep f hf e)
      · have := phi (rdy.set x true) (fun i hi hne => by rw [yat, if_neg hne])
        omega
      · unfold Mu
        rw [hp.length_eq, List.length_cons]
        omega
/-- A variable is taken out of the row. -/
theorem PI.pop (hF : LF n us rk H) (h : PI n us rk nv cs (outAt cs) D 0 lv rdy xs work) {x : Int} {ys : List Int} (hp : (x :: ys).Perm xs) :
    ∃ v : Nat, v < nv ∧ x = v ∧ PI n us rk nv cs (fun f => if f = v then [] else outAt cs f) D (outAt cs v).length lv (rdy.set v false) ys work ∧ Mu rk H nv lv ys + 1 ≤ Mu rk H nv lv xs := by
  obtain ⟨v, hv, rfl⟩ := h.rowR x (hp.mem_iff.1 List.mem_cons_self)
  have hvr : v < rdy.length := by rw [h.rl]; exact hv
  have hy : rdb rdy v = true := (h.rx v hv).2 (hp.mem_iff.1 List.mem_cons_self)
  have hnd := hp.nodup_iff.2 h.nd
  rw [List.nodup_cons] at hnd
  have yat : ∀ i : Nat, rdb (rdy.set v false) i = if i = v then false else rdb rdy i := fun i => rdb_set hvr
  have hb := h.bud
  refine ⟨v, hv, rfl, ⟨h.ll, by rw [List.length_set]; exact h.rl, h.lvv, fun y hy' => h.rowR y (hp.mem_iff.1 (List.mem_cons_of_mem _ hy')), hnd.2, fun i hi => ?_, ?_, h.least, fun f hf => ?_, h.dn, h.w0, ?_, ?_⟩, ?_⟩
  · rw [yat]
    by_cases e : i = v
    · subst e
      rw [if_pos rfl]
      constructor
      · intro hc; cases hc
      · intro hc; exact absurd hc hnd.1
    · rw [if_neg e, h.rx i hi, ← hp.mem_iff, List.mem_cons]
      constructor
      · rintro (h' | h')
        · exact absurd (by omega) e
        · exact h'
      · exact fun h => .inr h
  · have h1 := hp.length_eq
    rw [List.length_cons, h.xl, ← count_false_set rdy v hvr hy] at h1
    omega
  · rw [yat]
    by_cases e : f = v
    · right
      intro t ht
      have ht' : t ∈ (if f = v then ([] : List Int) else outAt cs f) := ht
      rw [if_pos e] at ht'
      cases ht'
    · rw [if_neg e]
      refine (h.pend f hf).imp id (fun hp' t ht => hp' t ?_)
      have ht' : t ∈ (if f = v then ([] : List Int) else outAt cs f) := ht
      rwa [if_neg e] at ht'
  · have := sm_at (g := fun i => ((outAt cs i).length : Int) * (rk (rd lv i) - 1 - bit (rdb rdy i))) (g' := fun i => ((outAt cs i).length : Int) * (rk (rd lv i) - 1 - bit (rdb (rdy.set v false) i))) (d := ((outAt cs v).length : Int)) nv hv
      (fun i hi hne => by
        show _ ≤ ((outAt cs i).length : Int) * (rk (rd lv i) - 1 - bit (rdb (rdy.set v false) i))
        rw [yat, if_neg hne]
        exact Int.le_refl _)
      (by
        show _ ≤ ((outAt cs v).length : Int) * (rk (rd lv v) - 1 - bit (rdb (rdy.set v false) v))
        rw [yat, if_pos rfl, hy]
        show _ * (rk (rd lv v) - 1 - 1) + _ ≤ _ * (rk (rd lv v) - 1 - 0)
        rw [show rk (rd lv v) - 1 - 0 = (rk (rd lv v) - 1 - 1) + 1 from by omega, Int.mul_add, Int.mul_one]
        exact Int.le_refl _)
    unfold Phi at hb ⊢
    omega
  · have hlow := h.low
    have := sm_at (g := fun i => ((outAt cs i).length : Int) * ups (allM n us []) (rd lv i) (rdb (rdy.set v false) i)) (g' := fun i => ((outAt cs i).length : Int) * ups (allM n us []) (rd lv i) (rdb rdy i) + (if i = v then ((outAt cs v).length : Int) else 0)) (d := 0) nv hv
      (fun i hi hne => by
        show ((outAt cs i).length : Int) * ups (allM n us []) (rd lv i) (rdb (rdy.set v false) i) ≤ _ + _
        rw [yat, if_neg hne, if_neg hne]
        omega)
      (by
        show ((outAt cs v).length : Int) * ups (allM n us []) (rd lv v) (rdb (rdy.set v false) v) + 0 ≤ ((outAt cs v).length : Int) * ups (allM n us []) (rd lv v) (rdb rdy v) + (if v = v then ((outAt cs v).length : Int) else 0)
        rw [if_pos rfl]
        have h1 : ((outAt cs v).length : Int) * ups (allM n us []) (rd lv v) (rdb (rdy.set v false) v) ≤ ((outAt cs v).length : Int) * 1 := Int.mul_le_mul_of_nonneg_left (ups_le _ _ _).2 (by omega)
        have h2 : 0 ≤ ((outAt cs v).length : Int) * ups (allM n us []) (rd lv v) (rdb rdy v) := Int.mul_nonneg (by omega) (ups_le _ _ _).1
        omega)
    have h3 : ∀ k, sm (fun i => ((outAt cs i).length : Int) * ups (allM n us []) (rd lv i) (rdb rdy i) + (if i = v then ((outAt cs v).length : Int) else 0)) k ≤ sm (fun i => ((outAt cs i).length : Int) * ups (allM n us []) (rd lv i) (rdb rdy i)) k + (if v < k then ((outAt cs v).length : Int) else 0) := by
      intro k
      induction k with
      | zero => simp [sm]
      | succ k ih' =>
        simp only [sm]
        by_cases e1 : k = v
        · subst e1
          rw [if_pos rfl, if_pos (by omega)]
          rw [if_neg (by omega)] at ih'
          omega
        · rw [if_neg e1]
          by_cases e2 : v < k
          · rw [if_pos e2] at ih'
            rw [if_pos (by omega)]
            omega
          · rw [if_neg e2] at ih'
            rw [if_neg (by omega)]
            omega
    have h4 := h3 nv
    rw [if_pos hv] at h4
    unfold Psi at hlow ⊢
    omega
  · unfold Mu
    rw [← hp.length_eq, List.length_cons]
    omega
theorem Raised.same {x v : Nat} {l : Int} {lv' : List Int} {rdy' : List Bool} {xs' : List Int} (hx : x < lv.length) (hr : Raised n us x l lv rdy xs lv' rdy' xs') (h : x = v → mostM n us l (rd lv x) = true) : rd lv' (v : Nat) = rd lv (v : Nat) := by
  rcases hr with ⟨_, rfl, _, _⟩ | ⟨hm, rfl, _⟩
  · rfl
  · rw [rd_setN hx]
    split
    · rename_i e
      rw [h e.symm] at hm
      cases hm
    · rfl
/-- The targets of a variable, one by one. -/
def WJ (cs : List S43) (v j : Nat) : Nat → List Int := fun f => if f = v then (outAt cs v).take j else outAt cs f
theorem PI.wj0 {v : Nat} (h : PI n us rk nv cs (fun f => if f = v then [] else outAt cs f) D slack lv rdy xs work) : PI n us rk nv cs (WJ cs v 0) D slack lv rdy xs work := by
  have e : WJ cs v 0 = fun f => if f = v then [] else outAt cs f := by
    funext f
    unfold WJ
    rw [List.take_zero]
  rw [e]
  exact h
theorem PI.next {v j : Nat} (hj : j < (outAt cs v).length) (h : PI n us rk nv cs (WJ cs v j) D slack lv rdy xs work) (ht : mostM n us (rd lv v) (rd lv ((outAt cs v)[j])) = true) : PI n us rk nv cs (WJ cs v (j + 1)) D slack lv rdy xs work := by
  refine ⟨h.ll, h.rl, h.lvv, h.rowR, h.nd, h.rx, h.xl, h.least, fun f hf => (h.pend f hf).imp id (fun hp t htm => ?_), h.dn, h.w0, h.bud, h.low⟩
  by_cases e : f = v
  · subst e
    rw [show WJ cs f (j + 1) f = (outAt cs f).take (j + 1) from if_pos rfl, List.take_succ_eq_append_getElem hj, List.mem_append, List.mem_singleton] at htm
    rcases htm with htm | rfl
    · exact hp t (by rw [show WJ cs f j f = (outAt cs f).take j from if_pos rfl]; exact htm)
    · exact ht
  · rw [show WJ cs v (j + 1) f = outAt cs f from if_neg e] at htm
    exact hp t (by rw [show WJ cs v j f = outAt cs f from if_neg e]; exact htm)
theorem PI.full {v : Nat} (h : PI n us rk nv cs (WJ cs v (outAt cs v).length) D slack lv rdy xs work) : PI n us rk nv cs (outAt cs) D slack lv rdy xs work := by
  have e : WJ cs v (outAt cs v).length = outAt cs := by
    funext f
    unfold WJ
    split
    · rename_i e
      rw [List.take_length, e]
    · rfl
  rw [← e]
  exact h
theorem PI.snoc {c : S43} (h : PI n us rk nv cs W D (slack - 1) lv rdy xs work) (hc : mostM n us c.f2 (rd lv c.f0) = true) : PI n us rk nv cs W (D ++ [c]) slack lv rdy xs work := by
  have hb := h.bud
  have hlow := h.low
  refine ⟨h.ll, h.rl, h.lvv, h.rowR, h.nd, h.rx, h.xl, h.least, h.pend, fun d hd => ?_, h.w0, ?_, by rw [List.length_append]; simp only [List.length_cons, List.length_nil]; omega⟩
  · rcases List.mem_append.1 hd with hd | hd
    · exact h.dn d hd
    · rw [List.mem_singleton.1 hd]; exact hc
  · rw [List.length_append]
    simp only [List.length_cons, List.length_nil]
    omega
theorem outAt_mem {v : Nat} {t : Int} (h : t ∈ outAt cs v) : ∃ c ∈ cs, c.f1 = (v : Int) ∧ c.f0 = t := by
  unfold outAt at h
  obtain ⟨c, hc, e⟩ := List.mem_map.1 h
  rw [List.mem_filter] at hc
  exact ⟨c, hc.1, by simpa using hc.2, e⟩
/-- Rules that are right. -/
def RC (n nv : Nat) (cs : List S43) : Prop := ∀ c ∈ cs, (∃ i : Nat, i < nv ∧ c.f0 = i) ∧ (c.f1 = -1 ∧ vl n c.f2 ∨ ∃ i : Nat, i < nv ∧ c.f1 = i)
theorem rc_of {m : Nat} (h : rightS n (m : Int) cs = true) : RC n m cs ∧ m ≤ 524288 := by
  unfold rightS at h
  rw [Bool.and_eq_true, Bool.and_eq_true, Bool.not_eq_true', List.any_eq_false] at h
  refine ⟨fun c hc => ?_, by have := h.2.1; simp at this; omega⟩
  have := h.2.2 c hc
  rw [Int.toNat_natCast] at this
  unfold badC at this
  simp only [Bool.or_eq_true, Bool.and_eq_true, decide_eq_true_eq, not_or, not_and, Bool.not_eq_true', Bool.not_eq_false] at this
  obtain ⟨h1, h2, h3, h4, h5⟩ := this
  refine ⟨⟨c.f0.toNat, by omega, by omega⟩, ?_⟩
  by_cases e : c.f1 = -1
  · left
    have := h5 e
    unfold lev at this
    rw [Bool.and_eq_true, decide_eq_true_eq, decide_eq_true_eq] at this
    exact ⟨e, this⟩
  · right
    exact ⟨c.f1.toNat, by omega, by omega⟩
theorem PI.init (hF : LF n us rk H) (hR : RC n nv cs) : PI n us rk nv cs (outAt cs) [] 0 (List.replicate nv (allM n us [])) (List.replicate nv false) [] 0 := by
  have at_ : ∀ i : Nat, i < nv → rd (List.replicate nv (allM n us [])) (i : Nat) = allM n us [] := by
    intro i hi
    unfold rd
    rw [Int.toNat_natCast, List.getD_eq_getElem?_getD, List.getElem?_replicate, if_pos hi]
    rfl
  have yt : ∀ i : Nat, rdb (List.replicate nv false) i = false := by
    intro i
    unfold rdb
    rw [List.getD_eq_getElem?_getD, List.getElem?_replicate]
    split <;> rfl
  refine ⟨List.length_replicate, List.length_replicate, fun i hi => by rw [at_ i hi]; exact hF.bv, (fun x hx => by cases hx), List.nodup_nil, fun i hi => by rw [yt]; simp, ?_, fun σ hs i hi => by rw [at_ i hi]; exact hF.bl _ (hs.2.1 i hi), fun f hf => .inr (fun t ht => ?_), (fun c hc => by cases hc), Int.le_refl _, ?_, ?_⟩
  · rw [List.count_replicate]
    simp
  · obtain ⟨c, hc, _, e⟩ := outAt_mem ht
    obtain ⟨⟨i, hi, e2⟩, _⟩ := hR c hc
    rw [← e, e2, at_ f hf, at_ i hi]
    exact hF.refl _ hF.bv
  · unfold Phi
    have := sm_nonneg (g := fun v => ((outAt cs v).length : Int) * (rk (rd (List.replicate nv (allM n us [])) v) - 1 - bit (rdb (List.replicate nv false) v))) nv (fun i hi => by
      show 0 ≤ ((outAt cs i).length : Int) * (rk (rd (List.replicate nv (allM n us [])) i) - 1 - bit (rdb (List.replicate nv false) i))
      rw [at_ i hi, yt]
      have := hF.rk1 _ hF.bv
      exact Int.mul_nonneg (by omega) (by show 0 ≤ _ - 1 - 0; omega))
    simp only [List.length_nil]
    omega
  · unfold Psi
    have := sm_le (g := fun v => ((outAt cs v).length : Int) * ups (allM n us []) (rd (List.replicate nv (allM n us [])) v) (rdb (List.replicate nv false) v)) (g' := fun _ => 0) nv (fun i hi => by
      show ((outAt cs i).length : Int) * ups (allM n us []) (rd (List.replicate nv (allM n us [])) i) (rdb (List.replicate nv false) i) ≤ 0
      rw [at_ i hi]
      unfold ups
      rw [if_pos rfl, Int.mul_zero]
      exact Int.le_refl _)
    have e : ∀ n, sm (fun _ => 0) n = 0 := by
      intro n
      induction n with
      | zero => rfl
      | succ n ih => simp only [sm, ih]; rfl
    rw [e] at this
    simp only [List.length_nil]
    omega
theorem deg_sum : ∀ cs : List S43, (∀ c ∈ cs, c.f1 = -1 ∨ ∃ i : Nat, i < nv ∧ c.f1 = i) → sm (fun v => ((outAt cs v).length : Int)) nv + (cs.filter (fun c => decide (c.f1 < 0))).length ≤ cs.length
  | [], _ => by
    have := sm_le (g := fun v => ((outAt [] v).length : Int)) (g' := fun _ => 0) nv (fun i _ => by show ((outAt [] i).length : Int) ≤ 0; simp [outAt])
    have e : ∀ n, sm (fun _ => 0) n = 0 := by
      intro n
      induction n with
      | zero => rfl
      | succ n ih => simp only [sm, ih]; rfl
    rw [e] at this
    simpa using this
  | c :: t, h => by
    have ih := deg_sum t (fun d hd => h d (List.mem_cons_of_mem _ hd))
    rcases h c List.mem_cons_self with e | ⟨i, hi, e⟩
    · have h1 := sm_le (g := fun v => ((outAt (c :: t) v).length : Int)) (g' := fun v => ((outAt t v).length : Int)) nv (fun v _ => by
        show ((outAt (c :: t) v).length : Int) ≤ ((outAt t v).length : Int)
        unfold outAt
        rw [List.filter_cons, if_neg (by simp; omega)]
        exact Int.le_refl _)
      rw [List.filter_cons, if_pos (by simp; omega)]
      simp only [List.length_cons]
      omega
    · have h1 := sm_at (g := fun v => ((outAt (c :: t) v).length : Int)) (g' := fun v => ((outAt t v).length : Int) + (if v = i then 1 else 0)) (d := 0) nv hi (fun v _ hne => by
        show ((outAt (c :: t) v).length : Int) ≤ ((outAt t v).length : Int) + (if v = i then 1 else 0)
        rw [if_neg hne]
        unfold outAt
        rw [List.filter_cons, if_neg (by simp; omega)]
        omega) (by
        show ((outAt (c :: t) i).length : Int) + 0 ≤ ((outAt t i).length : Int) + (if i = i then 1 else 0)
        rw [if_pos rfl]
        unfold outAt
        rw [List.filter_cons, if_pos (by simp; omega)]
        simp)
      have h2 : ∀ k, sm (fun v => ((outAt t v).length : Int) + (if v = i then 1 else 0)) k ≤ sm (fun v => ((outAt t v).length : Int)) k + (if i < k then 1 else 0) := by
        intro k
        induction k with
        | zero => simp [sm]
        | succ k ih' =>
          simp only [sm]
          by_cases e1 : k = i
          · subst e1
            rw [if_pos rfl, if_pos (by omega)]
            rw [if_neg (by omega)] at ih'
            omega
          · rw [if_neg e1]
            by_cases e2 : i < k
            · rw [if_pos e2] at ih'
              rw [if_pos (by omega)]
              omega
            · rw [if_neg e2] at ih'
              rw [if_neg (by omega)]
              omega
      have h3 := h2 nv
      rw [if_pos hi] at h3
      rw [List.filter_cons, if_neg (by simp; omega)]
      simp only [List.length_cons]
      omega
theorem sm_mul (g : Nat → Int) (k : Int) : ∀ m, sm (fun v => g v * k) m = sm g m * k
  | 0 => by simp [sm]
  | m + 1 => by simp only [sm, sm_mul g k m, Int.add_mul]
/-- The row is empty: the levels are the least solution, and the rules were looked at no more often than they are, times the height. -/
theorem PI.fin (hF : LF n us rk H) (hR : RC n nv cs) (h : PI n us rk nv cs (outAt cs) (cs.filter fun c => decide (c.f1 < 0)) 0 lv rdy [] work) :
    SolF n us nv cs lv ∧ (∀ σ, SolF n us nv cs σ → ∀ i : Nat, i < nv → mostM n us (rd lv i) (rd σ i) = true) ∧ 0 ≤ work ∧ work ≤ cs.length * H ∧ ((cs.filter fun c => decide (c.f1 < 0)).length : Int) + Psi (allM n us []) nv cs lv (List.replicate nv false) ≤ work := by
  have hno : ∀ i : Nat, i < nv → rdb rdy i = false := by
    intro i hi
    cases hb : rdb rdy i with
    | false => rfl
    | true => exact absurd ((h.rx i hi).1 hb) (by simp)
  refine ⟨⟨h.ll, h.lvv, fun c hc => ?_⟩, h.least, h.w0, ?_, ?_⟩
  · obtain ⟨⟨i, hi, e0⟩, h1⟩ := hR c hc
    rcases h1 with ⟨e1, _⟩ | ⟨f, hf, e1⟩
    · rw [if_neg (by omega)]
      exact h.dn c (List.mem_filter.2 ⟨hc, by simp; omega⟩)
    · rw [if_pos (by omega), e1]
      rcases h.pend f hf with hb | hp
      · rw [hno f hf] at hb; cases hb
      · exact hp c.f0 (List.mem_map.2 ⟨c, List.mem_filter.2 ⟨hc, by simpa using e1⟩, rfl⟩)
  · have hb := h.bud
    have h1 : Phi rk nv cs lv rdy ≤ sm (fun v => ((outAt cs v).length : Int) * (H - 1)) nv := sm_le nv (fun i hi => by
      show ((outAt cs i).length : Int) * (rk (rd lv i) - 1 - bit (rdb rdy i)) ≤ ((outAt cs i).length : Int) * (H - 1)
      refine Int.mul_le_mul_of_nonneg_left ?_ (by omega)
      have := hF.rkH _ (h.lvv i hi)
      rw [hno i hi]
      show rk (rd lv i) - 1 - 0 ≤ H - 1
      omega)
    rw [sm_mul] at h1
    have h2 := deg_sum (nv := nv) cs (fun c hc => (hR c hc).2.imp (fun h => h.1) id)
    have h3 := sm_nonneg (g := fun v => ((outAt cs v).length : Int)) nv (fun i _ => by show (0 : Int) ≤ ((outAt cs i).length : Int); omega)
    have hH := hF.H1
    have hd0 : (0 : Int) ≤ ((cs.filter fun c => decide (c.f1 < 0)).length : Int) := by omega
    generalize sm (fun v => ((outAt cs v).length : Int)) nv = e at *
    generalize ((cs.filter fun c => decide (c.f1 < 0)).length : Int) = d at *
    have hd : 0 ≤ (cs.length : Int) - e := by omega
    have h4 : ((cs.length : Int) - e) * 1 ≤ ((cs.length : Int) - e) * H := Int.mul_le_mul_of_nonneg_left hH hd
    rw [Int.mul_one, Int.sub_mul] at h4
    rw [Int.mul_sub, Int.mul_one] at h1
    omega
  · have hlow := h.low
    have e : Psi (allM n us []) nv cs lv (List.replicate nv false) ≤ Psi (allM n us []) nv cs lv rdy := sm_le nv (fun i hi => by
      show ((outAt cs i).length : Int) * ups (allM n us []) (rd lv i) (rdb (List.replicate nv false) i) ≤ ((outAt cs i).length : Int) * ups (allM n us []) (rd lv i) (rdb rdy i)
      rw [hno i hi, show rdb (List.replicate nv false) i = false from by
        unfold rdb
        rw [List.getD_eq_getElem?_getD, List.getElem?_replicate]
        split <;> rfl]
      exact Int.le_refl _)
    omega
end
end Go.Proofs.Ytpbaebjohioijaa.Lat
