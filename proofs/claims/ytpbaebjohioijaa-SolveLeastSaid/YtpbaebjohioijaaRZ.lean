import Derived.Test.YtpbaebjohioijaaRX
import Derived.Test.YtpbaebjohioijaaX6
namespace Go.Proofs.Ytpbaebjohioijaa.Lat
open Go.RowKit Go.Proofs.YtpbaebjohioijaaW.PrintWords Go.Proofs.YtpbaebjohioijaaW.PrintLast Go.Proofs.YtpbaebjohioijaaW.PrintMore Go.Proofs.Ytpbaebjohioijaa.PSolveLeast
set_option linter.unusedVariables false
set_option linter.unusedSimpArgs false
/-! ### The document's Least, its printed model: the least solution -/
section
variable {n : Nat} {us : List Int} {rk : Int → Int} {H : Int} {nv : Nat} {cs : List S43}
structure IV (n : Nat) (us : List Int) (nv : Nat) (cs : List S43) (lv : List Int) : Prop where
  ll : lv.length = nv
  lvv : ∀ i : Nat, i < nv → vl n (rd lv i)
  least : ∀ σ, SolF n us nv cs σ → ∀ i : Nat, i < nv → mostM n us (rd lv i) (rd σ i) = true
def ms (rk : Int → Int) (H : Int) (nv : Nat) (lv : List Int) : Int := sm (fun v => H - rk (rd lv v)) nv
def src (lv : List Int) (c : S43) : Int := if 0 ≤ c.f1 then rd lv c.f1 else c.f2
theorem IV.step (hF : LF n us rk H) (hR : RC n nv cs) {lv : List Int} (h : IV n us nv cs lv) {c : S43} (hc : c ∈ cs) (hm : mostM n us (src lv c) (rd lv c.f0) = false) :
    IV n us nv cs (lv.set c.f0.toNat (allM n us [src lv c, rd lv c.f0])) ∧ ms rk H nv (lv.set c.f0.toNat (allM n us [src lv c, rd lv c.f0])) + 1 ≤ ms rk H nv lv := by
  obtain ⟨⟨x, hx, e0⟩, h1⟩ := hR c hc
  have hs : vl n (src lv c) := by
    unfold src
    rcases h1 with ⟨e1, h2⟩ | ⟨f, hf, e1⟩
    · rw [if_neg (by omega)]; exact h2
    · rw [if_pos (by omega), e1]; exact h.lvv f hf
  have hσ : ∀ σ, SolF n us nv cs σ → mostM n us (src lv c) (rd σ c.f0) = true := by
    intro σ hσ
    have h3 := hσ.2.2 c hc
    unfold src
    rcases h1 with ⟨e1, h2⟩ | ⟨f, hf, e1⟩
    · rw [if_neg (by omega)] at h3 ⊢; exact h3
    · rw [if_pos (by omega), e1] at h3 ⊢
      rw [e0] at h3 ⊢
      exact hF.trans _ _ _ (h.lvv f hf) (hσ.2.1 f hf) (hσ.2.1 x hx) (h.least σ hσ f hf) h3
  rw [e0] at hm hσ ⊢
  rw [Int.toNat_natCast]
  obtain ⟨l, hl⟩ : ∃ l, src lv c = l := ⟨_, rfl⟩
  rw [hl] at hs hm hσ ⊢
  have hxl : x < lv.length := by rw [h.ll]; exact hx
  obtain ⟨j, hj⟩ : ∃ j, allM n us [l, rd lv x] = j := ⟨_, rfl⟩
  have hvx := h.lvv x hx
  have hjv : vl n j := hj ▸ hF.jv l _ hs hvx
  have hj1 : mostM n us l j = true := hj ▸ hF.j1 l _ hs hvx
  have hj2 : mostM n us (rd lv x) j = true := hj ▸ hF.j2 l _ hs hvx
  have hjl : ∀ s, vl n s → mostM n us l s = true → mostM n us (rd lv x) s = true → mostM n us j s = true := fun s hs' h1 h2 => hj ▸ hF.jl l _ s hs hvx hs' h1 h2
  have hnot : mostM n us j (rd lv x) = false := by
    cases hb' : mostM n us j (rd lv x) with
    | false => rfl
    | true =>
      rw [hF.trans l j _ hs hjv hvx hj1 hb'] at hm
      cases hm
  have hrk := hF.rks _ _ hvx hjv hj2 hnot
  rw [hj]
  have at_ : ∀ i : Nat, rd (lv.set x j) (i : Nat) = if i = x then j else rd lv (i : Nat) := fun i => rd_setN hxl
  refine ⟨⟨by rw [List.length_set]; exact h.ll, fun i hi => ?_, fun σ hs' i hi => ?_⟩, ?_⟩
  · rw [at_]
    split
    · exact hjv
    · exact h.lvv i hi
  · rw [at_]
    split
    · rename_i e
      subst e
      exact hjl _ (hs'.2.1 _ hi) (hσ σ hs') (h.least σ hs' _ hi)
    · exact h.least σ hs' i hi
  · unfold ms
    refine sm_at (v := x) nv hx (fun i hi hne => ?_) ?_
    · show H - rk (rd (lv.set x j) (i : Nat)) ≤ H - rk (rd lv (i : Nat))
      rw [at_, if_neg hne]
      exact Int.le_refl _
    · show H - rk (rd (lv.set x j) (x : Nat)) + 1 ≤ H - rk (rd lv (x : Nat))
      rw [at_, if_pos rfl]
      omega
def Fin (n : Nat) (us : List Int) (nv : Nat) (cs : List S43) (lv : List Int) : Prop := SolF n us nv cs lv ∧ ∀ σ, SolF n us nv cs σ → ∀ i : Nat, i < nv → mostM n us (rd lv i) (rd σ i) = true
theorem fin_of {lv : List Int} (h : IV n us nv cs lv) (hd : ∀ j, j < cs.length → mostM n us (src lv (cA cs j)) (rd lv (cA cs j).f0) = true) : Fin n us nv cs lv := by
  refine ⟨⟨h.ll, h.lvv, fun c hc => ?_⟩, h.least⟩
  obtain ⟨j, hj, rfl⟩ := List.getElem_of_mem hc
  have := hd j hj
  rw [cA_get hj] at this
  exact this
theorem le_at {le : Nat → Nat → Bool} (hn : n ≤ 8) (hM : Mk n us le) {a b : Int} (ha : vl n a) (hb : vl n b) : rdOf false (rd_L5 (LL n le) a) b = mostM n us a b := by
  obtain ⟨a, ha', rfl⟩ := vl_nat ha
  obtain ⟨b, hb', rfl⟩ := vl_nat hb
  rw [most_is hn hM ha' hb', LL_row ha', row_at hb']
theorem le_len {le : Nat → Nat → Bool} {a : Int} (ha : vl n a) : ((rd_L5 (LL n le) a).length : Int) = n := by
  obtain ⟨a, ha', rfl⟩ := vl_nat ha
  rw [LL_row ha', row_len]
variable {le : Nat → Nat → Bool}
theorem doc_step (hn : n ≤ 8) (hM : Mk n us le) (hR : RC n nv cs) (hcl : cs.length ≤ 1000000) {lv : List Int} (h : IV n us nv cs lv) (b : Bool) {i k : Nat} (hil : i < cs.length) {c : S43} (hrd : rd_T43 cs (i : Nat) = c) (hc : c ∈ cs) :
    portcullisref21_Least.l2 (k + 1) cs lv b (i : Nat) (LL n le) = if mostM n us (src lv c) (rd lv c.f0) = true then portcullisref21_Least.l2 k cs lv b ((i + 1 : Nat) : Int) (LL n le)
      else (portcullisref01_Order_Join.f k (LL n le) [src lv c, rd lv c.f0]).bind fun t => portcullisref21_Least.l2 k cs (lv.set c.f0.toNat t) true ((i + 1 : Nat) : Int) (LL n le) := by
  obtain ⟨⟨x, hx, e0⟩, h1⟩ := hR c hc
  have hll := h.ll
  have hvx := h.lvv x hx
  have hLL : ((LL n le).length : Int) = n := by rw [LL_len]
  have hw : wrap64 ((i : Int) + 1) = ((i + 1 : Nat) : Int) := wrap1 (Nat.lt_of_lt_of_le hil (Nat.le_trans hcl (by decide)))
  have a1 : (i : Int) < (cs.length : Int) := Int.ofNat_lt.2 hil
  have a2 : (0 : Int) ≤ (i : Int) := Int.natCast_nonneg i
  have b1 : (0 : Int) ≤ (x : Int) := Int.natCast_nonneg x
  have b2 : (x : Int) < (lv.length : Int) := by rw [hll]; exact Int.ofNat_lt.2 hx
  have c1 : 0 ≤ rd lv (x : Nat) := hvx.1
  rcases h1 with ⟨e1, h2⟩ | ⟨f, hf', e1⟩
  · have n1 : ¬ c.f1 ≥ 0 := by rw [e1]; decide
    have hsrc : src lv c = c.f2 := by unfold src; rw [if_neg n1]
    have d1 : 0 ≤ c.f2 := h2.1
    have d2 : c.f2 < ((LL n le).length : Int) := by rw [hLL]; exact h2.2
    have c2 : rd lv (x : Nat) < ((rd_L5 (LL n le) c.f2).length : Int) := by rw [le_len h2]; exact hvx.2
    rw [portcullisref21_Least.l2, hrd, hw, if_pos a1, if_pos a2, if_neg n1, if_pos d1, if_pos d2, hsrc, e0, if_pos b1, if_pos b2, if_pos c1, if_pos c2, le_at hn hM h2 hvx]
  · have hvf := h.lvv f hf'
    have n1 : (f : Int) ≥ 0 := Int.natCast_nonneg f
    have hsrc : src lv c = rd lv (f : Nat) := by unfold src; rw [if_pos (by rw [e1]; exact n1), e1]
    have f2 : (f : Int) < (lv.length : Int) := by rw [hll]; exact Int.ofNat_lt.2 hf'
    have d1 : 0 ≤ rd lv (f : Nat) := hvf.1
    have d2 : rd lv (f : Nat) < ((LL n le).length : Int) := by rw [hLL]; exact hvf.2
    have c2 : rd lv (x : Nat) < ((rd_L5 (LL n le) (rd lv (f : Nat))).length : Int) := by rw [le_len hvf]; exact hvx.2
    rw [portcullisref21_Least.l2, hrd, hw, if_pos a1, if_pos a2, hsrc, e0, e1, if_pos n1, if_pos n1, if_pos f2, if_pos d1, if_pos d2, if_pos b1, if_pos b2, if_pos c1, if_pos c2, le_at hn hM hvf hvx]
theorem doc_pass (hn : n ≤ 8) (h0 : 0 < n) (hM : Mk n us le) (hL : Lat n le) (hF : LF n us rk H) (hR : RC n nv cs) (hcl : cs.length ≤ 1000000) {m0 : Int}
    (IH : ∀ lv, IV n us nv cs lv → ms rk H nv lv + 1 ≤ m0 → ∃ k lv', portcullisref21_Least.l1 k cs lv true (LL n le) = some (lv', 0) ∧ Fin n us nv cs lv') :
    ∀ (d i : Nat) (lv : List Int) (b : Bool), i + d = cs.length → IV n us nv cs lv → ms rk H nv lv ≤ m0 → (b = true → ms rk H nv lv + 1 ≤ m0) → (b = false → ∀ j, j < i → mostM n us (src lv (cA cs j)) (rd lv (cA cs j).f0) = true) →
      ∃ k lv', portcullisref21_Least.l2 k cs lv b (i : Nat) (LL n le) = some (lv', 0) ∧ Fin n us nv cs lv' := by
  intro d
  induction d with
  | zero =>
    intro i lv b hi h hm hb1 hb0
    cases b with
    | true =>
      obtain ⟨k, lv', e, hf⟩ := IH lv h (hb1 rfl)
      exact ⟨k + 1, lv', by rw [portcullisref21_Least.l2, if_neg (by omega)]; exact e, hf⟩
    | false =>
      exact ⟨2, lv, by rw [portcullisref21_Least.l2, if_neg (by omega), portcullisref21_Least.l1, if_neg (by decide)], fin_of h (fun j hj => hb0 rfl j (by omega))⟩
  | succ d ih =>
    intro i lv b hi h hm hb1 hb0
    have hil : i < cs.length := by omega
    have hc : cA cs i ∈ cs := cA_mem hil
    obtain ⟨c, hcc⟩ : ∃ c, cA cs i = c := ⟨_, rfl⟩
    have hrd : rd_T43 cs (i : Nat) = c := hcc
    rw [hcc] at hc
    have hj := joinG_is hn h0 hM hL [src lv c, rd lv c.f0]
    obtain ⟨kj, ej⟩ := join_ex hn (M := le) (list := [src lv c, rd lv c.f0]) (by simp)
    rw [hj] at ej
    cases hmm : mostM n us (src lv c) (rd lv c.f0) with
    | true =>
      obtain ⟨k, lv', e, hf⟩ := ih (i + 1) lv b (by omega) h hm hb1 (fun hb j hj' => by
        rcases Nat.lt_succ_iff_lt_or_eq.1 hj' with h2 | rfl
        · exact hb0 hb j h2
        · rw [hcc]; exact hmm)
      exact ⟨k + 1, lv', by rw [doc_step hn hM hR hcl h b hil hrd hc, if_pos hmm]; exact e, hf⟩
    | false =>
      obtain ⟨h2, h3⟩ := h.step hF hR hc hmm
      obtain ⟨k, lv', e, hf⟩ := ih (i + 1) _ true (by omega) h2 (by omega) (fun _ => by omega) (fun hb => by cases hb)
      have e1' := mono_le (f := fun k => portcullisref21_Least.l2 k cs (lv.set c.f0.toNat (allM n us [src lv c, rd lv c.f0])) true ((i + 1 : Nat) : Int) (LL n le)) (fun k => (portcullisref21_Least.mono_l k).2.2 _ _ _ _ _) e kj
      have e2' := mono_le (f := fun k => portcullisref01_Order_Join.f k (LL n le) [src lv c, rd lv c.f0]) (fun k => portcullisref01_Order_Join.mono _ _ k) ej k
      rw [Nat.add_comm] at e2'
      exact ⟨k + kj + 1, lv', by rw [doc_step hn hM hR hcl h b hil hrd hc, if_neg (by rw [hmm]; decide), e2', Option.bind_some]; exact e1', hf⟩
theorem doc_l1 (hn : n ≤ 8) (h0 : 0 < n) (hM : Mk n us le) (hL : Lat n le) (hF : LF n us rk H) (hR : RC n nv cs) (hcl : cs.length ≤ 1000000) :
    ∀ (m : Nat) (lv : List Int), IV n us nv cs lv → ms rk H nv lv ≤ m → ∃ k lv', portcullisref21_Least.l1 k cs lv true (LL n le) = some (lv', 0) ∧ Fin n us nv cs lv' := by
  intro m
  induction m with
  | zero =>
    intro lv h hm
    have hIH : ∀ lv, IV n us nv cs lv → ms rk H nv lv + 1 ≤ ((0 : Nat) : Int) → ∃ k lv', portcullisref21_Least.l1 k cs lv true (LL n le) = some (lv', 0) ∧ Fin n us nv cs lv' := by
      intro lv h hm
      have : 0 ≤ ms rk H nv lv := sm_nonneg nv (fun i hi => by
        have := hF.rkH _ (h.lvv i hi)
        show 0 ≤ H - rk (rd lv (i : Nat))
        omega)
      omega
    obtain ⟨k, lv', e, hf⟩ := doc_pass hn h0 hM hL hF hR hcl hIH cs.length 0 lv false (by omega) h hm (fun hb => by cases hb) (fun _ j hj => by omega)
    exact ⟨k + 1, lv', by rw [portcullisref21_Least.l1, if_pos rfl]; exact e, hf⟩
  | succ m ih =>
    intro lv h hm
    obtain ⟨k, lv', e, hf⟩ := doc_pass hn h0 hM hL hF hR hcl (m0 := ((m + 1 : Nat) : Int)) (fun lv h hm => ih lv h (by omega)) cs.length 0 lv false (by omega) h hm (fun hb => by cases hb) (fun _ j hj => by omega)
    exact ⟨k + 1, lv', by rw [portcullisref21_Least.l1, if_pos rfl]; exact e, hf⟩
theorem right_step {m i k : Nat} (hil : i < cs.length) (hcl : cs.length ≤ 1000000) {c : S43} (hrd : rd_T43 cs (i : Nat) = c) :
    portcullisref21_Right.l0 (k + 1) (m : Nat) cs (i : Nat) (LL n le) = if badC n m c = true then some false else portcullisref21_Right.l0 k (m : Nat) cs ((i + 1 : Nat) : Int) (LL n le) := by
  have hw : wrap64 ((i : Int) + 1) = ((i + 1 : Nat) : Int) := wrap1 (Nat.lt_of_lt_of_le hil (Nat.le_trans hcl (by decide)))
  have a1 : (i : Int) < (cs.length : Int) := Int.ofNat_lt.2 hil
  have a2 : (0 : Int) ≤ (i : Int) := Int.natCast_nonneg i
  rw [portcullisref21_Right.l0, hrd, hw, if_pos a1, if_pos a2]
  generalize portcullisref21_Right.l0 k (m : Nat) cs ((i + 1 : Nat) : Int) (LL n le) = q
  obtain ⟨x, y, z⟩ := c
  simp only [badC, LL_len, ge_iff_le]
  by_cases h1 : x < 0
  · simp [h1]
  by_cases h2 : (m : Int) ≤ x
  · simp [h1, h2]
  by_cases h3 : y < -1
  · simp [h1, h2, h3]
  by_cases h4 : (m : Int) ≤ y
  · simp [h1, h2, h3, h4]
  by_cases h5 : y = -1
  · by_cases h6 : z < 0
    · have : lev n z = false := by simp [lev]; omega
      simp [h1, h2, h3, h4, h5, h6, this]
    · by_cases h7 : (n : Int) ≤ z
      · have : lev n z = false := by simp [lev]; omega
        simp [h1, h2, h3, h4, h5, h6, h7, this]
      · have : lev n z = true := by simp [lev]; omega
        simp [h1, h2, h3, h4, h5, h6, h7, this]
  · simp [h1, h2, h3, h4, h5]
theorem right_l0 {m : Nat} (hcl : cs.length ≤ 1000000) : ∀ (d i : Nat), i + d = cs.length → ∃ k, portcullisref21_Right.l0 k (m : Nat) cs (i : Nat) (LL n le) = some (!(cs.drop i).any (badC n m)) := by
  intro d
  induction d with
  | zero =>
    intro i hi
    refine ⟨1, ?_⟩
    rw [portcullisref21_Right.l0, if_neg (by omega), List.drop_eq_nil_of_le (by omega)]
    rfl
  | succ d ih =>
    intro i hi
    have hil : i < cs.length := by omega
    obtain ⟨k, hk⟩ := ih (i + 1) (by omega)
    refine ⟨k + 1, ?_⟩
    rw [right_step hil hcl (c := cs[i]) (cA_get hil), hk, List.drop_eq_getElem_cons hil, List.any_cons]
    cases badC n m cs[i] <;> simp
theorem right_ex (nv : Int) (hcl : cs.length ≤ 1000000) : ∃ k, portcullisref21_Right.f k (LL n le) nv cs = some (rightS n nv cs) := by
  by_cases h : nv < 0
  · refine ⟨1, ?_⟩
    rw [portcullisref21_Right.f, if_pos h, portcullisref21_Right.j0, if_pos rfl, rightS, decide_eq_false (by omega)]
    rfl
  · obtain ⟨m, rfl⟩ : ∃ m : Nat, nv = m := ⟨nv.toNat, by omega⟩
    by_cases h2 : (m : Int) ≤ 524288
    · obtain ⟨k, hk⟩ := right_l0 (n := n) (le := le) (m := m) hcl cs.length 0 (by omega)
      refine ⟨k + 1, ?_⟩
      rw [portcullisref21_Right.f, if_neg h, portcullisref21_Right.j0, if_neg (by simp; omega)]
      rw [rightS, decide_eq_true (by omega), decide_eq_true h2, Int.toNat_natCast]
      exact hk
    · refine ⟨1, ?_⟩
      rw [portcullisref21_Right.f, if_neg h, portcullisref21_Right.j0, if_pos (by simp; omega), rightS, decide_eq_true (by omega), decide_eq_false h2]
      rfl
theorem fill_l0 {m : Nat} (hm : m ≤ 1000000) {bot : Int} {r : List Int × Int} (hr : ∃ k, portcullisref21_Least.l1 k cs (List.replicate m bot) true (LL n le) = some r) :
    ∀ (d i : Nat) (lv : List Int), i + d = m → lv.length = m → (∀ j : Nat, j < i → rd lv j = bot) → ∃ k, portcullisref21_Least.l0 k (m : Nat) cs lv bot (i : Nat) (LL n le) = some r := by
  intro d
  induction d with
  | zero =>
    intro i lv hi hl h
    obtain ⟨k, hk⟩ := hr
    refine ⟨k + 1, ?_⟩
    have e : lv = List.replicate m bot := rd_ext (by simp [hl]) (fun j hj => by
      rw [h j (by omega)]
      simp [rd, List.getD_eq_getElem?_getD, List.getElem?_replicate, show j < m by omega])
    rw [portcullisref21_Least.l0, if_neg (by omega), e]
    exact hk
  | succ d ih =>
    intro i lv hi hl h
    have hw : wrap64 ((i : Int) + 1) = ((i + 1 : Nat) : Int) := wrap1 (by omega)
    obtain ⟨k, hk⟩ := ih (i + 1) (lv.set i bot) (by omega) (by rw [List.length_set]; exact hl) (fun j hj => by
      rw [rd_setN (by omega)]
      split
      · rfl
      · exact h j (by omega))
    refine ⟨k + 1, ?_⟩
    rw [portcullisref21_Least.l0, if_pos (by omega), if_pos (by omega), if_pos (by omega), hw, Int.toNat_natCast]
    exact hk
theorem iv_bot (hF : LF n us rk H) {m : Nat} : IV n us m cs (List.replicate m (allM n us [])) := by
  have e : ∀ i : Nat, i < m → rd (List.replicate m (allM n us [])) (i : Nat) = allM n us [] := fun i hi => by simp [rd, List.getD_eq_getElem?_getD, List.getElem?_replicate, hi]
  refine ⟨by simp, fun i hi => by rw [e i hi]; exact hF.bv, fun σ hσ i hi => by rw [e i hi]; exact hF.bl _ (hσ.2.1 i hi)⟩
theorem doc_least (hn : n ≤ 8) (h0 : 0 < n) (hM : Mk n us le) (hL : Lat n le) (hF : LF n us rk H) (hcl : cs.length ≤ 1000000) {m : Nat} (hR : rightS n (m : Nat) cs = true) :
    ∃ k lv, portcullisref21_Least.f k (LL n le) (m : Nat) cs = some (lv, 0) ∧ Fin n us m cs lv := by
  obtain ⟨hRC, hm⟩ := rc_of hR
  obtain ⟨k1, h1⟩ := right_ex (n := n) (le := le) (cs := cs) (m : Nat) hcl
  obtain ⟨k2, h2⟩ := join_ex hn (M := le) (list := []) (by simp)
  rw [joinG_is hn h0 hM hL] at h2
  have hb := iv_bot (cs := cs) hF (m := m)
  obtain ⟨k3, lv, h3, hf⟩ := doc_l1 hn h0 hM hL hF hRC hcl (ms rk H m (List.replicate m (allM n us []))).toNat _ hb (by omega)
  obtain ⟨k4, h4⟩ := fill_l0 (n := n) (le := le) (cs := cs) (m := m) (by omega) ⟨k3, h3⟩ m 0 (List.replicate m 0) (by omega) (by simp) (fun j hj => by omega)
  have e1 := mono_le (f := fun k => portcullisref21_Right.f k (LL n le) (m : Nat) cs) (fun k => portcullisref21_Right.mono _ _ _ k) h1 (k2 + k4)
  have e2 := mono_le (f := fun k => portcullisref01_Order_Join.f k (LL n le) []) (fun k => portcullisref01_Order_Join.mono _ _ k) h2 (k1 + k4)
  have e4 := mono_le (f := fun k => portcullisref21_Least.l0 k (m : Nat) cs (List.replicate m 0) (allM n us []) 0 (LL n le)) (fun k => (portcullisref21_Least.mono_l k).1 _ _ _ _ _ _) h4 (k1 + k2)
  rw [show k2 + (k1 + k4) = k1 + (k2 + k4) by omega] at e2
  rw [show k4 + (k1 + k2) = k1 + (k2 + k4) by omega] at e4
  refine ⟨k1 + (k2 + k4), lv, ?_, hf⟩
  rw [portcullisref21_Least.f, e1, Option.bind_some, hR, if_pos rfl, if_pos (by omega), if_pos (by rw [Int.toNat_natCast]; omega), e2, Option.bind_some, Int.toNat_natCast]
  exact e4
theorem doc_bad {nv : Int} (hcl : cs.length ≤ 1000000) (hR : rightS n nv cs = false) : ∃ k, portcullisref21_Least.f k (LL n le) nv cs = some ([], 72) := by
  obtain ⟨k1, h1⟩ := right_ex (n := n) (le := le) (cs := cs) nv hcl
  refine ⟨k1, ?_⟩
  rw [portcullisref21_Least.f, h1, Option.bind_some, hR, if_neg (by decide)]
/-- The document's Least. -/
theorem least16 {w : World} {base : Nat} {A : Option Addr} {c : Nat} {bs : List Nat} (hQ : LQ w base (.slice A n c) bs n le) (hbl : bs.length = n) (hn : n ≤ 8) (h0 : 0 < n) (hM : Mk n us le) (hL : Lat n le) (hF : LF n us rk H) (nv : Int) (B : Option Addr) (cB : Nat) (hC : Kd.C k43 w B cs.length cs) (hcB : cs.length ≤ cB) (hcl : cs.length ≤ 1000000) :
    Calls Try.prog 16 #[.agg #[.slice A n c], .int .i64 nv, .slice B cs.length cB] w fun e w' => Below w.heap.size w w' ∧ ∃ D cD lv f, e = .returned (.tuple #[.slice D lv.length cD, .int .i64 f]) ∧ lv.length ≤ cD ∧ Kd.C (Kd.int .i64) w' D lv.length lv ∧
      ((rightS n nv cs = false ∧ lv = [] ∧ f = 72) ∨ (rightS n nv cs = true ∧ f = 0 ∧ Fin n us nv.toNat cs lv)) := by
  obtain ⟨e, hl, _⟩ := Kd.R_reads' hQ.row
  have hC1 := LQ.C hQ hbl hn
  cases hR : rightS n nv cs with
  | false =>
    obtain ⟨k, hk⟩ := doc_bad (n := n) (le := le) hcl hR
    have := portcullisref21_Least.calls k A c (LL n le) nv B cB cs [] 72 w hC1 (by rw [LL_len]; omega) hC hcB hk
    rw [LL_len] at this
    refine this.mono fun e w' ⟨v, h1, h2, h3⟩ => ⟨h3, ?_⟩
    obtain ⟨D, cD, ev, hd, hD⟩ := Kd.R_reads h2
    exact ⟨D, cD, [], 72, by rw [h1, ev], hd, hD, .inl ⟨rfl, rfl, rfl⟩⟩
  | true =>
    obtain ⟨m, rfl⟩ := right_nat hR
    obtain ⟨k, lv, hk, hf⟩ := doc_least hn h0 hM hL hF hcl hR
    have := portcullisref21_Least.calls k A c (LL n le) m B cB cs lv 0 w hC1 (by rw [LL_len]; omega) hC hcB hk
    rw [LL_len] at this
    refine this.mono fun e w' ⟨v, h1, h2, h3⟩ => ⟨h3, ?_⟩
    obtain ⟨D, cD, ev, hd, hD⟩ := Kd.R_reads h2
    exact ⟨D, cD, lv, 0, by rw [h1, ev], hd, hD, .inr ⟨rfl, rfl, hf⟩⟩
/-- Two least solutions are one. -/
theorem fin_same (hF : LF n us rk H) {lv lw : List Int} {work : Int} (h : LeastP n us H nv cs lv work) (k : Fin n us nv cs lw) : lv = lw := by
  have e1 := h.1.1
  have e2 := k.1.1
  refine rd_ext (by omega) (fun i hi => ?_)
  exact hF.anti _ _ (h.1.2.1 i (by omega)) (k.1.2.1 i (by omega)) (h.2.1 _ k.1 i (by omega)) (k.2 _ h.1 i (by omega))
end
end Go.Proofs.Ytpbaebjohioijaa.Lat
