import Derived.Test.YtpbaebjohioijaaRU
namespace Go.Proofs.Ytpbaebjohioijaa.Lat
open Go.RowKit Go.Proofs.YtpbaebjohioijaaW.PrintWords Go.Proofs.YtpbaebjohioijaaW.PrintLast Go.Proofs.YtpbaebjohioijaaW.PrintMore Go.Proofs.Ytpbaebjohioijaa.PSolveLeast
set_option linter.unusedVariables false
set_option linter.unusedSimpArgs false
theorem same_loop (a b : List Int) (hl : a.length = b.length) (hm : a.length ≤ 9223372036854775800) : ∀ (d k i : Nat), i + d = a.length → d < k → portcullisref00_SameInts.l0 k a b (i : Int) = some (decide (a.drop i = b.drop i)) := by
  intro d
  induction d with
  | zero =>
    intro k i hi hk
    obtain ⟨k, rfl⟩ : ∃ m, k = m + 1 := ⟨k - 1, by omega⟩
    simp only [portcullisref00_SameInts.l0]
    rw [if_neg (by omega), List.drop_eq_nil_of_le (by omega), List.drop_eq_nil_of_le (by omega)]
    rfl
  | succ d ih =>
    intro k i hi hk
    obtain ⟨k, rfl⟩ : ∃ m, k = m + 1 := ⟨k - 1, by omega⟩
    simp only [portcullisref00_SameInts.l0]
    rw [if_pos (by omega), if_pos (by omega), if_pos (by omega)]
    have ha : a.drop i = rd a i :: a.drop (i + 1) := by
      rw [List.drop_eq_getElem_cons (by omega)]
      simp [rd, List.getD_eq_getElem?_getD, List.getElem?_eq_getElem (show i < a.length by omega)]
    have hb : b.drop i = rd b i :: b.drop (i + 1) := by
      rw [List.drop_eq_getElem_cons (by omega)]
      simp [rd, List.getD_eq_getElem?_getD, List.getElem?_eq_getElem (show i < b.length by omega)]
    have hw : wrap64 ((i : Int) + 1) = ((i + 1 : Nat) : Int) := by unfold wrap64; omega
    by_cases c : rd a i = rd b i
    · rw [if_pos c, hw, ih k (i + 1) (by omega) (by omega), ha, hb, c]
      simp
    · rw [if_neg c, ha, hb]
      simp [c]
theorem same_ints (a b : List Int) (hm : a.length ≤ 9223372036854775800) : portcullisref00_SameInts.f (a.length + 1) a b = some (decide (a = b)) := by
  unfold portcullisref00_SameInts.f
  by_cases h : a.length = b.length
  · rw [if_pos (by omega)]
    have := same_loop a b h hm a.length (a.length + 1) 0 (by omega) (by omega)
    simpa using this
  · rw [if_neg (by omega)]
    have : ¬ a = b := fun e => h (by rw [e])
    simp [this]
theorem sameInts14 (a b : List Int) (A B : Option Addr) (ca cb : Nat) (w : World) (ha : Kd.C (Kd.int .i64) w A a.length a) (hca : a.length ≤ ca) (hb : Kd.C (Kd.int .i64) w B b.length b) (hcb : b.length ≤ cb) (hm : a.length ≤ 1000000) :
    Calls Try.prog 14 #[.slice A a.length ca, .slice B b.length cb] w fun e w' => e = .returned (.bool (decide (a = b))) ∧ Drawn0 w w' :=
  portcullisref00_SameInts.calls (a.length + 1) A ca a B cb b _ w ha hca hb hcb (same_ints a b (by omega))
theorem rd_ext {a b : List Int} (hl : a.length = b.length) (h : ∀ i : Nat, i < a.length → rd a (i : Nat) = rd b (i : Nat)) : a = b := by
  apply List.ext_getElem hl
  intro i h1 h2
  have := h i h1
  simpa [rd, List.getD_eq_getElem?_getD, List.getElem?_eq_getElem h1, List.getElem?_eq_getElem h2] using this
theorem sol_sub {n : Nat} {us : List Int} {nv : Nat} {cs ds : List S43} {σ : List Int} (h : SolF n us nv ds σ) (hs : ∀ c ∈ cs, c ∈ ds) : SolF n us nv cs σ :=
  ⟨h.1, h.2.1, fun c hc => h.2.2 c (hs c hc)⟩
theorem least_below {n : Nat} {us : List Int} {H : Int} {nv : Nat} {cs ds : List S43} {lv lw : List Int} {w1 w2 : Int} (h : LeastP n us H nv cs lv w1) (k : LeastP n us H nv ds lw w2) (hs : ∀ c ∈ cs, c ∈ ds) (i : Nat) (hi : i < nv) : mostM n us (rd lv i) (rd lw i) = true :=
  h.2.1 lw (sol_sub k.1 hs) i hi
theorem least_same {n : Nat} {us : List Int} {rk : Int → Int} {H : Int} (hF : LF n us rk H) {nv : Nat} {cs ds : List S43} {lv lw : List Int} {w1 w2 : Int} (h : LeastP n us H nv cs lv w1) (k : LeastP n us H nv ds lw w2) (h1 : ∀ c ∈ cs, c ∈ ds) (h2 : ∀ c ∈ ds, c ∈ cs) : lv = lw := by
  have e1 := h.1.1
  have e2 := k.1.1
  refine rd_ext (by omega) (fun i hi => ?_)
  exact hF.anti _ _ (h.1.2.1 i (by omega)) (k.1.2.1 i (by omega)) (least_below h k h1 i (by omega)) (least_below k h h2 i (by omega))
theorem right_app {n : Nat} {nv : Int} {cs ds : List S43} (h : rightS n nv cs = false) : rightS n nv (cs ++ ds) = false := by
  unfold rightS at h ⊢
  rw [List.any_append]
  revert h
  generalize decide (0 ≤ nv) = p
  generalize decide (nv ≤ 524288) = q
  generalize cs.any (badC n nv.toNat) = r
  generalize ds.any (badC n nv.toNat) = s
  cases p <;> cases q <;> cases r <;> cases s <;> decide
theorem right_sub {n : Nat} {nv : Int} {cs ds : List S43} (h : rightS n nv cs = true) (hs : ∀ c ∈ ds, c ∈ cs) : rightS n nv ds = true := by
  unfold rightS at h ⊢
  rw [Bool.and_eq_true, Bool.and_eq_true] at h ⊢
  refine ⟨h.1, h.2.1, ?_⟩
  have h3 := h.2.2
  rw [Bool.not_eq_true'] at h3 ⊢
  rw [List.any_eq_false] at h3 ⊢
  exact fun c hc => h3 c (hs c hc)
def cA (cs : List S43) (i : Nat) : S43 := rd_T43 cs (i : Nat)
theorem cA_get {cs : List S43} {i : Nat} (h : i < cs.length) : cA cs i = cs[i] := by
  simp [cA, rd_T43, List.getD_eq_getElem?_getD, List.getElem?_eq_getElem h]
theorem cA_mem {cs : List S43} {i : Nat} (h : i < cs.length) : cA cs i ∈ cs := by
  rw [cA_get h]; exact List.getElem_mem _
def turnC (cs : List S43) (z i : Nat) : List S43 := (List.range i).map fun j => cA cs ((j + z) % cs.length)
theorem turn_len (cs : List S43) (z i : Nat) : (turnC cs z i).length = i := by simp [turnC]
theorem turn_succ (cs : List S43) (z i : Nat) : turnC cs z (i + 1) = turnC cs z i ++ [cA cs ((i + z) % cs.length)] := by
  simp [turnC, List.range_succ]
theorem turn_mem {cs : List S43} {z i : Nat} {c : S43} (h : c ∈ turnC cs z i) (hi : i ≤ cs.length) : c ∈ cs := by
  unfold turnC at h
  obtain ⟨j, hj, rfl⟩ := List.mem_map.1 h
  have := List.mem_range.1 hj
  exact cA_mem (Nat.mod_lt _ (by omega))
theorem turn_all {cs : List S43} {z : Nat} (c : S43) : c ∈ turnC cs z cs.length ++ cs ↔ c ∈ cs := by
  rw [List.mem_append]
  exact ⟨fun h => h.elim (fun h => turn_mem h (Nat.le_refl _)) id, .inr⟩
theorem i64_and4095 (n : Int) : bits .and .i64 n 4095 = n % 4096 := by
  have h127 : (BitVec.ofInt 64 4095).toNat = 2 ^ 12 - 1 := by decide
  have key : (BitVec.ofInt 64 n &&& BitVec.ofInt 64 4095).toNat = (n % ((2 ^ 64 : Nat) : Int)).toNat % 2 ^ 12 := by
    rw [BitVec.toNat_and, BitVec.toNat_ofInt, h127, Nat.and_two_pow_sub_one_eq_mod]
  show IntKind.i64.wrap ((BitVec.ofInt 64 n &&& BitVec.ofInt 64 4095).toNat : Nat) = n % 4096
  rw [key, IntKind.wrap_i64]
  omega
theorem copyCons10R (A : Option Addr) (c : Nat) (es : List S43) (w : World) (hr : Kd.C k43 w A es.length es) (hl : es.length ≤ 1000000) :
    Calls Try.prog 10 #[.slice A es.length c] w fun e w' => ∃ v, e = .returned v ∧ k43.R 43 w' w.heap.size (fun _ => True) v es ∧ Below w.heap.size w w' := by
  have HR := Aside0.mk hr
  clear hr
  go_enter Try.func10, Try.ntmps10
  go_wp2_with (at_builtin; refine Kd.R_append_rows k43 w.heap.size rfl (.tmp 5) (.tmp 6) 23 43 _ 24 rfl Try.underlying23 info43 rfl (by decide) (by decide) (.slice (some ⟨w.heap.size, 0, none⟩) 0 0) [] es A es.length c (fun _ => True) (fun _ => False) rfl rfl (lit_nil k43 43 w w.heap.size (Nat.le_refl _)) (Kd.C_below HR.out (below_alloc (Below.refl _ _) _)) (fun x cs h => by have e := k43_open h; subst e; exact k43_mkM _ _ _ x) (fun _ h => h.elim) (fun _ _ => trivial) (below_alloc (Below.refl _ _) _) (by simp) (by simp; omega) ?_; intro v1 w1 hv1 hb1 hg1 hat1)
  rw [List.nil_append] at hv1
  have HV := Aside0.mk hv1
  have HB := Aside0.mk hb1
  clear hv1 hb1 hg1 hat1
  go_wp2
  go_ret
  exact ⟨v1, rfl, HV.out, HB.out⟩
end Go.Proofs.Ytpbaebjohioijaa.Lat
