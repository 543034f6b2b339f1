import Derived.Test.YtpbaebjohioijaaRK
import Derived.Test.YtpbaebjohioijaaRQ
import Derived.Deep.WholeRow
namespace Go.Proofs.Ytpbaebjohioijaa.Lat
open Go.RowKit Go.Proofs.YtpbaebjohioijaaW.PrintWords Go.Proofs.YtpbaebjohioijaaW.PrintLast Go.Proofs.YtpbaebjohioijaaW.PrintMore Go.Proofs.Ytpbaebjohioijaa.PSolveLeast
set_option linter.unusedVariables false
set_option linter.unusedSimpArgs false

/-! ### A row lent out of rows that lie apart -/
theorem lendS {α : Type} {d : Kd α} {eo ei : Nat} {W : World} {base : Nat} {ok : Nat → Prop} {g n cap : Nat} {xss : List (List α)}
    (h : Kd.S (Kd.slice ei d) eo W base ok (.slice (some ⟨g, 0, none⟩) n cap) xss) (i : Nat) (hi : i < n) :
    ∃ (oki : Nat → Prop) (v : Value), W.cell? ⟨g, i, none⟩ = some v ∧ W.frozen? ⟨g, i, none⟩ = false ∧ d.R ei W base oki v (xss.getD i []) ∧ (∀ k, oki k → ok k ∧ k ≠ g) ∧ (∀ k, W.heap.size ≤ k → ok k → oki k) ∧
      ∀ (W' : World) (v' : Value) (x' : List α), (∀ k, k < W.heap.size → ¬ oki k → W'.heap[k]? = W.heap[k]?) → d.R ei W' base oki v' x' →
        Kd.S (Kd.slice ei d) eo (W'.setCell ⟨g, i, none⟩ v') base ok (.slice (some ⟨g, 0, none⟩) n cap) (xss.set i x') := by
  obtain ⟨oki, c, hcl, hM, hcc, hfr, hoki, hH⟩ := Kd.S_elem h [] (i : Int) (by omega) (by omega)
  rw [Int.toNat_natCast] at hM hcc hfr
  obtain ⟨v, rfl, hR⟩ := hM
  have hg : g < W.heap.size := by
    have := Kd.S_lt h g (by simp [Value.ownBlock])
    exact this
  have e1 : i * (Kd.slice ei d).sz + 0 = i := by show i * 1 + 0 = i; omega
  have hne : ∀ k, (oki k ∨ ok k ∧ W.heap.size ≤ k) → k ≠ g := by
    rintro k (hk | ⟨_, hk⟩)
    · exact (hoki k hk).2
    · omega
  refine ⟨fun k => oki k ∨ ok k ∧ W.heap.size ≤ k, v, ?_, ?_, Kd.R_mono hR (fun _ hk => .inl hk), fun k hk => ⟨hk.elim (fun h => (hoki k h).1) (fun h => h.1), hne k hk⟩, fun k h1 h2 => .inr ⟨h2, h1⟩, fun W' v' x' hm hR' => ?_⟩
  · have := hcc 0 v rfl
    rwa [e1] at this
  · have := hfr 0
    rwa [e1] at this
  · have h1 := Kd.H_step (Kd.H_widen hH) (w1 := W') (fun k _ hk hlt => hm k hlt hk)
    have h2 := (Kd.H_seg h1 (by omega) (by omega) (seg := [v']) (j := 0) (by show 0 + 1 ≤ 1; omega) (fun q hq => by rw [List.mem_singleton.1 hq]; exact (Kd.R_val hR').2)).1
    rw [Int.toNat_natCast, e1] at h2
    have h3 := Kd.H_back h2 (x' := x') (okp := fun k => oki k ∨ ok k ∧ W.heap.size ≤ k) ⟨v', rfl, Kd.R_far hR' (p := ⟨g, i, none⟩) hne v'⟩ (fun _ h => h)
    rw [Int.toNat_natCast] at h3
    exact h3

/-! ### Least: of each variable those that are at least it -/
theorem outAt_snoc (l : List S43) (c : S43) (v : Nat) : outAt (l ++ [c]) v = outAt l v ++ (if c.f1 = (v : Int) then [c.f0] else []) := by
  unfold outAt
  rw [List.filter_append, List.map_append]
  congr 1
  by_cases e : c.f1 = (v : Int)
  · simp [e]
  · simp [e]
def outsM (nv : Nat) (l : List S43) : List (List Int) := (List.range nv).map (outAt l)
theorem outsM_at (nv : Nat) (l : List S43) (v : Nat) (hv : v < nv) : (outsM nv l).getD v [] = outAt l v := by
  unfold outsM
  rw [List.getD_eq_getElem?_getD, List.getElem?_map, List.getElem?_range hv]
  rfl
theorem outsM_set (nv : Nat) (l : List S43) (c : S43) (v : Nat) (hv : v < nv) (e : c.f1 = (v : Int)) : (outsM nv l).set v (outAt l v ++ [c.f0]) = outsM nv (l ++ [c]) := by
  apply List.ext_getElem
  · simp [outsM]
  · intro i h1 h2
    have hi : i < nv := by simpa [outsM] using h2
    rw [List.getElem_set]
    have e2 : (outsM nv (l ++ [c]))[i] = outAt (l ++ [c]) i := by simp [outsM]
    rw [e2, outAt_snoc]
    by_cases e3 : v = i
    · subst e3
      rw [if_pos rfl, if_pos e]
    · rw [if_neg e3, if_neg (by omega), List.append_nil]
      simp [outsM]
theorem outsM_same (nv : Nat) (l : List S43) (c : S43) (h : c.f1 < 0) : outsM nv (l ++ [c]) = outsM nv l := by
  unfold outsM
  apply List.map_congr_left
  intro v _
  rw [outAt_snoc, if_neg (by omega), List.append_nil]
theorem outsM_nil (nv : Nat) : outsM nv [] = List.replicate nv [] := by
  apply List.ext_getElem
  · simp [outsM]
  · intro i h1 h2
    simp [outsM, outAt]
structure LB (q : Sv) (b0 ob oc M : Nat) (w0 : World) (lv : List Int) (rdy : List Bool) (xss : List (List Int)) (w : World) : Prop where
  bel : Below w0.heap.size w0 w
  sbk : w.heap[q.sb]? = some (.cells #[.pointer (some ⟨q.hb, 0, none⟩), .slice (some ⟨q.lb, 0, none⟩) q.nv q.nv, .slice (some ⟨ob, 0, none⟩) q.nv oc, .pointer (some ⟨q.rb, 0, none⟩), .slice (some ⟨q.yb, 0, none⟩) q.nv q.nv, .int .i64 0] 69 (0, 0))
  lbk : w.heap[q.lb]? = some (.cells (nums .i64 lv).toArray 3 (0, 0))
  ybk : w.heap[q.yb]? = some (.cells (rdy.map Value.bool).toArray 4 (0, 0))
  rbk : w.heap[q.rb]? = some (.cells #[.slice (some ⟨b0, 0, none⟩) 0 0] 66 (0, 0))
  b0k : w.heap[b0]? = some (.cells #[] 3 (0, 0))
  rr : (Kd.int .i64).R 3 w q.base (fun k => k = b0) (.slice (some ⟨b0, 0, none⟩) 0 0) []
  out : Kd.S KR 26 w q.base (fun k => k = ob ∨ M ≤ k) (.slice (some ⟨ob, 0, none⟩) q.nv oc) xss
  msz : M ≤ w.heap.size
  lts : q.sb < M ∧ q.lb < M ∧ q.yb < M ∧ q.rb < M ∧ b0 < M
theorem LB.obk {q : Sv} {b0 ob oc M : Nat} {w0 w : World} {lv : List Int} {rdy : List Bool} {xss : List (List Int)} (h : LB q b0 ob oc M w0 lv rdy xss w) : ∃ cells, w.heap[ob]? = some (.cells cells 26 (0, 0)) := Kd.S_typed h.out ob (by simp [Value.ownBlock])
theorem LB.below {q : Sv} {b0 ob oc M : Nat} {w0 w w' : World} {lv : List Int} {rdy : List Bool} {xss : List (List Int)} (h : LB q b0 ob oc M w0 lv rdy xss w) (b : Below w.heap.size w w') : LB q b0 ob oc M w0 lv rdy xss w' :=
  ⟨below_then h.bel h.bel.size b, blk_below h.sbk b, blk_below h.lbk b, blk_below h.ybk b, blk_below h.rbk b, blk_below h.b0k b, Kd.R_below h.rr b, Kd.S_below h.out b, Nat.le_trans h.msz b.size, h.lts⟩
theorem LB.foot {q : Sv} {b0 ob oc M : Nat} {w0 w w' : World} {lv : List Int} {rdy : List Bool} {xss xss' : List (List Int)} (h : LB q b0 ob oc M w0 lv rdy xss w) (f : Foot (fun k => k = ob ∨ M ≤ k) w w') (hb : Below w0.heap.size w0 w')
    (ho : Kd.S KR 26 w' q.base (fun k => k = ob ∨ M ≤ k) (.slice (some ⟨ob, 0, none⟩) q.nv oc) xss') : LB q b0 ob oc M w0 lv rdy xss' w' := by
  obtain ⟨cells, hob⟩ := h.obk
  obtain ⟨l1, l2, l3, l4, l5⟩ := h.lts
  have k1 : ¬ (q.sb = ob ∨ M ≤ q.sb) := fun hk => hk.elim (blk_ne h.sbk hob (by decide)) (fun _ => by omega)
  have k2 : ¬ (q.lb = ob ∨ M ≤ q.lb) := fun hk => hk.elim (blk_ne h.lbk hob (by decide)) (fun _ => by omega)
  have k3 : ¬ (q.yb = ob ∨ M ≤ q.yb) := fun hk => hk.elim (blk_ne h.ybk hob (by decide)) (fun _ => by omega)
  have k4 : ¬ (q.rb = ob ∨ M ≤ q.rb) := fun hk => hk.elim (blk_ne h.rbk hob (by decide)) (fun _ => by omega)
  have k5 : ¬ (b0 = ob ∨ M ≤ b0) := fun hk => hk.elim (blk_ne h.b0k hob (by decide)) (fun _ => by omega)
  exact ⟨hb, f.blk h.sbk k1, f.blk h.lbk k2, f.blk h.ybk k3, f.blk h.rbk k4, f.blk h.b0k k5, Kd.R_step h.rr (fun k hk hlt => by have e : k = b0 := hk; rw [e] at hlt ⊢; exact f.block b0 hlt k5), ho, Nat.le_trans h.msz f.size, h.lts⟩
/-- A target is appended to a variable's row: what lies in memory behind it. -/
theorem LB.put {q : Sv} {b0 ob oc M : Nat} {w0 w : World} {lv : List Int} {rdy : List Bool} {xss : List (List Int)} (h : LB q b0 ob oc M w0 lv rdy xss w) (hq : q.base = w0.heap.size) (i : Nat) (hi : i < q.nv) :
    ∃ (oki : Nat → Prop) (v : Value), w.cell? ⟨ob, i, none⟩ = some v ∧ (Kd.int .i64).R 3 w q.base oki v (xss.getD i []) ∧ (∀ k, w.heap.size ≤ k → oki k) ∧ some ob ≠ v.ownBlock ∧
      ∀ (w1 : World) (v1 : Value) (ys : List Int), w.grownBy w1 v.ownBlock → (Kd.int .i64).R 3 w1 q.base oki v1 ys → w1.cell? ⟨ob, i, none⟩ = some v ∧ w1.frozen? ⟨ob, i, none⟩ = false ∧ LB q b0 ob oc M w0 lv rdy (xss.set i ys) (w1.setCell ⟨ob, i, none⟩ v1) := by
  obtain ⟨oki, v, h1, h2, h3, h4, h5, h6⟩ := lendS h.out i hi
  obtain ⟨cells, hob⟩ := h.obk
  have hne : some ob ≠ v.ownBlock := fun e => (h4 ob (h3.1 ob e.symm)).2 rfl
  refine ⟨oki, v, h1, h3, fun k hk => h5 k hk (.inr (Nat.le_trans h.msz hk)), hne, fun w1 v1 ys hg hr => ?_⟩
  have hb1 : w1.heap[ob]? = some (.cells cells 26 (0, 0)) := (hg.block ob (blk_lt hob) hne).trans hob
  refine ⟨?_, blk_frozen hb1 i, ?_⟩
  · rw [blk_cell hb1, ← blk_cell hob]
    exact h1
  · have hf : Foot (fun k => k = ob ∨ M ≤ k) w w1 := (Foot.refl _ w).grown hg (fun k hk _ => (h4 k (h3.1 k hk)).1)
    have hobb : q.base ≤ ob := Kd.S_base h.out ob (by simp [Value.ownBlock])
    refine h.foot (hf.setCell (p := ⟨ob, i, none⟩) (fun _ => .inl rfl) v1) ?_ (h6 w1 v1 ys (fun k hk hno => hg.block k hk (fun e => hno (h3.1 k e.symm))) hr)
    have hB1 : Below w0.heap.size w0 w1 := h.bel.grown hg h.bel.size (fun k hk => by have := Kd.R_base h3 k hk; omega)
    exact below_set hB1 (by show w0.heap.size ≤ ob; omega)
end Go.Proofs.Ytpbaebjohioijaa.Lat
namespace Go.Proofs.Ytpbaebjohioijaa.Lat
open Go.RowKit Go.Proofs.YtpbaebjohioijaaW.PrintWords Go.Proofs.YtpbaebjohioijaaW.PrintLast Go.Proofs.YtpbaebjohioijaaW.PrintMore Go.Proofs.Ytpbaebjohioijaa.PSolveLeast
set_option linter.unusedVariables false
set_option linter.unusedSimpArgs false
theorem outAt_len (l : List S43) (v : Nat) : (outAt l v).length ≤ l.length := by
  unfold outAt
  rw [List.length_map]
  exact List.length_filter_le _ _
section
variable {n : Nat} {us : List Int} {rk : Int → Int} {H : Int} {nv : Nat} {cs : List S43} {W : Nat → List Int} {D : List S43} {slack : Int} {lv : List Int} {rdy : List Bool} {xs : List Int} {work : Int}
theorem PI.wbd (hF : LF n us rk H) (hR : RC n nv cs) (h : PI n us rk nv cs W D slack lv rdy xs work) (hs : 0 ≤ slack) (hH : H ≤ 1000) (h1 : cs.length ≤ 1000000) (h2 : D.length ≤ 1000000) : work ≤ 1000000000000 := by
  have hb := h.bud
  have h3 : Phi rk nv cs lv rdy ≤ sm (fun v => ((outAt cs v).length : Int) * (H - 1)) nv := sm_le nv (fun i hi => by
    show ((outAt cs i).length : Int) * (rk (rd lv i) - 1 - bit (rdb rdy i)) ≤ ((outAt cs i).length : Int) * (H - 1)
    refine Int.mul_le_mul_of_nonneg_left ?_ (by omega)
    have := hF.rkH _ (h.lvv i hi)
    have : 0 ≤ bit (rdb rdy i) := by unfold bit; split <;> omega
    omega)
  rw [sm_mul] at h3
  have h4 := deg_sum (nv := nv) cs (fun c hc => (hR c hc).2.imp (fun h => h.1) id)
  have h5 := sm_nonneg (g := fun v => ((outAt cs v).length : Int)) nv (fun i _ => by show (0 : Int) ≤ ((outAt cs i).length : Int); omega)
  have hH1 := hF.H1
  generalize sm (fun v => ((outAt cs v).length : Int)) nv = e at *
  have h6 : e * (H - 1) ≤ e * 999 := Int.mul_le_mul_of_nonneg_left (by omega) h5
  omega
theorem W_ok (hR : RC n nv cs) : ∀ f : Nat, f < nv → ∀ t ∈ outAt cs f, ∃ i : Nat, i < nv ∧ t = i := by
  intro f _ t ht
  obtain ⟨c, hc, _, e⟩ := outAt_mem ht
  obtain ⟨⟨i, hi, e2⟩, _⟩ := hR c hc
  exact ⟨i, hi, by omega⟩
theorem WJ_ok (hR : RC n nv cs) (v j : Nat) : ∀ f : Nat, f < nv → ∀ t ∈ WJ cs v j f, ∃ i : Nat, i < nv ∧ t = i := by
  intro f hf t ht
  unfold WJ at ht
  split at ht
  · rename_i e
    exact W_ok hR f hf t (e ▸ List.mem_of_mem_take ht)
  · exact W_ok hR f hf t ht
def negs (l : List S43) : List S43 := l.filter fun c => decide (c.f1 < 0)
theorem D_ok (hR : RC n nv cs) (l : List S43) (hl : ∀ c ∈ l, c ∈ cs) : ∀ c ∈ negs l, vl n c.f2 ∧ ∃ i : Nat, i < nv ∧ c.f0 = i := by
  intro c hc
  unfold negs at hc
  rw [List.mem_filter] at hc
  obtain ⟨h1, h2⟩ := hR c (hl c hc.1)
  have h3 : c.f1 < 0 := by simpa using hc.2
  rcases h2 with h2 | ⟨i, _, e⟩
  · exact ⟨h2.2, h1⟩
  · omega
theorem negs_len (l : List S43) : (negs l).length ≤ l.length := List.length_filter_le _ _
theorem negs_snoc (l : List S43) (c : S43) (h : c.f1 < 0) : negs (l ++ [c]) = negs l ++ [c] := by simp [negs, h]
theorem negs_same (l : List S43) (c : S43) (h : 0 ≤ c.f1) : negs (l ++ [c]) = negs l := by simp [negs]; omega
end
/-- The measure of the row's loop, read off memory. -/
def lvOf (o : Option Obj) : List Int := match o with
  | some (.cells C _ _) => C.toList.map intOf
  | _ => []
def lenOf (o : Option Obj) : Nat := match o with
  | some (.cells C _ _) => match C[0]? with
    | some (Value.slice _ n _) => n
    | _ => 0
  | _ => 0
def MuW (p : Sv) (rk : Int → Int) (H : Int) (w : World) : Nat := (2 * sm (fun v => H - rk (rd (lvOf w.heap[p.lb]?) v)) p.nv + lenOf w.heap[p.rb]?).toNat
theorem MuW_is {p : Sv} {v : Value} {lv : List Int} {rdy : List Bool} {xs : List Int} {work : Int} {w : World} (rk : Int → Int) (H : Int) (h : SS p v lv rdy xs work w) : MuW p rk H w = (Mu rk H p.nv lv xs).toNat := by
  unfold MuW Mu
  rw [h.lbk, h.row.box]
  obtain ⟨A, c, rfl⟩ := Kd.R_slice h.row.row
  have e1 : lvOf (some (.cells (nums .i64 lv).toArray 3 (0, 0))) = lv := by
    show (nums .i64 lv).toArray.toList.map intOf = lv
    rw [List.toList_toArray, nums, List.map_map]
    conv => rhs; rw [← List.map_id lv]
    rfl
  have e2 : lenOf (some (.cells #[.slice A xs.length c] 66 (0, 0))) = xs.length := rfl
  rw [e1, e2]
theorem Mu_nonneg {n : Nat} {us : List Int} {rk : Int → Int} {H : Int} {nv : Nat} {lv xs : List Int} (hF : LF n us rk H) (hv : ∀ i : Nat, i < nv → vl n (rd lv i)) : 0 ≤ Mu rk H nv lv xs := by
  unfold Mu
  have := sm_nonneg (g := fun v => H - rk (rd lv v)) nv (fun i hi => by
    show 0 ≤ H - rk (rd lv i)
    have := hF.rkH _ (hv i hi)
    omega)
  omega
theorem out_row {W : World} {base : Nat} {ok : Nat → Prop} {ob nv oc : Nat} {cs : List S43} (h : Kd.S KR 26 W base ok (.slice (some ⟨ob, 0, none⟩) nv oc) (outsM nv cs)) (v : Nat) (hv : v < nv) :
    ∃ B c', W.cell? ⟨ob, v, none⟩ = some (.slice B (outAt cs v).length c') ∧ (Kd.int .i64).C W B (outAt cs v).length (outAt cs v) := by
  obtain ⟨_, _, hC⟩ := Kd.S_reads' h
  obtain ⟨ad, c, eA, _, hK, hc⟩ := Kd.C_get hC [] (v : Int) (by omega) (by omega)
  injection eA with eA
  subst eA
  obtain ⟨B, c', rfl, _, hC2⟩ := hK
  have h0 := hc 0 _ rfl
  rw [Int.toNat_natCast] at h0 hC2
  rw [outsM_at nv cs v hv] at h0 hC2
  have e1 : v * KR.sz + 0 = v := by show v * 1 + 0 = v; omega
  rw [e1, add_plain] at h0
  exact ⟨B, c', h0, hC2⟩
/-- What Least answers. -/
def LeastP (n : Nat) (us : List Int) (H : Int) (nv : Nat) (cs : List S43) (lv : List Int) (work : Int) : Prop :=
  SolF n us nv cs lv ∧ (∀ σ, SolF n us nv cs σ → ∀ i : Nat, i < nv → mostM n us (rd lv i) (rd σ i) = true) ∧ 0 ≤ work ∧ work ≤ cs.length * H ∧ ((cs.filter fun c => decide (c.f1 < 0)).length : Int) + Psi (allM n us []) nv cs lv (List.replicate nv false) ≤ work
theorem store43 (w : World) (a b c : Int) : (storeCells ⟨w.heap.size, 0, none⟩ [.int .i64 a, .int .i64 b, .int .i64 c] 0).run Try.prog (w.alloc (.cells #[.int .i64 0, .int .i64 0, .int .i64 0] 43)) = .ok () (w.alloc (.cells #[.int .i64 a, .int .i64 b, .int .i64 c] 43)) :=
  run_storeCells_new (P := Try.prog) w 43 _ #[.int .i64 a, .int .i64 b, .int .i64 c] (by kernel_rfl) rfl (by simp; exact ⟨rfl, rfl, rfl⟩)
set_option maxRecDepth 100000 in
set_option maxHeartbeats 40000000 in
theorem least9 {w : World} {hb ub db n : Nat} {us ds : List Int} (h : TO w hb ub db n us ds) (nvI : Int) (A : Option Addr) (c : Nat) (cs : List S43) (hr : Kd.C k43 w A cs.length cs) (hm : cs.length ≤ 1000000) {rk : Int → Int} {H : Int} (hF : LF n us rk H) (hH : H ≤ 1000) :
    Calls Try.prog 9 #[.pointer (some ⟨hb, 0, none⟩), .int .i64 nvI, .slice A cs.length c] w fun e w' => Below w.heap.size w w' ∧ ((rightS n nvI cs = false ∧ e = .returned (.tuple #[.slice none 0 0, .int .i64 0, .int .i64 72])) ∨
      (rightS n nvI cs = true ∧ ∃ lb lv work, e = .returned (.tuple #[.slice (some ⟨lb, 0, none⟩) nvI.toNat nvI.toNat, .int .i64 work, .int .i64 0]) ∧ w'.heap[lb]? = some (.cells (nums .i64 lv).toArray 3 (0, 0)) ∧ LeastP n us H nvI.toNat cs lv work)) := by
  have CR := Aside0.mk (right21 h nvI A c cs hr hm)
  have HT := Aside0.mk h
  have HC := Aside0.mk hr
  have HF := Aside0.mk hF
  clear h hr hF
  obtain ⟨rb, hrb⟩ : ∃ b, rightS n nvI cs = b := ⟨_, rfl⟩
  rw [hrb] at CR
  have HRB := Aside0.mk hrb
  clear hrb
  go_enter Try.func9, Try.ntmps9
  go_wp2_with fail
  refine CR.out.mono ?_
  rintro e w1 ⟨rfl, b⟩
  have HB1 := Aside0.mk b
  have HT1 := Aside0.mk (HT.out.below b)
  have HC1 := Aside0.mk (Kd.C_below HC.out b)
  clear b CR HT HC
  cases rb with
  | false =>
    go_wp2_with fail
    refine bodyPost_ret (results_tmp3 rfl _ _ _) rfl ?_
    exact ⟨HB1.out, .inl ⟨HRB.out, rfl⟩⟩
  | true =>
    obtain ⟨nv, rfl⟩ : ∃ k : Nat, nvI = (k : Int) := ⟨nvI.toNat, by
      have := HRB.out
      unfold rightS at this
      rw [Bool.and_eq_true, decide_eq_true_eq] at this
      omega⟩
    obtain ⟨hRC, hn⟩ := rc_of HRB.out
    have RCC := Aside0.mk hRC
    clear hRC
    go_wp2_with fail
    refine least_r3 HT1.out nv hn A cs.length c ?_
    intro f w2 hb2 hf13
    obtain ⟨sb, v5, v7, v9, v11, e14, hsb, hsbk, ⟨lb, rfl, hlb, hlbk⟩, ⟨ob, oc, rfl, hS⟩, ⟨rb, u, rfl, hrb, hrbk, b0, rfl, hb0k, hrr⟩, ⟨yb, rfl, hyb, hybk⟩⟩ := hf13
    obtain ⟨M, hM⟩ : ∃ M, w2.heap.size = M := ⟨_, rfl⟩
    obtain ⟨q, hq⟩ : ∃ q : Sv, q = ⟨w1.heap.size, hb, ub, db, n, us, ds, fun k => k = b0, sb, lb, yb, rb, nv, .slice (some ⟨ob, 0, none⟩) nv oc⟩ := ⟨_, rfl⟩
    have HL : Aside0 (LB q b0 ob oc M w1 (List.replicate nv (allM n us [])) (List.replicate nv false) (outsM nv []) w2) := ⟨by
      rw [hq, outsM_nil]
      exact ⟨hb2, hsbk, hlbk, hybk, hrbk, hb0k, hrr, Kd.S_mono hS (fun k hk => .inl hk), by omega, by rw [← hM]; exact ⟨blk_lt hsbk, blk_lt hlbk, blk_lt hybk, blk_lt hrbk, blk_lt hb0k⟩⟩⟩
    have HQ := Aside0.mk hq
    have HBS : Aside0 (w1.heap.size ≤ sb ∧ w1.heap.size ≤ lb ∧ w1.heap.size ≤ yb ∧ w1.heap.size ≤ rb ∧ w1.heap.size ≤ b0) := ⟨⟨hsb, hlb, hyb, hrb, Kd.R_base hrr b0 (by simp [Value.ownBlock])⟩⟩
    clear hsb hsbk hlb hlbk hS hrb hrbk hb0k hrr hyb hybk hb2 hM hq
    unfold T3
    rw [e14]
    clear e14
    go_wp2_with fail
    go_loopw [38] (fun i wr => ∃ k : Nat, i = .int .i64 k ∧ k ≤ cs.length ∧ Aside0 (LB q b0 ob oc M w1 (List.replicate nv (allM n us [])) (List.replicate nv false) (outsM nv (cs.take k)) wr)) (fun i _ => cs.length - (intOf i).toNat)
    case atStart => exact ⟨0, rfl, Nat.zero_le _, by rw [List.take_zero]; exact HL⟩
    case round =>
      obtain ⟨k, rfl, hk, HLk⟩ := hrel
      obtain ⟨wi, rfl⟩ : ∃ wi : World, wi = wr := ⟨_, rfl⟩
      clear HL
      by_cases hlt : k < cs.length
      · obtain ⟨ad, eA, c0, c1, c2⟩ := at_T43 (Kd.C_below HC1.out HLk.out.bel) (k : Int) (by omega) (by omega)
        subst eA
        rw [Int.toNat_natCast] at c0 c1 c2
        have HNX : Aside0 (cs.take (k + 1) = cs.take k ++ [rd_T43 cs k]) := ⟨by rw [List.take_succ_eq_append_getElem hlt, rd43_at hlt]⟩
        have HRCk := RCC.out _ (by rw [rd43_at hlt]; exact List.getElem_mem hlt : rd_T43 cs (k : Nat) ∈ cs)
        obtain ⟨d, hd⟩ : ∃ d, rd_T43 cs (k : Nat) = d := ⟨_, rfl⟩
        rw [hd] at c0 c1 c2 HNX HRCk
        clear hd
        obtain ⟨d0, d1, d2⟩ := d
        dsimp only at c0 c1 c2 HRCk
        obtain ⟨_, hd1⟩ := HRCk
        have hds : d1 = -1 ∨ ∃ i : Nat, i < nv ∧ d1 = i := hd1.imp (fun h => h.1) id
        clear hd1
        rcases hds with rfl | ⟨v, hv, rfl⟩
        · have hst := store43 wi d0 (-1) d2
          obtain ⟨wn, hwn⟩ : ∃ wn, wi.alloc (.cells #[.int .i64 d0, .int .i64 (-1), .int .i64 d2] 43) = wn := ⟨_, rfl⟩
          rw [hwn] at hst
          have bn : Below wi.heap.size wi wn := by rw [← hwn]; exact below_alloc (Below.refl _ _) _
          have NK : Aside0 (wn.heap[wi.heap.size]? = some (.cells #[.int .i64 d0, .int .i64 (-1), .int .i64 d2] 43 (0, 0))) := ⟨by rw [← hwn]; exact blk_new wi _⟩
          have HLn := Aside0.mk (HLk.out.below bn)
          have k1 : wn.cell? ⟨wi.heap.size, 1, none⟩ = some (.int .i64 (-1)) := (blk_cell NK.out 1).trans rfl
          clear bn
          have HOS := Aside0.mk (outsM_same nv (cs.take k) ⟨d0, -1, d2⟩ (by show (-1 : Int) < 0; omega))
          go_wp2_with fail
          go_roundw
          case rel => exact ⟨k + 1, by go_num, hlt, ⟨by rw [HNX.out, HOS.out]; exact HLn.out⟩⟩
          case measure => simp [intOf]; omega
        · have hst := store43 wi d0 v d2
          obtain ⟨wn, hwn⟩ : ∃ wn, wi.alloc (.cells #[.int .i64 d0, .int .i64 v, .int .i64 d2] 43) = wn := ⟨_, rfl⟩
          rw [hwn] at hst
          have bn : Below wi.heap.size wi wn := by rw [← hwn]; exact below_alloc (Below.refl _ _) _
          have NK : Aside0 (wn.heap[wi.heap.size]? = some (.cells #[.int .i64 d0, .int .i64 v, .int .i64 d2] 43 (0, 0))) := ⟨by rw [← hwn]; exact blk_new wi _⟩
          have HLn := Aside0.mk (HLk.out.below bn)
          have k1 : wn.cell? ⟨wi.heap.size, 1, none⟩ = some (.int .i64 v) := (blk_cell NK.out 1).trans rfl
          clear bn
          have HD := Aside0.mk (HLn.out.below (below_drew (Below.refl _ _)))
          obtain ⟨oki, rv, p1, p2, p3, p4, p5⟩ := HD.out.put (by rw [HQ.out]) v (by rw [HQ.out]; exact hv)
          rw [outsM_at nv _ v hv] at p2
          have hqb : q.base = w1.heap.size := by rw [HQ.out]
          rw [hqb] at p2
          have P2 := Aside0.mk p2
          have P3 := Aside0.mk p3
          have P5 := Aside0.mk p5
          have SBK : Aside0 (wn.heap[sb]? = some (.cells #[.pointer (some ⟨hb, 0, none⟩), .slice (some ⟨lb, 0, none⟩) nv nv, .slice (some ⟨ob, 0, none⟩) nv oc, .pointer (some ⟨rb, 0, none⟩), .slice (some ⟨yb, 0, none⟩) nv nv, .int .i64 0] 69 (0, 0))) := ⟨by have := HLn.out.sbk; rw [HQ.out] at this; exact this⟩
          have OBK := Aside0.mk HLn.out.obk
          have nsb : some sb ≠ rv.ownBlock := Kd.R_ne P2.out SBK.out (by decide)
          have nkb : some wi.heap.size ≠ rv.ownBlock := Kd.R_ne P2.out NK.out (by decide)
          have KS : Aside0 (∀ W : World, W.heap[sb]? = some (.cells #[.pointer (some ⟨hb, 0, none⟩), .slice (some ⟨lb, 0, none⟩) nv nv, .slice (some ⟨ob, 0, none⟩) nv oc, .pointer (some ⟨rb, 0, none⟩), .slice (some ⟨yb, 0, none⟩) nv nv, .int .i64 0] 69 (0, 0)) → W.heap[wi.heap.size]? = some (.cells #[.int .i64 d0, .int .i64 v, .int .i64 d2] 43 (0, 0)) → (fun w' : World => w'.cell? ⟨sb, 2, none⟩ = some (.slice (some ⟨ob, 0, none⟩) nv oc) ∧ w'.cell? ⟨wi.heap.size, 0, none⟩ = some (.int .i64 d0) ∧ w'.cell? ⟨wi.heap.size, 1, none⟩ = some (.int .i64 v)) W) := ⟨fun W h1 h2 => ⟨(blk_cell h1 2).trans rfl, (blk_cell h2 0).trans rfl, (blk_cell h2 1).trans rfl⟩⟩
          have co : wn.cell? ⟨ob, v, none⟩ = some rv := p1
          have co2 : (wn.alloc (.cells #[.int .i64 d0] 3)).cell? ⟨ob, v, none⟩ = some rv := ((below_alloc (Below.refl wn.heap.size wn) (.cells #[.int .i64 d0] 3)).cell (World.block_lt_of_cell? wn _ co)).trans co
          have hbs : w1.heap.size ≤ wn.heap.size := HLn.out.bel.size
          have hol := outAt_len (cs.take k) v
          have hol2 := List.length_take_le k cs
          have HV : Aside0 (v < nv) := ⟨hv⟩
          have hvi : (v : Int) < (nv : Int) := by omega
          have NSB := Aside0.mk nsb
          have NKB := Aside0.mk nkb
          clear p1 p2 p3 p4 p5 nsb nkb
          go_wp2_with fail
          clear hst hwn c0 c1 c2

          refine wp_region_held_drew (S := (fun w' : World => w'.cell? ⟨sb, 2, none⟩ = some (.slice (some ⟨ob, 0, none⟩) nv oc) ∧ w'.cell? ⟨wi.heap.size, 0, none⟩ = some (.int .i64 d0) ∧ w'.cell? ⟨wi.heap.size, 1, none⟩ = some (.int .i64 v))) (by kernel_rfl) (KS.out _ SBK.out NK.out) (fun hHeld => ?_)
          refine wpAnyH_take (i := 0) (oi := { dst := some 45, op := Op.move (Operand.tmp 9), type := 62, pos := "solve.go:76", after := #[], guard := none }) (v := ?_) rfl (by kernel_rfl) (by kernel_rfl) (by kernel_rfl) (fun _ _ _ h => h) (Or.inl ⟨by rfl, ?_⟩) (by first | assumption | trivial) ?_
          rotate_left
          · first | (intro w hSw; (try dsimp only at hSw); go_simp; done) | (intro w hSw; (try dsimp only at hSw); go_simp; with_reducible rfl)
          try simp only [Act.put, List.setIfInBounds_toArray, List.set_cons_zero, List.set_cons_succ]
          refine wpAnyH_take (i := 1) (oi := { dst := some 46, op := Op.nilCheck (Operand.tmp 45), type := 0, pos := "solve.go:76", after := #[{ on := 0, ground := Ground.data }], guard := none }) (v := ?_) rfl (by kernel_rfl) (by kernel_rfl) (by kernel_rfl) (fun _ _ _ h => h) (Or.inl ⟨by rfl, ?_⟩) (by first | assumption | trivial) ?_
          rotate_left
          · first | (intro w hSw; (try dsimp only at hSw); go_simp; done) | (intro w hSw; (try dsimp only at hSw); go_simp; with_reducible rfl)
          try simp only [Act.put, List.setIfInBounds_toArray, List.set_cons_zero, List.set_cons_succ]
          refine wpAnyH_take (i := 2) (oi := { dst := some 47, op := Op.fieldAddr 69 (Operand.tmp 46) 2, type := 0, pos := "solve.go:76", after := #[{ on := 1, ground := Ground.data }], guard := none }) (v := ?_) rfl (by kernel_rfl) (by kernel_rfl) (by kernel_rfl) (fun _ _ _ h => h) (Or.inl ⟨by rfl, ?_⟩) (by first | assumption | trivial) ?_
          rotate_left
          · first | (intro w hSw; (try dsimp only at hSw); go_simp; done) | (intro w hSw; (try dsimp only at hSw); go_simp; with_reducible rfl)
          try simp only [Act.put, List.setIfInBounds_toArray, List.set_cons_zero, List.set_cons_succ]
          refine wpAnyH_take (i := 3) (oi := { dst := some 48, op := Op.load 64 (Operand.tmp 47), type := 64, pos := "solve.go:76", after := #[{ on := 2, ground := Ground.data }], guard := none }) (v := ?_) rfl (by kernel_rfl) (by kernel_rfl) (by kernel_rfl) (fun _ _ _ h => h) (Or.inl ⟨by rfl, ?_⟩) (by first | assumption | trivial) ?_
          rotate_left
          · first | (intro w hSw; (try dsimp only at hSw); go_simp; done) | (intro w hSw; (try dsimp only at hSw); go_simp; with_reducible rfl)
          try simp only [Act.put, List.setIfInBounds_toArray, List.set_cons_zero, List.set_cons_succ]
          refine wpAnyH_take (i := 4) (oi := { dst := some 49, op := Op.fieldAddr 43 (Operand.tmp 11) 1, type := 0, pos := "solve.go:76", after := #[], guard := none }) (v := ?_) rfl (by kernel_rfl) (by kernel_rfl) (by kernel_rfl) (fun _ _ _ h => h) (Or.inl ⟨by rfl, ?_⟩) (by first | assumption | trivial) ?_
          rotate_left
          · first | (intro w hSw; (try dsimp only at hSw); go_simp; done) | (intro w hSw; (try dsimp only at hSw); go_simp; with_reducible rfl)
          try simp only [Act.put, List.setIfInBounds_toArray, List.set_cons_zero, List.set_cons_succ]
          refine wpAnyH_take (i := 5) (oi := { dst := some 50, op := Op.load 3 (Operand.tmp 49), type := 3, pos := "solve.go:76", after := #[{ on := 4, ground := Ground.data }], guard := none }) (v := ?_) rfl (by kernel_rfl) (by kernel_rfl) (by kernel_rfl) (fun _ _ _ h => h) (Or.inl ⟨by rfl, ?_⟩) (by first | assumption | trivial) ?_
          rotate_left
          · first | (intro w hSw; (try dsimp only at hSw); go_simp; done) | (intro w hSw; (try dsimp only at hSw); go_simp; with_reducible rfl)
          try simp only [Act.put, List.setIfInBounds_toArray, List.set_cons_zero, List.set_cons_succ]
          refine wpAnyH_take (i := 6) (oi := { dst := some 51, op := Op.move (Operand.tmp 9), type := 62, pos := "solve.go:76", after := #[], guard := none }) (v := ?_) rfl (by kernel_rfl) (by kernel_rfl) (by kernel_rfl) (fun _ _ _ h => h) (Or.inl ⟨by rfl, ?_⟩) (by first | assumption | trivial) ?_
          rotate_left
          · first | (intro w hSw; (try dsimp only at hSw); go_simp; done) | (intro w hSw; (try dsimp only at hSw); go_simp; with_reducible rfl)
          try simp only [Act.put, List.setIfInBounds_toArray, List.set_cons_zero, List.set_cons_succ]
          refine wpAnyH_take (i := 7) (oi := { dst := some 52, op := Op.nilCheck (Operand.tmp 51), type := 0, pos := "solve.go:76", after := #[{ on := 6, ground := Ground.data }], guard := none }) (v := ?_) rfl (by kernel_rfl) (by kernel_rfl) (by kernel_rfl) (fun _ _ _ h => h) (Or.inl ⟨by rfl, ?_⟩) (by first | assumption | trivial) ?_
          rotate_left
          · first | (intro w hSw; (try dsimp only at hSw); go_simp; done) | (intro w hSw; (try dsimp only at hSw); go_simp; with_reducible rfl)
          try simp only [Act.put, List.setIfInBounds_toArray, List.set_cons_zero, List.set_cons_succ]
          refine wpAnyH_take (i := 8) (oi := { dst := some 53, op := Op.fieldAddr 69 (Operand.tmp 52) 2, type := 0, pos := "solve.go:76", after := #[{ on := 7, ground := Ground.data }], guard := none }) (v := ?_) rfl (by kernel_rfl) (by kernel_rfl) (by kernel_rfl) (fun _ _ _ h => h) (Or.inl ⟨by rfl, ?_⟩) (by first | assumption | trivial) ?_
          rotate_left
          · first | (intro w hSw; (try dsimp only at hSw); go_simp; done) | (intro w hSw; (try dsimp only at hSw); go_simp; with_reducible rfl)
          try simp only [Act.put, List.setIfInBounds_toArray, List.set_cons_zero, List.set_cons_succ]
          refine wpAnyH_take (i := 9) (oi := { dst := some 54, op := Op.load 64 (Operand.tmp 53), type := 64, pos := "solve.go:76", after := #[{ on := 8, ground := Ground.data }], guard := none }) (v := ?_) rfl (by kernel_rfl) (by kernel_rfl) (by kernel_rfl) (fun _ _ _ h => h) (Or.inl ⟨by rfl, ?_⟩) (by first | assumption | trivial) ?_
          rotate_left
          · first | (intro w hSw; (try dsimp only at hSw); go_simp; done) | (intro w hSw; (try dsimp only at hSw); go_simp; with_reducible rfl)
          try simp only [Act.put, List.setIfInBounds_toArray, List.set_cons_zero, List.set_cons_succ]
          refine wpAnyH_take (i := 10) (oi := { dst := some 55, op := Op.fieldAddr 43 (Operand.tmp 11) 1, type := 0, pos := "solve.go:76", after := #[], guard := none }) (v := ?_) rfl (by kernel_rfl) (by kernel_rfl) (by kernel_rfl) (fun _ _ _ h => h) (Or.inl ⟨by rfl, ?_⟩) (by first | assumption | trivial) ?_
          rotate_left
          · first | (intro w hSw; (try dsimp only at hSw); go_simp; done) | (intro w hSw; (try dsimp only at hSw); go_simp; with_reducible rfl)
          try simp only [Act.put, List.setIfInBounds_toArray, List.set_cons_zero, List.set_cons_succ]
          refine wpAnyH_take (i := 11) (oi := { dst := some 56, op := Op.load 3 (Operand.tmp 55), type := 3, pos := "solve.go:76", after := #[{ on := 10, ground := Ground.data }], guard := none }) (v := ?_) rfl (by kernel_rfl) (by kernel_rfl) (by kernel_rfl) (fun _ _ _ h => h) (Or.inl ⟨by rfl, ?_⟩) (by first | assumption | trivial) ?_
          rotate_left
          · first | (intro w hSw; (try dsimp only at hSw); go_simp; done) | (intro w hSw; (try dsimp only at hSw); go_simp; with_reducible rfl)
          try simp only [Act.put, List.setIfInBounds_toArray, List.set_cons_zero, List.set_cons_succ]
          refine wpAnyH_take (i := 12) (oi := { dst := some 57, op := Op.indexAddr 64 (Operand.tmp 54) (Operand.tmp 56), type := 0, pos := "solve.go:76", after := #[{ on := 9, ground := Ground.data }, { on := 11, ground := Ground.data }], guard := none }) (v := ?_) rfl (by kernel_rfl) (by kernel_rfl) (by kernel_rfl) (fun _ _ _ h => h) (Or.inl ⟨by rfl, ?_⟩) (by first | assumption | trivial) ?_
          rotate_left
          · first | (intro w hSw; (try dsimp only at hSw); go_simp; done) | (intro w hSw; (try dsimp only at hSw); go_simp; with_reducible rfl)
          try simp only [Act.put, List.setIfInBounds_toArray, List.set_cons_zero, List.set_cons_succ]
          refine wpAnyH_take (i := 14) (oi := { dst := some 59, op := Op.fieldAddr 43 (Operand.tmp 11) 0, type := 0, pos := "solve.go:76", after := #[], guard := none }) (v := ?_) rfl (by kernel_rfl) (by kernel_rfl) (by kernel_rfl) (fun _ _ _ h => h) (Or.inl ⟨by rfl, ?_⟩) (by first | assumption | trivial) ?_
          rotate_left
          · first | (intro w hSw; (try dsimp only at hSw); go_simp; done) | (intro w hSw; (try dsimp only at hSw); go_simp; with_reducible rfl)
          try simp only [Act.put, List.setIfInBounds_toArray, List.set_cons_zero, List.set_cons_succ]
          refine wpAnyH_take (i := 15) (oi := { dst := some 60, op := Op.load 3 (Operand.tmp 59), type := 3, pos := "solve.go:76", after := #[{ on := 14, ground := Ground.data }], guard := none }) (v := ?_) rfl (by kernel_rfl) (by kernel_rfl) (by kernel_rfl) (fun _ _ _ h => h) (Or.inl ⟨by rfl, ?_⟩) (by first | assumption | trivial) ?_
          rotate_left
          · first | (intro w hSw; (try dsimp only at hSw); go_simp; done) | (intro w hSw; (try dsimp only at hSw); go_simp; with_reducible rfl)
          try simp only [Act.put, List.setIfInBounds_toArray, List.set_cons_zero, List.set_cons_succ]
          refine wpAnyH_ready (rs := [13, 16]) (by kernel_rfl) (by simp) ?_
          refine AllReadyH.cons (o := { dst := some 58, op := Op.load 26 (Operand.tmp 57), type := 26, pos := "solve.go:76", after := #[{ on := 12, ground := Ground.data }], guard := none }) rfl (fun K hK => ?_) ?_
          · go_simp
            refine hK.out _ _ ?_ (fun hHeld => ?_)
            · exact KS.out _ SBK.out NK.out
            clear hK K
            try simp only [Act.put, List.setIfInBounds_toArray, List.set_cons_zero, List.set_cons_succ]
            refine wpAnyH_ready (rs := [16]) (by kernel_rfl) (by simp) ?_
            refine AllReadyH.cons (o := { dst := some 61, op := Op.buildSlice 26 1 #[(0, Operand.tmp 60)], type := 26, pos := "solve.go:76", after := #[{ on := 15, ground := Ground.data }], guard := none }) rfl (fun K hK => ?_) AllReadyH.nil
            go_simp
            refine hK.out _ _ ?_ (fun hHeld => ?_)
            · exact KS.out _ (blk_alloc SBK.out _) (blk_alloc NK.out _)
            clear hK K
            try simp only [Act.put, List.setIfInBounds_toArray, List.set_cons_zero, List.set_cons_succ]
            refine wpAnyH_ready (rs := [17]) (by kernel_rfl) (by simp) ?_
            refine AllReadyH.cons (o := { dst := some 62, op := Op.call { callee := Callee.builtin Builtin.append, args := #[Operand.tmp 58, Operand.tmp 61], argTypes := #[26, 26] }, type := 26, pos := "solve.go:76", after := #[{ on := 13, ground := Ground.data }, { on := 16, ground := Ground.data }], guard := none }) rfl (fun K hK => ?_) AllReadyH.nil
            refine Kd.R_append_step (Kd.int .i64) (w0 := wn.drew) w1.heap.size rfl (.tmp 58) (.tmp 61) 26 3 (.int .i64 0) 8 rfl Try.underlying26 info3 rfl (by decide) (by decide) rv (outAt (cs.take k) v) d0 [.int .i64 d0] oki (fun _ => False) rfl rfl rfl (fun _ h => h.elim) P3.out P2.out (Below.refl _ _) hbs (by omega) ?_
            intro v9 w9 hr9 hb9 hg9 hat9
            obtain ⟨c9, f9, hL9⟩ := P5.out w9 v9 _ hg9 (by rw [hqb]; exact hr9)
            have HL9 := Aside0.mk hL9
            have S9 : Aside0 (w9.heap[sb]? = wn.heap[sb]?) := ⟨hg9.block sb (blk_lt SBK.out) NSB.out⟩
            have K9 : Aside0 (w9.heap[wi.heap.size]? = wn.heap[wi.heap.size]?) := ⟨hg9.block wi.heap.size (blk_lt NK.out) NKB.out⟩
            obtain ⟨A9, cc9, ev9⟩ := Kd.R_slice hr9
            rw [show (outAt (cs.take k) v ++ [d0]).length = (outAt (cs.take k) v).length + 1 from by simp] at ev9
            subst ev9
            clear hL9 hr9 hb9 hg9 hat9
            refine hK.out _ _ ?_ (fun hHeld => ?_)
            · exact KS.out _ (S9.out.trans SBK.out) (K9.out.trans NK.out)
            clear hK K
            try simp only [Act.put, List.setIfInBounds_toArray, List.set_cons_zero, List.set_cons_succ]
            refine wpAnyH_take (i := 18) (oi := { dst := some 63, op := Op.indexAddr 64 (Operand.tmp 48) (Operand.tmp 50), type := 0, pos := "solve.go:76", after := #[{ on := 3, ground := Ground.data }, { on := 5, ground := Ground.data }, { on := 0, ground := Ground.phase }, { on := 1, ground := Ground.phase }, { on := 2, ground := Ground.phase }, { on := 3, ground := Ground.phase }, { on := 4, ground := Ground.phase }, { on := 5, ground := Ground.phase }, { on := 6, ground := Ground.phase }, { on := 7, ground := Ground.phase }, { on := 8, ground := Ground.phase }, { on := 9, ground := Ground.phase }, { on := 10, ground := Ground.phase }, { on := 11, ground := Ground.phase }, { on := 12, ground := Ground.phase }, { on := 13, ground := Ground.phase }, { on := 14, ground := Ground.phase }, { on := 15, ground := Ground.phase }, { on := 16, ground := Ground.phase }, { on := 17, ground := Ground.phase }], guard := none }) (v := ?_) rfl (by kernel_rfl) (by kernel_rfl) (by kernel_rfl) (fun _ _ _ h => h) (Or.inl ⟨by rfl, ?_⟩) (by first | assumption | trivial) ?_
            rotate_left
            · first | (intro w hSw; (try dsimp only at hSw); go_simp; done) | (intro w hSw; (try dsimp only at hSw); go_simp; with_reducible rfl)
            try simp only [Act.put, List.setIfInBounds_toArray, List.set_cons_zero, List.set_cons_succ]
            refine wpAnyH_ready (rs := [19]) (by kernel_rfl) (by simp) ?_
            refine AllReadyH.cons (o := { dst := none, op := Op.store 26 (Operand.tmp 63) (Operand.tmp 62), type := 0, pos := "solve.go:76", after := #[{ on := 18, ground := Ground.data }, { on := 17, ground := Ground.data }, { on := 17, ground := Ground.chain }, { on := 0, ground := Ground.phase }, { on := 1, ground := Ground.phase }, { on := 2, ground := Ground.phase }, { on := 3, ground := Ground.phase }, { on := 4, ground := Ground.phase }, { on := 5, ground := Ground.phase }, { on := 6, ground := Ground.phase }, { on := 7, ground := Ground.phase }, { on := 8, ground := Ground.phase }, { on := 9, ground := Ground.phase }, { on := 10, ground := Ground.phase }, { on := 11, ground := Ground.phase }, { on := 12, ground := Ground.phase }, { on := 13, ground := Ground.phase }, { on := 14, ground := Ground.phase }, { on := 15, ground := Ground.phase }, { on := 16, ground := Ground.phase }, { on := 17, ground := Ground.phase }], guard := none }) rfl (fun K hK => ?_) AllReadyH.nil
            go_simp
            refine hK.out _ _ ?_ (fun hHeld => ?_)
            · exact KS.out _ (blk_far (S9.out.trans SBK.out) (by obtain ⟨_, ho⟩ := OBK.out; exact blk_ne SBK.out ho (by decide)) _) (blk_far (K9.out.trans NK.out) (by obtain ⟨_, ho⟩ := OBK.out; exact blk_ne NK.out ho (by decide)) _)
            clear hK K
            try simp only [Act.put, List.setIfInBounds_toArray, List.set_cons_zero, List.set_cons_succ]
            refine wpAnyH_done (by kernel_rfl) ?_ _
            clear co co2 c9 f9
            go_wp2_with fail
            go_roundw
            case rel => exact ⟨k + 1, by go_num, hlt, ⟨by rw [HNX.out, ← outsM_set nv (cs.take k) ⟨d0, v, d2⟩ v HV.out rfl]; exact HL9.out⟩⟩
            case measure => simp [intOf]; omega
          refine AllReadyH.cons (o := { dst := some 61, op := Op.buildSlice 26 1 #[(0, Operand.tmp 60)], type := 26, pos := "solve.go:76", after := #[{ on := 15, ground := Ground.data }], guard := none }) rfl (fun K hK => ?_) ?_
          · go_simp
            refine hK.out _ _ ?_ (fun hHeld => ?_)
            · exact KS.out _ (blk_alloc SBK.out _) (blk_alloc NK.out _)
            clear hK K
            try simp only [Act.put, List.setIfInBounds_toArray, List.set_cons_zero, List.set_cons_succ]
            refine wpAnyH_ready (rs := [13]) (by kernel_rfl) (by simp) ?_
            refine AllReadyH.cons (o := { dst := some 58, op := Op.load 26 (Operand.tmp 57), type := 26, pos := "solve.go:76", after := #[{ on := 12, ground := Ground.data }], guard := none }) rfl (fun K hK => ?_) AllReadyH.nil
            go_simp
            refine hK.out _ _ ?_ (fun hHeld => ?_)
            · exact KS.out _ (blk_alloc SBK.out _) (blk_alloc NK.out _)
            clear hK K
            try simp only [Act.put, List.setIfInBounds_toArray, List.set_cons_zero, List.set_cons_succ]
            refine wpAnyH_ready (rs := [17]) (by kernel_rfl) (by simp) ?_
            refine AllReadyH.cons (o := { dst := some 62, op := Op.call { callee := Callee.builtin Builtin.append, args := #[Operand.tmp 58, Operand.tmp 61], argTypes := #[26, 26] }, type := 26, pos := "solve.go:76", after := #[{ on := 13, ground := Ground.data }, { on := 16, ground := Ground.data }], guard := none }) rfl (fun K hK => ?_) AllReadyH.nil
            refine Kd.R_append_step (Kd.int .i64) (w0 := wn.drew) w1.heap.size rfl (.tmp 58) (.tmp 61) 26 3 (.int .i64 0) 8 rfl Try.underlying26 info3 rfl (by decide) (by decide) rv (outAt (cs.take k) v) d0 [.int .i64 d0] oki (fun _ => False) rfl rfl rfl (fun _ h => h.elim) P3.out P2.out (Below.refl _ _) hbs (by omega) ?_
            intro v9 w9 hr9 hb9 hg9 hat9
            obtain ⟨c9, f9, hL9⟩ := P5.out w9 v9 _ hg9 (by rw [hqb]; exact hr9)
            have HL9 := Aside0.mk hL9
            have S9 : Aside0 (w9.heap[sb]? = wn.heap[sb]?) := ⟨hg9.block sb (blk_lt SBK.out) NSB.out⟩
            have K9 : Aside0 (w9.heap[wi.heap.size]? = wn.heap[wi.heap.size]?) := ⟨hg9.block wi.heap.size (blk_lt NK.out) NKB.out⟩
            obtain ⟨A9, cc9, ev9⟩ := Kd.R_slice hr9
            rw [show (outAt (cs.take k) v ++ [d0]).length = (outAt (cs.take k) v).length + 1 from by simp] at ev9
            subst ev9
            clear hL9 hr9 hb9 hg9 hat9
            refine hK.out _ _ ?_ (fun hHeld => ?_)
            · exact KS.out _ (S9.out.trans SBK.out) (K9.out.trans NK.out)
            clear hK K
            try simp only [Act.put, List.setIfInBounds_toArray, List.set_cons_zero, List.set_cons_succ]
            refine wpAnyH_take (i := 18) (oi := { dst := some 63, op := Op.indexAddr 64 (Operand.tmp 48) (Operand.tmp 50), type := 0, pos := "solve.go:76", after := #[{ on := 3, ground := Ground.data }, { on := 5, ground := Ground.data }, { on := 0, ground := Ground.phase }, { on := 1, ground := Ground.phase }, { on := 2, ground := Ground.phase }, { on := 3, ground := Ground.phase }, { on := 4, ground := Ground.phase }, { on := 5, ground := Ground.phase }, { on := 6, ground := Ground.phase }, { on := 7, ground := Ground.phase }, { on := 8, ground := Ground.phase }, { on := 9, ground := Ground.phase }, { on := 10, ground := Ground.phase }, { on := 11, ground := Ground.phase }, { on := 12, ground := Ground.phase }, { on := 13, ground := Ground.phase }, { on := 14, ground := Ground.phase }, { on := 15, ground := Ground.phase }, { on := 16, ground := Ground.phase }, { on := 17, ground := Ground.phase }], guard := none }) (v := ?_) rfl (by kernel_rfl) (by kernel_rfl) (by kernel_rfl) (fun _ _ _ h => h) (Or.inl ⟨by rfl, ?_⟩) (by first | assumption | trivial) ?_
            rotate_left
            · first | (intro w hSw; (try dsimp only at hSw); go_simp; done) | (intro w hSw; (try dsimp only at hSw); go_simp; with_reducible rfl)
            try simp only [Act.put, List.setIfInBounds_toArray, List.set_cons_zero, List.set_cons_succ]
            refine wpAnyH_ready (rs := [19]) (by kernel_rfl) (by simp) ?_
            refine AllReadyH.cons (o := { dst := none, op := Op.store 26 (Operand.tmp 63) (Operand.tmp 62), type := 0, pos := "solve.go:76", after := #[{ on := 18, ground := Ground.data }, { on := 17, ground := Ground.data }, { on := 17, ground := Ground.chain }, { on := 0, ground := Ground.phase }, { on := 1, ground := Ground.phase }, { on := 2, ground := Ground.phase }, { on := 3, ground := Ground.phase }, { on := 4, ground := Ground.phase }, { on := 5, ground := Ground.phase }, { on := 6, ground := Ground.phase }, { on := 7, ground := Ground.phase }, { on := 8, ground := Ground.phase }, { on := 9, ground := Ground.phase }, { on := 10, ground := Ground.phase }, { on := 11, ground := Ground.phase }, { on := 12, ground := Ground.phase }, { on := 13, ground := Ground.phase }, { on := 14, ground := Ground.phase }, { on := 15, ground := Ground.phase }, { on := 16, ground := Ground.phase }, { on := 17, ground := Ground.phase }], guard := none }) rfl (fun K hK => ?_) AllReadyH.nil
            go_simp
            refine hK.out _ _ ?_ (fun hHeld => ?_)
            · exact KS.out _ (blk_far (S9.out.trans SBK.out) (by obtain ⟨_, ho⟩ := OBK.out; exact blk_ne SBK.out ho (by decide)) _) (blk_far (K9.out.trans NK.out) (by obtain ⟨_, ho⟩ := OBK.out; exact blk_ne NK.out ho (by decide)) _)
            clear hK K
            try simp only [Act.put, List.setIfInBounds_toArray, List.set_cons_zero, List.set_cons_succ]
            refine wpAnyH_done (by kernel_rfl) ?_ _
            clear co co2 c9 f9
            go_wp2_with fail
            go_roundw
            case rel => exact ⟨k + 1, by go_num, hlt, ⟨by rw [HNX.out, ← outsM_set nv (cs.take k) ⟨d0, v, d2⟩ v HV.out rfl]; exact HL9.out⟩⟩
            case measure => simp [intOf]; omega
          exact AllReadyH.nil
      · have hke : k = cs.length := by omega
        subst hke
        rw [List.take_length] at HLk
        obtain ⟨N, hN⟩ : ∃ N, wi.heap.size = N := ⟨_, rfl⟩
        obtain ⟨p, hp⟩ : ∃ p : Sv, p = ⟨w1.heap.size, hb, ub, db, n, us, ds, fun k => k = b0 ∨ N ≤ k, sb, lb, yb, rb, nv, .slice (some ⟨ob, 0, none⟩) nv oc⟩ := ⟨_, rfl⟩
        have HPP := Aside0.mk hp
        have hl := HLk.out
        rw [HQ.out] at hl
        obtain ⟨cells, hob⟩ := hl.obk
        have SS0 : Aside0 (SS p (.slice (some ⟨b0, 0, none⟩) 0 0) (List.replicate nv (allM n us [])) (List.replicate nv false) [] 0 wi) := ⟨by
          rw [hp]
          refine ⟨HT1.out.below hl.bel, hl.sbk, hl.lbk, hl.ybk, ⟨hl.rbk, Kd.R_mono hl.rr (fun k hk => .inl hk), fun k hk => .inr (by rw [← hN]; exact hk), fun hz => hz.elim (fun e => blk_ne hl.rbk hl.b0k (by decide) e) (fun hle => by have := blk_lt hl.rbk; have hle : N ≤ rb := hle; have this : rb < wi.heap.size := this; omega), HBS.out.2.2.2.1⟩, List.length_replicate, List.length_replicate, fun h0 hz => hz.elim (fun e => ?_) (fun hle => by have := blk_lt hl.lbk; have hle : N ≤ lb := hle; have this : lb < wi.heap.size := this; omega),
            fun hz => hz.elim (fun e => blk_ne hl.sbk hl.b0k (by decide) e) (fun hle => by have := blk_lt hl.sbk; have hle : N ≤ sb := hle; have this : sb < wi.heap.size := this; omega), fun hz => hz.elim (fun e => blk_ne hl.ybk hl.b0k (by decide) e) (fun hle => by have := blk_lt hl.ybk; have hle : N ≤ yb := hle; have this : yb < wi.heap.size := this; omega),
            fun k hz => hz.elim (fun e => by have := HBS.out.2.2.2.2; have e : k = b0 := e; show w1.heap.size ≤ k; omega) (fun hle => by have := hl.bel.size; have hle : N ≤ k := hle; show w1.heap.size ≤ k; omega), ⟨blk_lt HT1.out.hbk, blk_lt HT1.out.u.bk, blk_lt HT1.out.d.bk⟩, ⟨HBS.out.1, HBS.out.2.1, HBS.out.2.2.1⟩⟩
          have e : lb = b0 := e
          have h1 : wi.heap[lb]? = some (.cells (nums .i64 (List.replicate nv (allM n us []))).toArray 3 (0, 0)) := hl.lbk
          have h2 : wi.heap[b0]? = some (.cells #[] 3 (0, 0)) := hl.b0k
          rw [e, h2] at h1
          injection h1 with h1
          injection h1 with h1 _ _
          have h3 := congrArg Array.size h1
          have h0 : 0 < nv := h0
          simp [nums] at h3
          omega⟩
        have HO0 : Aside0 (Kd.S KR 26 wi w1.heap.size (fun k => (k = ob ∨ M ≤ k) ∧ k < N) (.slice (some ⟨ob, 0, none⟩) nv oc) (outsM nv cs)) := ⟨Kd.S_mono (Kd.S_bound hl.out) (fun k hk => ⟨hk.1, by rw [← hN]; exact hk.2.2.1⟩)⟩
        have HNS : Aside0 (∀ k, (k = ob ∨ M ≤ k) ∧ k < N → ¬ SF p k) := ⟨by
          intro k hk hs
          have l1 : sb < M := hl.lts.1
          have l2 : lb < M := hl.lts.2.1
          have l3 : yb < M := hl.lts.2.2.1
          have l4 : rb < M := hl.lts.2.2.2.1
          have l5 : b0 < M := hl.lts.2.2.2.2
          have n1 : sb ≠ ob := blk_ne hl.sbk hob (by decide)
          have n2 : lb ≠ ob := blk_ne hl.lbk hob (by decide)
          have n3 : yb ≠ ob := blk_ne hl.ybk hob (by decide)
          have n4 : rb ≠ ob := blk_ne hl.rbk hob (by decide)
          have n5 : b0 ≠ ob := blk_ne hl.b0k hob (by decide)
          rw [hp] at hs
          have hs : k = sb ∨ k = lb ∨ k = yb ∨ k = rb ∨ (k = b0 ∨ N ≤ k) := hs
          omega⟩
        have HB2 := Aside0.mk hl.bel
        have PI0 : Aside0 (PI n us rk nv cs (outAt cs) (negs (cs.take 0)) 0 (List.replicate nv (allM n us [])) (List.replicate nv false) [] 0) := ⟨by rw [List.take_zero]; exact PI.init HF.out RCC.out⟩
        have PSB : Aside0 (p.sb = sb ∧ p.nv = nv ∧ p.n = n ∧ p.us = us ∧ p.rb = rb ∧ p.lb = lb ∧ p.yb = yb ∧ p.base = w1.heap.size) := ⟨by rw [hp]; exact ⟨rfl, rfl, rfl, rfl, rfl, rfl, rfl, rfl⟩⟩
        clear hp hl hob HLk HQ hN
        obtain ⟨wb, hwb⟩ : ∃ wb : World, wb = wi := ⟨_, rfl⟩
        rw [← hwb] at SS0 HO0 HB2 ⊢
        have F0 : Aside0 (Foot (SF p) wb wb) := ⟨Foot.refl _ _⟩
        clear hwb
        go_wp2_with fail
        go_loopw [67] (fun i wr => ∃ (k : Nat) (v : Value) (lv : List Int) (rdy : List Bool) (xs : List Int) (work : Int), i = .int .i64 k ∧ k ≤ cs.length ∧ Aside0 (SS p v lv rdy xs work wr) ∧ Aside0 (PI n us rk nv cs (outAt cs) (negs (cs.take k)) 0 lv rdy xs work) ∧ Aside0 (Foot (SF p) wb wr)) (fun i _ => cs.length - (intOf i).toNat)
        case atStart => exact ⟨0, _, _, _, _, _, rfl, Nat.zero_le _, SS0, PI0, F0⟩
        case round =>
          obtain ⟨k, v, lv, rdy, xs, work, rfl, hk, HS, HPI, HFT⟩ := hrel
          obtain ⟨wi, rfl⟩ : ∃ wi : World, wi = wr := ⟨_, rfl⟩
          clear SS0 PI0 F0
          have HBW : Aside0 (Below w1.heap.size w1 wi) := ⟨HB2.out.trans (HFT.out.below HB2.out.size (fun k hk => by
            have h2 := HS.out.sbb
            have h3 := HS.out.row.brb
            rw [PSB.out.2.2.2.2.2.2.2] at h2 h3
            rcases hk with e | e | e | e | hz
            · rw [e]; exact h2.1
            · rw [e]; exact h2.2.1
            · rw [e]; exact h2.2.2
            · rw [e]; exact h3
            · have := HS.out.zb k hz; rw [PSB.out.2.2.2.2.2.2.2] at this; exact this))⟩
          by_cases hlt : k < cs.length
          · obtain ⟨ad, eA, c0, c1, c2⟩ := at_T43 (Kd.C_below HC1.out HBW.out) (k : Int) (by omega) (by omega)
            subst eA
            rw [Int.toNat_natCast] at c0 c1 c2
            have HNX : Aside0 (cs.take (k + 1) = cs.take k ++ [rd_T43 cs k]) := ⟨by rw [List.take_succ_eq_append_getElem hlt, rd43_at hlt]⟩
            have hmem : rd_T43 cs (k : Nat) ∈ cs := by rw [rd43_at hlt]; exact List.getElem_mem hlt
            have HRCk := RCC.out _ hmem
            obtain ⟨d, hd⟩ : ∃ d, rd_T43 cs (k : Nat) = d := ⟨_, rfl⟩
            rw [hd] at c0 c1 c2 HNX HRCk hmem
            have HMEM := Aside0.mk hmem
            clear hd hmem
            obtain ⟨d0, d1, d2⟩ := d
            dsimp only at c0 c1 c2 HRCk
            obtain ⟨hx0, hd1⟩ := HRCk
            rcases hd1 with ⟨rfl, hvl⟩ | ⟨g, hg, rfl⟩
            · obtain ⟨x, hx, rfl⟩ := hx0
              have HVL := Aside0.mk hvl
              clear hvl
              have hst := store43 wi x (-1) d2
              obtain ⟨wn, hwn⟩ : ∃ wn, wi.alloc (.cells #[.int .i64 x, .int .i64 (-1), .int .i64 d2] 43) = wn := ⟨_, rfl⟩
              rw [hwn] at hst
              have bn : Below wi.heap.size wi wn := by rw [← hwn]; exact below_alloc (Below.refl _ _) _
              have NK : Aside0 (wn.heap[wi.heap.size]? = some (.cells #[.int .i64 x, .int .i64 (-1), .int .i64 d2] 43 (0, 0))) := ⟨by rw [← hwn]; exact blk_new wi _⟩
              have HSn := Aside0.mk (HS.out.below bn)
              have HFn : Aside0 (Foot (SF p) wb wn) := ⟨HFT.out.trans (Foot.of_below (S := SF p) bn) (fun _ h _ => h)⟩
              have k0 : wn.cell? ⟨wi.heap.size, 0, none⟩ = some (.int .i64 x) := (blk_cell NK.out 0).trans rfl
              have k1 : wn.cell? ⟨wi.heap.size, 1, none⟩ = some (.int .i64 (-1)) := (blk_cell NK.out 1).trans rfl
              have k2 : wn.cell? ⟨wi.heap.size, 2, none⟩ = some (.int .i64 d2) := (blk_cell NK.out 2).trans rfl
              clear bn
              have hxl : xs.length < 1000000 := by have := HPI.out.xle; omega
              have hwb := HPI.out.wbd HF.out RCC.out (Int.le_refl 0) hH hm (by have := negs_len (cs.take k); have := List.length_take_le k cs; omega)
              have CRS : Aside0 (Calls Try.prog 24 #[.pointer (some ⟨sb, 0, none⟩), .int .i64 x, .int .i64 d2] wn fun e w' => e = .returned (.tuple #[]) ∧ ∃ v' lv' rdy' xs', SS p v' lv' rdy' xs' (work + 1) w' ∧ Foot (SF p) wn w' ∧ Raised n us x d2 lv rdy xs lv' rdy' xs') := ⟨by
                have z := raise24 HSn.out x d2 (by rw [PSB.out.2.1]; exact hx) (by rw [PSB.out.2.1]; omega) HPI.out.w0 (by omega) hxl
                rw [PSB.out.1, PSB.out.2.2.1, PSB.out.2.2.2.1] at z
                exact z⟩
              have HX := Aside0.mk hx
              clear hxl hwb hx
              go_wp2_with fail
              refine CRS.out.mono ?_
              rintro e w5 ⟨rfl, v5, lv5, rdy5, xs5, hs5, hf5, hr5⟩
              obtain ⟨hpi, hm5, _, _⟩ := PI.raise HF.out HPI.out (W_ok RCC.out) (D_ok RCC.out (cs.take k) (fun c hc => List.mem_of_mem_take hc)) HX.out HVL.out (fun σ hσ => by
                have := hσ.2.2 _ HMEM.out
                rw [if_neg (by show ¬ (0 : Int) ≤ -1; omega)] at this
                exact this) hr5
              have HP5 : Aside0 (PI n us rk nv cs (outAt cs) (negs (cs.take (k + 1))) 0 lv5 rdy5 xs5 (work + 1)) := ⟨by
                rw [HNX.out, negs_snoc _ _ (by show (-1 : Int) < 0; omega)]
                exact hpi.snoc hm5⟩
              have HS5 := Aside0.mk hs5
              have HF5 : Aside0 (Foot (SF p) wb w5) := ⟨HFn.out.trans hf5 (fun _ h _ => h)⟩
              clear hs5 hf5 hr5 hpi hm5 CRS k0 k1 k2 c0 c1 c2 hst hwn
              go_wp2_with fail
              go_roundw
              case rel => exact ⟨k + 1, v5, lv5, rdy5, xs5, work + 1, by go_num, hlt, HS5, HP5, HF5⟩
              case measure => simp [intOf]; omega
            · have hst := store43 wi d0 g d2
              obtain ⟨wn, hwn⟩ : ∃ wn, wi.alloc (.cells #[.int .i64 d0, .int .i64 g, .int .i64 d2] 43) = wn := ⟨_, rfl⟩
              rw [hwn] at hst
              have bn : Below wi.heap.size wi wn := by rw [← hwn]; exact below_alloc (Below.refl _ _) _
              have NK : Aside0 (wn.heap[wi.heap.size]? = some (.cells #[.int .i64 d0, .int .i64 g, .int .i64 d2] 43 (0, 0))) := ⟨by rw [← hwn]; exact blk_new wi _⟩
              have HSn := Aside0.mk (HS.out.below bn)
              have HFn : Aside0 (Foot (SF p) wb wn) := ⟨HFT.out.trans (Foot.of_below (S := SF p) bn) (fun _ h _ => h)⟩
              have k0 : wn.cell? ⟨wi.heap.size, 0, none⟩ = some (.int .i64 d0) := (blk_cell NK.out 0).trans rfl
              have k1 : wn.cell? ⟨wi.heap.size, 1, none⟩ = some (.int .i64 g) := (blk_cell NK.out 1).trans rfl
              have k2 : wn.cell? ⟨wi.heap.size, 2, none⟩ = some (.int .i64 d2) := (blk_cell NK.out 2).trans rfl
              clear bn
              have HPn : Aside0 (PI n us rk nv cs (outAt cs) (negs (cs.take (k + 1))) 0 lv rdy xs work) := ⟨by
                rw [HNX.out, negs_same _ _ (by show (0 : Int) ≤ (g : Int); omega)]
                exact HPI.out⟩
              go_wp2_with fail
              go_roundw
              case rel => exact ⟨k + 1, v, lv, rdy, xs, work, by go_num, hlt, HSn, HPn, HFn⟩
              case measure => simp [intOf]; omega
          · have hke : k = cs.length := by omega
            subst hke
            rw [List.take_length] at HPI
            obtain ⟨ww, hww⟩ : ∃ ww : World, ww = wi := ⟨_, rfl⟩
            rw [← hww] at HS HFT ⊢
            clear hww HBW
            have HOW : Aside0 (∀ W, Foot (SF p) wb W → Kd.S KR 26 W w1.heap.size (fun k => (k = ob ∨ M ≤ k) ∧ k < N) (.slice (some ⟨ob, 0, none⟩) nv oc) (outsM nv cs)) := ⟨fun W f => Kd.S_step HO0.out (fun k hk hlt => f.block k hlt (HNS.out k hk))⟩
            have HOC : Aside0 (∀ W, Foot (SF p) wb W → ∀ j, W.cell? ⟨ob, j, none⟩ = wb.cell? ⟨ob, j, none⟩) := ⟨fun W f j => by
              have hok := HNS.out ob (HO0.out.choose_spec.1 ob (by simp [Value.ownBlock]))
              have hlt := Kd.S_lt HO0.out ob (by simp [Value.ownBlock])
              have hb := f.block ob hlt hok
              simp [World.cell?, hb]⟩
            go_wp2_with fail
            go_loopw [] (fun wr => ∃ (v : Value) (lv : List Int) (rdy : List Bool) (xs : List Int) (work : Int), Aside0 (SS p v lv rdy xs work wr) ∧ Aside0 (PI n us rk nv cs (outAt cs) (negs cs) 0 lv rdy xs work) ∧ Aside0 (Foot (SF p) wb wr)) (fun wr => MuW p rk H wr)
            case atStart => exact ⟨_, _, _, _, _, HS, HPI, HFT⟩
            case round =>
              clear HS HPI HFT
              obtain ⟨v, lv, rdy, xs, work, HS, HPI, HFT⟩ := hrel
              obtain ⟨wi, rfl⟩ : ∃ wi : World, wi = wr := ⟨_, rfl⟩
              have s3 : wi.cell? ⟨sb, 3, none⟩ = some (.pointer (some ⟨rb, 0, none⟩)) := by have z := HS.out.s3; rw [PSB.out.1, PSB.out.2.2.2.2.1] at z; exact z
              have cb : wi.cell? ⟨rb, 0, none⟩ = some v := by have z := HS.out.row.cell; rw [PSB.out.2.2.2.2.1] at z; exact z
              have CL := Aside0.mk (len_any HS.out.row)
              have hxn := HPI.out.xle
              by_cases hx0 : xs.length = 0
              · have hxe : xs = [] := List.length_eq_zero_iff.1 hx0
                subst hxe
                have s1 : wi.cell? ⟨sb, 1, none⟩ = some (.slice (some ⟨lb, 0, none⟩) nv nv) := by have z := HS.out.s1; rw [PSB.out.1, PSB.out.2.1, PSB.out.2.2.2.2.2.1] at z; exact z
                have s5 : wi.cell? ⟨sb, 5, none⟩ = some (.int .i64 work) := by have z := HS.out.s5; rw [PSB.out.1] at z; exact z
                have LBK : Aside0 (wi.heap[lb]? = some (.cells (nums .i64 lv).toArray 3 (0, 0))) := ⟨by have z := HS.out.lbk; rw [PSB.out.2.2.2.2.2.1] at z; exact z⟩
                have FIN := Aside0.mk (HPI.out.fin HF.out RCC.out)
                have HBW : Aside0 (Below w1.heap.size w1 wi) := ⟨HB2.out.trans (HFT.out.below HB2.out.size (fun k hk => by
                  have h2 := HS.out.sbb
                  have h3 := HS.out.row.brb
                  rw [PSB.out.2.2.2.2.2.2.2] at h2 h3
                  rcases hk with e | e | e | e | hz
                  · rw [e]; exact h2.1
                  · rw [e]; exact h2.2.1
                  · rw [e]; exact h2.2.2
                  · rw [e]; exact h3
                  · have := HS.out.zb k hz; rw [PSB.out.2.2.2.2.2.2.2] at this; exact this))⟩
                go_wp2_with fail
                refine CL.out.mono ?_
                rintro e w' ⟨rfl, rfl⟩
                go_wp2_with fail
                go_quiet (fail)
                go_wp2_with fail
                refine bodyPost_ret (results_tmp3 rfl _ _ _) rfl ?_
                exact ⟨below_then HB1.out HB1.out.size (pw_below_drewN HBW.out _), .inr ⟨HRB.out, lb, lv, work, by rw [Int.toNat_natCast]; rfl, LBK.out, by rw [Int.toNat_natCast]; exact FIN.out⟩⟩
              · have hxp : 0 < xs.length := by omega
                have hxi : (0 : Int) < (xs.length : Int) := by omega
                have h0n : 0 < nv := by omega
                have CP : Aside0 (Calls Try.prog 26 #[.iface 65 (.pointer (some ⟨rb, 0, none⟩))] wi fun e w' => ∃ x, e = .returned (.iface 3 (.int .i64 x)) ∧ ∃ v' ys, HR p.Z p.base p.rb v' ys w' ∧ (x :: ys).Perm xs ∧ Foot (RF p.Z p.rb) wi w') := ⟨by
                  have z := pop26 HS.out.row hxp (by omega)
                  have e : p.rb = rb := PSB.out.2.2.2.2.1
                  rw [e] at z ⊢
                  exact z⟩
                clear hxp
                go_wp2_with fail
                refine CL.out.mono ?_
                rintro e w' ⟨rfl, rfl⟩
                go_wp2_with fail
                refine CP.out.mono ?_
                rintro e w4 ⟨x, rfl, v4, ys, hr4, hp4, hf4⟩
                obtain ⟨g, hg, rfl, hpi4, hmu4⟩ := PI.pop HF.out HPI.out hp4
                have HS4 := Aside0.mk (HS.out.rowf (by rw [PSB.out.2.1]; exact h0n) hr4 hf4)
                have HF4 := Aside0.mk (SF.of_row HFT.out hf4)
                have HS5 := Aside0.mk (HS4.out.puty g false)
                have HF5 := Aside0.mk (HF4.out.setCell (p := ⟨p.yb, g, none⟩) (fun _ => .inr (.inr (.inl rfl))) (.bool false))
                have HPI5 := Aside0.mk hpi4.wj0
                have HMU := Aside0.mk hmu4
                have s4 : w4.cell? ⟨sb, 4, none⟩ = some (.slice (some ⟨yb, 0, none⟩) nv nv) := by have z := HS4.out.s4; rw [PSB.out.1, PSB.out.2.1, PSB.out.2.2.2.2.2.2.1] at z; exact z
                obtain ⟨y1, y2⟩ := HS4.out.yat g (by rw [PSB.out.2.1]; exact hg)
                rw [PSB.out.2.2.2.2.2.2.1] at y1 y2 HS5 HF5
                obtain ⟨w5, hw5⟩ : ∃ w5, w4.setCell ⟨yb, g, none⟩ (.bool false) = w5 := ⟨_, rfl⟩
                rw [hw5] at HS5 HF5
                have s2 : w5.cell? ⟨sb, 2, none⟩ = some (.slice (some ⟨ob, 0, none⟩) nv oc) := by have z := HS5.out.s2; rw [PSB.out.1, show p.vo = .slice (some ⟨ob, 0, none⟩) nv oc from by rw [HPP.out]] at z; exact z
                obtain ⟨B, cB, co, hCB⟩ := out_row (HOW.out w5 HF5.out) g hg
                have HCO : Aside0 (wb.cell? ⟨ob, g, none⟩ = some (.slice B (outAt cs g).length cB)) := ⟨by rw [← HOC.out w5 HF5.out g]; exact co⟩
                have hgi : (g : Int) < (nv : Int) := by omega
                have ta := ta3 (g : Int)
                have hol := outAt_len cs g
                have HG := Aside0.mk hg
                clear hr4 hp4 hf4 hpi4 hmu4 CP CL cb s3 hCB hg
                go_wp2_with fail
                clear ta y1 y2 s4 s2 co hw5
                go_loopw [110] (fun i wr => ∃ (j : Nat) (v : Value) (lv' : List Int) (rdy : List Bool) (xs' : List Int) (work : Int), i = .int .i64 j ∧ j ≤ (outAt cs g).length ∧ Aside0 (SS p v lv' rdy xs' work wr) ∧ Aside0 (PI n us rk nv cs (WJ cs g j) (negs cs) (((outAt cs g).length : Int) - j) lv' rdy xs' work) ∧ Aside0 (Foot (SF p) wb wr) ∧ Aside0 (Mu rk H nv lv' xs' ≤ Mu rk H nv lv ys)) (fun i _ => (outAt cs g).length - (intOf i).toNat)
                case atStart => exact ⟨0, _, _, _, _, _, rfl, Nat.zero_le _, HS5, ⟨by rw [Int.natCast_zero, Int.sub_zero]; exact HPI5.out⟩, HF5, ⟨Int.le_refl _⟩⟩
                case round =>
                  obtain ⟨j, v6, lv6, rdy6, xs6, work6, rfl, hj, HS6, HPI6, HF6, HM6⟩ := hrel
                  obtain ⟨wj, rfl⟩ : ∃ wj : World, wj = wr := ⟨_, rfl⟩
                  by_cases hlj : j < (outAt cs g).length
                  · obtain ⟨B2, cB2, co2, hC2⟩ := out_row (HOW.out wj HF6.out) g HG.out
                    rw [HOC.out wj HF6.out g, HCO.out] at co2
                    injection co2 with co2
                    injection co2 with eB _ eC
                    subst eB
                    obtain ⟨ad3, eA3, d3⟩ := Kd.at_int hC2 (j : Int) (by omega) (by omega)
                    subst eA3
                    rw [Int.toNat_natCast] at d3
                    have erd : rd (outAt cs g) (j : Nat) = (outAt cs g)[j] := by
                      unfold rd
                      rw [Int.toNat_natCast, List.getD_eq_getElem?_getD, List.getElem?_eq_getElem hlj]
                      rfl
                    obtain ⟨tx, htx, etx⟩ := W_ok RCC.out g HG.out (outAt cs g)[j] (List.getElem_mem hlj)
                    rw [erd, etx] at d3
                    have s1 : wj.cell? ⟨sb, 1, none⟩ = some (.slice (some ⟨lb, 0, none⟩) nv nv) := by have z := HS6.out.s1; rw [PSB.out.1, PSB.out.2.1, PSB.out.2.2.2.2.2.1] at z; exact z
                    have l1 := (HS6.out.lat g (by rw [PSB.out.2.1]; exact HG.out)).1
                    rw [PSB.out.2.2.2.2.2.1] at l1
                    have hvl6 := HPI6.out.lvv g HG.out
                    have hx6 := HPI6.out.xle
                    have hwb := HPI6.out.wbd HF.out RCC.out (by omega) hH hm (by have := negs_len cs; omega)
                    have hgn := HG.out
                    have CRS : Aside0 (Calls Try.prog 24 #[.pointer (some ⟨sb, 0, none⟩), .int .i64 tx, .int .i64 (rd lv6 g)] wj fun e w' => e = .returned (.tuple #[]) ∧ ∃ v' lv' rdy' xs', SS p v' lv' rdy' xs' (work6 + 1) w' ∧ Foot (SF p) wj w' ∧ Raised n us tx (rd lv6 g) lv6 rdy6 xs6 lv' rdy' xs') := ⟨by
                      have z := raise24 HS6.out tx (rd lv6 g) (by rw [PSB.out.2.1]; exact htx) (by rw [PSB.out.2.1]; omega) HPI6.out.w0 (by omega) (by omega)
                      rw [PSB.out.1, PSB.out.2.2.1, PSB.out.2.2.2.1] at z
                      exact z⟩
                    have HVL := Aside0.mk hvl6
                    have HTX := Aside0.mk htx
                    have ETX := Aside0.mk etx
                    have hgi2 : (g : Int) < (nv : Int) := by omega
                    clear hvl6 hx6 hwb hC2 eC erd etx htx
                    go_wp2_with fail
                    refine CRS.out.mono ?_
                    rintro e w7 ⟨rfl, v7, lv7, rdy7, xs7, hs7, hf7, hr7⟩
                    have hmem := List.getElem_mem hlj
                    obtain ⟨dc, hdc, e1, e0⟩ := outAt_mem hmem
                    obtain ⟨hpi7, hm7, hup7, hmu7⟩ := PI.raise HF.out HPI6.out (WJ_ok RCC.out g j) (D_ok RCC.out cs (fun c hc => hc)) HTX.out HVL.out (fun σ hσ => by
                      have h1 := hσ.2.2 dc hdc
                      rw [if_pos (by omega), e1, e0, ETX.out] at h1
                      exact HF.out.trans _ _ _ HVL.out (hσ.2.1 g hgn) (hσ.2.1 tx HTX.out) (HPI6.out.least σ hσ g hgn) h1) hr7
                    have hsame := Raised.same (v := g) (by rw [HPI6.out.ll]; exact HTX.out) hr7 (fun e => by rw [e]; exact HF.out.refl _ HVL.out)
                    have HPI7 : Aside0 (PI n us rk nv cs (WJ cs g (j + 1)) (negs cs) (((outAt cs g).length : Int) - ((j + 1 : Nat) : Int)) lv7 rdy7 xs7 (work6 + 1)) := ⟨by
                      rw [show ((outAt cs g).length : Int) - ((j + 1 : Nat) : Int) = ((outAt cs g).length : Int) - (j : Int) - 1 from by omega]
                      exact PI.next hlj hpi7 (by rw [hsame, ETX.out]; exact hm7)⟩
                    have HS7 := Aside0.mk hs7
                    have HF7 : Aside0 (Foot (SF p) wb w7) := ⟨HF6.out.trans hf7 (fun _ h _ => h)⟩
                    have HM7 : Aside0 (Mu rk H nv lv7 xs7 ≤ Mu rk H nv lv ys) := ⟨Int.le_trans hmu7 HM6.out⟩
                    clear hs7 hf7 hr7 hpi7 hm7 hup7 hmu7 hsame hmem hdc e1 e0 dc CRS s1 l1 d3
                    go_wp2_with fail
                    go_roundw
                    case rel => exact ⟨j + 1, v7, lv7, rdy7, xs7, work6 + 1, by go_num, hlj, HS7, HPI7, HF7, HM7⟩
                    case measure => simp [intOf]; omega
                  · have hje : j = (outAt cs g).length := by omega
                    subst hje
                    have HPI8 : Aside0 (PI n us rk nv cs (outAt cs) (negs cs) 0 lv6 rdy6 xs6 work6) := ⟨by
                      have z := HPI6.out.full
                      rw [Int.sub_self] at z
                      exact z⟩
                    have HME : Aside0 (MuW p rk H wj < MuW p rk H wi) := ⟨by
                      rw [MuW_is rk H HS6.out, MuW_is rk H HS.out, PSB.out.2.1]
                      have h1 := Mu_nonneg (xs := xs6) HF.out HPI8.out.lvv
                      have h2 := HM6.out
                      have h3 := HMU.out
                      omega⟩
                    go_wp2_with fail
                    go_roundw
                    case rel => exact ⟨v6, lv6, rdy6, xs6, work6, HS6, HPI8, HF6⟩
                    case measure => exact HME.out

end Go.Proofs.Ytpbaebjohioijaa.Lat
