import Derived.Test.YtogjcogejfidbaaC
import Derived.Test.YtogjcogejfidbaaFoot
namespace Go.Proofs.Ytogjcogejfidbaa.Heap
open Go.RowKit Go.Proofs.YtogjcogejfidbaaW.PrintWords Go.Proofs.YtogjcogejfidbaaW.PrintLast Go.Proofs.YtogjcogejfidbaaW.PrintMore Go.Proofs.Ytogjcogejfidbaa.PHeapSteps
set_option linter.unusedVariables false
set_option linter.unusedSimpArgs false

/-! ### Make -/
theorem make_neg (h : Addr) (t s f o : Int) (w : World) (ht : t < 0) :
    Calls Try.prog 9 #[.pointer (some h), .int .i64 t, .int .i64 s, .int .i64 f, .int .i64 o] w fun e w' => e = .returned (.tuple #[.int .i64 0, .bool false]) ∧ w = w' := by
  go_enter Try.func9, Try.ntmps9
  go_wp2_with (go_at_call 22; refine (of_neg _ _ _ ht).mono ?_; rintro e w' ⟨rfl, rfl⟩)
  go_ret2
  exact ⟨rfl, rfl⟩
theorem make_far (h : Addr) (A : Option Addr) (n c : Nat) (t s f o : Int) (w : World) (h0 : w.cell? h = some (.slice A n c)) (ht0 : ¬ t < 0) (ht : (n : Int) ≤ t) :
    Calls Try.prog 9 #[.pointer (some h), .int .i64 t, .int .i64 s, .int .i64 f, .int .i64 o] w fun e w' => e = .returned (.tuple #[.int .i64 0, .bool false]) ∧ w = w' := by
  go_enter Try.func9, Try.ntmps9
  go_wp2_with (go_at_call 22; refine (of_ge _ _ _ _ _ _ h0 ht0 ht).mono ?_; rintro e w' ⟨rfl, rfl⟩)
  go_ret2
  exact ⟨rfl, rfl⟩
theorem make_big (h : Addr) (ab n c : Nat) (A : Option Addr) (m c1 : Nat) (t s f o : Int) (w : World) (h0 : w.cell? h = some (.slice (some ⟨ab, 0, none⟩) n c)) (ht0 : ¬ t < 0) (ht : t < n)
    (h1 : w.cell? ⟨ab, t.toNat * 2, none⟩ = some (.slice A m c1)) (hm : m ≤ 64) (hs : s < 0 ∨ 64 - (m : Int) < s) :
    Calls Try.prog 9 #[.pointer (some h), .int .i64 t, .int .i64 s, .int .i64 f, .int .i64 o] w fun e w' => e = .returned (.tuple #[.int .i64 0, .bool false]) ∧ w = w' := by
  by_cases hs0 : s < 0
  · clear hs
    go_enter Try.func9, Try.ntmps9
    go_wp2_with (go_at_call 22; refine (of_yes _ _ _ _ _ _ h0 ht0 ht).mono ?_; rintro e w' ⟨rfl, rfl⟩)
    go_ret2
    exact ⟨rfl, rfl⟩
  · have hs1 : 64 - (m : Int) < s := by omega
    clear hs
    go_enter Try.func9, Try.ntmps9
    go_wp2_with (go_at_call 22; refine (of_yes _ _ _ _ _ _ h0 ht0 ht).mono ?_; rintro e w' ⟨rfl, rfl⟩)
    go_ret2
    exact ⟨rfl, rfl⟩
theorem make_zero (h : Addr) (ab n c : Nat) (A : Option Addr) (m c1 : Nat) (t f o : Int) (w : World) (h0 : w.cell? h = some (.slice (some ⟨ab, 0, none⟩) n c)) (ht0 : ¬ t < 0) (ht : t < n)
    (h1 : w.cell? ⟨ab, t.toNat * 2, none⟩ = some (.slice A m c1)) (hm : m ≤ 64) :
    Calls Try.prog 9 #[.pointer (some h), .int .i64 t, .int .i64 0, .int .i64 f, .int .i64 o] w fun e w' => e = .returned (.tuple #[.int .i64 0, .bool true]) ∧ w = w' := by
  have hm' : ¬ 64 - (m : Int) < 0 := by omega
  go_enter Try.func9, Try.ntmps9
  go_wp2_with (go_at_call 22; refine (of_yes _ _ _ _ _ _ h0 ht0 ht).mono ?_; rintro e w' ⟨rfl, rfl⟩)
  go_ret2
  exact ⟨rfl, rfl⟩

def ob (at_ s f o : Int) : S51 := ⟨at_, s, f, o⟩
/-- What Make leaves: the arena's two cells, its two rows; nothing else has turned. -/
structure Made (w w' : World) (base : Nat) (F : Nat → Prop) (ab t : Nat) (cs : Array Value) (v0 v1 : Value) (ws : List S46) (os : List S51) : Prop where
  out : ∃ v0' v1' : Value, w'.heap[ab]? = some (.cells ((cs.setIfInBounds (t * 2 + 1) v1').setIfInBounds (t * 2) v0') 65 (0, 0)) ∧
    k46.R 46 w' base (fun k => F k ∨ w.heap.size ≤ k) v0' ws ∧ k51.R 51 w' base (fun k => F k ∨ w.heap.size ≤ k) v1' os ∧
    (v0'.ownBlock = v0.ownBlock ∨ ∃ b, v0'.ownBlock = some b ∧ w.heap.size ≤ b) ∧ (v1'.ownBlock = v1.ownBlock ∨ ∃ b, v1'.ownBlock = some b ∧ w.heap.size ≤ b) ∧
    Foot (fun k => k = ab ∨ v0.ownBlock = some k ∨ v1.ownBlock = some k) w w'

set_option maxHeartbeats 1000000 in
theorem make_yes (h : Addr) (ab n c : Nat) (v0 v1 : Value) (cs : Array Value) (base : Nat) (F : Nat → Prop) (ws : List S46) (os : List S51) (t s f o : Int) (w : World)
    (h0 : w.cell? h = some (.slice (some ⟨ab, 0, none⟩) n c)) (ht0 : ¬ t < 0) (ht : t < n) (hn : n ≤ 4) (hcs : cs.size = n * 2) (hab : w.heap[ab]? = some (.cells cs 65 (0, 0)))
    (hv0 : cs[t.toNat * 2]? = some v0) (hv1 : cs[t.toNat * 2 + 1]? = some v1) (R0 : k46.R 46 w base F v0 ws) (R1 : k51.R 51 w base F v1 os) (hm : ws.length ≤ 64) (hmo : os.length ≤ 64) (hs0 : 0 < s) (hs1 : s ≤ 64 - (ws.length : Int)) (hbase : base ≤ w.heap.size) :
    Calls Try.prog 9 #[.pointer (some h), .int .i64 t, .int .i64 s, .int .i64 f, .int .i64 o] w fun e w' => e = .returned (.tuple #[.int .i64 (1 + t * 64 + ws.length), .bool true]) ∧
      Made w w' base F ab t.toNat cs v0 v1 (ws ++ List.replicate s.toNat z46) (os ++ [ob ws.length s f o]) := by
  have hsn : ¬ s < 0 := by omega
  have hsb : ¬ 64 - (ws.length : Int) < s := by omega
  have hse : ¬ s = 0 := by omega
  have hc0 : w.cell? ⟨ab, t.toNat * 2, none⟩ = some v0 := (blk_cell hab _).trans hv0
  have hc1 : w.cell? ⟨ab, t.toNat * 2 + 1, none⟩ = some v1 := (blk_cell hab _).trans hv1
  obtain ⟨A0, c0, rfl, hl0, hr0⟩ := Kd.R_reads R0
  obtain ⟨A1, c1, rfl, hl1, hr1⟩ := Kd.R_reads R1
  have HR0 := Aside0.mk R0
  have HR1 := Aside0.mk R1
  clear R0 R1 hr0 hr1
  have HA := Aside0.mk hab
  have HCS := Aside0.mk hcs
  have HV0 := Aside0.mk hv0
  have HV1 := Aside0.mk hv1
  clear hab hcs hv0 hv1
  have hablt := blk_lt HA.out
  have hd1 : decide (s < 0) = false := by simpa using hsn
  have hd2 : decide (64 - (ws.length : Int) < s) = false := by simpa using hsb
  have hd3 : (s == 0) = false := by simpa using hse
  go_enter Try.func9, Try.ntmps9
  go_wp2_with (first
    | (go_at_call 22; refine (of_yes _ _ _ _ _ _ h0 ht0 ht).mono ?_; rintro e w' ⟨rfl, rfl⟩)
    | (at_builtin; go_loud (refine Kd.R_append k51 base rfl (.tmp 44) (.tmp 50) 30 51 _ 32 rfl Try.underlying30 info51 rfl (by decide) (by decide) (.slice A1 os.length c1) os (ob ws.length s f o) [.int .i64 ws.length, .int .i64 s, .int .i64 f, .int .i64 o] (fun k => F k ∨ w.heap.size ≤ k) (fun _ => False) rfl rfl (k51_mkM _ _ _ _) (fun _ h => h.elim) (fun _ h => .inr h) (Kd.R_mono HR1.out (fun _ h => .inl h)) (Below.refl base w) hbase (by omega) ?_)))
  intro v1 w1 R1' _ hg1 hat1
  obtain ⟨A1', c1', he1, hl1', _⟩ := Kd.R_reads R1'
  obtain rfl : v1 = .slice A1' (os.length + 1) c1' := by rw [he1]; simp
  clear he1 hl1'
  have R1'' := Aside0.mk R1'
  clear R1'
  have hne1 : some ab ≠ (Value.slice A1 os.length c1).ownBlock := Kd.R_ne HR1.out HA.out (by decide)
  have hA1 := blk_grown HA.out hg1 hne1
  have R0' := Aside0.mk (Kd.R_over HR0.out HR1.out (by decide) hg1)
  have hx0 := (blk_cell hA1 (t.toNat * 2)).trans HV0.out
  have hx1 := (blk_cell hA1 (t.toNat * 2 + 1)).trans HV1.out
  have hf0 := blk_frozen hA1 (t.toNat * 2)
  have hf1 := blk_frozen hA1 (t.toNat * 2 + 1)
  have HA1 := Aside0.mk hA1
  have HG1 := Aside0.mk hg1
  have HAT1 := Aside0.mk hat1
  have HN1 := Aside0.mk hne1
  clear hA1 hg1 hat1 hne1 hc0 hc1
  have hsz := HG1.out.size
  have hzs : (w1.setCell ⟨ab, t.toNat * 2 + 1, none⟩ (.slice A1' (os.length + 1) c1')).heap.size = w1.heap.size := by simp [World.setCell]
  have HZ := Aside0.mk hzs
  clear hzs
  go_wp2_with (at_builtin; go_loud (refine Kd.R_append_zeros k46 base rfl (.tmp 58) (.tmp 59) 28 3 46 _ 16 rfl Try.underlying28 Try.underlying3 info46 rfl (by decide) (by decide) (.slice A0 ws.length c0) ws z46 s (fun k => F k ∨ w.heap.size ≤ k) rfl rfl (k46_mkM _ _ _ _) (fun k hk => .inr (by rw [HZ.out] at hk; omega)) (Kd.R_mono (Kd.R_set R0'.out HA1.out (by decide) _ _) (fun _ h => .inl h)) (by omega) (Below.refl base _) (by rw [HZ.out]; omega) (by omega) ?_))
  intro v2 w2 R2 _ hg2 hat2
  obtain ⟨A2, c2, he2, _, _⟩ := Kd.R_reads R2
  obtain rfl : v2 = .slice A2 (ws.length + s.toNat) c2 := by rw [he2]; simp
  clear he2
  have hA2' := blk_set HA1.out (t.toNat * 2 + 1) (.slice A1' (os.length + 1) c1')
  have hne2 : some ab ≠ (Value.slice A0 ws.length c0).ownBlock := Kd.R_ne HR0.out HA.out (by decide)
  have hA2 := blk_grown hA2' hg2 hne2
  have R2' := Aside0.mk R2
  have HG2 := Aside0.mk hg2
  have HAT2 := Aside0.mk hat2
  have HN2 := Aside0.mk hne2
  have R1b := Aside0.mk (Kd.R_over (Kd.R_set R1''.out HA1.out (by decide) (t.toNat * 2 + 1) (.slice A1' (os.length + 1) c1')) (Kd.R_set R0'.out HA1.out (by decide) (t.toNat * 2 + 1) (.slice A1' (os.length + 1) c1')) (by decide) hg2)
  clear R2 hg2 hat2 hne2 hA2' hx0 hx1 hf0 hf1
  have hlt : t.toNat * 2 + 1 < cs.size := by rw [HCS.out]; omega
  have hx0 := (blk_cell hA2 (t.toNat * 2))
  have hf0 := blk_frozen hA2 (t.toNat * 2)
  have hy0 : (cs.setIfInBounds (t.toNat * 2 + 1) (.slice A1' (os.length + 1) c1'))[t.toNat * 2]? = some (.slice A0 ws.length c0) := by
    rw [Array.getElem?_setIfInBounds_ne (by omega)]; exact HV0.out
  rw [hy0] at hx0
  have HA2 := Aside0.mk hA2
  clear hA2 hy0
  go_wp2
  go_ret2
  refine ⟨rfl, ⟨_, _, blk_set HA2.out (t.toNat * 2) _, Kd.R_set R2'.out HA2.out (by decide) _ _, Kd.R_set R1b.out HA2.out (by decide) _ _, ?_, HAT1.out, ?_⟩⟩
  · rcases HAT2.out with h | ⟨b, hb, hle⟩
    · exact .inl h
    · exact .inr ⟨b, hb, by omega⟩
  · refine ((((Foot.refl _ w).grown HG1.out (fun k hk _ => .inr (.inr hk))).setCell (fun _ => .inl rfl) _).grown HG2.out (fun k hk _ => .inr (.inl hk))).setCell (fun _ => .inl rfl) _
end Go.Proofs.Ytogjcogejfidbaa.Heap
