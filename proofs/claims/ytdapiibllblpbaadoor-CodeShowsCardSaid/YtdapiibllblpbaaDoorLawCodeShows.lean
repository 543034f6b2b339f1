/- The law CodeShows: for every input it returns true, and the input reads as it did: the given row, out of the walk; then the tied card. No condition. -/
import Derived.Test.YtdapiibllblpbaaDoorRows
import Derived.Test.YtdapiibllblpbaaDoorTie
import Derived.Test.YtdapiibllblpbaaDoorCards
import Derived.Test.YtdapiibllblpbaaDoorV
import Derived.Test.YtdapiibllblpbaaDoorSJ
import Derived.WalkKit
import Derived.ProofKit
import Derived.OpenShut
import Derived.ShutString
import Derived.ChangeOld
import Derived.Below
import Derived.SizedLaws
import Derived.Lib.LaidIn
import Derived.Lib.LaidU8
import Derived.Lib.LaidTab
import Derived.Lib.TrailingZeros
import Derived.Deep.DeepHandedRow
import Derived.Deep.DeepWitnessRowRef
import Derived.SevenTiedAt
namespace Go.Proofs.YtdapiibllblpbaaDoor.codeShows
open Go.ChangeShapes Go.WideShapes Go.ChangeAt Go.RowKit Go.Lib Go.Proofs.YtdapiibllblpbaaDoor.Code
open Go.ChangeMaps (open_string shut_string)
set_option linter.unusedVariables false
theorem own : ownKnob Tryd.prog.godebug = none := by kernel_rfl
theorem laidOut : laidOutB Tryd.prog = true := by kernel_rfl
/-- The witness: the settled world, the three tables holding what their initialisers lay. -/
noncomputable def laidWorld (os : Os) : World :=
  let w0 := World.holding Tryd.prog os ⟨#[], #[], []⟩
  let put (h : Array Obj) (g : Nat) (cs : Array Value) : Array Obj := h.modify g fun
    | .cells _ t frozen => .cells cs t frozen
    | o => o
  let h1 := put w0.heap 0 (Lib.pow10Tab.map fun z => Value.int .u64 z).toArray
  let h2 := put h1 2 (Lib.deBruijn32tab.map fun (z : Nat) => Value.int .u8 z).toArray
  let h3 := put h2 3 (Lib.deBruijn64tab.map fun (z : Nat) => Value.int .u8 z).toArray
  { w0 with heap := h3 }
theorem laid_met (os : Os) (args : Array Value) : laidMet Tryd.prog Rows.codeShowsRow.laid ((laidWorld os).forCall (fun _ _ => 0) ⟨#[], args, []⟩).memory :=
  (LaidIn.of_run (l := Rows.codeShowsRow.laid) [2, 3, 0] 8 (by kernel_rfl) (by kernel_rfl) (by kernel_rfl) (by kernel_rfl)).met
theorem pow10_of {W : World} (h : laidMet Tryd.prog Rows.codeShowsRow.laid W) : Pow10 W := by
  obtain ⟨g, t, cs, fuel, p, hg, ht, hv, hd⟩ := laidMet.reads h (n := "internal/strconv.uint64pow10") (d := Rows.laid_internal_strconv_uint64pow10) (by simp [Rows.codeShowsRow])
  obtain rfl : g = 0 := Option.some.inj (hg.symm.trans (by kernel_rfl))
  obtain rfl : t = 102 := Option.some.inj (ht.symm.trans (by kernel_rfl))
  have hdd : DataW.trod (fun _ => ()) Tryd.prog W 0 (fun _ => true) false fuel 102 cs.toList = some (Lib.tabData .u64 Lib.pow10Tab, p) := hd.trans (by kernel_rfl)
  have := Lib.cells_of_tab (n := 20) (e := 94) (by kernel_rfl) (by kernel_rfl) (by kernel_rfl) (by kernel_rfl) hdd
  unfold Pow10 Lib.TabIs
  rw [hv, ← this]
theorem witness_row (os : Os) {H : Type} (enc : TypeId × Value → H) :
    (OpenSpec.ofChange Rows.codeShowsSpec).preRow enc Tryd.prog Tryd.f4 Rows.codeShowsRow.domain false Rows.codeShowsRow.laid ((laidWorld os).forCall (fun _ _ => 0) ⟨#[], #[.agg #[.slice none 0 0, .slice none 0 0, .slice none 0 0, .slice none 0 0, .slice none 0 0, .slice none 0 0, .slice none 0 0, .slice none 0 0, .slice none 0 0]], []⟩).memory #[.agg #[.slice none 0 0, .slice none 0 0, .slice none 0 0, .slice none 0 0, .slice none 0 0, .slice none 0 0, .slice none 0 0, .slice none 0 0, .slice none 0 0]] := by
  have hw : (DataW.whole enc Tryd.prog ((laidWorld os).forCall (fun _ _ => 0) ⟨#[], #[.agg #[.slice none 0 0, .slice none 0 0, .slice none 0 0, .slice none 0 0, .slice none 0 0, .slice none 0 0, .slice none 0 0, .slice none 0 0, .slice none 0 0]], []⟩).memory Tryd.f4.params.toList (OpenSpec.ofChange Rows.codeShowsSpec).vars false (#[.agg #[.slice none 0 0, .slice none 0 0, .slice none 0 0, .slice none 0 0, .slice none 0 0, .slice none 0 0, .slice none 0 0, .slice none 0 0, .slice none 0 0]] : Array Value).toList 8).map (fun x => (x.1, x.2.1)) =
      some ([.agg [.nil, .nil, .nil, .nil, .nil, .nil, .nil, .nil, .nil]], []) := by kernel_rfl
  obtain ⟨⟨x1, x2, x3⟩, hx, hx1⟩ := Option.map_eq_some_iff.1 hw
  simp only [Prod.mk.injEq] at hx1
  obtain ⟨rfl, rfl⟩ := hx1
  exact OpenSpec.preRow_of_cond 8 hx (by kernel_rfl) (fun k hk => by cases hk) (by kernel_rfl) (laid_met os _)
set_option maxRecDepth 100000 in
set_option maxHeartbeats 2000000 in
theorem lifted (os : Os) (started : os.Started) (H : Type) (enc : TypeId × Value → H) (F : Stop.Interp) :
    ReturnsInHanded {} Tryd.checked os 4 .any ((OpenSpec.ofChange Rows.codeShowsSpec).preRow enc Tryd.prog Tryd.f4 Rows.codeShowsRow.domain false Rows.codeShowsRow.laid) (((OpenSpec.ofChange Rows.codeShowsSpec).at F).post enc Tryd.prog Tryd.f4 false true false false) := by
  refine returnsInHanded_of_row (C := Tryd.checked) (s := (OpenSpec.ofChange Rows.codeShowsSpec)) own started (by kernel_rfl) Tryd.func4
    (witness_row_atRef (enc := enc) (C := Tryd.checked) false (laidWorld os) #[.agg #[.slice none 0 0, .slice none 0 0, .slice none 0 0, .slice none 0 0, .slice none 0 0, .slice none 0 0, .slice none 0 0, .slice none 0 0, .slice none 0 0]] rfl (by kernel_rfl) (by kernel_rfl) (by kernel_rfl) (witness_row os enc)) ?_
  intro W base args ds gs before hval0 hW _ _ hsz0 hL hsh _
  have hsz : (DataW.weightsEach Tryd.prog (Tryd.f4.params.toList ++ (OpenSpec.ofChange Rows.codeShowsSpec).bare.plain.varTypes Tryd.prog) (ds ++ gs)).all (· ≤ reachBytes) = true := hsz0
  have hval : ∀ (j : Nat) t v, Tryd.f4.params[j]? = some t → args[j]? = some v → Value.okWide Tryd.prog W .any base t v := hval0
  have hW' := hW
  obtain ⟨p, q, hA0, hV, rfl, _, _⟩ := hW
  have hA : DataW.TrodAll enc Tryd.prog W 0 (fun _ => true) true Tryd.f4.params.toList args.toList ds p := hA0
  rw [Tryd.params4] at hA hval hsz
  obtain ⟨v0, vs0, d0, ds0, p0, q0, hargs, rfl, rfl, h0, r0⟩ := trodAll_cons hA
  obtain ⟨rfl, rfl, rfl⟩ := trodAll_nil r0
  obtain rfl : args = #[v0] := by cases args; simp_all
  obtain ⟨rfl, rfl⟩ := trodVars_none hV
  have k0 := h0
  have lt0 : ∀ x ∈ p0, x.block < W.heap.size := by obtain ⟨m, hm⟩ := k0; exact DataW.trod_lt m _ _ _ hm
  have hwt : ∀ n ∈ d0.weights Tryd.prog 27, n ≤ reachBytes := fun n hn => of_decide_eq_true (List.all_eq_true.1 hsz n (DataW.weights_mem_each (j := 0) (t := 27) (d := d0) rfl rfl n hn))
  obtain ⟨mr, mm, rfl, hmC, hmK, hmL, hmI⟩ := arg_module (hval 0 27 v0 rfl rfl) h0 hwt
  have ht10 : Pow10 W := pow10_of hL
  clear hA0 hval0 hsz0 hsz
  refine (shows_any mm mr W hmC hmK hmL hmI ht10 ).mono fun e W' ⟨he, bel⟩ => ?_
  subst he
  exact ⟨_, rfl, _, _, _, [], _, [], hW', trodAll_mk1 (shut_bool Tryd.underlying4 _), (trodAll_cons_mk (Below.trod laidOut (by kernel_rfl) (of_decide_eq_true (by kernel_rfl)) k0 bel lt0) trodAll_mk0), rfl, bel.frame _, fun h => by cases h⟩
theorem over : Rows.CodeShowsSaid :=
  OpenClaim.holds_of_cond 4 Tryd.f4 rfl rfl rfl rfl rfl rfl rfl ⟨rfl, rfl, rfl, rfl, rfl⟩ rfl rfl rfl rfl rfl (by kernel_rfl) Tryd.func4 (by kernel_rfl)
    (of_decide_eq_true (by kernel_rfl)) (by unfold Func.isWrapper; first | (rw [if_pos (by decide +kernel)]; kernel_rfl) | (rw [if_neg (by decide +kernel)]; exact ⟨rfl, rfl⟩))
    (fun os started H enc _ F0 => by rw [OpenClaim.pre_eq_preRow]; exact lifted os started H enc F0)
theorem proved : Rows.CodeShowsCardSaid :=
  Claim7.holds_tied_plain_at .later [] [.data, .data, .data] true (true, "a10d14bd31ce332ab7754a4659aeb050d60062314594b17949934f054efb2f35") true
    over (fun _ h => by cases h) (by kernel_rfl) (fun _ h => by cases h) codeShows_row_tie rfl ⟨rfl, rfl⟩ (by kernel_rfl) rfl
    (fun f fn hf hfn => by
      obtain rfl : f = 4 := Option.some.inj ((show Tryd.prog.funcNamed Rows.codeShowsRow.func = some 4 by kernel_rfl).symm.trans hf) |>.symm
      obtain rfl : fn = Tryd.f4 := (Option.some.inj (Tryd.func4.symm.trans hfn)).symm
      exact ⟨by kernel_rfl, fun j t ht => by
        rw [Tryd.params4] at ht
        cases j with
        | zero =>
          have h3 : t = 27 := by simpa using ht.symm
          subst h3
          exact (show Tryd.prog.wantsStandIn 27 = false by kernel_rfl)
        | succ j =>
          simp at ht⟩)
    (by kernel_rfl)
#print axioms proved
end Go.Proofs.YtdapiibllblpbaaDoor.codeShows
namespace Go.Proofs.YtdapiibllblpbaaDoor
theorem codeShows_holds : Rows.CodeShowsCardSaid := codeShows.proved
end Go.Proofs.YtdapiibllblpbaaDoor

