/- EnvBack holds of the program. No condition beyond the row's own: the listed variables read as the program's text lays them (the card ties them). -/
import Derived.Test.YtadlbegecgpaaaaDoorCards
import Derived.Test.YtadlbegecgpaaaaDoorTie
import Derived.Test.YtadlbegecgpaaaaDoorCL
import Derived.Test.YtadlbegecgpaaaaDoorPBack
namespace Go.Proofs.YtadlbegecgpaaaaDoor.cEnvBack
open Go Go.ChangeShapes Go.WideShapes Go.ChangeAt Go.RowKit Go.Proofs.YtadlbegecgpaaaaDoorW.PrintWords
open Go.ChangeMaps (open_string shut_string)
set_option linter.unusedVariables false
set_option maxRecDepth 100000
theorem own : ownKnob Tryd.prog.godebug = none := by kernel_rfl
theorem laidOut : laidOutB Tryd.prog = true := by kernel_rfl
theorem contract (H : Type) (enc : TypeId × Value → H) (W : World) (base : Nat) (args : Array Value) (ds gs : List (DataW H)) (before : List MemPlace)
    (hval : ∀ (j : Nat) t v, Tryd.f12.params[j]? = some t → args[j]? = some v → Value.okWide Tryd.prog W .any base t v)
    (hW : DataW.Whole enc Tryd.prog Tryd.f12.params.toList Rows.envBackSpec.vars false W args.toList ds gs before)
    (hsz : (DataW.weightsEach Tryd.prog (Tryd.f12.params.toList ++ (OpenSpec.ofChange Rows.envBackSpec).bare.plain.varTypes Tryd.prog) (ds ++ gs)).all (· ≤ reachBytes) = true) (hL : laidMetH Tryd.prog Rows.envBackRow.laid W) :
    Calls Tryd.prog 12 args W fun e W' => ∃ v, e = .returned v ∧ Rows.envBackSpec.post enc Tryd.prog Tryd.f12 false true false false W args v W' := by
  have hW' := hW
  obtain ⟨p, q, hA0, hV, rfl, hfz, hnd⟩ := hW
  have hA : DataW.TrodAll enc Tryd.prog W 0 (fun _ => true) true Tryd.f12.params.toList args.toList ds p := hA0
  rw [Tryd.params12] at hA hval hsz
  obtain ⟨v0, vs0, d0, ds0, p0, q0, hargs, rfl, rfl, h0, r0⟩ := trodAll_cons hA
  obtain ⟨v1, vs1, d1, ds1, p1, q1, rfl, rfl, rfl, h1, r1⟩ := trodAll_cons r0
  obtain ⟨rfl, rfl, rfl⟩ := trodAll_nil r1
  obtain rfl : args = #[v0, v1] := by cases args; simp_all
  obtain ⟨rfl, rfl⟩ := trodVars_none hV
  obtain ⟨a0, len0, cap0, rfl⟩ := okWide_slice Tryd.underlying22 (hval 0 22 v0 rfl rfl)
  have k0 := h0
  have lt0 : ∀ x ∈ p0, x.block < W.heap.size := by obtain ⟨m, hm⟩ := k0; exact DataW.trod_lt m _ _ _ hm
  obtain ⟨l0, hl0, hc0, hr0, hb0, hok0⟩ : ∃ l : List S.S63, len0 = l.length ∧ l.length ≤ cap0 ∧ Kd.C S.k63 W a0 l.length l ∧ l.length * 24 ≤ 140737488351232 ∧ ∀ b ∈ l, b.f0.size ≤ 140737488351232 ∧ (Lit.int .i64 b.f1).wf = true := by
    obtain ⟨m, hm⟩ := k0
    obtain ⟨l, ⟨A, c, hcs, hlc, hr⟩, hb, _, hok⟩ := (S.of_binds (enc := enc) (W := W)).get hm (fun n hn => by
      have := List.all_eq_true.1 hsz n (DataW.weights_mem_each (j := 0) rfl rfl n hn)
      simpa using this)
    simp [Value.cells] at hcs
    obtain ⟨rfl, rfl, rfl⟩ := hcs
    exact ⟨l, rfl, hlc, hr, hb, hok⟩
  subst hl0
  obtain ⟨a1, len1, cap1, rfl⟩ := okWide_slice Tryd.underlying22 (hval 1 22 v1 rfl rfl)
  have k1 := h1
  have lt1 : ∀ x ∈ p1, x.block < W.heap.size := by obtain ⟨m, hm⟩ := k1; exact DataW.trod_lt m _ _ _ hm
  obtain ⟨l1, hl1, hc1, hr1, hb1, hok1⟩ : ∃ l : List S.S63, len1 = l.length ∧ l.length ≤ cap1 ∧ Kd.C S.k63 W a1 l.length l ∧ l.length * 24 ≤ 140737488351232 ∧ ∀ b ∈ l, b.f0.size ≤ 140737488351232 ∧ (Lit.int .i64 b.f1).wf = true := by
    obtain ⟨m, hm⟩ := k1
    obtain ⟨l, ⟨A, c, hcs, hlc, hr⟩, hb, _, hok⟩ := (S.of_binds (enc := enc) (W := W)).get hm (fun n hn => by
      have := List.all_eq_true.1 hsz n (DataW.weights_mem_each (j := 1) rfl rfl n hn)
      simpa using this)
    simp [Value.cells] at hcs
    obtain ⟨rfl, rfl, rfl⟩ := hcs
    exact ⟨l, rfl, hlc, hr, hb, hok⟩
  subst hl1
  clear hA0 hval hsz
  have hLm : laidMet Tryd.prog Rows.envBackRow.laid W := hL
  have hLL := S.ghostL_of hLm (by simp [Rows.envBackRow]) (by simp [Rows.envBackRow])
  have hLU := S.ghostU_of hLm (by simp [Rows.envBackRow]) (by simp [Rows.envBackRow])
  have hLN := S.ghostN_of hLm (by simp [Rows.envBackRow])
  refine (S.sorrellaw07_EnvBack.calls (l0.length + l1.length + 300) a0 cap0 l0 a1 cap1 l1 true W hr0 hc0 hr1 hc1 (S.ghostL_mk hLL) (S.ghostU_mk hLU) (S.ghostN_mk hLN) (S.EnvBack_pure l0 l1 (by omega) (by omega) (fun b hb => ⟨(hok0 b hb).1, S.wf_i64 (hok0 b hb).2⟩) (fun b hb => ⟨(hok1 b hb).1, S.wf_i64 (hok1 b hb).2⟩) _ (by omega))).mono fun e W' ⟨he, bel⟩ => ?_
  subst he
  exact ⟨_, rfl, _, _, _, [], _, [], hW', trodAll_mk1 (shut_bool Tryd.underlying4 _), (trodAll_cons_mk (Below.trod laidOut (by kernel_rfl) (of_decide_eq_true (by kernel_rfl)) k0 bel lt0) (trodAll_cons_mk (Below.trod laidOut (by kernel_rfl) (of_decide_eq_true (by kernel_rfl)) k1 bel lt1) trodAll_mk0)), rfl, bel.frame _, fun h => by cases h⟩
/-- A world for the witness: the settled one, the listed variables holding what the program's text lays. -/
def setBlk (cs : Array Value) : Obj → Obj
  | .cells _ t frozen => .cells cs t frozen
  | o => o
def flat : Nat → DataW Unit → List Value
  | 0, _ => []
  | n + 1, .agg ds => ds.flatMap (flat n)
  | _ + 1, .lit (.int k z) => [.int k z]
  | _ + 1, _ => []
noncomputable def laidWorld (os : Os) (i : Input) : World :=
  { World.holding Tryd.prog os i with heap := ((((((((World.holding Tryd.prog os i).heap.modify 0 (setBlk (S.lettersT.flatMap fun p => [Value.int .i32 p.1, Value.int .i32 p.2]).toArray)).modify 1 (setBlk #[.int .i32 48, .int .i32 1632, .int .i32 65296])).modify 2 (setBlk (flat 3 Rows.laid_unicode_utf8_first).toArray)).modify 3 (setBlk (flat 3 Rows.laid_unicode_utf8_acceptRanges).toArray)).modify 4 (setBlk (flat 3 Rows.laid_internal_strconv_uint64pow10).toArray)).modify 6 (setBlk (flat 3 Rows.laid_math_bits_deBruijn32tab).toArray)).modify 7 (setBlk (flat 3 Rows.laid_math_bits_deBruijn64tab).toArray)) }
noncomputable def wArgs : Array Value := #[.slice none 0 0, .slice none 0 0]
theorem laid_met (os : Os) : laidMet Tryd.prog Rows.envBackRow.laid ((laidWorld os ⟨#[], #[], []⟩).forCall (fun _ _ => 0) ⟨#[], wArgs, []⟩).memory :=
  laidMet_of_run' 8 (by kernel_rfl) (by kernel_rfl)
theorem reads (os : Os) {H : Type} (enc : TypeId × Value → H) : ∃ places, DataW.whole enc Tryd.prog ((laidWorld os ⟨#[], #[], []⟩).forCall (fun _ _ => 0) ⟨#[], wArgs, []⟩).memory Tryd.f12.params.toList Rows.envBackSpec.vars false wArgs.toList 8 = some ([.nil, .nil], [], places) :=
  ⟨[], by kernel_rfl⟩
theorem lifted (os : Os) (started : os.Started) (H : Type) (enc : TypeId × Value → H) (F : Stop.Interp) :
    ReturnsInHanded {} Tryd.checked os 12 .any ((OpenSpec.ofChange Rows.envBackSpec).preRow enc Tryd.prog Tryd.f12 Rows.envBackRow.domain false Rows.envBackRow.laid) (((OpenSpec.ofChange Rows.envBackSpec).at F).post enc Tryd.prog Tryd.f12 false true false false) := by
  obtain ⟨places, hx⟩ := reads os enc
  refine returnsInHanded_of_row (C := Tryd.checked) (s := OpenSpec.ofChange Rows.envBackSpec) own started (by kernel_rfl) Tryd.func12
    (witness_row_at (enc := enc) (C := Tryd.checked) false (laidWorld os ⟨#[], #[], []⟩) wArgs rfl (by kernel_rfl) (by kernel_rfl) (by kernel_rfl)
      (OpenSpec.preRow_of_cond 8 hx (by kernel_rfl) (fun k hk => by cases hk) (by kernel_rfl) (laid_met os))) ?_
  intro W base args ds gs before hval hW _ _ hsz hL _ _
  exact contract H enc W base args ds gs before hval hW hsz hL
theorem said : Rows.EnvBackSaid :=
  OpenClaim.holds_of_cond 12 Tryd.f12 rfl rfl rfl rfl rfl rfl rfl ⟨rfl, rfl, rfl, rfl, rfl⟩ rfl rfl rfl rfl rfl (by kernel_rfl) Tryd.func12 (by kernel_rfl)
    (of_decide_eq_true (by kernel_rfl)) (by unfold Func.isWrapper; first | (rw [if_pos (by decide +kernel)]; kernel_rfl) | (rw [if_neg (by decide +kernel)]; exact ⟨rfl, rfl⟩))
    (fun os started H enc _ F => by rw [OpenClaim.pre_eq_preRow]; exact lifted os started H enc F)
theorem plain (f : FuncId) (fn : Func) (hf : Tryd.pinned.checked.prog.funcNamed "sorrel/sorrellaw07.EnvBack" = some f) (hfn : Tryd.pinned.checked.prog.funcs[f]? = some fn) :
    true = Tryd.pinned.checked.prog.looks [] ∧ ∀ (j : Nat) t, fn.params[j]? = some t → Tryd.pinned.checked.prog.wantsStandIn t = false := by
  obtain rfl : f = 12 := Option.some.inj ((show Tryd.prog.funcNamed "sorrel/sorrellaw07.EnvBack" = some 12 by kernel_rfl).symm.trans hf) |>.symm
  obtain rfl : fn = Tryd.f12 := (Option.some.inj (Tryd.func12.symm.trans hfn)).symm
  refine ⟨by kernel_rfl, fun j t ht => ?_⟩
  rw [Tryd.params12] at ht
  have hm : t = 22 := by
    have := Array.mem_of_getElem? ht
    simp at this
    omega
  rcases hm with rfl
  exact (show Tryd.prog.wantsStandIn 22 = false by kernel_rfl)
theorem card : Rows.EnvBackCardSaid :=
  Claim7.holds_tied_plain_at .later [] _ _ _ _ said (fun _ h => by cases h) (by kernel_rfl) (fun _ h => by cases h) envBack_row_tie rfl ⟨rfl, rfl⟩ (by kernel_rfl) rfl plain (by kernel_rfl)
end Go.Proofs.YtadlbegecgpaaaaDoor.cEnvBack
namespace Go.Proofs.YtadlbegecgpaaaaDoor
/-- The card, under a short name, for the claim. -/
theorem envBack_card : Rows.EnvBackCardSaid := cEnvBack.card
end Go.Proofs.YtadlbegecgpaaaaDoor
