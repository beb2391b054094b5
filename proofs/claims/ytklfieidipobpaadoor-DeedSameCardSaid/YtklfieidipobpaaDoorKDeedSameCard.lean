/- Whatever the setups: the law of same setups returns true. -/
import Derived.Test.YtklfieidipobpaaDoorKDeedJ
import Derived.Test.YtklfieidipobpaaDoorCards
import Derived.Test.YtklfieidipobpaaDoorJuH
import Derived.WalkKit
import Derived.ProofKit
import Derived.OpenShut
import Derived.ShutString
import Derived.ChangeOld
import Derived.Below
import Derived.SizedLaws
import Derived.Deep.DeepHandedRow
import Derived.Deep.DeepWitnessRowRef
import Derived.MakeChecks
set_option linter.unusedVariables false
set_option linter.unusedSimpArgs false
set_option linter.unnecessarySimpa false
set_option linter.unusedSectionVars false
set_option linter.all false
/- Whatever the setups: the law of same setups returns true. -/
namespace Go.Proofs.YtklfieidipobpaaDoor
open Go.V Go.Num
set_option maxRecDepth 100000
set_option maxHeartbeats 4000000
namespace deedSame
open Go.ChangeShapes Go.WideShapes Go.ChangeAt Go.RowKit Go.Eng Go.V
open Go.ChangeMaps (open_string shut_string)
theorem own : ownKnob Tryd.prog.godebug = none := by kernel_rfl
theorem laidOut : laidOutB Tryd.prog = true := by kernel_rfl
theorem contract (H : Type) (enc : TypeId × Value → H) (W : World) (base : Nat) (args : Array Value) (ds gs : List (DataW H)) (before : List MemPlace)
    (hval0 : ∀ (j : Nat) t v, Tryd.f8.params[j]? = some t → args[j]? = some v → Value.okWide Tryd.prog W .any base t v)
    (hW : DataW.Whole enc Tryd.prog Tryd.f8.params.toList Rows.deedSameSpec.vars false W args.toList ds gs before)
    (hsz : (DataW.weightsEach Tryd.prog (Tryd.f8.params.toList ++ Rows.deedSameSpec.plain.varTypes Tryd.prog) (ds ++ gs)).all (· ≤ reachBytes) = true)
    (hL : laidMet Tryd.prog Rows.deedSameRow.laid W) (hS : W.ShapedOpen Tryd.prog) :
    Calls Tryd.prog 8 args W fun e W' => ∃ v, e = .returned v ∧ Rows.deedSameSpec.post enc Tryd.prog Tryd.f8 false true false false W args v W' := by
  have hG : Glob (immOf W) := Txt.glob_laid hL hS (by simp [Rows.deedSameRow]) (by simp [Rows.deedSameRow]) (by simp [Rows.deedSameRow])
  have hval : ∀ (j : Nat) t v, Tryd.f8.params[j]? = some t → args[j]? = some v → Value.okWide Tryd.prog W .any base t v := hval0
  have hW' := hW
  obtain ⟨p, q, hA0, hV, rfl, hfz, hnd⟩ := hW
  have hA : DataW.TrodAll enc Tryd.prog W 0 (fun _ => true) true Tryd.f8.params.toList args.toList ds p := hA0
  rw [Tryd.params8] at hA hval hsz
  obtain ⟨v0, vs0, d0, ds0, p0, q0, hargs, rfl, rfl, h0, r0⟩ := trodAll_cons hA
  obtain ⟨v1, vs1, d1, ds1, p1, q1, rfl, rfl, rfl, h1, r1⟩ := trodAll_cons r0
  obtain ⟨rfl, rfl, rfl⟩ := trodAll_nil r1
  obtain rfl : args = #[v0, v1] := by cases args; simp_all
  obtain ⟨rfl, rfl⟩ := trodVars_none hV
  have k0 := h0
  have lt0 : ∀ x ∈ p0, x.block < W.heap.size := by obtain ⟨m, hm⟩ := k0; exact DataW.trod_lt m _ _ _ hm
  obtain ⟨c0, rfl, _⟩ := okWide_struct Tryd.underlying41 (hval 0 41 v0 rfl rfl)
  obtain ⟨a0, e0, ok0⟩ := FitsD.argS (FitsD.struct (sz := 7) Tryd.underlying41 rfl (FitsDL.cons (s1 := 1) (s2 := 6) rfl rfl rfl (FitsD.int Tryd.underlying3) (FitsDL.cons (s1 := 1) (s2 := 5) rfl rfl rfl (FitsD.int Tryd.underlying3) (FitsDL.cons (s1 := 1) (s2 := 4) rfl rfl rfl (FitsD.int Tryd.underlying3) (FitsDL.cons (s1 := 4) (s2 := 0) rfl rfl rfl (FitsD.struct (sz := 4) Tryd.underlying39 rfl (FitsDL.cons (s1 := 1) (s2 := 3) rfl rfl rfl (FitsD.int Tryd.underlying3) (FitsDL.cons (s1 := 1) (s2 := 2) rfl rfl rfl (FitsD.int Tryd.underlying3) (FitsDL.cons (s1 := 1) (s2 := 1) rfl rfl rfl (FitsD.int Tryd.underlying3) (FitsDL.cons (s1 := 1) (s2 := 0) rfl rfl rfl (FitsD.slice 8 Tryd.underlying37 rfl rfl (FitsD.int Tryd.underlying3)) (FitsDL.nil rfl)))))) (FitsDL.nil rfl)))))) h0 hsz (j := 0) rfl rfl
  have k1 := h1
  have lt1 : ∀ x ∈ p1, x.block < W.heap.size := by obtain ⟨m, hm⟩ := k1; exact DataW.trod_lt m _ _ _ hm
  obtain ⟨c1, rfl, _⟩ := okWide_struct Tryd.underlying41 (hval 1 41 v1 rfl rfl)
  obtain ⟨a1, e1, ok1⟩ := FitsD.argS (FitsD.struct (sz := 7) Tryd.underlying41 rfl (FitsDL.cons (s1 := 1) (s2 := 6) rfl rfl rfl (FitsD.int Tryd.underlying3) (FitsDL.cons (s1 := 1) (s2 := 5) rfl rfl rfl (FitsD.int Tryd.underlying3) (FitsDL.cons (s1 := 1) (s2 := 4) rfl rfl rfl (FitsD.int Tryd.underlying3) (FitsDL.cons (s1 := 4) (s2 := 0) rfl rfl rfl (FitsD.struct (sz := 4) Tryd.underlying39 rfl (FitsDL.cons (s1 := 1) (s2 := 3) rfl rfl rfl (FitsD.int Tryd.underlying3) (FitsDL.cons (s1 := 1) (s2 := 2) rfl rfl rfl (FitsD.int Tryd.underlying3) (FitsDL.cons (s1 := 1) (s2 := 1) rfl rfl rfl (FitsD.int Tryd.underlying3) (FitsDL.cons (s1 := 1) (s2 := 0) rfl rfl rfl (FitsD.slice 8 Tryd.underlying37 rfl rfl (FitsD.int Tryd.underlying3)) (FitsDL.nil rfl)))))) (FitsDL.nil rfl)))))) h1 hsz (j := 1) rfl rfl
  refine (Ct.lawG hG (Txt.same_law (⟨a0.1, a0.2.1, a0.2.2.1, a0.2.2.2.1.1, a0.2.2.2.1.2.1, a0.2.2.2.1.2.2.1, a0.2.2.2.1.2.2.2.1⟩ : Txt.Su) (⟨a1.1, a1.2.1, a1.2.2.1, a1.2.2.2.1.1, a1.2.2.2.1.2.1, a1.2.2.2.1.2.2.1, a1.2.2.2.1.2.2.2.1⟩ : Txt.Su) (Txt.suIn_mk ok0.1 ok0.2.1 ok0.2.2.1 ok0.2.2.2.1.1 ok0.2.2.2.1.2.1 ok0.2.2.2.1.2.2.1 ok0.2.2.2.1.2.2.2.1.2) (Txt.suIn_mk ok1.1 ok1.2.1 ok1.2.2.1 ok1.2.2.2.1.1 ok1.2.2.2.1.2.1 ok1.2.2.2.1.2.2.1 ok1.2.2.2.1.2.2.2.1.2)) (.cons e0 (.cons e1 .nil))).mono fun e W' ⟨he, bel⟩ => ?_
  subst he
  exact ⟨_, rfl, _, _, _, [], _, [], hW', trodAll_mk1 (shut_bool Tryd.underlying4 _), (trodAll_cons_mk (Below.trod laidOut (by kernel_rfl) (of_decide_eq_true (by kernel_rfl)) k0 bel lt0) (trodAll_cons_mk (Below.trod laidOut (by kernel_rfl) (of_decide_eq_true (by kernel_rfl)) k1 bel lt1) trodAll_mk0)), rfl, bel.frame _, fun h => by cases h⟩
theorem lifted (os : Os) (started : os.Started) (H : Type) (enc : TypeId × Value → H) (F : Stop.Interp) :
    ReturnsInHanded {} Tryd.checked os 8 .any ((OpenSpec.ofChange Rows.deedSameSpec).preRow enc Tryd.prog Tryd.f8 Rows.deedSameRow.domain false Rows.deedSameRow.laid) (((OpenSpec.ofChange Rows.deedSameSpec).at F).post enc Tryd.prog Tryd.f8 false true false false) := by
  have hx : ∃ places, DataW.whole enc Tryd.prog ((World.laidAll Tryd.prog os Rows.deedSameRow.laid).forCall (fun _ _ => 0) ⟨#[], #[Value.agg #[.int .i64 0, .int .i64 0, .int .i64 0, .int .i64 0, .int .i64 0, .int .i64 0, .slice none 0 0], .agg #[.int .i64 0, .int .i64 0, .int .i64 0, .int .i64 0, .int .i64 0, .int .i64 0, .slice none 0 0]], []⟩).memory Tryd.f8.params.toList Rows.deedSameSpec.vars false (#[Value.agg #[.int .i64 0, .int .i64 0, .int .i64 0, .int .i64 0, .int .i64 0, .int .i64 0, .slice none 0 0], .agg #[.int .i64 0, .int .i64 0, .int .i64 0, .int .i64 0, .int .i64 0, .int .i64 0, .slice none 0 0]] : Array Value).toList 8 = some ([.agg [.lit (.int .i64 0), .lit (.int .i64 0), .lit (.int .i64 0), .agg [.lit (.int .i64 0), .lit (.int .i64 0), .lit (.int .i64 0), .nil]], .agg [.lit (.int .i64 0), .lit (.int .i64 0), .lit (.int .i64 0), .agg [.lit (.int .i64 0), .lit (.int .i64 0), .lit (.int .i64 0), .nil]]], [], places) := ⟨[], by kernel_rfl⟩
  obtain ⟨places, hx⟩ := hx
  refine returnsInHanded_of_row (C := Tryd.checked) (s := OpenSpec.ofChange Rows.deedSameSpec) own started (by kernel_rfl) Tryd.func8
    (witness_row_atRef (enc := enc) (C := Tryd.checked) false (World.laidAll Tryd.prog os Rows.deedSameRow.laid) #[Value.agg #[.int .i64 0, .int .i64 0, .int .i64 0, .int .i64 0, .int .i64 0, .int .i64 0, .slice none 0 0], .agg #[.int .i64 0, .int .i64 0, .int .i64 0, .int .i64 0, .int .i64 0, .int .i64 0, .slice none 0 0]] (World.laidAll_os _ _ _) (by kernel_rfl) (by kernel_rfl) (by kernel_rfl)
      (OpenSpec.preRow_of_cond 8 hx (by kernel_rfl) (fun k hk => by cases hk) (by kernel_rfl) (by rw [MakeChecks.laidMetH_plain _ _ _ (by kernel_rfl)]; exact Txt.laid_lines os _))) ?_
  intro W base args ds gs before hval hW _ hcond hsz hL hS _
  rw [MakeChecks.laidMetH_plain _ _ _ (by kernel_rfl)] at hL
  exact contract H enc W base args ds gs before hval hW hsz hL hS
theorem said : Rows.DeedSameSaid :=
  OpenClaim.holds_of_cond 8 Tryd.f8 rfl rfl rfl rfl rfl rfl rfl ⟨rfl, rfl, rfl, rfl, rfl⟩ rfl rfl rfl rfl rfl (by kernel_rfl) Tryd.func8 (by kernel_rfl)
    (of_decide_eq_true (by kernel_rfl)) (by unfold Func.isWrapper; first | (rw [if_pos (by decide +kernel)]; kernel_rfl) | (rw [if_neg (by decide +kernel)]; exact ⟨rfl, rfl⟩))
    (fun os started H enc _ F => by rw [OpenClaim.pre_eq_preRow]; exact lifted os started H enc F)
theorem plain (f : FuncId) (fn : Func) (hf : Tryd.pinned.checked.prog.funcNamed "offertory/offertorylaw30.DeedSame" = some f) (hfn : Tryd.pinned.checked.prog.funcs[f]? = some fn) :
    true = Tryd.pinned.checked.prog.looks [] ∧ ∀ (j : Nat) t, fn.params[j]? = some t → Tryd.pinned.checked.prog.wantsStandIn t = false := by
  obtain rfl : f = 8 := Option.some.inj ((show Tryd.prog.funcNamed "offertory/offertorylaw30.DeedSame" = some 8 by kernel_rfl).symm.trans hf) |>.symm
  obtain rfl : fn = Tryd.f8 := (Option.some.inj (Tryd.func8.symm.trans hfn)).symm
  refine ⟨by kernel_rfl, fun j t ht => ?_⟩
  rw [Tryd.params8] at ht
  have ht2 : t = 41 ∨ t = 41 := by simpa using Array.mem_of_getElem? ht
  rcases ht2 with rfl | rfl
  · exact (show Tryd.prog.wantsStandIn 41 = false by kernel_rfl)
  · exact (show Tryd.prog.wantsStandIn 41 = false by kernel_rfl)
theorem card : Rows.DeedSameCardSaid :=
  Claim7.holds_tied_plain_at .later [] _ _ _ _ said (fun _ h => by cases h) (by kernel_rfl) (fun _ h => by cases h) deedSame_row_tie rfl ⟨rfl, rfl⟩ (by kernel_rfl) rfl plain (by kernel_rfl)
end deedSame
/-- Whatever two setups: they are one if their lines are. -/
theorem deedSameCard_holds : Rows.DeedSameCardSaid := deedSame.card
#print axioms deedSameCard_holds
end Go.Proofs.YtklfieidipobpaaDoor
