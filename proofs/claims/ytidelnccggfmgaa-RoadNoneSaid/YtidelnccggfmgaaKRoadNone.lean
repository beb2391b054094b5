/- No road answers so. Whatever the input, the law returns true and the input reads as it did. -/
import Derived.Test.YtidelnccggfmgaaRows
import Derived.WalkKit
import Derived.ProofKit
import Derived.OpenShut
import Derived.ShutString
import Derived.ChangeOld
import Derived.Below
import Derived.SizedLaws
import Derived.Test.YtidelnccggfmgaaJuH
import Derived.Test.YtidelnccggfmgaaKRoadB
set_option linter.unusedVariables false
set_option linter.unusedSimpArgs false
set_option linter.unnecessarySimpa false
set_option linter.unusedSectionVars false
set_option linter.all false
/- No road answers so. Whatever the input, the law returns true and the input reads as it did. -/
namespace Go.Proofs.Ytidelnccggfmgaa
open Go.V Go.Num
set_option maxRecDepth 100000
set_option maxHeartbeats 4000000
namespace roadNone
open Go.ChangeShapes Go.WideShapes Go.ChangeAt Go.RowKit Go.Eng Go.V
open Go.ChangeMaps (open_string shut_string)
theorem own : ownKnob Try.prog.godebug = none := by kernel_rfl
theorem laidOut : laidOutB Try.prog = true := by kernel_rfl
set_option maxRecDepth 100000 in
theorem lifted (os : Os) (started : os.Started) (H : Type) (enc : TypeId × Value → H) :
    ReturnsInHanded {} Try.checked os 6 .any (Rows.roadNoneSpec.pre6 enc Try.prog Try.f6 Rows.roadNoneRow.domain false) (Rows.roadNoneSpec.post enc Try.prog Try.f6 false true false false) := by
  refine returnsInHanded_of_change_sized (C := Try.checked) own started (by kernel_rfl) Try.func6
    (ChangeSpec.witness6 (enc := enc) (C := Try.checked) false ⟨#[], #[.int .i64 0, .agg #[.int .i64 0, .bool false, .bool false, .slice none 0 0]], []⟩ 8 (by kernel_rfl) (by kernel_rfl) (by kernel_rfl) (by kernel_rfl)) ?_
  intro W base args ds gs before hval0 hW hcnd hsz0 _
  have hsz : (DataW.weightsEach Try.prog (Try.f6.params.toList ++ Rows.roadNoneSpec.plain.varTypes Try.prog) (ds ++ gs)).all (· ≤ reachBytes) = true := hsz0
  have hval : ∀ (j : Nat) t v, Try.f6.params[j]? = some t → args[j]? = some v → Value.okWide Try.prog W .any base t v := hval0
  have hW' := hW
  obtain ⟨p, q, hA0, hV, rfl, hfz, hnd⟩ := hW
  have hA : DataW.TrodAll enc Try.prog W 0 (fun _ => true) true Try.f6.params.toList args.toList ds p := hA0
  rw [Try.params6] at hA hval hsz
  obtain ⟨v0, vs0, d0, ds0, p0, q0, hargs, rfl, rfl, h0, r0⟩ := trodAll_cons hA
  obtain ⟨v1, vs1, d1, ds1, p1, q1, rfl, rfl, rfl, h1, r1⟩ := trodAll_cons r0
  obtain ⟨rfl, rfl, rfl⟩ := trodAll_nil r1
  obtain rfl : args = #[v0, v1] := by cases args; simp_all
  obtain ⟨rfl, rfl⟩ := trodVars_none hV
  have k0 := h0
  have lt0 : ∀ x ∈ p0, x.block < W.heap.size := by obtain ⟨m, hm⟩ := k0; exact DataW.trod_lt m _ _ _ hm
  obtain ⟨_, rfl⟩ := okWide_int Try.underlying3 (hval 0 3 v0 rfl rfl)
  obtain ⟨a0, e0, ok0⟩ := FitsD.arg (FitsD.int Try.underlying3) rfl h0 hsz (j := 0) rfl rfl (fun _ => rfl)
  have k1 := h1
  have lt1 : ∀ x ∈ p1, x.block < W.heap.size := by obtain ⟨m, hm⟩ := k1; exact DataW.trod_lt m _ _ _ hm
  obtain ⟨c1, rfl, _⟩ := okWide_struct Try.underlying29 (hval 1 29 v1 rfl rfl)
  obtain ⟨a1, e1, ok1⟩ := FitsD.argS (FitsD.struct (sz := 4) Try.underlying29 rfl (FitsDL.cons (s1 := 1) (s2 := 3) rfl rfl rfl (FitsD.int Try.underlying3) (FitsDL.cons (s1 := 1) (s2 := 2) rfl rfl rfl (FitsD.bool Try.underlying4) (FitsDL.cons (s1 := 1) (s2 := 1) rfl rfl rfl (FitsD.bool Try.underlying4) (FitsDL.cons (s1 := 1) (s2 := 0) rfl rfl rfl (FitsD.slice 1 Try.underlying27 rfl rfl (FitsD.int Try.underlying5)) (FitsDL.nil rfl)))))) h1 hsz (j := 1) rfl rfl
  replace e1 := Rod.toLt_rel a1 ok1.2.2.2.1.2 e1
  refine (Ct.law (Rod.RoadNone_ct a0 (Rod.toLt a1)) (.cons e0 (.cons e1 .nil))).mono fun e W' ⟨he, bel⟩ => ?_
  subst he
  exact ⟨_, rfl, _, _, _, [], _, [], hW', trodAll_mk1 (shut_bool Try.underlying4 _), (trodAll_cons_mk (Below.trod laidOut (by kernel_rfl) (of_decide_eq_true (by kernel_rfl)) k0 bel lt0) (trodAll_cons_mk (Below.trod laidOut (by kernel_rfl) (of_decide_eq_true (by kernel_rfl)) k1 bel lt1) trodAll_mk0)), rfl, bel.frame _, fun h => by cases h⟩
theorem over : Rows.roadNoneRow.holds Try.pinned (OpenSpec.ofChange Rows.roadNoneSpec) :=
  OpenClaim.holds_of_wide 6 Try.f6 rfl rfl rfl rfl rfl rfl rfl ⟨rfl, rfl, rfl, rfl, rfl⟩ rfl rfl rfl rfl rfl (by kernel_rfl) Try.func6 (by kernel_rfl)
    (of_decide_eq_true (by kernel_rfl)) (by unfold Func.isWrapper; first | (rw [if_pos (by decide +kernel)]; kernel_rfl) | (rw [if_neg (by decide +kernel)]; exact ⟨rfl, rfl⟩))
    (fun os started H enc _ => lifted os started H enc)
end roadNone
/-- No road answers so. -/
theorem roadNone_holds : Rows.RoadNoneSaid := roadNone.over
#print axioms roadNone_holds
end Go.Proofs.Ytidelnccggfmgaa
