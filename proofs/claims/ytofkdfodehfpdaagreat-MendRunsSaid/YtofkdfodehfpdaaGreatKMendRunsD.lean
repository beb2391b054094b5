/- Donors that hide their vectors, of whom some give nothing, and some open nothing: as long as enough open, the sum is that of what was hidden by those that gave. Whatever the input, the law returns true and the input reads as it did. -/
import Derived.Test.YtofkdfodehfpdaaGreatRows
import Derived.WalkKit
import Derived.ProofKit
import Derived.OpenShut
import Derived.ShutString
import Derived.ChangeOld
import Derived.Below
import Derived.SizedLaws
import Derived.Test.YtofkdfodehfpdaaGreatJuF
import Derived.Test.YtofkdfodehfpdaaGreatKMendRunsC
set_option linter.unusedVariables false
set_option linter.unusedSimpArgs false
set_option linter.unnecessarySimpa false
set_option linter.unusedSectionVars false
set_option linter.all false
/- Donors that hide their vectors, of whom some give nothing, and some open nothing: as long as enough open, the sum is that of what was hidden by those that gave. Whatever the input, the law returns true and the input reads as it did. -/
namespace Go.Proofs.YtofkdfodehfpdaaGreat
open Go.V Go.Num
set_option maxRecDepth 100000
set_option maxHeartbeats 4000000
namespace mendRuns
open Go.ChangeShapes Go.WideShapes Go.ChangeAt Go.RowKit Go.Eng Go.V
open Go.ChangeMaps (open_string shut_string)
theorem own : ownKnob Tryz.prog.godebug = none := by kernel_rfl
theorem laidOut : laidOutB Tryz.prog = true := by kernel_rfl
set_option maxRecDepth 100000 in
theorem lifted (os : Os) (started : os.Started) (H : Type) (enc : TypeId × Value → H) :
    ReturnsInHanded {} Tryz.checked os 4 .any (Rows.mendRunsSpec.pre6 enc Tryz.prog Tryz.f4 Rows.mendRunsRow.domain false) (Rows.mendRunsSpec.post enc Tryz.prog Tryz.f4 false true false false) := by
  refine returnsInHanded_of_change_sized (C := Tryz.checked) own started (by kernel_rfl) Tryz.func4
    (ChangeSpec.witness6 (enc := enc) (C := Tryz.checked) false ⟨#[], #[.int .u8 0, .int .u8 0, .int .u16 0, .int .u16 0, .slice none 0 0, .int .u32 0], []⟩ 8 (by kernel_rfl) (by kernel_rfl) (by kernel_rfl) (by kernel_rfl)) ?_
  intro W base args ds gs before hval0 hW hcnd hsz0 _
  have hsz : (DataW.weightsEach Tryz.prog (Tryz.f4.params.toList ++ Rows.mendRunsSpec.plain.varTypes Tryz.prog) (ds ++ gs)).all (· ≤ reachBytes) = true := hsz0
  have hval : ∀ (j : Nat) t v, Tryz.f4.params[j]? = some t → args[j]? = some v → Value.okWide Tryz.prog W .any base t v := hval0
  have hW' := hW
  obtain ⟨p, q, hA0, hV, rfl, hfz, hnd⟩ := hW
  have hA : DataW.TrodAll enc Tryz.prog W 0 (fun _ => true) true Tryz.f4.params.toList args.toList ds p := hA0
  rw [Tryz.params4] at hA hval hsz
  obtain ⟨v0, vs0, d0, ds0, p0, q0, hargs, rfl, rfl, h0, r0⟩ := trodAll_cons hA
  obtain ⟨v1, vs1, d1, ds1, p1, q1, rfl, rfl, rfl, h1, r1⟩ := trodAll_cons r0
  obtain ⟨v2, vs2, d2, ds2, p2, q2, rfl, rfl, rfl, h2, r2⟩ := trodAll_cons r1
  obtain ⟨v3, vs3, d3, ds3, p3, q3, rfl, rfl, rfl, h3, r3⟩ := trodAll_cons r2
  obtain ⟨v4, vs4, d4, ds4, p4, q4, rfl, rfl, rfl, h4, r4⟩ := trodAll_cons r3
  obtain ⟨v5, vs5, d5, ds5, p5, q5, rfl, rfl, rfl, h5, r5⟩ := trodAll_cons r4
  obtain ⟨rfl, rfl, rfl⟩ := trodAll_nil r5
  obtain rfl : args = #[v0, v1, v2, v3, v4, v5] := by cases args; simp_all
  obtain ⟨rfl, rfl⟩ := trodVars_none hV
  have k0 := h0
  have lt0 : ∀ x ∈ p0, x.block < W.heap.size := by obtain ⟨m, hm⟩ := k0; exact DataW.trod_lt m _ _ _ hm
  obtain ⟨_, rfl⟩ := okWide_int Tryz.underlying5 (hval 0 5 v0 rfl rfl)
  obtain ⟨a0, e0, ok0⟩ := FitsD.arg (FitsD.int Tryz.underlying5) rfl h0 hsz (j := 0) rfl rfl (fun _ => rfl)
  have k1 := h1
  have lt1 : ∀ x ∈ p1, x.block < W.heap.size := by obtain ⟨m, hm⟩ := k1; exact DataW.trod_lt m _ _ _ hm
  obtain ⟨_, rfl⟩ := okWide_int Tryz.underlying5 (hval 1 5 v1 rfl rfl)
  obtain ⟨a1, e1, ok1⟩ := FitsD.arg (FitsD.int Tryz.underlying5) rfl h1 hsz (j := 1) rfl rfl (fun _ => rfl)
  have k2 := h2
  have lt2 : ∀ x ∈ p2, x.block < W.heap.size := by obtain ⟨m, hm⟩ := k2; exact DataW.trod_lt m _ _ _ hm
  obtain ⟨_, rfl⟩ := okWide_int Tryz.underlying29 (hval 2 29 v2 rfl rfl)
  obtain ⟨a2, e2, ok2⟩ := FitsD.arg (FitsD.int Tryz.underlying29) rfl h2 hsz (j := 2) rfl rfl (fun _ => rfl)
  have k3 := h3
  have lt3 : ∀ x ∈ p3, x.block < W.heap.size := by obtain ⟨m, hm⟩ := k3; exact DataW.trod_lt m _ _ _ hm
  obtain ⟨_, rfl⟩ := okWide_int Tryz.underlying29 (hval 3 29 v3 rfl rfl)
  obtain ⟨a3, e3, ok3⟩ := FitsD.arg (FitsD.int Tryz.underlying29) rfl h3 hsz (j := 3) rfl rfl (fun _ => rfl)
  have k4 := h4
  have lt4 : ∀ x ∈ p4, x.block < W.heap.size := by obtain ⟨m, hm⟩ := k4; exact DataW.trod_lt m _ _ _ hm
  obtain ⟨_, _, _, rfl⟩ := okWide_slice Tryz.underlying30 (hval 4 30 v4 rfl rfl)
  obtain ⟨a4, e4, ok4⟩ := FitsD.arg (FitsD.slice 4 Tryz.underlying30 rfl rfl (FitsD.int Tryz.underlying31)) rfl h4 hsz (j := 4) rfl rfl (fun _ => rfl)
  have k5 := h5
  have lt5 : ∀ x ∈ p5, x.block < W.heap.size := by obtain ⟨m, hm⟩ := k5; exact DataW.trod_lt m _ _ _ hm
  obtain ⟨_, rfl⟩ := okWide_int Tryz.underlying31 (hval 5 31 v5 rfl rfl)
  obtain ⟨a5, e5, ok5⟩ := FitsD.arg (FitsD.int Tryz.underlying31) rfl h5 hsz (j := 5) rfl rfl (fun _ => rfl)
  refine (Ct.law (Mnd.MendRuns_ct a0 a1 a2 a3 a4 a5) (.cons e0 (.cons e1 (.cons e2 (.cons e3 (.cons e4 (.cons e5 .nil))))))).mono fun e W' ⟨he, bel⟩ => ?_
  subst he
  exact ⟨_, rfl, _, _, _, [], _, [], hW', trodAll_mk1 (shut_bool Tryz.underlying4 _), (trodAll_cons_mk (Below.trod laidOut (by kernel_rfl) (of_decide_eq_true (by kernel_rfl)) k0 bel lt0) (trodAll_cons_mk (Below.trod laidOut (by kernel_rfl) (of_decide_eq_true (by kernel_rfl)) k1 bel lt1) (trodAll_cons_mk (Below.trod laidOut (by kernel_rfl) (of_decide_eq_true (by kernel_rfl)) k2 bel lt2) (trodAll_cons_mk (Below.trod laidOut (by kernel_rfl) (of_decide_eq_true (by kernel_rfl)) k3 bel lt3) (trodAll_cons_mk (Below.trod laidOut (by kernel_rfl) (of_decide_eq_true (by kernel_rfl)) k4 bel lt4) (trodAll_cons_mk (Below.trod laidOut (by kernel_rfl) (of_decide_eq_true (by kernel_rfl)) k5 bel lt5) trodAll_mk0)))))), rfl, bel.frame _, fun h => by cases h⟩
theorem over : Rows.mendRunsRow.holds Tryz.pinned (OpenSpec.ofChange Rows.mendRunsSpec) :=
  OpenClaim.holds_of_wide 4 Tryz.f4 rfl rfl rfl rfl rfl rfl rfl ⟨rfl, rfl, rfl, rfl, rfl⟩ rfl rfl rfl rfl rfl (by kernel_rfl) Tryz.func4 (by kernel_rfl)
    (of_decide_eq_true (by kernel_rfl)) (by unfold Func.isWrapper; first | (rw [if_pos (by decide +kernel)]; kernel_rfl) | (rw [if_neg (by decide +kernel)]; exact ⟨rfl, rfl⟩))
    (fun os started H enc _ => lifted os started H enc)
end mendRuns
/-- Donors that hide their vectors, of whom some give nothing, and some open nothing. -/
theorem mendRuns_holds : Rows.MendRunsSaid := mendRuns.over
#print axioms mendRuns_holds
end Go.Proofs.YtofkdfodehfpdaaGreat
