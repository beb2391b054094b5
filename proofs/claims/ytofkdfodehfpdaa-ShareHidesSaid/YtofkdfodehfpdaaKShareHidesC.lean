/- Package share: what it is made of. -/
import Derived.Test.YtofkdfodehfpdaaKShareHidesB
import Derived.KernelRfl
set_option linter.unusedVariables false
set_option linter.unusedSimpArgs false
set_option linter.unnecessarySimpa false
set_option linter.unusedSectionVars false
set_option linter.all false
/- Package share: what it is made of. -/
namespace Go.Proofs.Ytofkdfodehfpdaa
open Go.V Go.Num
open Go.Eng (wr)
set_option maxRecDepth 100000
set_option maxHeartbeats 4000000
theorem kInt : KdT Try.prog 3 .int := ⟨fun w => by rw [Try.isAgg3], _, Try.underlying3⟩
theorem kU64 : KdT Try.prog 22 .int := ⟨fun w => by rw [Try.isAgg22], _, Try.underlying22⟩
theorem eqPt : EqT Try.prog 71 [.int, .int] := by
  refine EqT.struct Try.underlying71 (by kernel_rfl) (by kernel_rfl) rfl (fun i f k h1 h2 => ?_)
  rcases i with _ | _ | i
  · cases h1; cases h2; exact ⟨by decide, rfl, kInt⟩
  · cases h1; cases h2; exact ⟨by decide, rfl, kU64⟩
  · simp at h2
theorem large_ct (n : Int) : Ct Try.prog 59 [u64 n] [] (Is2 (.d (.bool (decide (2305843009213693951 ≤ n)))) []) := by
  refine Ct.introF (E := E 5 0 [.tmp 2] [] [] []) tab_ok Try.call59 Try.func59 rfl rfl rfl rfl rfl (fun hin => ?_)
  exact isBool rfl
def bigS (xs : List Int) : Bool := xs.any fun n => decide (2305843009213693951 ≤ n)
theorem getD_li {xs : List Int} {i : Nat} (h : i < xs.length) : xs[i]? = some (xs.getD i 0) := by
  rw [List.getD_eq_getElem?_getD, List.getElem?_eq_getElem h]; rfl
theorem BigIndex_ct (xs : List Int) : Ct Try.prog 74 [L xs, .fn 59 [] []] [] (fun r os => ∃ k : Int, r = i64 k ∧ os = [] ∧ (0 ≤ k ↔ bigS xs = true)) := by
  refine Ct.introF (E := E 19 0 [.tmp 4] [] [(2, [0, 1, 7, 8])] []) tab_ok Try.call74 Try.func74 rfl rfl rfl rfl rfl (fun hin => ?_)
  have hl := li_len xs
  have hb := hin.1.1
  (conv => whnf); refine LoopI.mk (fun n vs os => ∃ i : Nat, vs = [L xs, .fn 59 [] [], i64 xs.length, i64 i] ∧ os = [] ∧ i ≤ xs.length ∧ bigS (xs.take i) = false ∧ n = xs.length - i) xs.length ⟨0, by rw [hl]; rfl, rfl, Nat.zero_le _, rfl, rfl⟩ ?_
  rintro n _ _ ⟨i, rfl, rfl, h1, h2, rfl⟩
  (conv => whnf); refine cond_d (fun h7 => ?_) (fun h7 => ?_)
  · have hi : i < xs.length := by omega
    (conv => whnf); refine And.intro (by first | omega | (dsimp only [List.length, cond]; omega) | (show (-9223372036854775808 : Int) ≤ _ ∧ _ ≤ (9223372036854775807 : Int); omega) | decide) ?_
    (conv => whnf); refine Idx.mk _ (li_get hi) ?_; try ((conv => whnf); refine Idx.mk _ rfl ?_)
    (conv => whnf); refine (large_ct _).use ?_
    have hs : bigS (xs.take (i + 1)) = decide (2305843009213693951 ≤ xs.getD i 0) := by
      unfold bigS at h2 ⊢; rw [any_take (getD_li hi), h2]; rfl
    (conv => whnf); refine cond_d (fun h8 => ?_) (fun h8 => ?_)
    · conv => whnf
      refine ⟨i, rfl, rfl, ⟨fun _ => ?_, fun _ => by omega⟩⟩
      unfold bigS
      rw [List.any_eq_true]
      exact ⟨xs.getD i 0, List.mem_of_getElem? (getD_li hi), decide_eq_true h8⟩
    · (conv => whnf); refine And.intro (by first | omega | (dsimp only [List.length, cond]; omega) | (show (-9223372036854775808 : Int) ≤ _ ∧ _ ≤ (9223372036854775807 : Int); omega) | decide) ?_
      conv => whnf
      refine ⟨xs.length - (i + 1), by omega, i + 1, rfl, rfl, by omega, ?_, rfl⟩
      rw [hs, decide_eq_false h8]
  · rw [List.take_of_length_le (by omega)] at h2
    exact ⟨-1, rfl, rfl, by rw [h2]; simp⟩
theorem Big_ct (xs : List Int) : Ct Try.prog 43 [L xs, .fn 59 [] []] [] (Is2 (.d (.bool (bigS xs))) []) := by
  refine Ct.introF (E := E 9 0 [.tmp 4] [] [] []) tab_ok Try.call43 Try.func43 rfl rfl rfl rfl rfl (fun hin => ?_)
  refine (BigIndex_ct xs).mono (fun r os h => ?_)
  obtain ⟨k, rfl, rfl, hk⟩ := h
  conv => whnf
  refine ⟨?_, rfl⟩
  have : decide (0 ≤ k) = bigS xs := by
    cases h : bigS xs with
    | true => exact decide_eq_true (hk.2 h)
    | false => exact decide_eq_false (fun h2 => by rw [hk.1 h2] at h; cases h)
  rw [← this]
theorem Grow_ct (n : Int) (h0 : 0 < n) (h1 : n ≤ 1000000) : Ct Try.prog 98 [.d .nils, i64 n] [] (Is2 (.sl 0) [.row 22 1 []]) := by
  refine Ct.introF (E := E 27 0 [.tmp 4] [] [] []) tab_ok Try.call98 Try.func98 rfl rfl rfl rfl rfl (fun hin => ?_)
  (conv => whnf); refine cond_n (by omega) ?_
  (conv => whnf); refine And.intro (by first | omega | (dsimp only [List.length, cond]; omega) | (show (-9223372036854775808 : Int) ≤ _ ∧ _ ≤ (9223372036854775807 : Int); omega) | decide) ?_
  (conv => whnf); refine And.intro (by first | omega | (dsimp only [List.length, cond]; omega) | (show (-9223372036854775808 : Int) ≤ _ ∧ _ ≤ (9223372036854775807 : Int); omega) | decide) ?_
  (conv => whnf); refine cond_y (by dsimp only [List.length]; omega) ?_
  (conv => whnf); refine And.intro ⟨rfl, by decide, rfl⟩ ?_
  (conv => whnf); refine And.intro (by first | omega | (dsimp only [List.length, cond]; omega) | (show (-9223372036854775808 : Int) ≤ _ ∧ _ ≤ (9223372036854775807 : Int); omega) | decide) ?_
  (conv => whnf); refine And.intro (by first | omega | (dsimp only [List.length, cond]; omega) | (show (-9223372036854775808 : Int) ≤ _ ∧ _ ≤ (9223372036854775807 : Int); omega) | decide) ?_
  exact ⟨rfl, rfl⟩
/-- Rows joined. -/
theorem Concat_ct (a b : List Int) (h0 : 0 < a.length) (h1 : a.length + b.length ≤ 1000000) : Ct Try.prog 68 [.d (.ro [.ro (li a), .ro (li b)])] [] (Is2 (.sl 0) [.row 22 1 (li (a ++ b))]) := by
  refine Ct.introF (E := E 36 0 [.tmp 2] [] [(3, [0, 3, 9, 10, 11]), (11, [6, 25, 26, 27])] []) tab_ok Try.call68 Try.func68 rfl rfl rfl rfl rfl (fun hin => ?_)
  have hla := li_len a
  have hlb := li_len b
  (conv => whnf); refine LoopI.mk (fun n vs os => os = [] ∧ ((n = 2 ∧ vs = [.d (.ro [.ro (li a), .ro (li b)]), i64 0, .d (.ro [.ro (li a), .ro (li b)]), i64 2, i64 0]) ∨ (n = 1 ∧ vs = [.d (.ro [.ro (li a), .ro (li b)]), i64 a.length, .d (.ro [.ro (li a), .ro (li b)]), i64 2, i64 1]) ∨ (n = 0 ∧ vs = [.d (.ro [.ro (li a), .ro (li b)]), i64 (a.length + b.length), .d (.ro [.ro (li a), .ro (li b)]), i64 2, i64 2]))) 2 ⟨rfl, .inl ⟨rfl, rfl⟩⟩ ?_
  rintro n vs os ⟨rfl, (⟨rfl, rfl⟩ | ⟨rfl, rfl⟩ | ⟨rfl, rfl⟩)⟩
  · (conv => whnf); refine And.intro (by first | omega | (dsimp only [List.length, cond]; omega) | (show (-9223372036854775808 : Int) ≤ _ ∧ _ ≤ (9223372036854775807 : Int); omega) | decide) ?_
    (conv => whnf); refine Idx.mk _ rfl ?_
    (conv => whnf); refine Idx.mk _ rfl ?_
    (conv => whnf); refine And.intro (by first | omega | (dsimp only [List.length, cond]; omega) | (show (-9223372036854775808 : Int) ≤ _ ∧ _ ≤ (9223372036854775807 : Int); omega) | decide) ?_
    (conv => whnf); refine And.intro (by first | omega | (dsimp only [List.length, cond]; omega) | (show (-9223372036854775808 : Int) ≤ _ ∧ _ ≤ (9223372036854775807 : Int); omega) | decide) ?_
    conv => whnf
    refine ⟨1, by omega, rfl, .inr (.inl ⟨rfl, ?_⟩)⟩
    rw [hla, Int.zero_add]; rfl
  · (conv => whnf); refine And.intro (by first | omega | (dsimp only [List.length, cond]; omega) | (show (-9223372036854775808 : Int) ≤ _ ∧ _ ≤ (9223372036854775807 : Int); omega) | decide) ?_
    (conv => whnf); refine Idx.mk _ rfl ?_
    (conv => whnf); refine Idx.mk _ rfl ?_
    (conv => whnf); refine And.intro (by first | omega | (dsimp only [List.length, cond]; omega) | (show (-9223372036854775808 : Int) ≤ _ ∧ _ ≤ (9223372036854775807 : Int); omega) | decide) ?_
    (conv => whnf); refine And.intro (by first | omega | (dsimp only [List.length, cond]; omega) | (show (-9223372036854775808 : Int) ≤ _ ∧ _ ≤ (9223372036854775807 : Int); omega) | decide) ?_
    conv => whnf
    refine ⟨0, by omega, rfl, .inr (.inr ⟨rfl, ?_⟩)⟩
    rw [hlb]; rfl
  · (conv => whnf); refine (Grow_ct ((a.length : Int) + b.length) (by omega) (by omega)).use ?_
    (conv => whnf); refine LoopI.mk (fun n vs os => (n = 2 ∧ vs = [.sl 0, .d (.ro [.ro (li a), .ro (li b)]), i64 2, i64 0] ∧ os = [.row 22 1 []]) ∨ (n = 1 ∧ vs = [.sl 0, .d (.ro [.ro (li a), .ro (li b)]), i64 2, i64 1] ∧ os = [.row 22 1 (li a)]) ∨ (n = 0 ∧ vs = [.sl 0, .d (.ro [.ro (li a), .ro (li b)]), i64 2, i64 2] ∧ os = [.row 22 1 (li (a ++ b))])) 2 (.inl ⟨rfl, rfl, rfl⟩) ?_
    rintro n vs os (⟨rfl, rfl, rfl⟩ | ⟨rfl, rfl, rfl⟩ | ⟨rfl, rfl, rfl⟩)
    · (conv => whnf); refine And.intro (by first | omega | (dsimp only [List.length, cond]; omega) | (show (-9223372036854775808 : Int) ≤ _ ∧ _ ≤ (9223372036854775807 : Int); omega) | decide) ?_
      (conv => whnf); refine Idx.mk _ rfl ?_
      (conv => whnf); refine Idx.mk _ rfl ?_
      (conv => whnf); refine And.intro ⟨by dsimp only [List.length]; omega, li_cells _⟩ ?_
      (conv => whnf); refine And.intro (by first | omega | (dsimp only [List.length, cond]; omega) | (show (-9223372036854775808 : Int) ≤ _ ∧ _ ≤ (9223372036854775807 : Int); omega) | decide) ?_
      conv => whnf
      exact ⟨1, by omega, .inr (.inl ⟨rfl, rfl, rfl⟩)⟩
    · (conv => whnf); refine And.intro (by first | omega | (dsimp only [List.length, cond]; omega) | (show (-9223372036854775808 : Int) ≤ _ ∧ _ ≤ (9223372036854775807 : Int); omega) | decide) ?_
      (conv => whnf); refine Idx.mk _ rfl ?_
      (conv => whnf); refine Idx.mk _ rfl ?_
      (conv => whnf); refine And.intro ⟨by dsimp only; omega, li_cells _⟩ ?_
      (conv => whnf); refine And.intro (by first | omega | (dsimp only [List.length, cond]; omega) | (show (-9223372036854775808 : Int) ≤ _ ∧ _ ≤ (9223372036854775807 : Int); omega) | decide) ?_
      conv => whnf
      exact ⟨0, by omega, .inr (.inr ⟨rfl, rfl, row1 (li_app a b)⟩)⟩
    · exact ⟨rfl, rfl⟩
theorem point_ct (c : List Int) (n : Int) (hl : c.length ≤ 1000000) : Ct Try.prog 69 [L c, i64 n] [] (Is2 (.d (pt (n, ev c (wr .u64 n) % 2305843009213693951))) []) := by
  refine Ct.introF (E := E 11 0 [.cell 4 71] [] [] []) tab_ok Try.call69 Try.func69 rfl rfl rfl rfl rfl (fun hin => ?_)
  (conv => whnf); refine (At_ct c (wr .u64 n) hl).use ?_
  exact ⟨rfl, rfl⟩
theorem on_ct (c : List Int) (p : Int × Int) (hl : c.length ≤ 1000000) : Ct Try.prog 71 [L c, .d (pt p)] [] (Is2 (.d (.bool (decide (ev c (wr .u64 p.1) % 2305843009213693951 = p.2)))) []) := by
  refine Ct.introF (E := E 11 0 [.tmp 4] [] [] []) tab_ok Try.call71 Try.func71 rfl rfl rfl rfl rfl (fun hin => ?_)
  (conv => whnf); refine DrawI.mkF 5 [[0], [3], [6], [5, 7], [3]] (by decide +kernel) ?_
  repeat (first | refine DrawO.mkF _ (And.intro rfl rfl) ?_ | refine DrawO.mkF _ (Idx.mk _ rfl (And.intro rfl rfl)) ?_)
  refine DrawO.mkF _ ((point_ct c p.1 hl).use (And.intro rfl rfl)) ?_
  repeat (first | refine DrawO.mkF _ (And.intro rfl rfl) ?_ | refine DrawO.mkF _ (Idx.mk _ rfl (And.intro rfl rfl)) ?_)
  (conv => whnf)
  refine EqI.mk [.int, .int] _ eqPt rfl ?_
  refine isBool ?_
  simp
theorem off_ct (c : List Int) (p : Int × Int) (hl : c.length ≤ 1000000) : Ct Try.prog 73 [.d (pt p), .ptr 0 0] [.vec 107 [.fn 71 [L c] []]] (Is2 (.d (.bool (!decide (ev c (wr .u64 p.1) % 2305843009213693951 = p.2)))) [.vec 107 [.fn 71 [L c] []]]) := by
  refine Ct.introF (E := E 8 1 [.tmp 3] [] [] []) tab_ok Try.call73 Try.func73 rfl rfl rfl rfl rfl (fun hin => ?_)
  (conv => whnf); refine (on_ct c p hl).use ?_
  exact ⟨rfl, rfl⟩
end Go.Proofs.Ytofkdfodehfpdaa

/- Package share: joining and fitting. -/
namespace Go.Proofs.Ytofkdfodehfpdaa
open Go.V Go.Num
open Go.Eng (wr)
set_option maxRecDepth 100000
set_option maxHeartbeats 4000000
theorem sound_take {ps : List (Int × Int)} (h : soundS ps = 0) {k : Nat} (h0 : 0 < k) (h1 : k ≤ ps.length) : soundS (ps.take k) = 0 := by
  obtain ⟨_, hl, ht, hs⟩ := sound_rng h
  have hlen : (ps.take k).length = k := by rw [List.length_take]; omega
  have hg : ∀ i, i < k → (ps.take k).getD i (0, 0) = ps.getD i (0, 0) := fun i hi => by
    rw [List.getD_eq_getElem?_getD, List.getElem?_take, if_pos hi, ← List.getD_eq_getElem?_getD]
  refine sound_of (by omega) (by omega) (fun i j hj hi => ?_) (fun i hi => ?_)
  · rw [hlen] at hi
    rw [hg i hi, hg j (by omega)]
    exact tw_ne ht (by omega) hj
  · rw [hlen] at hi
    rw [hg i hi]
    exact hs i (by omega)
def someE (k : Int) (ps : List (Int × Int)) : Int := if k < 1 then 1 else if 64 < k then 1 else if soundS ps ≠ 0 then soundS ps else if (ps.length : Int) < k then 12 else 0
def someC (k : Int) (ps : List (Int × Int)) : List Int := if someE k ps = 0 then thrS (ps.take k.toNat) else []
theorem someE_zero {k : Int} {ps : List (Int × Int)} (h : someE k ps = 0) : 1 ≤ k ∧ k ≤ 64 ∧ soundS ps = 0 ∧ k ≤ ps.length := by
  unfold someE at h
  split at h
  · cases h
  split at h
  · cases h
  split at h
  · contradiction
  rename_i h3
  split at h
  · cases h
  exact ⟨by omega, by omega, Decidable.of_not_not h3, by omega⟩
theorem some_ct' (k : Int) (ps : List (Int × Int)) : Ct Try.prog 70 [i64 k, LP ps] [] (Is2 (.tup [L (someC k ps), i64 (someE k ps)]) []) := by
  refine Ct.introF (E := E 32 0 [.tmp 4, .tmp 5] [] [] [(1000002, [.nl 4]), (1000005, [.nl 4]), (1000007, [.nl 4])]) tab_ok Try.call70 Try.func70 rfl rfl rfl rfl rfl (fun hin => ?_)
  have hl := lp_len ps
  have hb := hin.2.1.1
  (conv => whnf); refine cond_d (fun h1 => ?_) (fun h1 => ?_)
  · refine Is2.mk ?_
    have : someE k ps = 1 := by unfold someE; rw [if_pos h1]
    unfold someC; rw [this]; rfl
  (conv => whnf); refine cond_d (fun h2 => ?_) (fun h2 => ?_)
  · refine Is2.mk ?_
    have : someE k ps = 1 := by unfold someE; rw [if_neg h1, if_pos h2]
    unfold someC; rw [this]; rfl
  (conv => whnf); refine (Zero_ct ps).use ?_
  (conv => whnf); refine cond_d (fun h3 => ?_) (fun h3 => ?_)
  · refine Is2.mk ?_
    have : someE k ps = soundS ps := by unfold someE; rw [if_neg h1, if_neg h2, if_pos h3]
    unfold someC; rw [this, if_neg h3]; rfl
  have h3' : soundS ps = 0 := Decidable.of_not_not h3
  (conv => whnf); refine cond_d (fun h4 => ?_) (fun h4 => ?_)
  · refine Is2.mk ?_
    have : someE k ps = 12 := by unfold someE; rw [if_neg h1, if_neg h2, if_neg h3, if_pos (by omega)]
    unfold someC; rw [this]; rfl
  have he : someE k ps = 0 := by unfold someE; rw [if_neg h1, if_neg h2, if_neg h3, if_neg (by omega)]
  (conv => whnf); refine And.intro (by first | omega | (dsimp only [List.length, cond]; omega) | (show (-9223372036854775808 : Int) ≤ _ ∧ _ ≤ (9223372036854775807 : Int); omega) | decide) ?_
  have e : (lp ps).take k.toNat = lp (ps.take k.toNat) := List.map_take.symm
  have ht : soundS (ps.take k.toNat) = 0 := sound_take h3' (by omega) (by omega)
  have hc := Through_ct (ps.take k.toNat)
  unfold LP at hc
  rw [← e, ht] at hc
  (conv => whnf); refine (hc).use ?_
  refine Is2.mk ?_
  unfold someC; rw [he, if_pos rfl]
def joinV (k : Int) (ps : List (Int × Int)) : Int := if someE k ps = 0 then ev (someC k ps) 0 % 2305843009213693951 else 0
theorem someC_len (k : Int) (ps : List (Int × Int)) : (someC k ps).length ≤ 64 := by
  unfold someC
  split
  · rename_i h
    obtain ⟨h1, h2, h3, h4⟩ := someE_zero h
    have hs := sound_take h3 (k := k.toNat) (by omega) (by omega)
    rw [thrS_of hs]
    have := sumS_len' (ps.take k.toNat) _ (Nat.le_refl _)
    have h5 : (ps.take k.toNat).length ≤ 64 := by rw [List.length_take]; omega
    omega
  · exact Nat.zero_le _
theorem Join_ct (k : Int) (ps : List (Int × Int)) : Ct Try.prog 66 [i64 k, LP ps] [] (Is2 (.tup [u64 (joinV k ps), i64 (someE k ps)]) []) := by
  refine Ct.introF (E := E 19 0 [.tmp 4, .tmp 5] [] [] []) tab_ok Try.call66 Try.func66 rfl rfl rfl rfl rfl (fun hin => ?_)
  (conv => whnf); refine (some_ct' k ps).use ?_
  (conv => whnf); refine cond_d (fun h => ?_) (fun h => ?_)
  · refine Is2.mk ?_
    unfold joinV; rw [if_neg h]
  have h0 : someE k ps = 0 := Decidable.of_not_not h
  (conv => whnf); refine (At_ct (someC k ps) 0 (by have := someC_len k ps; omega)).use ?_
  refine Is2.mk ?_
  unfold joinV; rw [h0, if_pos rfl]
def offP (c : List Int) (p : Int × Int) : Bool := !decide (ev c (wr .u64 p.1) % 2305843009213693951 = p.2)
theorem OffIndex_ct (c : List Int) (ps : List (Int × Int)) (hc : c.length ≤ 1000000) : Ct Try.prog 99 [LP ps, .fn 73 [] [.ptr 0 0]] [.vec 107 [.fn 71 [L c] []]] (fun r os => ∃ k : Int, r = i64 k ∧ os = [.vec 107 [.fn 71 [L c] []]] ∧ (0 ≤ k ↔ ps.any (offP c) = true)) := by
  refine Ct.introF (E := E 19 1 [.tmp 4] [] [(2, [0, 1, 7, 8])] []) tab_ok Try.call99 Try.func99 rfl rfl rfl rfl rfl (fun hin => ?_)
  have hl := lp_len ps
  have hb := hin.1.1
  (conv => whnf); refine LoopI.mk (fun n vs os => ∃ i : Nat, vs = [LP ps, .fn 73 [] [.ptr 0 0], i64 ps.length, i64 i] ∧ os = [.vec 107 [.fn 71 [L c] []]] ∧ i ≤ ps.length ∧ (ps.take i).any (offP c) = false ∧ n = ps.length - i) ps.length ⟨0, by rw [hl]; rfl, rfl, Nat.zero_le _, rfl, rfl⟩ ?_
  rintro n _ _ ⟨i, rfl, rfl, h1, h2, rfl⟩
  (conv => whnf); refine cond_d (fun h7 => ?_) (fun h7 => ?_)
  · have hi : i < ps.length := by omega
    have hs : (ps.take (i + 1)).any (offP c) = offP c (ps.getD i (0, 0)) := by rw [any_take (getD_get hi), h2]; rfl
    (conv => whnf); refine And.intro (by first | omega | (dsimp only [List.length, cond]; omega) | (show (-9223372036854775808 : Int) ≤ _ ∧ _ ≤ (9223372036854775807 : Int); omega) | decide) ?_
    (conv => whnf); refine Idx.mk _ (lp_get hi) ?_
    (conv => whnf); refine (off_ct c (ps.getD i (0, 0)) hc).use ?_
    (conv => whnf); refine cond_i (fun h8 => ?_) (fun h8 => ?_)
    · conv => whnf
      refine ⟨i, rfl, rfl, ⟨fun _ => ?_, fun _ => by omega⟩⟩
      rw [List.any_eq_true]
      exact ⟨ps.getD i (0, 0), List.mem_of_getElem? (getD_get hi), h8⟩
    · (conv => whnf); refine And.intro (by first | omega | (dsimp only [List.length, cond]; omega) | (show (-9223372036854775808 : Int) ≤ _ ∧ _ ≤ (9223372036854775807 : Int); omega) | decide) ?_
      conv => whnf
      refine ⟨ps.length - (i + 1), by omega, i + 1, rfl, rfl, by omega, ?_, rfl⟩
      rw [hs]; exact h8
  · rw [List.take_of_length_le (by omega)] at h2
    exact ⟨-1, rfl, rfl, by rw [h2]; simp⟩
theorem Off_ct (c : List Int) (ps : List (Int × Int)) (hc : c.length ≤ 1000000) : Ct Try.prog 72 [LP ps, .fn 73 [] [.ptr 0 0]] [.vec 107 [.fn 71 [L c] []]] (Is2 (.d (.bool (ps.any (offP c)))) [.vec 107 [.fn 71 [L c] []]]) := by
  refine Ct.introF (E := E 9 1 [.tmp 4] [] [] []) tab_ok Try.call72 Try.func72 rfl rfl rfl rfl rfl (fun hin => ?_)
  refine (OffIndex_ct c ps hc).mono (fun r os h => ?_)
  obtain ⟨k, rfl, rfl, hk⟩ := h
  conv => whnf
  refine ⟨?_, rfl⟩
  have : decide (0 ≤ k) = ps.any (offP c) := by
    cases h : ps.any (offP c) with
    | true => exact decide_eq_true (hk.2 h)
    | false => exact decide_eq_false (fun h2 => by rw [hk.1 h2] at h; cases h)
  rw [← this]
def fitsV (k : Int) (ps : List (Int × Int)) : Bool := if someE k ps = 0 then !ps.any (offP (someC k ps)) else false
theorem Fits_ct (k : Int) (ps : List (Int × Int)) : Ct Try.prog 41 [i64 k, LP ps] [] (Is2 (.tup [.d (.bool (fitsV k ps)), i64 (someE k ps)]) []) := by
  refine Ct.introF (E := E 24 0 [.tmp 4, .tmp 5] [] [] []) tab_ok Try.call41 Try.func41 rfl rfl rfl rfl rfl (fun hin => ?_)
  (conv => whnf); refine (some_ct' k ps).use ?_
  (conv => whnf); refine cond_d (fun h => ?_) (fun h => ?_)
  · refine Is2.mk ?_
    unfold fitsV; rw [if_neg h]
  have h0 : someE k ps = 0 := Decidable.of_not_not h
  (conv => whnf); refine (Off_ct (someC k ps) ps (by have := someC_len k ps; omega)).use ?_
  refine Is2.mk ?_
  unfold fitsV; rw [h0, if_pos rfl]
def shS (c : List Int) (n i : Nat) : List (Int × Int) := (List.range n).map fun j : Nat => if j < i then ((j : Int) + 1, ev c ((j : Int) + 1) % 2305843009213693951) else (0, 0)
theorem shS_len (c : List Int) (n i : Nat) : (shS c n i).length = n := by simp [shS]
theorem shS_all (c : List Int) (n : Nat) : shS c n n = pts c n := by
  unfold shS pts
  refine List.map_congr_left (fun j hj => ?_)
  rw [if_pos (List.mem_range.1 hj)]
theorem shS_set (c : List Int) {n i : Nat} (hi : i < n) : (shS c n i).set i ((i : Int) + 1, ev c ((i : Int) + 1) % 2305843009213693951) = shS c n (i + 1) := by
  apply List.ext_getElem?
  intro j
  unfold shS
  rw [List.getElem?_set, List.getElem?_map, List.getElem?_map, List.length_map, List.length_range]
  by_cases e : i = j
  · subst e
    rw [if_pos rfl, if_pos hi, List.getElem?_range hi, Option.map_some, if_pos (by omega)]
  · rw [if_neg e]
    rcases Nat.lt_or_ge j n with h | h
    · rw [List.getElem?_range h, Option.map_some, Option.map_some]
      by_cases e2 : j < i
      · rw [if_pos e2, if_pos (by omega)]
      · rw [if_neg e2, if_neg (by omega)]
    · rw [List.getElem?_eq_none (by simpa using h)]; rfl
def splitE (s k n : Int) (c : List Int) : Int := if n < 1 ∨ 64 < n ∨ k < 1 ∨ n < k ∨ (c.length : Int) ≠ k - 1 then 1 else if 2305843009213693951 ≤ s ∨ bigS c = true then 4 else 0
def splitS (s k n : Int) (c : List Int) : List (Int × Int) := if splitE s k n c = 0 then pts (s :: c) n.toNat else []
theorem Split_ct (s k n : Int) (c : List Int) : Ct Try.prog 39 [u64 s, i64 k, i64 n, L c] [] (Is2 (.tup [LP (splitS s k n c), i64 (splitE s k n c)]) []) := by
  refine Ct.introF (E := E 63 0 [.tmp 8, .tmp 9] [] [(8, [10, 11, 50, 51])] [(1000002, [.nl 8]), (1000004, [.nl 8]), (1000012, [.fz 8]), (1000005, [.fz 45])]) tab_ok Try.call39 Try.func39 rfl rfl rfl rfl rfl (fun hin => ?_)
  have hlc := li_len c
  have bad : ∀ (_ : n < 1 ∨ 64 < n ∨ k < 1 ∨ n < k ∨ (c.length : Int) ≠ k - 1), AV.tup [LP (splitS s k n c), i64 (splitE s k n c)] = AV.tup [.d (.ro []), i64 1] := fun h => by
    have : splitE s k n c = 1 := by unfold splitE; rw [if_pos h]
    unfold splitS; rw [this]; rfl
  (conv => whnf); refine cond_d (fun h1 => ?_) (fun h1 => ?_)
  · exact Is2.mk (bad (by omega))
  (conv => whnf); refine cond_d (fun h2 => ?_) (fun h2 => ?_)
  · exact Is2.mk (bad (by omega))
  (conv => whnf); refine cond_d (fun h3 => ?_) (fun h3 => ?_)
  · exact Is2.mk (bad (by omega))
  (conv => whnf); refine cond_d (fun h4 => ?_) (fun h4 => ?_)
  · exact Is2.mk (bad (by omega))
  (conv => whnf); refine And.intro (by first | omega | (dsimp only [List.length, cond]; omega) | (show (-9223372036854775808 : Int) ≤ _ ∧ _ ≤ (9223372036854775807 : Int); omega) | decide) ?_
  (conv => whnf); refine cond_d (fun h5 => ?_) (fun h5 => ?_)
  · exact Is2.mk (bad (by omega))
  have hno : ¬ (n < 1 ∨ 64 < n ∨ k < 1 ∨ n < k ∨ (c.length : Int) ≠ k - 1) := by omega
  have big : ∀ (_ : 2305843009213693951 ≤ s ∨ bigS c = true), AV.tup [LP (splitS s k n c), i64 (splitE s k n c)] = AV.tup [.d (.ro []), i64 4] := fun h => by
    have : splitE s k n c = 4 := by unfold splitE; rw [if_neg hno, if_pos h]
    unfold splitS; rw [this]; rfl
  (conv => whnf); refine (large_ct s).use ?_
  (conv => whnf); refine cond_d (fun h6 => ?_) (fun h6 => ?_)
  · exact Is2.mk (big (.inl h6))
  (conv => whnf); refine (Big_ct c).use ?_
  (conv => whnf); refine cond_i (fun h7 => ?_) (fun h7 => ?_)
  · exact Is2.mk (big (.inr h7))
  have he : splitE s k n c = 0 := by
    unfold splitE; rw [if_neg hno, if_neg (by rw [h7]; simp; omega)]
  obtain ⟨m, rfl⟩ : ∃ m : Nat, n = m := ⟨n.toNat, by omega⟩
  (conv => whnf); refine (Concat_ct [s] c (by simp) (by rw [List.length_singleton]; omega)).use ?_
  (conv => whnf); refine And.intro (by first | omega | (dsimp only [List.length, cond]; omega) | (show (-9223372036854775808 : Int) ≤ _ ∧ _ ≤ (9223372036854775807 : Int); omega) | decide) ?_
  (conv => whnf); refine LoopI.mk (fun q vs os => ∃ i : Nat, vs = [.fn 69 [.sl 0] [], .sl 1, i64 m, i64 i] ∧ os = [.froz (li (s :: c)), .row 71 2 (lp (shS (s :: c) m i))] ∧ i ≤ m ∧ q = m - i) m ⟨0, ?_, ?_, Nat.zero_le _, rfl⟩ ?_
  · rw [List.length_replicate]; rfl
  · have e : List.replicate ((m : Int).toNat) (D.agg [D.int IntKind.i64 0, D.int IntKind.u64 0]) = lp (shS (s :: c) m 0) := by
      rw [Int.toNat_natCast]
      unfold shS lp
      rw [List.map_map]
      apply List.ext_getElem
      · simp
      · intro j h1 h2
        simp
    rw [← e]; rfl
  rintro q _ _ ⟨i, rfl, rfl, g1, rfl⟩
  have hlp := lp_len (shS (s :: c) m i)
  rw [shS_len] at hlp
  (conv => whnf); refine cond_d (fun g2 => ?_) (fun g2 => ?_)
  · have hi : i < m := by omega
    have hw : wr .u64 ((i : Int) + 1) = (i : Int) + 1 := wr_small (by omega)
    (conv => whnf); refine And.intro (by first | omega | (dsimp only [List.length, cond]; omega) | (show (-9223372036854775808 : Int) ≤ _ ∧ _ ≤ (9223372036854775807 : Int); omega) | decide) ?_
    (conv => whnf); refine (point_ct (s :: c) ((i : Int) + 1) (by rw [List.length_cons]; omega)).use ?_
    (conv => whnf); refine And.intro (by first | omega | (dsimp only [List.length, cond]; omega) | (show (-9223372036854775808 : Int) ≤ _ ∧ _ ≤ (9223372036854775807 : Int); omega) | decide) ?_
    (conv => whnf); refine Idx.mk _ (lp_get (by rw [shS_len]; exact hi)) ?_
    (conv => whnf); refine And.intro (by first | omega | (dsimp only [List.length, cond]; omega) | (show (-9223372036854775808 : Int) ≤ _ ∧ _ ≤ (9223372036854775807 : Int); omega) | decide) ?_
    conv => whnf
    refine ⟨m - (i + 1), by omega, i + 1, rfl, ?_, by omega, rfl⟩
    rw [hw, ← shS_set (s :: c) hi]
    have e : (lp (shS (s :: c) m i)).set i (pt ((i : Int) + 1, ev (s :: c) ((i : Int) + 1) % 2305843009213693951)) = lp ((shS (s :: c) m i).set i ((i : Int) + 1, ev (s :: c) ((i : Int) + 1) % 2305843009213693951)) := List.map_set.symm
    rw [← e]; rfl
  · have e : i = m := by omega
    rw [e]
    refine Is2.mk ?_
    unfold splitS; rw [he, if_pos rfl, Int.toNat_natCast, shS_all]
def shareV (s : Int) (c : List Int) (n : Int) : Int := ev (s :: c) (wr .u64 n) % 2305843009213693951
theorem Share_ct (s : Int) (c : List Int) (n : Int) (hl : c.length ≤ 100000) (hn : 0 ≤ wr .u64 n) : Ct Try.prog 38 [u64 s, L c, i64 n] [] (Is2 (u64 (shareV s c n)) []) := by
  refine Ct.introF (E := E 14 0 [.tmp 6] [] [] []) tab_ok Try.call38 Try.func38 rfl rfl rfl rfl rfl (fun hin => ?_)
  have hlc := li_len c
  (conv => whnf); refine And.intro ⟨by dsimp only [List.length]; omega, li_cells _⟩ ?_
  (conv => whnf); refine (rAt_ct (s :: c) (wr .u64 n) (by rw [List.length_cons]; omega) hn).use ?_
  exact isInt rfl
end Go.Proofs.Ytofkdfodehfpdaa

/- Package share: other coefficients; the fixed fact of its laws. -/
namespace Go.Proofs.Ytofkdfodehfpdaa
open Go.V Go.Num
open Go.Eng (wr)
set_option maxRecDepth 100000
set_option maxHeartbeats 4000000
theorem lp_cells (ps : List (Int × Int)) : ∀ y ∈ lp ps, y.cells.length = 2 := by
  intro y hy
  obtain ⟨p, _, rfl⟩ := List.mem_map.1 hy
  rfl
theorem CloneP_ct (ps : List (Int × Int)) (h0 : 0 < ps.length) (h1 : ps.length ≤ 1000) : Ct Try.prog 60 [LP ps] [] (Is2 (.sl 0) [.row 71 2 (lp ps)]) := by
  refine Ct.introF (E := E 8 0 [.tmp 2] [] [] []) tab_ok Try.call60 Try.func60 rfl rfl rfl rfl rfl (fun hin => ?_)
  have hl := lp_len ps
  have hne : cellsOf (lp ps) ≠ [] := fun e => by
    have h2 := cellsOf_len (lp_cells ps)
    rw [e, hl] at h2
    simp at h2; omega
  (conv => whnf)
  intro b hb
  obtain rfl := hb hne
  (conv => whnf); refine And.intro ⟨by dsimp only [List.length]; omega, lp_cells _⟩ ?_
  exact ⟨rfl, rfl⟩
def res1 (s : Int) (p : Int × Int) : Int × Int := (p.1, ((p.2 - s) % 2305843009213693951 * inv (wr .u64 p.1)) % 2305843009213693951)
def resS (s : Int) (ps : List (Int × Int)) : List (Int × Int) := ps.map (res1 s)
theorem resS_len (s : Int) (ps : List (Int × Int)) : (resS s ps).length = ps.length := List.length_map _
theorem resS_at (s : Int) {ps : List (Int × Int)} {i : Nat} (h : i < ps.length) : (resS s ps).getD i (0, 0) = res1 s (ps.getD i (0, 0)) := by
  unfold resS
  rw [List.getD_eq_getElem?_getD, List.getElem?_map, getD_get h]; rfl
theorem res_sound (s : Int) {ps : List (Int × Int)} (h : soundS ps = 0) : soundS (resS s ps) = 0 := by
  obtain ⟨h0, hl, ht, hs⟩ := sound_rng h
  refine sound_of (by rw [resS_len]; exact h0) (by rw [resS_len]; exact hl) (fun i k hk hi => ?_) (fun i hi => ?_)
  · rw [resS_len] at hi
    rw [resS_at s hi, resS_at s (by omega)]
    exact tw_ne ht hi hk
  · rw [resS_len] at hi
    rw [resS_at s hi]
    have := hs i hi
    show 1 ≤ (ps.getD i (0, 0)).1 ∧ (ps.getD i (0, 0)).1 ≤ 64 ∧ _ % 2305843009213693951 < 2305843009213693951
    omega
def mixS (s : Int) (ps : List (Int × Int)) (i : Nat) : List (Int × Int) := (resS s ps).take i ++ ps.drop i
theorem mixS_len (s : Int) (ps : List (Int × Int)) (i : Nat) (h : i ≤ ps.length) : (mixS s ps i).length = ps.length := by
  unfold mixS; rw [List.length_append, List.length_take, List.length_drop, resS_len]; omega
theorem mixS_at (s : Int) {ps : List (Int × Int)} {i : Nat} (h : i < ps.length) : (mixS s ps i).getD i (0, 0) = ps.getD i (0, 0) := by
  unfold mixS
  rw [List.getD_eq_getElem?_getD, List.getElem?_append_right (by rw [List.length_take, resS_len]; omega), List.length_take, resS_len, List.getElem?_drop, List.getD_eq_getElem?_getD]
  congr 2; omega
theorem mixS_set (s : Int) {ps : List (Int × Int)} {i : Nat} (h : i < ps.length) : (mixS s ps i).set i (res1 s (ps.getD i (0, 0))) = mixS s ps (i + 1) := by
  apply List.ext_getElem?
  intro j
  rw [List.getElem?_set, mixS_len s ps i (by omega)]
  have hr : (resS s ps)[i]? = some (res1 s (ps.getD i (0, 0))) := by unfold resS; rw [List.getElem?_map, getD_get h]; rfl
  unfold mixS
  rw [List.getElem?_append, List.getElem?_append, List.length_take, List.length_take, resS_len]
  by_cases e : i = j
  · subst e
    rw [if_pos rfl, if_pos h, if_pos (by omega), List.getElem?_take, if_pos (by omega), hr]
  · rw [if_neg e, List.getElem?_take, List.getElem?_take, List.getElem?_drop, List.getElem?_drop]
    by_cases e2 : j < i
    · rw [if_pos (by omega), if_pos e2, if_pos (by omega), if_pos (by omega)]
    · rw [if_neg (by omega), if_neg (by omega)]
      congr 1; omega
def otherE (s k : Int) (ps : List (Int × Int)) : Int := if k < 1 ∨ 64 < k ∨ (ps.length : Int) ≠ k - 1 then 1 else if 2305843009213693951 ≤ s then 4 else if ps.length = 0 then 0 else soundS ps
def otherC (s k : Int) (ps : List (Int × Int)) : List Int := if otherE s k ps = 0 ∧ ps.length ≠ 0 then thrS (resS s ps) ++ List.replicate (ps.length - (thrS (resS s ps)).length) 0 else []
theorem Other_ct (s k : Int) (ps : List (Int × Int)) : Ct Try.prog 35 [u64 s, i64 k, LP ps] [] (Is2 (.tup [L (otherC s k ps), i64 (otherE s k ps)]) []) := by
  refine Ct.introF (E := E 88 0 [.tmp 6, .tmp 7] [] [(12, [0, 1, 8, 48, 49, 50])] [(1000002, [.nl 6]), (1000004, [.nl 6]), (1000006, [.nl 6]), (1000010, [.nl 6]), (1000019, [.nl 6]), (1000020, [.fz 6])]) tab_ok Try.call35 Try.func35 rfl rfl rfl rfl rfl (fun hin => ?_)
  have hl := lp_len ps
  have bad : ∀ (_ : k < 1 ∨ 64 < k ∨ (ps.length : Int) ≠ k - 1), AV.tup [L (otherC s k ps), i64 (otherE s k ps)] = AV.tup [.d (.ro []), i64 1] := fun h => by
    have : otherE s k ps = 1 := by unfold otherE; rw [if_pos h]
    unfold otherC; rw [this]; rfl
  (conv => whnf); refine cond_d (fun h1 => ?_) (fun h1 => ?_)
  · exact Is2.mk (bad (by omega))
  (conv => whnf); refine cond_d (fun h2 => ?_) (fun h2 => ?_)
  · exact Is2.mk (bad (by omega))
  (conv => whnf); refine And.intro (by first | omega | (dsimp only [List.length, cond]; omega) | (show (-9223372036854775808 : Int) ≤ _ ∧ _ ≤ (9223372036854775807 : Int); omega) | decide) ?_
  (conv => whnf); refine cond_d (fun h3 => ?_) (fun h3 => ?_)
  · exact Is2.mk (bad (by omega))
  have hno : ¬ (k < 1 ∨ 64 < k ∨ (ps.length : Int) ≠ k - 1) := by omega
  (conv => whnf); refine (large_ct s).use ?_
  (conv => whnf); refine cond_d (fun h4 => ?_) (fun h4 => ?_)
  · refine Is2.mk ?_
    have : otherE s k ps = 4 := by unfold otherE; rw [if_neg hno, if_pos h4]
    unfold otherC; rw [this]; rfl
  (conv => whnf); refine cond_d (fun h5 => ?_) (fun h5 => ?_)
  · refine Is2.mk ?_
    have : otherE s k ps = 0 := by unfold otherE; rw [if_neg hno, if_neg h4, if_pos (by omega)]
    unfold otherC; rw [this, if_neg (by omega)]; rfl
  have hp : ps.length ≠ 0 := by omega
  have hE : otherE s k ps = soundS ps := by unfold otherE; rw [if_neg hno, if_neg h4, if_neg hp]
  (conv => whnf); refine (CloneP_ct ps (by omega) (by omega)).use ?_
  (conv => whnf); refine (Zero_ct ps).use ?_
  (conv => whnf); refine cond_d (fun h6 => ?_) (fun h6 => ?_)
  · refine Is2.mk ?_
    unfold otherC; rw [hE, if_neg (by intro h; exact h6 h.1)]; rfl
  have h0 : soundS ps = 0 := Decidable.of_not_not h6
  obtain ⟨_, hs2, _, hs3⟩ := sound_rng h0
  (conv => whnf); refine LoopI.mk (fun q vs os => ∃ i : Nat, vs = [u64 s, i64 k, .sl 0, .sl 0, i64 ps.length, i64 i] ∧ os = [.row 71 2 (lp (mixS s ps i))] ∧ i ≤ ps.length ∧ q = ps.length - i) ps.length ⟨0, by rw [hl]; rfl, row1 (by unfold mixS; simp), Nat.zero_le _, rfl⟩ ?_
  rintro q _ _ ⟨i, rfl, rfl, g1, rfl⟩
  have hlm := lp_len (mixS s ps i)
  rw [mixS_len s ps i g1] at hlm
  (conv => whnf); refine cond_d (fun g2 => ?_) (fun g2 => ?_)
  · have hi : i < ps.length := by omega
    have hg := lp_get (a := mixS s ps i) (i := i) (by rw [mixS_len s ps i g1]; exact hi)
    rw [mixS_at s hi] at hg
    (conv => whnf); refine And.intro (by first | omega | (dsimp only [List.length, cond]; omega) | (show (-9223372036854775808 : Int) ≤ _ ∧ _ ≤ (9223372036854775807 : Int); omega) | decide) ?_
    (conv => whnf); refine Idx.mk _ hg ?_
    (conv => whnf); refine (Inv_ct (wr .u64 (ps.getD i (0, 0)).1)).use ?_
    (conv => whnf); refine (Sub_ct _ _).use ?_
    (conv => whnf); refine (Mul_ct _ _).use ?_
    (conv => whnf); refine And.intro (by first | omega | (dsimp only [List.length, cond]; omega) | (show (-9223372036854775808 : Int) ≤ _ ∧ _ ≤ (9223372036854775807 : Int); omega) | decide) ?_
    (conv => whnf); refine Idx.mk _ hg ?_
    (conv => whnf); refine And.intro (by first | omega | (dsimp only [List.length, cond]; omega) | (show (-9223372036854775808 : Int) ≤ _ ∧ _ ≤ (9223372036854775807 : Int); omega) | decide) ?_
    conv => whnf
    refine ⟨ps.length - (i + 1), by omega, i + 1, rfl, ?_, by omega, rfl⟩
    rw [← mixS_set s hi]
    refine row1 ?_
    have e : lp ((mixS s ps i).set i (res1 s (ps.getD i (0, 0)))) = (lp (mixS s ps i)).set i (pt (res1 s (ps.getD i (0, 0)))) := by unfold lp; rw [List.map_set]
    rw [e, Int.toNat_natCast]; rfl
  · have e : i = ps.length := by omega
    have em : mixS s ps i = resS s ps := by unfold mixS; rw [e, List.drop_length, List.append_nil, List.take_of_length_le (by rw [resS_len]; exact Nat.le_refl _)]
    rw [em]
    have hr := res_sound s h0
    (conv => whnf); refine (ThroughO_ct (resS s ps) hr).use ?_
    have hlt := li_len (thrS (resS s ps))
    have hzz : (thrS (resS s ps)).length ≤ ps.length := by
      rw [thrS_of hr, ← resS_len s ps]; exact sumS_len' _ _ (Nat.le_refl _)
    (conv => whnf); refine And.intro (by first | omega | (dsimp only [List.length, cond]; omega) | (show (-9223372036854775808 : Int) ≤ _ ∧ _ ≤ (9223372036854775807 : Int); omega) | decide) ?_
    (conv => whnf); refine And.intro (by first | omega | (dsimp only [List.length, cond]; omega) | (show (-9223372036854775808 : Int) ≤ _ ∧ _ ≤ (9223372036854775807 : Int); omega) | decide) ?_
    (conv => whnf); refine And.intro ⟨by omega, by show _ * 8 ≤ _; omega⟩ ?_
    refine Is2.mk ?_
    unfold otherC; rw [hE, if_pos ⟨h0, hp⟩, h0]
    have e2 : (k - 1 - ((li (thrS (resS s ps))).length : Nat)).toNat = ps.length - (thrS (resS s ps)).length := by omega
    rw [e2]
    have e3 : li (List.replicate (ps.length - (thrS (resS s ps)).length) 0) = List.replicate (ps.length - (thrS (resS s ps)).length) (D.int .u64 0) := by unfold li; rw [List.map_replicate]
    rw [← e3, li_app]
theorem spl7 : splitS 7 2 3 [4] = [(1, 11), (2, 15), (3, 19)] := by decide +kernel
theorem spe7 : splitE 7 2 3 [4] = 0 := by decide +kernel
theorem joi7 : joinV 2 [(2, 15), (3, 19)] = 7 := by decide +kernel
theorem joe7 : someE 2 [(2, 15), (3, 19)] = 0 := by decide +kernel
theorem fit7 : fitsV 2 [(1, 11), (2, 15), (3, 19)] = true := by decide +kernel
theorem fie7 : someE 2 [(1, 11), (2, 15), (3, 19)] = 0 := by decide +kernel
theorem oth7 : otherC 9 2 [(1, 11)] = [2] := by decide +kernel
theorem ote7 : otherE 9 2 [(1, 11)] = 0 := by decide +kernel
theorem sAwake_ct : Ct Try.prog 37 [] [] (Is2 (.d (.bool true)) []) := by
  have c1 := Split_ct 7 2 3 [4]
  have c2 := Join_ct 2 [(2, 15), (3, 19)]
  have c3 := Fits_ct 2 [(1, 11), (2, 15), (3, 19)]
  have c4 := Other_ct 9 2 [(1, 11)]
  rw [spl7, spe7] at c1
  rw [joi7, joe7] at c2
  rw [fit7, fie7] at c3
  rw [oth7, ote7] at c4
  refine Ct.introF (E := E 73 0 [.tmp 0] [] [] []) tab_ok Try.call37 Try.func37 rfl rfl rfl rfl rfl (fun hin => ?_)
  (conv => whnf); refine (c1).use ?_
  (conv => whnf); refine And.intro (by first | omega | (dsimp only [List.length, cond]; omega) | (show (-9223372036854775808 : Int) ≤ _ ∧ _ ≤ (9223372036854775807 : Int); omega) | decide) ?_
  (conv => whnf); refine (c2).use ?_
  (conv => whnf); refine (c3).use ?_
  (conv => whnf); refine And.intro (by first | omega | (dsimp only [List.length, cond]; omega) | (show (-9223372036854775808 : Int) ≤ _ ∧ _ ≤ (9223372036854775807 : Int); omega) | decide) ?_
  (conv => whnf); refine (c4).use ?_
  (conv => whnf); refine And.intro (by first | omega | (dsimp only [List.length, cond]; omega) | (show (-9223372036854775808 : Int) ≤ _ ∧ _ ≤ (9223372036854775807 : Int); omega) | decide) ?_
  (conv => whnf); refine Idx.mk _ rfl ?_; try ((conv => whnf); refine Idx.mk _ rfl ?_)
  (conv => whnf); refine And.intro (by first | omega | (dsimp only [List.length, cond]; omega) | (show (-9223372036854775808 : Int) ≤ _ ∧ _ ≤ (9223372036854775807 : Int); omega) | decide) ?_
  (conv => whnf); refine Idx.mk _ rfl ?_; try ((conv => whnf); refine Idx.mk _ rfl ?_)
  exact isBool rfl
end Go.Proofs.Ytofkdfodehfpdaa

/- Package share's laws: joining, splitting. -/
namespace Go.Proofs.Ytofkdfodehfpdaa
open Go.V Go.Num
open Go.Eng (wr)
set_option maxRecDepth 100000
set_option maxHeartbeats 4000000
theorem sSome_ct (ps : List (Int × Int)) : Ct Try.prog 34 [LP ps] [] (Is2 (LP (somS ps)) []) := by
  refine Ct.introF (E := E 14 0 [.tmp 2] [] [] []) tab_ok Try.call34 Try.func34 rfl rfl rfl rfl rfl (fun hin => ?_)
  have hl := lp_len ps
  have hb := hin.1.1
  (conv => whnf); refine cond_d (fun h => ?_) (fun h => ?_)
  · (conv => whnf); refine cond_d (fun h2 => ?_) (fun h2 => ?_)
    · (conv => whnf); refine And.intro (by first | omega | (dsimp only [List.length, cond]; omega) | (show (-9223372036854775808 : Int) ≤ _ ∧ _ ≤ (9223372036854775807 : Int); omega) | decide) ?_
      refine isRo ?_
      unfold somS
      rw [if_pos ⟨by omega, by omega⟩]; exact List.map_take.symm
    · refine isRo ?_
      unfold somS
      rw [if_neg (by omega)]
  · refine isRo ?_
    unfold somS
    rw [if_neg (by omega)]
theorem splitE_zero {s k n : Int} {c : List Int} (h : splitE s k n c = 0) : 1 ≤ n ∧ n ≤ 64 ∧ 1 ≤ k ∧ k ≤ n ∧ (c.length : Int) = k - 1 ∧ s < 2305843009213693951 ∧ bigS c = false := by
  unfold splitE at h
  split at h
  · cases h
  split at h
  · cases h
  rename_i h1 h2
  refine ⟨by omega, by omega, by omega, by omega, by omega, by omega, ?_⟩
  cases e : bigS c with
  | false => rfl
  | true => exact absurd (.inr e) h2
def fitP (k : Int) (ps : List (Int × Int)) (p : Int × Int) : Bool := decide (valS (ps.take k.toNat) (wr .u64 p.1) (ps.take k.toNat).length = p.2)
theorem all_take {α : Type} {f : α → Bool} {xs : List α} {i : Nat} {x : α} (h : xs[i]? = some x) : (xs.take (i + 1)).all f = ((xs.take i).all f && f x) := by
  rw [List.take_add_one, List.all_append, h]; simp
theorem fits_want {k : Int} {ps : List (Int × Int)} (h : someE k ps = 0) : fitsV k ps = ps.all (fitP k ps) := by
  obtain ⟨h1, h2, h3, h4⟩ := someE_zero h
  have hs := sound_take h3 (k := k.toNat) (by omega) (by omega)
  have hc : someC k ps = thrS (ps.take k.toNat) := by unfold someC; rw [h, if_pos rfl]
  unfold fitsV
  rw [h, if_pos rfl, hc]
  have : (fun p => !offP (thrS (ps.take k.toNat)) p) = fitP k ps := by
    funext p
    unfold offP fitP
    rw [thr_val hs, Bool.not_not]
  rw [← this, List.not_any_eq_all_not]
end Go.Proofs.Ytofkdfodehfpdaa

/- Package share's laws: shares come to the number again. -/
namespace Go.Proofs.Ytofkdfodehfpdaa
open Go.V Go.Num
open Go.Eng (wr)
set_option maxRecDepth 100000
set_option maxHeartbeats 4000000
theorem back_gen {C : List Int} {qs : List (Int × Int)} (hs : soundS qs = 0) (hv : ∀ j, j < qs.length → (qs.getD j (0, 0)).2 = ev C (qs.getD j (0, 0)).1 % 2305843009213693951) (hc : C.length ≤ qs.length) : thrS qs = tr C := by
  obtain ⟨_, hl2, ht2, hr⟩ := sound_rng hs
  have hl : (thrS qs).length ≤ qs.length := by rw [thrS_of hs]; exact sumS_len' qs _ (Nat.le_refl _)
  have ht : tr (thrS qs) = thrS qs := by rw [thrS_of hs]; exact sumS_tr _ _
  rw [← ht]
  have hg : ∀ j, j < qs.length → (qs.map (·.1)).getD j 0 = (qs.getD j (0, 0)).1 := fun j hj => by
    rw [List.getD_eq_getElem?_getD, List.getElem?_map, getD_get hj]; rfl
  refine agree_tr (rs := qs.map (·.1)) (by simpa using hl) (by simpa using hc) (fun i j hij hj => ?_) (fun r hr' => ?_)
  · rw [List.length_map] at hj
    rw [hg i (by omega), hg j hj]
    have h1 := hr i (by omega)
    have h2 := hr j hj
    have h3 := tw_ne ht2 hj hij
    unfold Cg; omega
  · obtain ⟨p, hp, rfl⟩ := List.mem_map.1 hr'
    obtain ⟨j, hj, e⟩ := List.getElem_of_mem hp
    have e2 : qs.getD j (0, 0) = p := by rw [List.getD_eq_getElem?_getD, List.getElem?_eq_getElem hj, Option.getD_some, e]
    have h2 := thr_at hs (n := j) hj (by rw [hv j hj]; omega)
    rw [hv j hj, e2] at h2
    exact h2
def turnS (C : List Int) (n f i : Nat) : List (Int × Int) := (List.range i).map fun t : Nat => (pts C n).getD ((n - 1 - t + f) % n) (0, 0)
theorem turnS_len (C : List Int) (n f i : Nat) : (turnS C n f i).length = i := by simp [turnS]
theorem turnS_at (C : List Int) {n f i t : Nat} (hn : 0 < n) (h : t < i) : (turnS C n f i).getD t (0, 0) = ((((n - 1 - t + f) % n : Nat) : Int) + 1, ev C ((((n - 1 - t + f) % n : Nat) : Int) + 1) % 2305843009213693951) := by
  unfold turnS
  rw [List.getD_eq_getElem?_getD, List.getElem?_map, List.getElem?_range h, Option.map_some, Option.getD_some, pts_at C (Nat.mod_lt _ hn)]
theorem turnS_succ (C : List Int) (n f i : Nat) : turnS C n f (i + 1) = turnS C n f i ++ [(pts C n).getD ((n - 1 - i + f) % n) (0, 0)] := by
  unfold turnS; rw [List.range_succ, List.map_append]; rfl
theorem mod_ne {n f t u : Nat} (ht : t < u) (hu : u < n) : (n - 1 - t + f) % n ≠ (n - 1 - u + f) % n := by
  intro e
  have e1 : n - 1 - t + f = (n - 1 - u + f) + (u - t) := by omega
  rw [e1] at e
  have h2 : (n - 1 - u + f + (u - t)) % n = ((n - 1 - u + f) % n + (u - t)) % n := by rw [Nat.mod_add_mod]
  rw [h2] at e
  have h3 : (n - 1 - u + f) % n < n := Nat.mod_lt _ (by omega)
  generalize (n - 1 - u + f) % n = z at *
  rcases Nat.lt_or_ge (z + (u - t)) n with h | h
  · rw [Nat.mod_eq_of_lt h] at e; omega
  · have : (z + (u - t)) % n = z + (u - t) - n := by rw [Nat.mod_eq_sub_mod h, Nat.mod_eq_of_lt (by omega)]
    omega
theorem turn_sound (C : List Int) {n f i : Nat} (h0 : 0 < i) (h1 : i ≤ n) (h2 : n ≤ 64) : soundS (turnS C n f i) = 0 := by
  refine sound_of (by rw [turnS_len]; exact h0) (by rw [turnS_len]; omega) (fun a b hb ha => ?_) (fun a ha => ?_)
  · rw [turnS_len] at ha
    rw [turnS_at C (by omega) ha, turnS_at C (by omega) (by omega)]
    have := mod_ne (f := f) hb (show a < n by omega)
    show (((n - 1 - b + f) % n : Nat) : Int) + 1 ≠ (((n - 1 - a + f) % n : Nat) : Int) + 1
    omega
  · rw [turnS_len] at ha
    rw [turnS_at C (by omega) ha]
    have : (n - 1 - a + f) % n < n := Nat.mod_lt _ (by omega)
    show 1 ≤ (((n - 1 - a + f) % n : Nat) : Int) + 1 ∧ (((n - 1 - a + f) % n : Nat) : Int) + 1 ≤ 64 ∧ _ % 2305843009213693951 < 2305843009213693951
    omega
theorem turn_take (C : List Int) (n f i j : Nat) (h : j ≤ i) : (turnS C n f i).take j = turnS C n f j := by
  unfold turnS; rw [← List.map_take, List.take_range, Nat.min_eq_left h]
theorem turn_someE (C : List Int) {n f k : Nat} (h0 : 0 < k) (h1 : k ≤ n) (h2 : n ≤ 64) : someE k (turnS C n f n) = 0 := by
  unfold someE
  rw [if_neg (by omega), if_neg (by omega), if_neg (by rw [turn_sound C (by omega) (Nat.le_refl _) h2]; simp), if_neg (by rw [turnS_len]; omega)]
theorem turn_someC {C : List Int} {n f k : Nat} (h0 : 0 < k) (h1 : k ≤ n) (h2 : n ≤ 64) (hc : C.length = k) : someC k (turnS C n f n) = tr C := by
  unfold someC
  rw [turn_someE C h0 h1 h2, if_pos rfl, Int.toNat_natCast, turn_take C n f n k h1]
  exact back_gen (turn_sound C h0 h1 h2) (fun j hj => by rw [turnS_len] at hj; rw [turnS_at C (by omega) hj]) (by rw [turnS_len]; omega)
theorem turn_few (C : List Int) {n f k : Nat} (h1 : k < n) (h2 : n ≤ 64) : someE ((k : Int) + 1) (turnS C n f k) = if k = 0 then 1 else 12 := by
  unfold someE
  rw [if_neg (by omega), if_neg (by omega)]
  by_cases e : k = 0
  · subst e
    rw [if_pos rfl]; rfl
  · rw [if_neg e, if_neg (by rw [turn_sound C (by omega) (by omega) h2]; simp), if_pos (by rw [turnS_len]; omega)]
theorem turn_join {s : Int} {c : List Int} {n f : Nat} (h1 : c.length < n) (h2 : n ≤ 64) (hs : 0 ≤ s ∧ s < 2305843009213693951) : joinV ((c.length : Int) + 1) (turnS (s :: c) n f n) = s := by
  have e : (c.length : Int) + 1 = ((c.length + 1 : Nat) : Int) := by omega
  rw [e]
  unfold joinV
  rw [turn_someE (s :: c) (by omega) (by omega) h2, if_pos rfl, turn_someC (by omega) (by omega) h2 (by simp)]
  have h := ev_tr (s :: c) 0
  have e2 : ev (s :: c) 0 = s := by show s + 0 * ev c 0 = s; rw [Int.zero_mul, Int.add_zero]
  rw [e2] at h
  unfold Cg at h; omega
theorem turn_fits {s : Int} {c : List Int} {n f : Nat} (h1 : c.length < n) (h2 : n ≤ 64) : fitsV ((c.length : Int) + 1) (turnS (s :: c) n f n) = true := by
  have e : (c.length : Int) + 1 = ((c.length + 1 : Nat) : Int) := by omega
  rw [e]
  unfold fitsV
  rw [turn_someE (s :: c) (by omega) (by omega) h2, if_pos rfl, turn_someC (by omega) (by omega) h2 (by simp)]
  rw [Bool.not_eq_true', List.any_eq_false]
  intro p hp
  obtain ⟨j, hj, e⟩ := List.getElem_of_mem hp
  have e2 : (turnS (s :: c) n f n).getD j (0, 0) = p := by rw [List.getD_eq_getElem?_getD, List.getElem?_eq_getElem hj, Option.getD_some, e]
  rw [turnS_len] at hj
  rw [turnS_at (s :: c) (by omega) hj] at e2
  subst e2
  have hm : (n - 1 - j + f) % n < n := Nat.mod_lt _ (by omega)
  have hw : wr .u64 ((((n - 1 - j + f) % n : Nat) : Int) + 1) = (((n - 1 - j + f) % n : Nat) : Int) + 1 := wr_small (by omega)
  have h := ev_tr (s :: c) ((((n - 1 - j + f) % n : Nat) : Int) + 1)
  unfold Cg at h
  unfold offP
  simp only [hw, h]
  simp
end Go.Proofs.Ytofkdfodehfpdaa

/- Package share's laws: fewer than enough shares fit any number. -/
namespace Go.Proofs.Ytofkdfodehfpdaa
open Go.V Go.Num
open Go.Eng (wr)
set_option maxRecDepth 100000
set_option maxHeartbeats 4000000
theorem co_pad (xs : List Int) (z k : Nat) : co (xs ++ List.replicate z 0) k = co xs k := by
  unfold co
  rw [List.getD_eq_getElem?_getD, List.getD_eq_getElem?_getD, List.getElem?_append]
  split
  · rfl
  · rename_i h
    rw [List.getElem?_eq_none (l := xs) (by omega), List.getElem?_replicate]
    split <;> rfl
theorem ev_pad (xs : List Int) (z : Nat) (x : Int) : Cg (ev (xs ++ List.replicate z 0) x) (ev xs x) := ev_cong _ _ x (fun k => .of (co_pad xs z k))
theorem thr_co {ps : List (Int × Int)} (h : soundS ps = 0) (k : Nat) : co (thrS ps) k < 2305843009213693951 := by
  have e : tr (thrS ps) = thrS ps := by rw [thrS_of h]; exact sumS_tr ps _
  rw [← e, co_tr]; omega
theorem hide_at {s : Int} {ps : List (Int × Int)} (h : soundS ps = 0) (hs : 0 ≤ s) {i : Nat} (hi : i < ps.length) (h0 : 0 ≤ (ps.getD i (0, 0)).2) (z : Nat) : shareV s (thrS (resS s ps) ++ List.replicate z 0) (ps.getD i (0, 0)).1 = (ps.getD i (0, 0)).2 := by
  obtain ⟨_, _, _, hr⟩ := sound_rng h
  have hx := hr i hi
  obtain ⟨a, ha⟩ : ∃ a, a = (ps.getD i (0, 0)).1 := ⟨_, rfl⟩
  obtain ⟨v, hv⟩ : ∃ v, v = (ps.getD i (0, 0)).2 := ⟨_, rfl⟩
  rw [← ha, ← hv] at hx ⊢
  rw [← hv] at h0
  have hw : wr .u64 a = a := wr_small (by omega)
  have hrs := res_sound s h
  have e1 := thr_at hrs (n := i) (by rw [resS_len]; exact hi) (by rw [resS_at s hi]; show 0 ≤ _ % (2305843009213693951 : Int); omega)
  rw [resS_at s hi] at e1
  have e2 : (res1 s (ps.getD i (0, 0))).1 = a := ha.symm
  have e3 : (res1 s (ps.getD i (0, 0))).2 = ((v - s) % 2305843009213693951 * inv a) % 2305843009213693951 := by
    show ((ps.getD i (0, 0)).2 - s) % 2305843009213693951 * inv (wr .u64 (ps.getD i (0, 0)).1) % 2305843009213693951 = _
    rw [← hv, ← ha, hw]
  rw [e2, e3] at e1
  unfold shareV
  rw [hw]
  have na : ¬ Cg a 0 := by unfold Cg; omega
  have c1 : Cg (ev (thrS (resS s ps)) a) ((v - s) * inv a) := by
    have : Cg (ev (thrS (resS s ps)) a) ((v - s) % 2305843009213693951 * inv a) := by unfold Cg; exact e1
    exact this.trans ((cg_mod _).mul .rfl')
  have c2 : Cg (ev (s :: (thrS (resS s ps) ++ List.replicate z 0)) a) (s + a * ((v - s) * inv a)) := Cg.rfl'.add (Cg.rfl'.mul ((ev_pad _ _ _).trans c1))
  have c3 : Cg (s + a * ((v - s) * inv a)) v := by
    have h1 : a * ((v - s) * inv a) = (v - s) * (a * inv a) := by rw [Int.mul_left_comm]
    rw [h1]
    have h2 : Cg ((v - s) * (a * inv a)) ((v - s) * 1) := Cg.rfl'.mul (inv_cg na)
    have h3 := Cg.rfl' (a := s) |>.add h2
    refine h3.trans (.of ?_)
    omega
  have c4 := c2.trans c3
  unfold Cg at c4
  rw [c4]
  omega
theorem ShareHides_ct (s k : Int) (ps0 : List (Int × Int)) : Ct Try.prog 11 [u64 s, i64 k, LP ps0] [] (Is2 (.d (.bool true)) []) := by
  refine Ct.introF (E := E 93 0 [.tmp 6] [(10, [0, 1, 2, 7, 8, 9])] [(15, [0, 2, 7, 10])] []) tab_ok Try.call11 Try.func11 rfl rfl rfl rfl rfl (fun hin => ?_)
  have hs := inr_u64 hin.1
  have hq := som_rng (lp_rng hin.2.2.1.2)
  (conv => whnf); refine (sSome_ct ps0).use ?_
  generalize somS ps0 = ps at hq ⊢
  have hl := lp_len ps
  (conv => whnf); refine (Other_ct s k ps).use ?_
  (conv => whnf); refine JoinI.mk (fun ws os => ws = [u64 s, i64 k, LP ps, L (otherC s k ps), i64 (otherE s k ps), i64 (otherE s k ps)] ∧ os = []) ?_ ?_
  · (conv => whnf); refine cond_d (fun h1 => ?_) (fun h1 => ?_)
    · (conv => whnf)
      exact ⟨by rw [show otherE s k ps = 1 from by unfold otherE; rw [if_pos (.inl h1)]], rfl⟩
    (conv => whnf); refine cond_d (fun h2 => ?_) (fun h2 => ?_)
    · (conv => whnf)
      exact ⟨by rw [show otherE s k ps = 1 from by unfold otherE; rw [if_pos (.inr (.inl h2))]], rfl⟩
    (conv => whnf); refine And.intro (by first | omega | (dsimp only [List.length, cond]; omega) | (show (-9223372036854775808 : Int) ≤ _ ∧ _ ≤ (9223372036854775807 : Int); omega) | decide) ?_
    (conv => whnf); refine cond_d (fun h3 => ?_) (fun h3 => ?_)
    · (conv => whnf)
      exact ⟨by rw [show otherE s k ps = 1 from by unfold otherE; rw [if_pos (.inr (.inr (by omega)))]], rfl⟩
    (conv => whnf); refine cond_d (fun h4 => ?_) (fun h4 => ?_)
    · (conv => whnf)
      exact ⟨by rw [show otherE s k ps = 4 from by unfold otherE; rw [if_neg (by omega), if_pos h4]], rfl⟩
    (conv => whnf); refine cond_d (fun h5 => ?_) (fun h5 => ?_)
    · (conv => whnf); refine (Points_ct ps).use ?_
      (conv => whnf)
      exact ⟨by rw [show otherE s k ps = soundS ps from by unfold otherE; rw [if_neg (by omega), if_neg h4, if_neg (by omega)]], rfl⟩
    · (conv => whnf)
      exact ⟨by rw [show otherE s k ps = 0 from by unfold otherE; rw [if_neg (by omega), if_neg h4, if_pos (by omega)]], rfl⟩
  rintro _ _ ⟨rfl, rfl⟩
  (conv => whnf); refine cond_d (fun h => ?_) (fun h => ?_)
  · (conv => whnf); refine (sAwake_ct).use ?_
    (conv => whnf); refine cond_y rfl ?_
    refine isBool ?_
    rw [show otherC s k ps = [] from by unfold otherC; rw [if_neg (fun e => h e.1)]]; rfl
  have h0 : otherE s k ps = 0 := Decidable.of_not_not h
  have hno : ¬ (k < 1 ∨ 64 < k ∨ (ps.length : Int) ≠ k - 1) := fun e => by unfold otherE at h0; rw [if_pos e] at h0; exact absurd h0 (by decide)
  have hsP : ¬ 2305843009213693951 ≤ s := fun e => by unfold otherE at h0; rw [if_neg hno, if_pos e] at h0; exact absurd h0 (by decide)
  have hsd : ps.length ≠ 0 → soundS ps = 0 := fun e => by unfold otherE at h0; rw [if_neg hno, if_neg hsP, if_neg e] at h0; exact h0
  obtain ⟨C, hC⟩ : ∃ C, C = otherC s k ps := ⟨_, rfl⟩
  have hCl : C.length = ps.length := by
    rw [hC]; unfold otherC
    by_cases e : ps.length = 0
    · rw [if_neg (fun h => h.2 e)]; exact e.symm
    · have hr := res_sound s (hsd e)
      have : (thrS (resS s ps)).length ≤ ps.length := by rw [thrS_of hr, ← resS_len s ps]; exact sumS_len' _ _ (Nat.le_refl _)
      rw [if_pos ⟨h0, e⟩, List.length_append, List.length_replicate]; omega
  have hCs : ps.length ≠ 0 → C = thrS (resS s ps) ++ List.replicate (ps.length - (thrS (resS s ps)).length) 0 := fun e => by
    rw [hC]; unfold otherC; rw [if_pos ⟨h0, e⟩]
  rw [← hC]
  have hlC := li_len C
  (conv => whnf); refine cond_n (fun e => e h0) ?_
  (conv => whnf); refine And.intro (by first | omega | (dsimp only [List.length, cond]; omega) | (show (-9223372036854775808 : Int) ≤ _ ∧ _ ≤ (9223372036854775807 : Int); omega) | decide) ?_
  (conv => whnf); refine cond_n (by omega) ?_
  (conv => whnf); refine LoopI.mk (fun q ws os => ∃ i : Nat, ws = [u64 s, LP ps, L C, i64 i] ∧ os = [] ∧ i ≤ ps.length ∧ q = ps.length - i) ps.length ⟨0, rfl, rfl, Nat.zero_le _, rfl⟩ ?_
  rintro q _ _ ⟨i, rfl, rfl, g1, rfl⟩
  (conv => whnf); refine cond_d (fun g2 => ?_) (fun g2 => ?_)
  · have hi : i < ps.length := by omega
    have hsnd := hsd (by omega)
    have hlow : ¬ 2305843009213693951 ≤ C.getD i 0 := by
      have := thr_co (res_sound s hsnd) i
      have e : C.getD i 0 = co (thrS (resS s ps)) i := by rw [hCs (by omega)]; exact co_pad _ _ _
      omega
    have hw : wr .u64 (ps.getD i (0, 0)).1 = (ps.getD i (0, 0)).1 := wr_small (by have := (sound_rng hsnd).2.2.2 i hi; omega)
    have hsh : shareV s C (ps.getD i (0, 0)).1 = (ps.getD i (0, 0)).2 := by
      rw [hCs (by omega)]; exact hide_at hsnd hs.1 hi (hq i hi) _
    (conv => whnf); refine DrawI.mkF 20 [[7], [10], [71, 72], [73], [74], [75], [0, 76], [7, 76], [2, 76], [10, 76], [76, 79, 80], [76, 81], [76, 82], [76, 77, 78, 83], [2, 76], [10, 76], [76, 85, 86], [76, 87], [76, 88], [76, 84, 89]] (by decide +kernel) ?_
    repeat (first | refine DrawO.mkF _ (And.intro rfl rfl) ?_ | refine DrawO.mkF _ (Idx.mk _ rfl (And.intro rfl rfl)) ?_)
    refine DrawO.mkF _ (And.intro (by omega) (Idx.mk _ (li_get (by omega)) (And.intro rfl rfl))) ?_
    repeat (first | refine DrawO.mkF _ (And.intro rfl rfl) ?_ | refine DrawO.mkF _ (Idx.mk _ rfl (And.intro rfl rfl)) ?_)
    (conv => whnf); refine cond_n hlow ?_
    repeat (first | refine DrawO.mkF _ (And.intro rfl rfl) ?_ | refine DrawO.mkF _ (Idx.mk _ rfl (And.intro rfl rfl)) ?_)
    refine DrawO.mkF _ (And.intro (by omega) (Idx.mk _ (lp_get hi) (And.intro rfl rfl))) ?_
    repeat (first | refine DrawO.mkF _ (And.intro rfl rfl) ?_ | refine DrawO.mkF _ (Idx.mk _ rfl (And.intro rfl rfl)) ?_)
    refine DrawO.mkF _ ((Share_ct s C (ps.getD i (0, 0)).1 (by omega) (by rw [hw]; have := (sound_rng hsnd).2.2.2 i hi; omega)).use (And.intro rfl rfl)) ?_
    repeat (first | refine DrawO.mkF _ (And.intro rfl rfl) ?_ | refine DrawO.mkF _ (Idx.mk _ rfl (And.intro rfl rfl)) ?_)
    refine DrawO.mkF _ (And.intro (by omega) (Idx.mk _ (lp_get hi) (And.intro rfl rfl))) ?_
    repeat (first | refine DrawO.mkF _ (And.intro rfl rfl) ?_ | refine DrawO.mkF _ (Idx.mk _ rfl (And.intro rfl rfl)) ?_)
    (conv => whnf); refine cond_n (fun e => e hsh) ?_
    (conv => whnf); refine And.intro (by first | omega | (dsimp only [List.length, cond]; omega) | (show (-9223372036854775808 : Int) ≤ _ ∧ _ ≤ (9223372036854775807 : Int); omega) | decide) ?_
    conv => whnf
    exact ⟨ps.length - (i + 1), by omega, i + 1, rfl, rfl, by omega, rfl⟩
  · (conv => whnf); refine (sAwake_ct).use ?_
    exact isBool rfl
end Go.Proofs.Ytofkdfodehfpdaa
