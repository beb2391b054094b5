/- Package words: are two lists one? -/
import Derived.Test.YtidelnccggfmgaaKWordsSameA
set_option linter.unusedVariables false
set_option linter.unusedSimpArgs false
set_option linter.unnecessarySimpa false
set_option linter.unusedSectionVars false
set_option linter.all false
/- Package words: are two lists one? -/
namespace Go.Proofs.Ytidelnccggfmgaa.Wrd
open Go.V Go.Num
open Go.Eng (wr)
open Go.Proofs.Ytidelnccggfmgaa.Let
set_option maxRecDepth 100000
set_option maxHeartbeats 4000000
theorem eq_next {α : Type} {xs ys : List α} {i : Nat} {x : α} (h : xs.take i = ys.take i) (hx : xs[i]? = some x) (hy : ys[i]? = some x) : xs.take (i + 1) = ys.take (i + 1) := by
  rw [List.take_add_one, List.take_add_one, h, hx, hy]
theorem ne_at {α : Type} {xs ys : List α} {i : Nat} {x y : α} (hx : xs[i]? = some x) (hy : ys[i]? = some y) (h : x ≠ y) : xs ≠ ys := fun e => by
  subst e; rw [hx] at hy; cases hy; exact h rfl
theorem eq_all {α : Type} {xs ys : List α} (hl : xs.length = ys.length) (h : xs.take xs.length = ys.take xs.length) : xs = ys := by
  rw [List.take_of_length_le (Nat.le_refl _), hl, List.take_of_length_le (Nat.le_refl _)] at h; exact h
theorem kInt : KdT Try.prog 3 .int := ⟨fun w => by rw [Try.isAgg3], _, Try.underlying3⟩
theorem kU64 : KdT Try.prog 73 .int := ⟨fun w => by rw [Try.isAgg73], _, Try.underlying73⟩
theorem eqCard : EqT Try.prog 75 [.int, .int, .int] := by
  refine EqT.struct Try.underlying75 (by kernel_rfl) (by kernel_rfl) rfl (fun i f k h1 h2 => ?_)
  rcases i with _ | _ | _ | i
  · cases h1; cases h2; exact ⟨by decide, rfl, kInt⟩
  · cases h1; cases h2; exact ⟨by decide, rfl, kU64⟩
  · cases h1; cases h2; exact ⟨by decide, rfl, kU64⟩
  · simp at h2
theorem eqInt_ct (xs ys : List Int) : Ct Try.prog 62 [.d (.ro (xs.map (D.int .i64))), .d (.ro (ys.map (D.int .i64)))] [] (Is2 (.d (.bool (decide (xs = ys)))) []) := by
  refine Ct.introF (E := E 26 0 [.tmp 4] [] [(4, [0, 1, 12, 13])] []) tab_ok Try.call62 Try.func62 rfl rfl rfl rfl rfl (fun hin => ?_)
  have dx : (xs.map (D.int .i64)).length = xs.length := List.length_map _
  have dy : (ys.map (D.int .i64)).length = ys.length := List.length_map _
  have hb : xs.length ≤ 9223372036854775807 := by have := hin.1.1; rwa [dx] at this
  (conv => whnf); refine cond_d (fun h1 => ?_) (fun h1 => ?_)
  · rw [decide_eq_false (p := xs = ys) (fun e => h1 (by rw [e]))]
    exact Is2.mk rfl
  have hl : xs.length = ys.length := by omega
  (conv => whnf); refine LoopI.mk (fun q ws os => ∃ i : Nat, ws = [.d (.ro (xs.map (D.int .i64))), .d (.ro (ys.map (D.int .i64))), i64 xs.length, i64 i] ∧ os = [] ∧ i ≤ xs.length ∧ xs.take i = ys.take i ∧ q = xs.length - i) xs.length ⟨0, by rw [dx]; rfl, rfl, Nat.zero_le _, rfl, rfl⟩ ?_
  rintro q _ _ ⟨i, rfl, rfl, h2, h3, rfl⟩
  (conv => whnf); refine cond_d (fun h4 => ?_) (fun h4 => ?_)
  · obtain ⟨x, hx⟩ := get_some (l := xs) (i := i) (by omega)
    obtain ⟨y, hy⟩ := get_some (l := ys) (i := i) (by omega)
    (conv => whnf); refine DrawI.mkF 8 [[0], [5], [16, 17], [18], [1], [5], [20, 21], [22]] (by decide +kernel) ?_
    repeat (first | refine DrawO.mkF _ (And.intro rfl rfl) ?_ | refine DrawO.mkF _ (Idx.mk _ rfl (And.intro rfl rfl)) ?_)
    refine DrawO.mkF _ (And.intro (by omega) (Idx.mk _ (map_at hx) (And.intro rfl rfl))) ?_
    repeat (first | refine DrawO.mkF _ (And.intro rfl rfl) ?_ | refine DrawO.mkF _ (Idx.mk _ rfl (And.intro rfl rfl)) ?_)
    refine DrawO.mkF _ (And.intro (by omega) (Idx.mk _ (map_at hy) (And.intro rfl rfl))) ?_
    repeat (first | refine DrawO.mkF _ (And.intro rfl rfl) ?_ | refine DrawO.mkF _ (Idx.mk _ rfl (And.intro rfl rfl)) ?_)
    (conv => whnf); refine cond_d (fun h5 => ?_) (fun h5 => ?_)
    · rw [decide_eq_false (p := xs = ys) (ne_at hx hy (fun e => h5 (by rw [e])))]
      exact Is2.mk rfl
    · have e : x = y := Decidable.of_not_not h5
      (conv => whnf); refine And.intro (by first | omega | (dsimp only [List.length, cond]; omega) | (show (-9223372036854775808 : Int) ≤ _ ∧ _ ≤ (9223372036854775807 : Int); omega) | decide) ?_
      (conv => whnf)
      exact ⟨xs.length - (i + 1), by omega, i + 1, rfl, rfl, by omega, eq_next h3 hx (by rw [hy, e]), rfl⟩
  · obtain rfl : i = xs.length := by omega
    rw [decide_eq_true (eq_all hl h3)]
    exact Is2.mk rfl
theorem eqU32_ct (xs ys : List Int) : Ct Try.prog 61 [.d (.ro (xs.map (D.int .u32))), .d (.ro (ys.map (D.int .u32)))] [] (Is2 (.d (.bool (decide (xs = ys)))) []) := by
  refine Ct.introF (E := E 26 0 [.tmp 4] [] [(4, [0, 1, 12, 13])] []) tab_ok Try.call61 Try.func61 rfl rfl rfl rfl rfl (fun hin => ?_)
  have dx : (xs.map (D.int .u32)).length = xs.length := List.length_map _
  have dy : (ys.map (D.int .u32)).length = ys.length := List.length_map _
  have hb : xs.length ≤ 9223372036854775807 := by have := hin.1.1; rwa [dx] at this
  (conv => whnf); refine cond_d (fun h1 => ?_) (fun h1 => ?_)
  · rw [decide_eq_false (p := xs = ys) (fun e => h1 (by rw [e]))]
    exact Is2.mk rfl
  have hl : xs.length = ys.length := by omega
  (conv => whnf); refine LoopI.mk (fun q ws os => ∃ i : Nat, ws = [.d (.ro (xs.map (D.int .u32))), .d (.ro (ys.map (D.int .u32))), i64 xs.length, i64 i] ∧ os = [] ∧ i ≤ xs.length ∧ xs.take i = ys.take i ∧ q = xs.length - i) xs.length ⟨0, by rw [dx]; rfl, rfl, Nat.zero_le _, rfl, rfl⟩ ?_
  rintro q _ _ ⟨i, rfl, rfl, h2, h3, rfl⟩
  (conv => whnf); refine cond_d (fun h4 => ?_) (fun h4 => ?_)
  · obtain ⟨x, hx⟩ := get_some (l := xs) (i := i) (by omega)
    obtain ⟨y, hy⟩ := get_some (l := ys) (i := i) (by omega)
    (conv => whnf); refine DrawI.mkF 8 [[0], [5], [16, 17], [18], [1], [5], [20, 21], [22]] (by decide +kernel) ?_
    repeat (first | refine DrawO.mkF _ (And.intro rfl rfl) ?_ | refine DrawO.mkF _ (Idx.mk _ rfl (And.intro rfl rfl)) ?_)
    refine DrawO.mkF _ (And.intro (by omega) (Idx.mk _ (map_at hx) (And.intro rfl rfl))) ?_
    repeat (first | refine DrawO.mkF _ (And.intro rfl rfl) ?_ | refine DrawO.mkF _ (Idx.mk _ rfl (And.intro rfl rfl)) ?_)
    refine DrawO.mkF _ (And.intro (by omega) (Idx.mk _ (map_at hy) (And.intro rfl rfl))) ?_
    repeat (first | refine DrawO.mkF _ (And.intro rfl rfl) ?_ | refine DrawO.mkF _ (Idx.mk _ rfl (And.intro rfl rfl)) ?_)
    (conv => whnf); refine cond_d (fun h5 => ?_) (fun h5 => ?_)
    · rw [decide_eq_false (p := xs = ys) (ne_at hx hy (fun e => h5 (by rw [e])))]
      exact Is2.mk rfl
    · have e : x = y := Decidable.of_not_not h5
      (conv => whnf); refine And.intro (by first | omega | (dsimp only [List.length, cond]; omega) | (show (-9223372036854775808 : Int) ≤ _ ∧ _ ≤ (9223372036854775807 : Int); omega) | decide) ?_
      (conv => whnf)
      exact ⟨xs.length - (i + 1), by omega, i + 1, rfl, rfl, by omega, eq_next h3 hx (by rw [hy, e]), rfl⟩
  · obtain rfl : i = xs.length := by omega
    rw [decide_eq_true (eq_all hl h3)]
    exact Is2.mk rfl
theorem eqU64_ct (xs ys : List Int) : Ct Try.prog 68 [.d (.ro (xs.map (D.int .u64))), .d (.ro (ys.map (D.int .u64)))] [] (Is2 (.d (.bool (decide (xs = ys)))) []) := by
  refine Ct.introF (E := E 26 0 [.tmp 4] [] [(4, [0, 1, 12, 13])] []) tab_ok Try.call68 Try.func68 rfl rfl rfl rfl rfl (fun hin => ?_)
  have dx : (xs.map (D.int .u64)).length = xs.length := List.length_map _
  have dy : (ys.map (D.int .u64)).length = ys.length := List.length_map _
  have hb : xs.length ≤ 9223372036854775807 := by have := hin.1.1; rwa [dx] at this
  (conv => whnf); refine cond_d (fun h1 => ?_) (fun h1 => ?_)
  · rw [decide_eq_false (p := xs = ys) (fun e => h1 (by rw [e]))]
    exact Is2.mk rfl
  have hl : xs.length = ys.length := by omega
  (conv => whnf); refine LoopI.mk (fun q ws os => ∃ i : Nat, ws = [.d (.ro (xs.map (D.int .u64))), .d (.ro (ys.map (D.int .u64))), i64 xs.length, i64 i] ∧ os = [] ∧ i ≤ xs.length ∧ xs.take i = ys.take i ∧ q = xs.length - i) xs.length ⟨0, by rw [dx]; rfl, rfl, Nat.zero_le _, rfl, rfl⟩ ?_
  rintro q _ _ ⟨i, rfl, rfl, h2, h3, rfl⟩
  (conv => whnf); refine cond_d (fun h4 => ?_) (fun h4 => ?_)
  · obtain ⟨x, hx⟩ := get_some (l := xs) (i := i) (by omega)
    obtain ⟨y, hy⟩ := get_some (l := ys) (i := i) (by omega)
    (conv => whnf); refine DrawI.mkF 8 [[0], [5], [16, 17], [18], [1], [5], [20, 21], [22]] (by decide +kernel) ?_
    repeat (first | refine DrawO.mkF _ (And.intro rfl rfl) ?_ | refine DrawO.mkF _ (Idx.mk _ rfl (And.intro rfl rfl)) ?_)
    refine DrawO.mkF _ (And.intro (by omega) (Idx.mk _ (map_at hx) (And.intro rfl rfl))) ?_
    repeat (first | refine DrawO.mkF _ (And.intro rfl rfl) ?_ | refine DrawO.mkF _ (Idx.mk _ rfl (And.intro rfl rfl)) ?_)
    refine DrawO.mkF _ (And.intro (by omega) (Idx.mk _ (map_at hy) (And.intro rfl rfl))) ?_
    repeat (first | refine DrawO.mkF _ (And.intro rfl rfl) ?_ | refine DrawO.mkF _ (Idx.mk _ rfl (And.intro rfl rfl)) ?_)
    (conv => whnf); refine cond_d (fun h5 => ?_) (fun h5 => ?_)
    · rw [decide_eq_false (p := xs = ys) (ne_at hx hy (fun e => h5 (by rw [e])))]
      exact Is2.mk rfl
    · have e : x = y := Decidable.of_not_not h5
      (conv => whnf); refine And.intro (by first | omega | (dsimp only [List.length, cond]; omega) | (show (-9223372036854775808 : Int) ≤ _ ∧ _ ≤ (9223372036854775807 : Int); omega) | decide) ?_
      (conv => whnf)
      exact ⟨xs.length - (i + 1), by omega, i + 1, rfl, rfl, by omega, eq_next h3 hx (by rw [hy, e]), rfl⟩
  · obtain rfl : i = xs.length := by omega
    rw [decide_eq_true (eq_all hl h3)]
    exact Is2.mk rfl
theorem eqB_ct (xs ys : List UInt8) : Ct Try.prog 65 [.d (.ro (xs.map (fun b : UInt8 => D.int .u8 b.toNat))), .d (.ro (ys.map (fun b : UInt8 => D.int .u8 b.toNat)))] [] (Is2 (.d (.bool (decide (xs = ys)))) []) := by
  refine Ct.introF (E := E 26 0 [.tmp 4] [] [(4, [0, 1, 12, 13])] []) tab_ok Try.call65 Try.func65 rfl rfl rfl rfl rfl (fun hin => ?_)
  have dx : (xs.map (fun b : UInt8 => D.int .u8 b.toNat)).length = xs.length := List.length_map _
  have dy : (ys.map (fun b : UInt8 => D.int .u8 b.toNat)).length = ys.length := List.length_map _
  have hb : xs.length ≤ 9223372036854775807 := by have := hin.1.1; rwa [dx] at this
  (conv => whnf); refine cond_d (fun h1 => ?_) (fun h1 => ?_)
  · rw [decide_eq_false (p := xs = ys) (fun e => h1 (by rw [e]))]
    exact Is2.mk rfl
  have hl : xs.length = ys.length := by omega
  (conv => whnf); refine LoopI.mk (fun q ws os => ∃ i : Nat, ws = [.d (.ro (xs.map (fun b : UInt8 => D.int .u8 b.toNat))), .d (.ro (ys.map (fun b : UInt8 => D.int .u8 b.toNat))), i64 xs.length, i64 i] ∧ os = [] ∧ i ≤ xs.length ∧ xs.take i = ys.take i ∧ q = xs.length - i) xs.length ⟨0, by rw [dx]; rfl, rfl, Nat.zero_le _, rfl, rfl⟩ ?_
  rintro q _ _ ⟨i, rfl, rfl, h2, h3, rfl⟩
  (conv => whnf); refine cond_d (fun h4 => ?_) (fun h4 => ?_)
  · obtain ⟨x, hx⟩ := get_some (l := xs) (i := i) (by omega)
    obtain ⟨y, hy⟩ := get_some (l := ys) (i := i) (by omega)
    (conv => whnf); refine DrawI.mkF 8 [[0], [5], [16, 17], [18], [1], [5], [20, 21], [22]] (by decide +kernel) ?_
    repeat (first | refine DrawO.mkF _ (And.intro rfl rfl) ?_ | refine DrawO.mkF _ (Idx.mk _ rfl (And.intro rfl rfl)) ?_)
    refine DrawO.mkF _ (And.intro (by omega) (Idx.mk _ (map_at hx) (And.intro rfl rfl))) ?_
    repeat (first | refine DrawO.mkF _ (And.intro rfl rfl) ?_ | refine DrawO.mkF _ (Idx.mk _ rfl (And.intro rfl rfl)) ?_)
    refine DrawO.mkF _ (And.intro (by omega) (Idx.mk _ (map_at hy) (And.intro rfl rfl))) ?_
    repeat (first | refine DrawO.mkF _ (And.intro rfl rfl) ?_ | refine DrawO.mkF _ (Idx.mk _ rfl (And.intro rfl rfl)) ?_)
    (conv => whnf); refine cond_d (fun h5 => ?_) (fun h5 => ?_)
    · rw [decide_eq_false (p := xs = ys) (ne_at hx hy (fun e => h5 (by rw [e])))]
      exact Is2.mk rfl
    · have e : x = y := UInt8.toNat_inj.1 (Int.ofNat.inj (Decidable.of_not_not h5))
      (conv => whnf); refine And.intro (by first | omega | (dsimp only [List.length, cond]; omega) | (show (-9223372036854775808 : Int) ≤ _ ∧ _ ≤ (9223372036854775807 : Int); omega) | decide) ?_
      (conv => whnf)
      exact ⟨xs.length - (i + 1), by omega, i + 1, rfl, rfl, by omega, eq_next h3 hx (by rw [hy, e]), rfl⟩
  · obtain rfl : i = xs.length := by omega
    rw [decide_eq_true (eq_all hl h3)]
    exact Is2.mk rfl
theorem eqC_ct (xs ys : List Card) : Ct Try.prog 60 [.d (.ro (xs.map cardD)), .d (.ro (ys.map cardD))] [] (Is2 (.d (.bool (decide (xs = ys)))) []) := by
  refine Ct.introF (E := E 26 0 [.tmp 4] [] [(4, [0, 1, 12, 13])] []) tab_ok Try.call60 Try.func60 rfl rfl rfl rfl rfl (fun hin => ?_)
  have dx : (xs.map cardD).length = xs.length := List.length_map _
  have dy : (ys.map cardD).length = ys.length := List.length_map _
  have hb : xs.length ≤ 9223372036854775807 := by have := hin.1.1; rwa [dx] at this
  (conv => whnf); refine cond_d (fun h1 => ?_) (fun h1 => ?_)
  · rw [decide_eq_false (p := xs = ys) (fun e => h1 (by rw [e]))]
    exact Is2.mk rfl
  have hl : xs.length = ys.length := by omega
  (conv => whnf); refine LoopI.mk (fun q ws os => ∃ i : Nat, ws = [.d (.ro (xs.map cardD)), .d (.ro (ys.map cardD)), i64 xs.length, i64 i] ∧ os = [] ∧ i ≤ xs.length ∧ xs.take i = ys.take i ∧ q = xs.length - i) xs.length ⟨0, by rw [dx]; rfl, rfl, Nat.zero_le _, rfl, rfl⟩ ?_
  rintro q _ _ ⟨i, rfl, rfl, h2, h3, rfl⟩
  (conv => whnf); refine cond_d (fun h4 => ?_) (fun h4 => ?_)
  · obtain ⟨x, hx⟩ := get_some (l := xs) (i := i) (by omega)
    obtain ⟨y, hy⟩ := get_some (l := ys) (i := i) (by omega)
    (conv => whnf); refine DrawI.mkF 8 [[0], [5], [16, 17], [18], [1], [5], [20, 21], [22]] (by decide +kernel) ?_
    repeat (first | refine DrawO.mkF _ (And.intro rfl rfl) ?_ | refine DrawO.mkF _ (Idx.mk _ rfl (And.intro rfl rfl)) ?_)
    refine DrawO.mkF _ (And.intro (by omega) (Idx.mk _ (map_at hx) (And.intro rfl rfl))) ?_
    repeat (first | refine DrawO.mkF _ (And.intro rfl rfl) ?_ | refine DrawO.mkF _ (Idx.mk _ rfl (And.intro rfl rfl)) ?_)
    refine DrawO.mkF _ (And.intro (by omega) (Idx.mk _ (map_at hy) (And.intro rfl rfl))) ?_
    repeat (first | refine DrawO.mkF _ (And.intro rfl rfl) ?_ | refine DrawO.mkF _ (Idx.mk _ rfl (And.intro rfl rfl)) ?_)
    (conv => whnf)
    refine EqI.mk [.int, .int, .int] _ eqCard rfl ?_
    (conv => whnf); refine cond_i (fun h5 => ?_) (fun h5 => ?_)
    · rw [decide_eq_false (p := xs = ys) (ne_at hx hy (fun e => by subst e; simp at h5))]
      exact Is2.mk rfl
    · have e : x = y := by
        obtain ⟨x1, x2, x3⟩ := x
        obtain ⟨y1, y2, y3⟩ := y
        have h6 : x1 = y1 ∧ x2 = y2 ∧ x3 = y3 := by simpa [cardD, and_assoc] using h5
        obtain ⟨rfl, rfl, rfl⟩ := h6; rfl
      (conv => whnf); refine And.intro (by first | omega | (dsimp only [List.length, cond]; omega) | (show (-9223372036854775808 : Int) ≤ _ ∧ _ ≤ (9223372036854775807 : Int); omega) | decide) ?_
      (conv => whnf)
      exact ⟨xs.length - (i + 1), by omega, i + 1, rfl, rfl, by omega, eq_next h3 hx (by rw [hy, e]), rfl⟩
  · obtain rfl : i = xs.length := by omega
    rw [decide_eq_true (eq_all hl h3)]
    exact Is2.mk rfl
theorem rInts_ct (xs ys : List Int) : Ct Try.prog 57 [.d (.ro (xs.map (D.int .i64))), .d (.ro (ys.map (D.int .i64)))] [] (Is2 (.d (.bool (decide (xs = ys)))) []) := by
  refine Ct.introF (E := E 26 0 [.tmp 4] [] [(4, [0, 1, 5])] []) tab_ok Try.call57 Try.func57 rfl rfl rfl rfl rfl (fun hin => ?_)
  have dx : (xs.map (D.int .i64)).length = xs.length := List.length_map _
  have dy : (ys.map (D.int .i64)).length = ys.length := List.length_map _
  have hb : xs.length ≤ 9223372036854775807 := by have := hin.1.1; rwa [dx] at this
  (conv => whnf); refine cond_d (fun h1 => ?_) (fun h1 => ?_)
  · rw [decide_eq_false (p := xs = ys) (fun e => h1 (by rw [e]))]
    exact Is2.mk rfl
  have hl : xs.length = ys.length := by omega
  (conv => whnf); refine LoopI.mk (fun q ws os => ∃ i : Nat, ws = [.d (.ro (xs.map (D.int .i64))), .d (.ro (ys.map (D.int .i64))), i64 i] ∧ os = [] ∧ i ≤ xs.length ∧ xs.take i = ys.take i ∧ q = xs.length - i) xs.length ⟨0, rfl, rfl, Nat.zero_le _, rfl, rfl⟩ ?_
  rintro q _ _ ⟨i, rfl, rfl, h2, h3, rfl⟩
  (conv => whnf); refine cond_d (fun h4 => ?_) (fun h4 => ?_)
  · obtain ⟨x, hx⟩ := get_some (l := xs) (i := i) (by omega)
    obtain ⟨y, hy⟩ := get_some (l := ys) (i := i) (by omega)
    (conv => whnf); refine DrawI.mkF 8 [[0], [5], [17, 18], [19], [1], [5], [21, 22], [23]] (by decide +kernel) ?_
    repeat (first | refine DrawO.mkF _ (And.intro rfl rfl) ?_ | refine DrawO.mkF _ (Idx.mk _ rfl (And.intro rfl rfl)) ?_)
    refine DrawO.mkF _ (And.intro (by omega) (Idx.mk _ (map_at hx) (And.intro rfl rfl))) ?_
    repeat (first | refine DrawO.mkF _ (And.intro rfl rfl) ?_ | refine DrawO.mkF _ (Idx.mk _ rfl (And.intro rfl rfl)) ?_)
    refine DrawO.mkF _ (And.intro (by omega) (Idx.mk _ (map_at hy) (And.intro rfl rfl))) ?_
    repeat (first | refine DrawO.mkF _ (And.intro rfl rfl) ?_ | refine DrawO.mkF _ (Idx.mk _ rfl (And.intro rfl rfl)) ?_)
    (conv => whnf); refine cond_d (fun h5 => ?_) (fun h5 => ?_)
    · rw [decide_eq_false (p := xs = ys) (ne_at hx hy (fun e => h5 (by rw [e])))]
      exact Is2.mk rfl
    · have e : x = y := Decidable.of_not_not h5
      (conv => whnf); refine And.intro (by first | omega | (dsimp only [List.length, cond]; omega) | (show (-9223372036854775808 : Int) ≤ _ ∧ _ ≤ (9223372036854775807 : Int); omega) | decide) ?_
      (conv => whnf)
      exact ⟨xs.length - (i + 1), by omega, i + 1, rfl, rfl, by omega, eq_next h3 hx (by rw [hy, e]), rfl⟩
  · obtain rfl : i = xs.length := by omega
    rw [decide_eq_true (eq_all hl h3)]
    exact Is2.mk rfl
theorem rCells_ct (xs ys : List Int) : Ct Try.prog 58 [.d (.ro (xs.map (D.int .u32))), .d (.ro (ys.map (D.int .u32)))] [] (Is2 (.d (.bool (decide (xs = ys)))) []) := by
  refine Ct.introF (E := E 26 0 [.tmp 4] [] [(4, [0, 1, 5])] []) tab_ok Try.call58 Try.func58 rfl rfl rfl rfl rfl (fun hin => ?_)
  have dx : (xs.map (D.int .u32)).length = xs.length := List.length_map _
  have dy : (ys.map (D.int .u32)).length = ys.length := List.length_map _
  have hb : xs.length ≤ 9223372036854775807 := by have := hin.1.1; rwa [dx] at this
  (conv => whnf); refine cond_d (fun h1 => ?_) (fun h1 => ?_)
  · rw [decide_eq_false (p := xs = ys) (fun e => h1 (by rw [e]))]
    exact Is2.mk rfl
  have hl : xs.length = ys.length := by omega
  (conv => whnf); refine LoopI.mk (fun q ws os => ∃ i : Nat, ws = [.d (.ro (xs.map (D.int .u32))), .d (.ro (ys.map (D.int .u32))), i64 i] ∧ os = [] ∧ i ≤ xs.length ∧ xs.take i = ys.take i ∧ q = xs.length - i) xs.length ⟨0, rfl, rfl, Nat.zero_le _, rfl, rfl⟩ ?_
  rintro q _ _ ⟨i, rfl, rfl, h2, h3, rfl⟩
  (conv => whnf); refine cond_d (fun h4 => ?_) (fun h4 => ?_)
  · obtain ⟨x, hx⟩ := get_some (l := xs) (i := i) (by omega)
    obtain ⟨y, hy⟩ := get_some (l := ys) (i := i) (by omega)
    (conv => whnf); refine DrawI.mkF 8 [[0], [5], [17, 18], [19], [1], [5], [21, 22], [23]] (by decide +kernel) ?_
    repeat (first | refine DrawO.mkF _ (And.intro rfl rfl) ?_ | refine DrawO.mkF _ (Idx.mk _ rfl (And.intro rfl rfl)) ?_)
    refine DrawO.mkF _ (And.intro (by omega) (Idx.mk _ (map_at hx) (And.intro rfl rfl))) ?_
    repeat (first | refine DrawO.mkF _ (And.intro rfl rfl) ?_ | refine DrawO.mkF _ (Idx.mk _ rfl (And.intro rfl rfl)) ?_)
    refine DrawO.mkF _ (And.intro (by omega) (Idx.mk _ (map_at hy) (And.intro rfl rfl))) ?_
    repeat (first | refine DrawO.mkF _ (And.intro rfl rfl) ?_ | refine DrawO.mkF _ (Idx.mk _ rfl (And.intro rfl rfl)) ?_)
    (conv => whnf); refine cond_d (fun h5 => ?_) (fun h5 => ?_)
    · rw [decide_eq_false (p := xs = ys) (ne_at hx hy (fun e => h5 (by rw [e])))]
      exact Is2.mk rfl
    · have e : x = y := Decidable.of_not_not h5
      (conv => whnf); refine And.intro (by first | omega | (dsimp only [List.length, cond]; omega) | (show (-9223372036854775808 : Int) ≤ _ ∧ _ ≤ (9223372036854775807 : Int); omega) | decide) ?_
      (conv => whnf)
      exact ⟨xs.length - (i + 1), by omega, i + 1, rfl, rfl, by omega, eq_next h3 hx (by rw [hy, e]), rfl⟩
  · obtain rfl : i = xs.length := by omega
    rw [decide_eq_true (eq_all hl h3)]
    exact Is2.mk rfl
theorem rSames_ct (xs ys : List Int) : Ct Try.prog 59 [.d (.ro (xs.map (D.int .u64))), .d (.ro (ys.map (D.int .u64)))] [] (Is2 (.d (.bool (decide (xs = ys)))) []) := by
  refine Ct.introF (E := E 26 0 [.tmp 4] [] [(4, [0, 1, 5])] []) tab_ok Try.call59 Try.func59 rfl rfl rfl rfl rfl (fun hin => ?_)
  have dx : (xs.map (D.int .u64)).length = xs.length := List.length_map _
  have dy : (ys.map (D.int .u64)).length = ys.length := List.length_map _
  have hb : xs.length ≤ 9223372036854775807 := by have := hin.1.1; rwa [dx] at this
  (conv => whnf); refine cond_d (fun h1 => ?_) (fun h1 => ?_)
  · rw [decide_eq_false (p := xs = ys) (fun e => h1 (by rw [e]))]
    exact Is2.mk rfl
  have hl : xs.length = ys.length := by omega
  (conv => whnf); refine LoopI.mk (fun q ws os => ∃ i : Nat, ws = [.d (.ro (xs.map (D.int .u64))), .d (.ro (ys.map (D.int .u64))), i64 i] ∧ os = [] ∧ i ≤ xs.length ∧ xs.take i = ys.take i ∧ q = xs.length - i) xs.length ⟨0, rfl, rfl, Nat.zero_le _, rfl, rfl⟩ ?_
  rintro q _ _ ⟨i, rfl, rfl, h2, h3, rfl⟩
  (conv => whnf); refine cond_d (fun h4 => ?_) (fun h4 => ?_)
  · obtain ⟨x, hx⟩ := get_some (l := xs) (i := i) (by omega)
    obtain ⟨y, hy⟩ := get_some (l := ys) (i := i) (by omega)
    (conv => whnf); refine DrawI.mkF 8 [[0], [5], [17, 18], [19], [1], [5], [21, 22], [23]] (by decide +kernel) ?_
    repeat (first | refine DrawO.mkF _ (And.intro rfl rfl) ?_ | refine DrawO.mkF _ (Idx.mk _ rfl (And.intro rfl rfl)) ?_)
    refine DrawO.mkF _ (And.intro (by omega) (Idx.mk _ (map_at hx) (And.intro rfl rfl))) ?_
    repeat (first | refine DrawO.mkF _ (And.intro rfl rfl) ?_ | refine DrawO.mkF _ (Idx.mk _ rfl (And.intro rfl rfl)) ?_)
    refine DrawO.mkF _ (And.intro (by omega) (Idx.mk _ (map_at hy) (And.intro rfl rfl))) ?_
    repeat (first | refine DrawO.mkF _ (And.intro rfl rfl) ?_ | refine DrawO.mkF _ (Idx.mk _ rfl (And.intro rfl rfl)) ?_)
    (conv => whnf); refine cond_d (fun h5 => ?_) (fun h5 => ?_)
    · rw [decide_eq_false (p := xs = ys) (ne_at hx hy (fun e => h5 (by rw [e])))]
      exact Is2.mk rfl
    · have e : x = y := Decidable.of_not_not h5
      (conv => whnf); refine And.intro (by first | omega | (dsimp only [List.length, cond]; omega) | (show (-9223372036854775808 : Int) ≤ _ ∧ _ ≤ (9223372036854775807 : Int); omega) | decide) ?_
      (conv => whnf)
      exact ⟨xs.length - (i + 1), by omega, i + 1, rfl, rfl, by omega, eq_next h3 hx (by rw [hy, e]), rfl⟩
  · obtain rfl : i = xs.length := by omega
    rw [decide_eq_true (eq_all hl h3)]
    exact Is2.mk rfl
theorem same1_ct (x y : Parc) : Ct Try.prog 64 [.d (parcD x), .d (parcD y)] [] (Is2 (.d (.bool (decide (x = y)))) []) := by
  refine Ct.introF (E := E 24 0 [.tmp 4] [] [] []) tab_ok Try.call64 Try.func64 rfl rfl rfl rfl rfl (fun hin => ?_)
  obtain ⟨x1, x2, x3⟩ := x
  obtain ⟨y1, y2, y3⟩ := y
  (conv => whnf); refine cond_d (fun h1 => ?_) (fun h1 => ?_)
  · (conv => whnf); refine cond_d (fun h2 => ?_) (fun h2 => ?_)
    · (conv => whnf); refine (eqB_ct x3 y3).use ?_
      exact Is2.mk (by rw [decide_eq_decide.2 (show ((x1, x2, x3) : Parc) = (y1, y2, y3) ↔ x3 = y3 from ⟨fun e => by cases e; rfl, fun e => by subst e; cases h1; cases h2; rfl⟩)])
    · exact Is2.mk (by rw [decide_eq_false (fun e => h2 (by cases e; rfl))])
  · exact Is2.mk (by rw [decide_eq_false (fun e => h1 (by cases e; rfl))])
theorem same2_ct (x y : Opng) : Ct Try.prog 67 [.d (opngD x), .d (opngD y)] [] (Is2 (.d (.bool (decide (x = y)))) []) := by
  refine Ct.introF (E := E 24 0 [.tmp 4] [] [] []) tab_ok Try.call67 Try.func67 rfl rfl rfl rfl rfl (fun hin => ?_)
  obtain ⟨x1, x2, x3⟩ := x
  obtain ⟨y1, y2, y3⟩ := y
  (conv => whnf); refine cond_d (fun h1 => ?_) (fun h1 => ?_)
  · (conv => whnf); refine cond_i (fun h2 => ?_) (fun h2 => ?_)
    · have h2' : x2 = y2 := by simpa using h2
      (conv => whnf); refine (eqU64_ct x3 y3).use ?_
      exact Is2.mk (by rw [decide_eq_decide.2 (show ((x1, x2, x3) : Opng) = (y1, y2, y3) ↔ x3 = y3 from ⟨fun e => by cases e; rfl, fun e => by subst e; cases h1; cases h2'; rfl⟩)])
    · exact Is2.mk (by rw [decide_eq_false (fun e => by cases e; simp at h2)])
  · exact Is2.mk (by rw [decide_eq_false (fun e => h1 (by cases e; rfl))])
theorem eqP_ct (xs ys : List Parc) : Ct Try.prog 63 [.d (.ro (xs.map parcD)), .d (.ro (ys.map parcD)), .fn 64 [] []] [] (Is2 (.d (.bool (decide (xs = ys)))) []) := by
  refine Ct.introF (E := E 32 0 [.tmp 6] [] [(4, [1, 2, 15, 16, 17])] []) tab_ok Try.call63 Try.func63 rfl rfl rfl rfl rfl (fun hin => ?_)
  have dx : (xs.map parcD).length = xs.length := List.length_map _
  have dy : (ys.map parcD).length = ys.length := List.length_map _
  have hb : xs.length ≤ 9223372036854775807 := by have := hin.1.1; rwa [dx] at this
  (conv => whnf); refine cond_d (fun h1 => ?_) (fun h1 => ?_)
  · rw [decide_eq_false (p := xs = ys) (fun e => h1 (by rw [e]))]
    exact Is2.mk rfl
  have hl : xs.length = ys.length := by omega
  (conv => whnf); refine LoopI.mk (fun q ws os => ∃ i : Nat, ws = [.d (.ro (ys.map parcD)), .fn 64 [] [], .d (.ro (xs.map parcD)), i64 xs.length, i64 i] ∧ os = [] ∧ i ≤ xs.length ∧ xs.take i = ys.take i ∧ q = xs.length - i) xs.length ⟨0, by rw [dx]; rfl, rfl, Nat.zero_le _, rfl, rfl⟩ ?_
  rintro q _ _ ⟨i, rfl, rfl, h2, h3, rfl⟩
  (conv => whnf); refine cond_d (fun h4 => ?_) (fun h4 => ?_)
  · obtain ⟨x, hx⟩ := get_some (l := xs) (i := i) (by omega)
    obtain ⟨y, hy⟩ := get_some (l := ys) (i := i) (by omega)
    (conv => whnf); refine And.intro (by omega) (Idx.mk _ (map_at hx) ?_)
    (conv => whnf); refine And.intro (by omega) (Idx.mk _ (map_at hy) ?_)
    (conv => whnf); refine (same1_ct x y).use ?_
    (conv => whnf); refine cond_nd (fun h5 => ?_) (fun h5 => ?_)
    · rw [decide_eq_false (ne_at hx hy h5)]
      exact Is2.mk rfl
    · (conv => whnf); refine And.intro (by first | omega | (dsimp only [List.length, cond]; omega) | (show (-9223372036854775808 : Int) ≤ _ ∧ _ ≤ (9223372036854775807 : Int); omega) | decide) ?_
      (conv => whnf)
      exact ⟨xs.length - (i + 1), by omega, i + 1, rfl, rfl, by omega, eq_next h3 hx (by rw [hy, h5]), rfl⟩
  · obtain rfl : i = xs.length := by omega
    rw [decide_eq_true (eq_all hl h3)]
    exact Is2.mk rfl
theorem eqO_ct (xs ys : List Opng) : Ct Try.prog 66 [.d (.ro (xs.map opngD)), .d (.ro (ys.map opngD)), .fn 67 [] []] [] (Is2 (.d (.bool (decide (xs = ys)))) []) := by
  refine Ct.introF (E := E 32 0 [.tmp 6] [] [(4, [1, 2, 15, 16, 17])] []) tab_ok Try.call66 Try.func66 rfl rfl rfl rfl rfl (fun hin => ?_)
  have dx : (xs.map opngD).length = xs.length := List.length_map _
  have dy : (ys.map opngD).length = ys.length := List.length_map _
  have hb : xs.length ≤ 9223372036854775807 := by have := hin.1.1; rwa [dx] at this
  (conv => whnf); refine cond_d (fun h1 => ?_) (fun h1 => ?_)
  · rw [decide_eq_false (p := xs = ys) (fun e => h1 (by rw [e]))]
    exact Is2.mk rfl
  have hl : xs.length = ys.length := by omega
  (conv => whnf); refine LoopI.mk (fun q ws os => ∃ i : Nat, ws = [.d (.ro (ys.map opngD)), .fn 67 [] [], .d (.ro (xs.map opngD)), i64 xs.length, i64 i] ∧ os = [] ∧ i ≤ xs.length ∧ xs.take i = ys.take i ∧ q = xs.length - i) xs.length ⟨0, by rw [dx]; rfl, rfl, Nat.zero_le _, rfl, rfl⟩ ?_
  rintro q _ _ ⟨i, rfl, rfl, h2, h3, rfl⟩
  (conv => whnf); refine cond_d (fun h4 => ?_) (fun h4 => ?_)
  · obtain ⟨x, hx⟩ := get_some (l := xs) (i := i) (by omega)
    obtain ⟨y, hy⟩ := get_some (l := ys) (i := i) (by omega)
    (conv => whnf); refine And.intro (by omega) (Idx.mk _ (map_at hx) ?_)
    (conv => whnf); refine And.intro (by omega) (Idx.mk _ (map_at hy) ?_)
    (conv => whnf); refine (same2_ct x y).use ?_
    (conv => whnf); refine cond_nd (fun h5 => ?_) (fun h5 => ?_)
    · rw [decide_eq_false (ne_at hx hy h5)]
      exact Is2.mk rfl
    · (conv => whnf); refine And.intro (by first | omega | (dsimp only [List.length, cond]; omega) | (show (-9223372036854775808 : Int) ≤ _ ∧ _ ≤ (9223372036854775807 : Int); omega) | decide) ?_
      (conv => whnf)
      exact ⟨xs.length - (i + 1), by omega, i + 1, rfl, rfl, by omega, eq_next h3 hx (by rw [hy, h5]), rfl⟩
  · obtain rfl : i = xs.length := by omega
    rw [decide_eq_true (eq_all hl h3)]
    exact Is2.mk rfl
def sameB (v w : Wd) : Bool := decide (v.k = w.k) && (decide (v.f = w.f) && (decide (v.y = w.y) && (decide (v.c = w.c) && (decide (v.v = w.v) && (decide (v.h = w.h) && (decide (v.p = w.p) && decide (v.o = w.o)))))))
theorem Same_ct (v w : Wd) : Ct Try.prog 29 [wdV v, wdV w] [] (Is2 (.d (.bool (sameB v w))) []) := by
  refine Ct.introF (E := E 59 0 [.tmp 4] [] [] []) tab_ok Try.call29 Try.func29 rfl rfl rfl rfl rfl (fun hin => ?_)
  obtain ⟨r, hr⟩ : ∃ r, r = sameB v w := ⟨_, rfl⟩
  rw [← hr]
  unfold sameB at hr
  (conv => whnf); refine cond_d (fun h1 => ?_) (fun h1 => ?_)
  rotate_left
  · rw [decide_eq_false h1] at hr
    exact Is2.mk (by rw [hr]; simp)
  rw [decide_eq_true h1, Bool.true_and] at hr
  (conv => whnf); refine cond_d (fun h2 => ?_) (fun h2 => ?_)
  rotate_left
  · rw [decide_eq_false h2] at hr
    exact Is2.mk (by rw [hr]; simp)
  rw [decide_eq_true h2, Bool.true_and] at hr
  (conv => whnf); refine cond_d (fun h3 => ?_) (fun h3 => ?_)
  rotate_left
  · rw [decide_eq_false h3] at hr
    exact Is2.mk (by rw [hr]; simp)
  rw [decide_eq_true h3, Bool.true_and] at hr
  (conv => whnf); refine (eqC_ct v.c w.c).use ?_
  (conv => whnf); refine cond_d (fun h4 => ?_) (fun h4 => ?_)
  rotate_left
  · rw [decide_eq_false h4] at hr
    exact Is2.mk (by rw [hr]; simp)
  rw [decide_eq_true h4, Bool.true_and] at hr
  (conv => whnf); refine (eqU32_ct v.v w.v).use ?_
  (conv => whnf); refine cond_d (fun h5 => ?_) (fun h5 => ?_)
  rotate_left
  · rw [decide_eq_false h5] at hr
    exact Is2.mk (by rw [hr]; simp)
  rw [decide_eq_true h5, Bool.true_and] at hr
  (conv => whnf); refine (eqInt_ct v.h w.h).use ?_
  (conv => whnf); refine cond_d (fun h6 => ?_) (fun h6 => ?_)
  rotate_left
  · rw [decide_eq_false h6] at hr
    exact Is2.mk (by rw [hr]; simp)
  rw [decide_eq_true h6, Bool.true_and] at hr
  (conv => whnf); refine (eqP_ct v.p w.p).use ?_
  (conv => whnf); refine cond_d (fun h7 => ?_) (fun h7 => ?_)
  rotate_left
  · rw [decide_eq_false h7] at hr
    exact Is2.mk (by rw [hr]; simp)
  rw [decide_eq_true h7, Bool.true_and] at hr
  (conv => whnf); refine (eqO_ct v.o w.o).use ?_
  exact Is2.mk (by rw [hr])
end Go.Proofs.Ytidelnccggfmgaa.Wrd

/- Package words' reference: are two words one? -/
namespace Go.Proofs.Ytidelnccggfmgaa.Wrd
open Go.V Go.Num
open Go.Eng (wr)
open Go.Proofs.Ytidelnccggfmgaa.Let
set_option maxRecDepth 100000
set_option maxHeartbeats 4000000
theorem bD_inj {a b : List UInt8} (h : bytesD a = bytesD b) : a = b := by
  induction a generalizing b with
  | nil => cases b with
    | nil => rfl
    | cons y b => cases h
  | cons x a ih => cases b with
    | nil => cases h
    | cons y b =>
      have h' : D.int .u8 x.toNat :: bytesD a = D.int .u8 y.toNat :: bytesD b := h
      injection h' with h1 h2
      injection h1 with _ h3
      rw [ih h2, UInt8.toNat_inj.1 (Int.ofNat.inj h3)]
theorem rSame_ct (v w : Wd) : Ct Try.prog 28 [wdV v, wdV w] [] (Is2 (.d (.bool (sameB v w))) []) := by
  refine Ct.introF (E := E 167 0 [.tmp 4] [] [(4, [2, 3, 5]), (9, [2, 3, 6]), (15, [2, 3, 9])] []) tab_ok Try.call28 Try.func28 rfl rfl rfl rfl rfl (fun hin => ?_)
  obtain ⟨r, hr⟩ : ∃ r, r = sameB v w := ⟨_, rfl⟩
  rw [← hr]
  unfold sameB at hr
  have vc : (v.c.map cardD).length = v.c.length := List.length_map _
  have vp : (v.p.map parcD).length = v.p.length := List.length_map _
  have vo : (v.o.map opngD).length = v.o.length := List.length_map _
  have wc : (w.c.map cardD).length = w.c.length := List.length_map _
  have wp : (w.p.map parcD).length = w.p.length := List.length_map _
  have wo : (w.o.map opngD).length = w.o.length := List.length_map _
  have lc : v.c.length ≤ 9223372036854775807 := by
    have : (v.c.map cardD).length ≤ 9223372036854775807 := hin.1 (.ro (v.c.map cardD)) (by simp)
    rwa [vc] at this
  have lp : v.p.length ≤ 9223372036854775807 := by
    have : (v.p.map parcD).length ≤ 9223372036854775807 := hin.1 (.ro (v.p.map parcD)) (by simp)
    rwa [vp] at this
  have lo : v.o.length ≤ 9223372036854775807 := by
    have : (v.o.map opngD).length ≤ 9223372036854775807 := hin.1 (.ro (v.o.map opngD)) (by simp)
    rwa [vo] at this
  (conv => whnf); refine cond_d (fun h1 => ?_) (fun h1 => ?_)
  · rw [decide_eq_false h1] at hr
    exact Is2.mk (by rw [hr]; simp)
  rw [decide_eq_true (Decidable.of_not_not h1), Bool.true_and] at hr
  (conv => whnf); refine cond_d (fun h2 => ?_) (fun h2 => ?_)
  · rw [decide_eq_false h2] at hr
    exact Is2.mk (by rw [hr]; simp)
  rw [decide_eq_true (Decidable.of_not_not h2), Bool.true_and] at hr
  (conv => whnf); refine cond_d (fun h3 => ?_) (fun h3 => ?_)
  · rw [decide_eq_false h3] at hr
    exact Is2.mk (by rw [hr]; simp)
  rw [decide_eq_true (Decidable.of_not_not h3), Bool.true_and] at hr
  (conv => whnf); refine cond_d (fun h4 => ?_) (fun h4 => ?_)
  · rw [decide_eq_false (p := v.c = w.c) (fun e => h4 (by rw [e]))] at hr
    exact Is2.mk (by rw [hr]; simp)
  (conv => whnf); refine cond_d (fun h5 => ?_) (fun h5 => ?_)
  · rw [decide_eq_false (p := v.p = w.p) (fun e => h5 (by rw [e]))] at hr
    exact Is2.mk (by rw [hr]; simp)
  (conv => whnf); refine cond_d (fun h6 => ?_) (fun h6 => ?_)
  · rw [decide_eq_false (p := v.o = w.o) (fun e => h6 (by rw [e]))] at hr
    exact Is2.mk (by rw [hr]; simp)
  (conv => whnf); refine (rInts_ct v.h w.h).use ?_
  (conv => whnf); refine cond_nd (fun h7 => ?_) (fun h7 => ?_)
  · rw [decide_eq_false h7] at hr
    exact Is2.mk (by rw [hr]; simp)
  (conv => whnf); refine (rCells_ct v.v w.v).use ?_
  (conv => whnf); refine cond_nd (fun h8 => ?_) (fun h8 => ?_)
  · rw [decide_eq_false h8] at hr
    exact Is2.mk (by rw [hr]; simp)
  rw [decide_eq_true h7, decide_eq_true h8, Bool.true_and, Bool.true_and] at hr
  have h4' : v.c.length = w.c.length := by omega
  have h5' : v.p.length = w.p.length := by omega
  have h6' : v.o.length = w.o.length := by omega
  (conv => whnf); refine LoopI.mk (fun q ws os => ∃ i : Nat, ws = [.ptr 0 0, .ptr 1 0, i64 i] ∧ os = [wdO2 v, wdO2 w] ∧ i ≤ v.c.length ∧ v.c.take i = w.c.take i ∧ q = v.c.length - i) v.c.length ⟨0, rfl, rfl, Nat.zero_le _, rfl, rfl⟩ ?_
  rintro q _ _ ⟨i, rfl, rfl, j1, j2, rfl⟩
  (conv => whnf); refine cond_d (fun j3 => ?_) (fun j3 => ?_)
  · obtain ⟨x, hx⟩ := get_some (l := v.c) (i := i) (by omega)
    obtain ⟨y, hy⟩ := get_some (l := w.c) (i := i) (by omega)
    (conv => whnf); refine DrawI.mkF 10 [[2], [81], [5], [82, 83], [84], [3], [86], [5], [87, 88], [89]] (by decide +kernel) ?_
    repeat (first | refine DrawO.mkF _ (And.intro rfl rfl) ?_ | refine DrawO.mkF _ (Idx.mk _ rfl (And.intro rfl rfl)) ?_)
    refine DrawO.mkF _ (And.intro (by omega) (Idx.mk _ (map_at hx) (And.intro rfl rfl))) ?_
    repeat (first | refine DrawO.mkF _ (And.intro rfl rfl) ?_ | refine DrawO.mkF _ (Idx.mk _ rfl (And.intro rfl rfl)) ?_)
    refine DrawO.mkF _ (And.intro (by omega) (Idx.mk _ (map_at hy) (And.intro rfl rfl))) ?_
    repeat (first | refine DrawO.mkF _ (And.intro rfl rfl) ?_ | refine DrawO.mkF _ (Idx.mk _ rfl (And.intro rfl rfl)) ?_)
    (conv => whnf)
    refine EqI.mk [.int, .int, .int] _ eqCard rfl ?_
    (conv => whnf); refine cond_i (fun j4 => ?_) (fun j4 => ?_)
    · rw [decide_eq_false (p := v.c = w.c) (ne_at hx hy (fun e => by subst e; simp at j4))] at hr
      exact Is2.mk (by rw [hr]; simp)
    · have e : x = y := by
        obtain ⟨x1, x2, x3⟩ := x
        obtain ⟨y1, y2, y3⟩ := y
        have h6 : x1 = y1 ∧ x2 = y2 ∧ x3 = y3 := by simpa [cardD, and_assoc] using j4
        obtain ⟨rfl, rfl, rfl⟩ := h6; rfl
      (conv => whnf); refine And.intro (by first | omega | (dsimp only [List.length, cond]; omega) | (show (-9223372036854775808 : Int) ≤ _ ∧ _ ≤ (9223372036854775807 : Int); omega) | decide) ?_
      (conv => whnf)
      exact ⟨v.c.length - (i + 1), by omega, i + 1, rfl, rfl, by omega, eq_next j2 hx (by rw [hy, e]), rfl⟩
  obtain rfl : i = v.c.length := by omega
  rw [decide_eq_true (eq_all h4' j2), Bool.true_and] at hr
  (conv => whnf); refine LoopI.mk (fun q ws os => ∃ i : Nat, ws = [.ptr 0 0, .ptr 1 0, i64 i] ∧ os = [wdO2 v, wdO2 w] ∧ i ≤ v.p.length ∧ v.p.take i = w.p.take i ∧ q = v.p.length - i) v.p.length ⟨0, rfl, rfl, Nat.zero_le _, rfl, rfl⟩ ?_
  rintro q _ _ ⟨i, rfl, rfl, j1, j2, rfl⟩
  (conv => whnf); refine cond_d (fun j3 => ?_) (fun j3 => ?_)
  · obtain ⟨x, hx⟩ := get_some (l := v.p) (i := i) (by omega)
    obtain ⟨y, hy⟩ := get_some (l := w.p) (i := i) (by omega)
    (conv => whnf); refine DrawI.mixF [⟨[(0, true, [2]), (1, true, [99]), (2, true, [6]), (3, true, [100, 101]), (4, true, [102]), (5, true, [3]), (6, true, [104]), (7, true, [6]), (8, true, [105, 106]), (9, true, [107]), (10, true, [])], [], some (11, [])⟩, ⟨[(0, false, [2]), (1, false, [99]), (2, false, [6]), (3, false, [100, 101]), (4, false, [102]), (5, false, [3]), (6, false, [104]), (7, false, [6]), (8, false, [105, 106]), (9, false, [107]), (10, false, [])], [10], some (12, [7, 103])⟩, ⟨[(5, false, [3]), (6, false, [104]), (7, false, [6]), (8, false, [105, 106]), (9, false, [107])], [], some (13, [8, 108])⟩, ⟨[], [], none⟩] [10] (by decide +kernel) ?_
    repeat (first | refine DrawO.mkF _ (And.intro rfl rfl) ?_ | refine DrawO.mkF _ (Idx.mk _ rfl (And.intro rfl rfl)) ?_ | refine And.intro rfl ?_)
    refine DrawO.mkF _ (And.intro (by omega) (Idx.mk _ (map_at hx) (And.intro rfl rfl))) ?_
    repeat (first | refine DrawO.mkF _ (And.intro rfl rfl) ?_ | refine DrawO.mkF _ (Idx.mk _ rfl (And.intro rfl rfl)) ?_ | refine And.intro rfl ?_)
    refine DrawO.mkF _ (And.intro (by omega) (Idx.mk _ (map_at hy) (And.intro rfl rfl))) ?_
    repeat (first | refine DrawO.mkF _ (And.intro rfl rfl) ?_ | refine DrawO.mkF _ (Idx.mk _ rfl (And.intro rfl rfl)) ?_ | refine And.intro rfl ?_)
    refine DrawN.mkF (.vec 77 [i64 0, i64 0, .d .nils]) rfl (And.intro rfl rfl) ?_
    repeat (first | refine DrawO.mkF _ (And.intro rfl rfl) ?_ | refine DrawO.mkF _ (Idx.mk _ rfl (And.intro rfl rfl)) ?_ | refine And.intro rfl ?_)
    refine DrawO.mkF _ (And.intro (by omega) (Idx.mk _ (map_at hx) (And.intro rfl rfl))) ?_
    repeat (first | refine DrawO.mkF _ (And.intro rfl rfl) ?_ | refine DrawO.mkF _ (Idx.mk _ rfl (And.intro rfl rfl)) ?_ | refine And.intro rfl ?_)
    refine DrawO.mkF _ (And.intro (by omega) (Idx.mk _ (map_at hy) (And.intro rfl rfl))) ?_
    repeat (first | refine DrawO.mkF _ (And.intro rfl rfl) ?_ | refine DrawO.mkF _ (Idx.mk _ rfl (And.intro rfl rfl)) ?_ | refine And.intro rfl ?_)
    refine DrawN.mkF _ rfl (And.intro rfl rfl) ?_
    repeat (first | refine DrawO.mkF _ (And.intro rfl rfl) ?_ | refine DrawO.mkF _ (Idx.mk _ rfl (And.intro rfl rfl)) ?_ | refine And.intro rfl ?_)
    refine DrawO.mkF _ (And.intro (by omega) (Idx.mk _ (map_at hy) (And.intro rfl rfl))) ?_
    repeat (first | refine DrawO.mkF _ (And.intro rfl rfl) ?_ | refine DrawO.mkF _ (Idx.mk _ rfl (And.intro rfl rfl)) ?_ | refine And.intro rfl ?_)
    obtain ⟨x1, x2, x3⟩ := x
    obtain ⟨y1, y2, y3⟩ := y
    (conv => whnf); refine cond_d (fun m1 => ?_) (fun m1 => ?_)
    · rw [decide_eq_false (p := v.p = w.p) (ne_at hx hy (fun e => m1 (by cases e; rfl)))] at hr
      exact Is2.mk (by rw [hr]; simp)
    (conv => whnf); refine cond_d (fun m2 => ?_) (fun m2 => ?_)
    · rw [decide_eq_false (p := v.p = w.p) (ne_at hx hy (fun e => m2 (by cases e; rfl)))] at hr
      exact Is2.mk (by rw [hr]; simp)
    (conv => whnf)
    refine ⟨x3, rfl, ?_⟩
    (conv => whnf)
    refine ⟨y3, rfl, ?_⟩
    (conv => whnf); refine cond_nd (fun m3 => ?_) (fun m3 => ?_)
    · rw [decide_eq_false (p := v.p = w.p) (ne_at hx hy (fun e => m3 (by cases e; rfl)))] at hr
      exact Is2.mk (by rw [hr]; simp)
    have e : ((x1, x2, x3) : Parc) = (y1, y2, y3) := by rw [show x1 = y1 from Decidable.of_not_not m1, show x2 = y2 from Decidable.of_not_not m2, show x3 = y3 from m3]
    (conv => whnf); refine And.intro (by first | omega | (dsimp only [List.length, cond]; omega) | (show (-9223372036854775808 : Int) ≤ _ ∧ _ ≤ (9223372036854775807 : Int); omega) | decide) ?_
    (conv => whnf)
    exact ⟨v.p.length - (i + 1), by omega, i + 1, rfl, rfl, by omega, eq_next j2 hx (by rw [hy, e]), rfl⟩
  obtain rfl : i = v.p.length := by omega
  rw [decide_eq_true (eq_all h5' j2), Bool.true_and] at hr
  (conv => whnf); refine LoopI.mk (fun q ws os => ∃ i : Nat, ws = [.ptr 0 0, .ptr 1 0, i64 i] ∧ os = [wdO2 v, wdO2 w] ∧ i ≤ v.o.length ∧ v.o.take i = w.o.take i ∧ q = v.o.length - i) v.o.length ⟨0, rfl, rfl, Nat.zero_le _, rfl, rfl⟩ ?_
  rintro q _ _ ⟨i, rfl, rfl, j1, j2, rfl⟩
  (conv => whnf); refine cond_d (fun j3 => ?_) (fun j3 => ?_)
  · obtain ⟨x, hx⟩ := get_some (l := v.o) (i := i) (by omega)
    obtain ⟨y, hy⟩ := get_some (l := w.o) (i := i) (by omega)
    (conv => whnf); refine DrawI.mixF [⟨[(0, true, [2]), (1, true, [137]), (2, true, [9]), (3, true, [138, 139]), (4, true, [140]), (5, true, [3]), (6, true, [142]), (7, true, [9]), (8, true, [143, 144]), (9, true, [145]), (10, true, [])], [], some (11, [])⟩, ⟨[(0, false, [2]), (1, false, [137]), (2, false, [9]), (3, false, [138, 139]), (4, false, [140]), (5, false, [3]), (6, false, [142]), (7, false, [9]), (8, false, [143, 144]), (9, false, [145]), (10, false, [])], [10], some (12, [10, 141])⟩, ⟨[(5, false, [3]), (6, false, [142]), (7, false, [9]), (8, false, [143, 144]), (9, false, [145])], [], some (13, [11, 146])⟩, ⟨[], [], none⟩] [10] (by decide +kernel) ?_
    repeat (first | refine DrawO.mkF _ (And.intro rfl rfl) ?_ | refine DrawO.mkF _ (Idx.mk _ rfl (And.intro rfl rfl)) ?_ | refine And.intro rfl ?_)
    refine DrawO.mkF _ (And.intro (by omega) (Idx.mk _ (map_at hx) (And.intro rfl rfl))) ?_
    repeat (first | refine DrawO.mkF _ (And.intro rfl rfl) ?_ | refine DrawO.mkF _ (Idx.mk _ rfl (And.intro rfl rfl)) ?_ | refine And.intro rfl ?_)
    refine DrawO.mkF _ (And.intro (by omega) (Idx.mk _ (map_at hy) (And.intro rfl rfl))) ?_
    repeat (first | refine DrawO.mkF _ (And.intro rfl rfl) ?_ | refine DrawO.mkF _ (Idx.mk _ rfl (And.intro rfl rfl)) ?_ | refine And.intro rfl ?_)
    refine DrawN.mkF (.vec 80 [i64 0, .d (.bool false), .d .nils]) rfl (And.intro rfl rfl) ?_
    repeat (first | refine DrawO.mkF _ (And.intro rfl rfl) ?_ | refine DrawO.mkF _ (Idx.mk _ rfl (And.intro rfl rfl)) ?_ | refine And.intro rfl ?_)
    refine DrawO.mkF _ (And.intro (by omega) (Idx.mk _ (map_at hx) (And.intro rfl rfl))) ?_
    repeat (first | refine DrawO.mkF _ (And.intro rfl rfl) ?_ | refine DrawO.mkF _ (Idx.mk _ rfl (And.intro rfl rfl)) ?_ | refine And.intro rfl ?_)
    refine DrawO.mkF _ (And.intro (by omega) (Idx.mk _ (map_at hy) (And.intro rfl rfl))) ?_
    repeat (first | refine DrawO.mkF _ (And.intro rfl rfl) ?_ | refine DrawO.mkF _ (Idx.mk _ rfl (And.intro rfl rfl)) ?_ | refine And.intro rfl ?_)
    refine DrawN.mkF _ rfl (And.intro rfl rfl) ?_
    repeat (first | refine DrawO.mkF _ (And.intro rfl rfl) ?_ | refine DrawO.mkF _ (Idx.mk _ rfl (And.intro rfl rfl)) ?_ | refine And.intro rfl ?_)
    refine DrawO.mkF _ (And.intro (by omega) (Idx.mk _ (map_at hy) (And.intro rfl rfl))) ?_
    repeat (first | refine DrawO.mkF _ (And.intro rfl rfl) ?_ | refine DrawO.mkF _ (Idx.mk _ rfl (And.intro rfl rfl)) ?_ | refine And.intro rfl ?_)
    obtain ⟨x1, x2, x3⟩ := x
    obtain ⟨y1, y2, y3⟩ := y
    (conv => whnf); refine cond_d (fun m1 => ?_) (fun m1 => ?_)
    · rw [decide_eq_false (p := v.o = w.o) (ne_at hx hy (fun e => m1 (by cases e; rfl)))] at hr
      exact Is2.mk (by rw [hr])
    (conv => whnf); refine cond_i (fun m2 => ?_) (fun m2 => ?_)
    · rw [decide_eq_false (p := v.o = w.o) (ne_at hx hy (fun e => by cases e; simp at m2))] at hr
      exact Is2.mk (by rw [hr])
    have m2' : x2 = y2 := by simpa using m2
    (conv => whnf); refine (rSames_ct x3 y3).use ?_
    (conv => whnf); refine cond_nd (fun m3 => ?_) (fun m3 => ?_)
    · rw [decide_eq_false (p := v.o = w.o) (ne_at hx hy (fun e => m3 (by cases e; rfl)))] at hr
      exact Is2.mk (by rw [hr])
    have e : ((x1, x2, x3) : Opng) = (y1, y2, y3) := by rw [show x1 = y1 from Decidable.of_not_not m1, m2', show x3 = y3 from m3]
    (conv => whnf); refine And.intro (by first | omega | (dsimp only [List.length, cond]; omega) | (show (-9223372036854775808 : Int) ≤ _ ∧ _ ≤ (9223372036854775807 : Int); omega) | decide) ?_
    (conv => whnf)
    exact ⟨v.o.length - (i + 1), by omega, i + 1, rfl, rfl, by omega, eq_next j2 hx (by rw [hy, e]), rfl⟩
  obtain rfl : i = v.o.length := by omega
  rw [decide_eq_true (eq_all h6' j2)] at hr
  exact Is2.mk (by rw [hr])
end Go.Proofs.Ytidelnccggfmgaa.Wrd

/- Package words: the plain laws of which words may be said. -/
namespace Go.Proofs.Ytidelnccggfmgaa.Wrd
open Go.V Go.Num
open Go.Eng (wr)
open Go.Proofs.Ytidelnccggfmgaa.Let
set_option maxRecDepth 100000
theorem risT_spec {l : List Int} : ∀ {k : Nat}, risT l k = true → ∀ i, i < k → (1 ≤ l.getD i 0 ∧ l.getD i 0 ≤ 64) ∧ (0 < i → l.getD (i - 1) 0 < l.getD i 0)
  | 0, _, i, hi => by omega
  | k + 1, h, i, hi => by
    simp only [risT, Bool.and_eq_true, Bool.or_eq_true, decide_eq_true_eq] at h
    by_cases e : i = k
    · subst e
      exact ⟨h.2.1, fun h0 => h.2.2.resolve_left (by omega)⟩
    · exact risT_spec h.1 i (by omega)
theorem ris_low {l : List Int} (h : ris l = true) : ∀ i, i < l.length → (i : Int) + 1 ≤ l.getD i 0
  | 0, hi => by have := (risT_spec h 0 hi).1; omega
  | i + 1, hi => by
    have h1 := ris_low h i (by omega)
    have h2 := (risT_spec h (i + 1) hi).2 (by omega)
    rw [Nat.add_sub_cancel] at h2
    omega
theorem ris_len {l : List Int} (h : ris l = true) : l.length ≤ 64 := by
  by_cases e : l.length = 0
  · omega
  · have h1 := ris_low h (l.length - 1) (by omega)
    have h2 := (risT_spec h (l.length - 1) (by omega)).1
    omega
theorem ris_who {l : List Int} (h : ris l = true) {n : Int} (hn : n ∈ l) : 1 ≤ n ∧ n ≤ 64 := by
  obtain ⟨i, hi⟩ := List.getElem?_of_mem hn
  have hlt := (List.getElem?_eq_some_iff.1 hi).1
  have h1 := (risT_spec h i hlt).1
  rwa [List.getD_eq_getElem?_getD, hi] at h1
theorem amv (m : Int) (n : Int) (b : Bool) (h : among m n = b) : among m n = b := h
theorem par_ris {p : List Parc} {g g' : Parc → Int} (hgg : ∀ x, finP x = (whoB (g x) && (whoB (g' x) && decide (x.2.2.length ≤ 64))) ∨ finP x = (whoB (g' x) && (whoB (g x) && decide (x.2.2.length ≤ 64)))) (hr : ris (p.map g') = true) : parB g p = p.all finP := by
  unfold parB
  rw [Bool.eq_iff_iff, List.all_eq_true, List.all_eq_true]
  have hx : ∀ x ∈ p, (decide (1 ≤ g x ∧ g x ≤ 64) && decide (x.2.2.length ≤ 64)) = finP x := fun x hx => by
    have hw : whoB (g' x) = true := decide_eq_true (ris_who hr (List.mem_map_of_mem hx))
    rcases hgg x with e | e <;> rw [e, hw] <;> simp
  exact ⟨fun h x hm => by rw [← hx x hm]; exact h x hm, fun h x hm => by rw [hx x hm]; exact h x hm⟩
theorem iteF {P : Prop} [Decidable P] {b : Bool} : (if P then false else b) = true ↔ ¬ P ∧ b = true := by
  by_cases h : P <;> simp [h]
theorem ris_nil : ris [] = true := rfl
theorem good_rg (w : Wd) : goodB w = rgB w := by
  obtain ⟨k, f, y, c, p, v, h, o⟩ := w
  by_cases hk : 1 ≤ k ∧ k ≤ 8
  · rw [Bool.eq_iff_iff]
    obtain rfl | rfl | rfl | rfl | rfl | rfl | rfl | rfl : k = 1 ∨ k = 2 ∨ k = 3 ∨ k = 4 ∨ k = 5 ∨ k = 6 ∨ k = 7 ∨ k = 8 := by omega
    · have a1 : among 6 1 = true := by decide
      have a2 : among 24 1 = false := by decide
      have a3 : among 32 1 = false := by decide
      have a4 : among 64 1 = false := by decide
      have a5 : among 128 1 = false := by decide
      have a6 : among 256 1 = false := by decide
      have a7 : (hasL ⟨1, f, y, c, p, v, h, o⟩).getD 1 0 = ((c.length : Nat) : Int) := rfl
      have a9 : (hasL ⟨1, f, y, c, p, v, h, o⟩)[1]?.getD 0 = ((c.length : Nat) : Int) := rfl
      have a8 : p.map (pnum ⟨1, f, y, c, p, v, h, o⟩) = p.map (fun x : Parc => x.1) := rfl
      simp [goodB, rgB, onlyB, kin, tstB, bodyB, opnB, a1, a2, a3, a4, a5, a6, allN, a7, a8]
      constructor
      · rintro ⟨h1, h2, hf, ⟨rfl, rfl, rfl, rfl, hy⟩, hb⟩
        refine ⟨by omega, iteF.2 ⟨?_, ?_⟩⟩
        · simp [ris_nil, a7, a8, a9]
        · rw [decide_eq_true hy, decide_eq_true hb.1, decide_eq_true hb.2]; rfl
      · rintro ⟨hf, hi⟩
        obtain ⟨hc, ht⟩ := iteF.1 hi
        simp only [not_or] at hc
        obtain ⟨hc1, hc2, hc3, hc4, hc5, hc6⟩ := hc
        have : p = [] := List.length_eq_zero_iff.1 (by omega)
        subst this
        have : v = [] := List.length_eq_zero_iff.1 (by omega)
        subst this
        have : h = [] := List.length_eq_zero_iff.1 (by omega)
        subst this
        have : o = [] := List.length_eq_zero_iff.1 (by omega)
        subst this
        simp at ht
        exact ⟨by omega, by omega, by omega, ⟨rfl, rfl, rfl, rfl, ht.1⟩, ht.2.1, ht.2.2⟩
    · have a1 : among 6 2 = true := by decide
      have a2 : among 24 2 = false := by decide
      have a3 : among 32 2 = false := by decide
      have a4 : among 64 2 = false := by decide
      have a5 : among 128 2 = false := by decide
      have a6 : among 256 2 = false := by decide
      have a7 : (hasL ⟨2, f, y, c, p, v, h, o⟩).getD 2 0 = ((c.length : Nat) : Int) := rfl
      have a9 : (hasL ⟨2, f, y, c, p, v, h, o⟩)[2]?.getD 0 = ((c.length : Nat) : Int) := rfl
      have a8 : p.map (pnum ⟨2, f, y, c, p, v, h, o⟩) = p.map (fun x : Parc => x.1) := rfl
      simp [goodB, rgB, onlyB, kin, tstB, bodyB, opnB, a1, a2, a3, a4, a5, a6, allN, a7, a8]
      constructor
      · rintro ⟨h1, h2, hf, ⟨rfl, rfl, rfl, rfl, hy⟩, hb⟩
        refine ⟨by omega, iteF.2 ⟨?_, ?_⟩⟩
        · simp [ris_nil, a7, a8, a9]
        · have hr : ris (c.map (fun x : Card => x.1)) = true := by unfold ris; rw [List.length_map]; exact hb
          simp [hy, hr]
      · rintro ⟨hf, hi⟩
        obtain ⟨hc, ht⟩ := iteF.1 hi
        simp only [not_or] at hc
        obtain ⟨hc1, hc2, hc3, hc4, hc5, hc6⟩ := hc
        have : p = [] := List.length_eq_zero_iff.1 (by omega)
        subst this
        have : v = [] := List.length_eq_zero_iff.1 (by omega)
        subst this
        have : h = [] := List.length_eq_zero_iff.1 (by omega)
        subst this
        have : o = [] := List.length_eq_zero_iff.1 (by omega)
        subst this
        simp at ht
        refine ⟨by omega, by omega, by omega, ⟨rfl, rfl, rfl, rfl, ht.1⟩, ?_⟩
        have := ht.2; unfold ris at this; rwa [List.length_map] at this
    · have a1 : among 6 3 = false := by decide
      have a2 : among 24 3 = true := by decide
      have a3 : among 32 3 = false := by decide
      have a4 : among 64 3 = false := by decide
      have a5 : among 128 3 = false := by decide
      have a6 : among 256 3 = false := by decide
      have a7 : (hasL ⟨3, f, y, c, p, v, h, o⟩).getD 3 0 = ((p.length : Nat) : Int) := rfl
      have a9 : (hasL ⟨3, f, y, c, p, v, h, o⟩)[3]?.getD 0 = ((p.length : Nat) : Int) := rfl
      have a8 : p.map (pnum ⟨3, f, y, c, p, v, h, o⟩) = p.map (fun x : Parc => x.2.1) := rfl
      simp [goodB, rgB, onlyB, kin, tstB, bodyB, opnB, a1, a2, a3, a4, a5, a6, allN, a7, a8]
      constructor
      · rintro ⟨h1, h2, hf, ⟨rfl, rfl, rfl, rfl, hy⟩, hb⟩
        refine ⟨by omega, iteF.2 ⟨?_, ?_⟩⟩
        · have hr : ris (p.map (fun x : Parc => x.2.1)) = true := by unfold ris; rw [List.length_map]; exact hb.2
          have hp := par_ris (p := p) (g := fun x : Parc => x.1) (g' := fun x : Parc => x.2.1) (fun x => .inl rfl) hr
          rw [← hp]; simp [ris_nil, hr, hb.1, a7, a8, a9]
        · simp [hy, ris_nil]
      · rintro ⟨hf, hi⟩
        obtain ⟨hc, ht⟩ := iteF.1 hi
        simp only [not_or] at hc
        obtain ⟨hc1, hc2, hc3, hc4, hc5, hc6⟩ := hc
        have : c = [] := List.length_eq_zero_iff.1 (by omega)
        subst this
        have : v = [] := List.length_eq_zero_iff.1 (by omega)
        subst this
        have : h = [] := List.length_eq_zero_iff.1 (by omega)
        subst this
        have : o = [] := List.length_eq_zero_iff.1 (by omega)
        subst this
        simp at ht
        have hr : ris (p.map (fun x : Parc => x.2.1)) = true := by rw [a8] at hc5; simpa using hc5
        have hp := par_ris (p := p) (g := fun x : Parc => x.1) (g' := fun x : Parc => x.2.1) (fun x => .inl rfl) hr
        refine ⟨by omega, by omega, by omega, ⟨rfl, rfl, rfl, rfl, ht.1⟩, ?_, ?_⟩
        · rw [hp]; simpa using hc1
        · unfold ris at hr; rwa [List.length_map] at hr
    · have a1 : among 6 4 = false := by decide
      have a2 : among 24 4 = true := by decide
      have a3 : among 32 4 = false := by decide
      have a4 : among 64 4 = false := by decide
      have a5 : among 128 4 = false := by decide
      have a6 : among 256 4 = false := by decide
      have a7 : (hasL ⟨4, f, y, c, p, v, h, o⟩).getD 4 0 = ((p.length : Nat) : Int) := rfl
      have a9 : (hasL ⟨4, f, y, c, p, v, h, o⟩)[4]?.getD 0 = ((p.length : Nat) : Int) := rfl
      have a8 : p.map (pnum ⟨4, f, y, c, p, v, h, o⟩) = p.map (fun x : Parc => x.1) := rfl
      simp [goodB, rgB, onlyB, kin, tstB, bodyB, opnB, a1, a2, a3, a4, a5, a6, allN, a7, a8]
      constructor
      · rintro ⟨h1, h2, hf, ⟨rfl, rfl, rfl, rfl, hy⟩, hb⟩
        refine ⟨by omega, iteF.2 ⟨?_, ?_⟩⟩
        · have hr : ris (p.map (fun x : Parc => x.1)) = true := by unfold ris; rw [List.length_map]; exact hb.2
          have hp := par_ris (p := p) (g := fun x : Parc => x.2.1) (g' := fun x : Parc => x.1) (fun x => .inr rfl) hr
          rw [← hp]; simp [ris_nil, hr, hb.1, a7, a8, a9]
        · simp [hy, ris_nil]
      · rintro ⟨hf, hi⟩
        obtain ⟨hc, ht⟩ := iteF.1 hi
        simp only [not_or] at hc
        obtain ⟨hc1, hc2, hc3, hc4, hc5, hc6⟩ := hc
        have : c = [] := List.length_eq_zero_iff.1 (by omega)
        subst this
        have : v = [] := List.length_eq_zero_iff.1 (by omega)
        subst this
        have : h = [] := List.length_eq_zero_iff.1 (by omega)
        subst this
        have : o = [] := List.length_eq_zero_iff.1 (by omega)
        subst this
        simp at ht
        have hr : ris (p.map (fun x : Parc => x.1)) = true := by rw [a8] at hc5; simpa using hc5
        have hp := par_ris (p := p) (g := fun x : Parc => x.2.1) (g' := fun x : Parc => x.1) (fun x => .inr rfl) hr
        refine ⟨by omega, by omega, by omega, ⟨rfl, rfl, rfl, rfl, ht.1⟩, ?_, ?_⟩
        · rw [hp]; simpa using hc1
        · unfold ris at hr; rwa [List.length_map] at hr
    · have a1 : among 6 5 = false := by decide
      have a2 : among 24 5 = false := by decide
      have a3 : among 32 5 = true := by decide
      have a4 : among 64 5 = false := by decide
      have a5 : among 128 5 = false := by decide
      have a6 : among 256 5 = false := by decide
      have a7 : (hasL ⟨5, f, y, c, p, v, h, o⟩).getD 5 0 = ((v.length : Nat) : Int) := rfl
      have a9 : (hasL ⟨5, f, y, c, p, v, h, o⟩)[5]?.getD 0 = ((v.length : Nat) : Int) := rfl
      have a8 : p.map (pnum ⟨5, f, y, c, p, v, h, o⟩) = p.map (fun x : Parc => x.1) := rfl
      simp [goodB, rgB, onlyB, kin, tstB, bodyB, opnB, a1, a2, a3, a4, a5, a6, allN, a7, a8]
      constructor
      · rintro ⟨h1, h2, hf, ⟨rfl, rfl, rfl, rfl, hy⟩, hb⟩
        refine ⟨by omega, iteF.2 ⟨?_, ?_⟩⟩
        · simp [ris_nil, a7, a8, a9]; omega
        · simp [hy, ris_nil]
      · rintro ⟨hf, hi⟩
        obtain ⟨hc, ht⟩ := iteF.1 hi
        simp only [not_or] at hc
        obtain ⟨hc1, hc2, hc3, hc4, hc5, hc6⟩ := hc
        have : c = [] := List.length_eq_zero_iff.1 (by omega)
        subst this
        have : p = [] := List.length_eq_zero_iff.1 (by omega)
        subst this
        have : h = [] := List.length_eq_zero_iff.1 (by omega)
        subst this
        have : o = [] := List.length_eq_zero_iff.1 (by omega)
        subst this
        simp at ht
        exact ⟨by omega, by omega, by omega, ⟨rfl, rfl, rfl, rfl, ht.1⟩, by omega⟩
    · have a1 : among 6 6 = false := by decide
      have a2 : among 24 6 = false := by decide
      have a3 : among 32 6 = false := by decide
      have a4 : among 64 6 = true := by decide
      have a5 : among 128 6 = false := by decide
      have a6 : among 256 6 = false := by decide
      have a7 : (hasL ⟨6, f, y, c, p, v, h, o⟩).getD 6 0 = ((h.length : Nat) : Int) := rfl
      have a9 : (hasL ⟨6, f, y, c, p, v, h, o⟩)[6]?.getD 0 = ((h.length : Nat) : Int) := rfl
      have a8 : p.map (pnum ⟨6, f, y, c, p, v, h, o⟩) = p.map (fun x : Parc => x.1) := rfl
      simp [goodB, rgB, onlyB, kin, tstB, bodyB, opnB, a1, a2, a3, a4, a5, a6, allN, a7, a8]
      constructor
      · rintro ⟨h1, h2, hf, ⟨rfl, rfl, rfl, rfl, hy⟩, hb⟩
        refine ⟨by omega, iteF.2 ⟨?_, ?_⟩⟩
        · have hr : ris h = true := hb
          simp [ris_nil, hr, a7, a8, a9]
        · simp [hy, ris_nil]
      · rintro ⟨hf, hi⟩
        obtain ⟨hc, ht⟩ := iteF.1 hi
        simp only [not_or] at hc
        obtain ⟨hc1, hc2, hc3, hc4, hc5, hc6⟩ := hc
        have : c = [] := List.length_eq_zero_iff.1 (by omega)
        subst this
        have : p = [] := List.length_eq_zero_iff.1 (by omega)
        subst this
        have : v = [] := List.length_eq_zero_iff.1 (by omega)
        subst this
        have : o = [] := List.length_eq_zero_iff.1 (by omega)
        subst this
        simp at ht
        refine ⟨by omega, by omega, by omega, ⟨rfl, rfl, rfl, rfl, ht.1⟩, ?_⟩
        have hr : ris h = true := by simpa using hc4
        exact hr
    · have a1 : among 6 7 = false := by decide
      have a2 : among 24 7 = false := by decide
      have a3 : among 32 7 = false := by decide
      have a4 : among 64 7 = false := by decide
      have a5 : among 128 7 = true := by decide
      have a6 : among 256 7 = false := by decide
      have a7 : (hasL ⟨7, f, y, c, p, v, h, o⟩).getD 7 0 = ((o.length : Nat) : Int) := rfl
      have a9 : (hasL ⟨7, f, y, c, p, v, h, o⟩)[7]?.getD 0 = ((o.length : Nat) : Int) := rfl
      have a8 : p.map (pnum ⟨7, f, y, c, p, v, h, o⟩) = p.map (fun x : Parc => x.1) := rfl
      simp [goodB, rgB, onlyB, kin, tstB, bodyB, opnB, a1, a2, a3, a4, a5, a6, allN, a7, a8]
      constructor
      · rintro ⟨h1, h2, hf, ⟨rfl, rfl, rfl, rfl, hy⟩, hb⟩
        refine ⟨by omega, iteF.2 ⟨?_, ?_⟩⟩
        · have hr : ris (o.map (fun x : Opng => x.1)) = true := by unfold ris; rw [List.length_map]; exact hb.1
          have ho : o.all finO = true := by
            rw [List.all_eq_true]; intro x hx
            obtain ⟨x1, x2, x3⟩ := x
            cases x2 with
            | false => exact decide_eq_true ((hb.2 x1).1 x3 hx)
            | true => exact decide_eq_true ((hb.2 x1).2 x3 hx)
          simp [ris_nil, hr, ho, a7, a8, a9]
        · simp [hy, ris_nil]
      · rintro ⟨hf, hi⟩
        obtain ⟨hc, ht⟩ := iteF.1 hi
        simp only [not_or] at hc
        obtain ⟨hc1, hc2, hc3, hc4, hc5, hc6⟩ := hc
        have : c = [] := List.length_eq_zero_iff.1 (by omega)
        subst this
        have : p = [] := List.length_eq_zero_iff.1 (by omega)
        subst this
        have : v = [] := List.length_eq_zero_iff.1 (by omega)
        subst this
        have : h = [] := List.length_eq_zero_iff.1 (by omega)
        subst this
        simp at ht
        have hr : ris (o.map (fun x : Opng => x.1)) = true := by simpa using hc6
        refine ⟨by omega, by omega, by omega, ⟨rfl, rfl, rfl, rfl, ht.1⟩, ?_, ?_⟩
        · unfold ris at hr; rwa [List.length_map] at hr
        · have ho : o.all finO = true := by simpa using hc1
          exact fun a => ⟨fun l hx => of_decide_eq_true (List.all_eq_true.1 ho _ hx), fun l hx => of_decide_eq_true (List.all_eq_true.1 ho _ hx)⟩
    · have a1 : among 6 8 = false := by decide
      have a2 : among 24 8 = false := by decide
      have a3 : among 32 8 = false := by decide
      have a4 : among 64 8 = false := by decide
      have a5 : among 128 8 = false := by decide
      have a6 : among 256 8 = true := by decide
      have a7 : (hasL ⟨8, f, y, c, p, v, h, o⟩).getD 8 0 = (0 : Int) := rfl
      have a9 : (hasL ⟨8, f, y, c, p, v, h, o⟩)[8]?.getD 0 = (0 : Int) := rfl
      have a8 : p.map (pnum ⟨8, f, y, c, p, v, h, o⟩) = p.map (fun x : Parc => x.1) := rfl
      simp [goodB, rgB, onlyB, kin, tstB, bodyB, opnB, a1, a2, a3, a4, a5, a6, allN, a7, a8]
      constructor
      · rintro ⟨h1, h2, hf, ⟨rfl, rfl, rfl, rfl, rfl⟩, hb⟩
        refine ⟨by omega, iteF.2 ⟨?_, ?_⟩⟩
        · simp [ris_nil, a7, a8, a9]
        · simpa using hb
      · rintro ⟨hf, hi⟩
        obtain ⟨hc, ht⟩ := iteF.1 hi
        simp only [not_or] at hc
        obtain ⟨hc1, hc2, hc3, hc4, hc5, hc6⟩ := hc
        have : c = [] := List.length_eq_zero_iff.1 (by omega)
        subst this
        have : p = [] := List.length_eq_zero_iff.1 (by omega)
        subst this
        have : v = [] := List.length_eq_zero_iff.1 (by omega)
        subst this
        have : h = [] := List.length_eq_zero_iff.1 (by omega)
        subst this
        have : o = [] := List.length_eq_zero_iff.1 (by omega)
        subst this
        simp at ht
        exact ⟨by omega, by omega, by omega, ⟨rfl, rfl, rfl, rfl, rfl⟩, ht⟩
  · have e1 : goodB ⟨k, f, y, c, p, v, h, o⟩ = false := by
      unfold goodB
      by_cases h1 : 1 ≤ k
      · rw [decide_eq_true h1, decide_eq_false (show ¬ k ≤ 8 by omega)]; rfl
      · rw [decide_eq_false h1]; rfl
    have e2 : rgB ⟨k, f, y, c, p, v, h, o⟩ = false := by
      unfold rgB
      rw [if_pos (by show k < 1 ∨ 8 < k; omega)]
    rw [e1, e2]
end Go.Proofs.Ytidelnccggfmgaa.Wrd

/- Package words: the plain laws of reading what was written. -/
namespace Go.Proofs.Ytidelnccggfmgaa.Wrd
open Go.V Go.Num
open Go.Eng (wr)
open Go.Proofs.Ytidelnccggfmgaa.Let
set_option maxRecDepth 100000
theorem fine {w : Wd} (h : goodB w = true) : Fine w := by
  rw [good_rg] at h
  unfold rgB at h
  obtain ⟨hk, h⟩ := iteF.1 h
  obtain ⟨hw, h⟩ := iteF.1 h
  obtain ⟨hc, h⟩ := iteF.1 h
  simp only [not_or] at hc
  obtain ⟨hc1, hc2, hc3, hc4, hc5, hc6⟩ := hc
  have hfin : w.p.all finP = true ∧ w.o.all finO = true := by simpa using hc1
  have hh : ris w.h = true := by simpa using hc4
  have hp : ris (w.p.map (pnum w)) = true := by simpa using hc5
  have ho : ris (w.o.map (fun x : Opng => x.1)) = true := by simpa using hc6
  have hlp := ris_len hp
  have hlo := ris_len ho
  rw [List.length_map] at hlp hlo
  have hf : 0 ≤ w.f ∧ w.f ≤ 64 := by
    by_cases h0 : w.f = 0
    · omega
    · have h1 : ¬ (w.k = 2 ∨ w.k = 4 ∨ w.k = 6) := fun e => hw (.inl (by rw [decide_eq_true e, decide_eq_false h0]; decide))
      have h2 : whoB w.f = true := by
        cases e : whoB w.f with
        | true => rfl
        | false => exact absurd (.inr ⟨h1, e⟩) hw
      have := of_decide_eq_true h2
      omega
  have hcs : (0 ≤ w.y ∧ w.y ≤ 17) ∧ (∀ x ∈ w.c, 0 ≤ x.1 ∧ x.1 ≤ 64) ∧ w.c.length ≤ 64 := by
    by_cases k1 : w.k = 1
    · rw [if_pos k1] at h
      simp only [Bool.and_eq_true, decide_eq_true_eq] at h
      obtain ⟨h1, h2, h3⟩ := h
      refine ⟨by omega, fun x hx => ?_, by omega⟩
      obtain ⟨y, hy⟩ := List.length_eq_one_iff.1 h2
      rw [hy] at hx h3
      rw [List.mem_singleton.1 hx]
      have : y.1 = w.f := h3
      omega
    rw [if_neg k1] at h
    by_cases k8 : w.k = 8
    · rw [if_pos k8] at h
      simp only [Bool.and_eq_true, decide_eq_true_eq] at h
      have hz : (hasL w).getD w.k.toNat 0 = 0 := by rw [k8]; rfl
      have hc : w.c.length = 0 := by
        have : allN w = 0 := by rw [← hz]; exact Decidable.of_not_not hc2
        unfold allN at this; omega
      have hc' := List.length_eq_zero_iff.1 hc
      exact ⟨by omega, fun x hx => by (rw [hc'] at hx; cases hx), by omega⟩
    rw [if_neg k8] at h
    simp only [Bool.and_eq_true, decide_eq_true_eq] at h
    have hl := ris_len h.2
    rw [List.length_map] at hl
    exact ⟨by omega, fun x hx => by have := ris_who h.2 (List.mem_map_of_mem (f := fun x : Card => x.1) hx); omega, hl⟩
  refine ⟨by omega, hf, hcs.1, hcs.2.1, fun x hx => ?_, fun x hx => ?_, fun x hx => ?_, hcs.2.2, hlp, by omega, ris_len hh, hlo⟩
  · have := List.all_eq_true.1 hfin.1 x hx
    simp only [finP, whoB, Bool.and_eq_true, decide_eq_true_eq] at this
    omega
  · have := ris_who hh hx; omega
  · have := List.all_eq_true.1 hfin.2 x hx
    have h1 := ris_who ho (List.mem_map_of_mem (f := fun x : Opng => x.1) hx)
    exact ⟨by omega, of_decide_eq_true this⟩
/-! ## Reading what was written -/
theorem numB_le4 {n : Int} (h : 0 ≤ n ∧ n ≤ 4294967295) : ((numB (leB n 4) : Nat) : Int) = n := by
  obtain ⟨m, rfl⟩ : ∃ m : Nat, n = m := ⟨n.toNat, by omega⟩
  rw [numB_leB, Nat.mod_eq_of_lt (by omega)]
theorem numB_le8 {n : Int} (h : 0 ≤ n ∧ n < 18446744073709551616) : ((numB (leB n 8) : Nat) : Int) = n := by
  obtain ⟨m, rfl⟩ : ∃ m : Nat, n = m := ⟨n.toNat, by omega⟩
  rw [numB_leB, Nat.mod_eq_of_lt (by omega)]
theorem take_back (a rest : List UInt8) : takeB (a ++ rest) 0 a.length = (a, rest, 0) := by
  unfold takeB
  rw [if_pos rfl, if_neg (by rw [List.length_append]; omega), List.take_left, List.drop_left]
theorem take_backN {a rest : List UInt8} {n : Nat} (h : a.length = n) : takeB (a ++ rest) 0 n = (a, rest, 0) := by subst h; exact take_back a rest
def Back {α : Type} (one : RX → α × RX) (wt : α → List UInt8) (P : α → Prop) : Prop := ∀ a rest o, P a → one (wt a ++ rest, 0, o) = (a, rest, 0, o)
theorem small_back : Back smallX (fun n => leB n 4) (fun n => 0 ≤ n ∧ n ≤ 4294967295) := fun n rest o h => by
  unfold smallX
  rw [take_backN (leB_len n 4), numB_le4 h]
theorem great_back : Back greatX (fun n => leB n 8) (fun n => 0 ≤ n ∧ n < 18446744073709551616) := fun n rest o h => by
  unfold greatX
  rw [take_backN (leB_len n 8), numB_le8 h]
theorem bytes_back : Back bytesX (fun b => leB (b.length : Nat) 4 ++ b) (fun b => b.length ≤ 4294967295) := fun b rest o h => by
  have e : bytesB (leB (b.length : Nat) 4 ++ b ++ rest) 0 = (b, rest, 0) := by
    unfold bytesB
    rw [List.append_assoc, take_backN (leB_len _ 4)]
    have h1 := numB_le4 (n := (b.length : Nat)) (by omega)
    have h2 : numB (leB (b.length : Nat) 4) = b.length := by omega
    show takeB (b ++ rest) 0 (numB (leB (b.length : Nat) 4)) = _
    rw [h2, take_back]
  unfold bytesX
  rw [e]
theorem card_back : Back cardX cardB (fun c => (0 ≤ c.1 ∧ c.1 ≤ 64) ∧ (0 ≤ c.2.1 ∧ c.2.1 < 18446744073709551616) ∧ (0 ≤ c.2.2 ∧ c.2.2 < 18446744073709551616)) := fun c rest o h => by
  unfold cardX cardB
  rw [List.append_assoc, List.append_assoc, small_back _ _ _ (by omega)]
  dsimp only
  rw [great_back _ _ _ h.2.1]
  dsimp only
  rw [great_back _ _ _ h.2.2]
theorem parc_back : Back parcX parcB (fun x => (0 ≤ x.1 ∧ x.1 ≤ 64) ∧ (0 ≤ x.2.1 ∧ x.2.1 ≤ 64) ∧ x.2.2.length ≤ 64) := fun x rest o h => by
  unfold parcX parcB
  rw [List.append_assoc, List.append_assoc, small_back _ _ _ (by omega)]
  dsimp only
  rw [small_back _ _ _ (by omega)]
  dsimp only
  rw [bytes_back x.2.2 rest o (by omega)]
theorem cell_back : Back cellX (fun n => leB n 4) (fun n => 0 ≤ n ∧ n ≤ 4294967295) := fun n rest o h => by
  unfold cellX
  rw [small_back _ _ _ h]
  dsimp only
  rw [show wr .u32 n = n from by simp only [wr]; omega]
theorem rep_back {α : Type} {one : RX → α × RX} {wt : α → List UInt8} {P : α → Prop} (h : Back one wt P) {l : List α} (hl : ∀ a ∈ l, P a) (rest : List UInt8) (o : Bool) : ∀ k, k ≤ l.length → repR one k (l.flatMap wt ++ rest, 0, o) = (l.take k, (l.drop k).flatMap wt ++ rest, 0, o)
  | 0, _ => by simp [repR]
  | k + 1, hk => by
    have ih := rep_back h hl rest o k (by omega)
    obtain ⟨x, hx⟩ := get_some (l := l) (i := k) (by omega)
    have hd : l.drop k = x :: l.drop (k + 1) := by
      rw [List.drop_eq_getElem_cons (by omega)]
      congr 1
      rw [List.getElem?_eq_getElem (by omega)] at hx
      simpa using hx
    have e : one ((l.drop k).flatMap wt ++ rest, 0, o) = (x, (l.drop (k + 1)).flatMap wt ++ rest, 0, o) := by
      rw [hd, List.flatMap_cons, List.append_assoc]
      exact h x _ o (hl x (List.mem_of_getElem? hx))
    show ((repR one k _).1 ++ [(one (repR one k _).2).1], (one (repR one k _).2).2) = _
    rw [ih]
    dsimp only
    rw [e, List.take_add_one, hx]; rfl
theorem list_back {α : Type} {one : RX → α × RX} {wt : α → List UInt8} {P : α → Prop} (h : Back one wt P) : Back (listR one) (fun l => leB (l.length : Nat) 4 ++ l.flatMap wt) (fun l => l.length ≤ 256 ∧ ∀ a ∈ l, P a) := fun l rest o hl => by
  unfold listR
  rw [List.append_assoc, small_back _ _ _ (by omega)]
  dsimp only
  have e : (min ((l.length : Nat) : Int) 257).toNat = l.length := by omega
  rw [e, rep_back h hl.2 rest o l.length (Nat.le_refl _)]
  unfold oddX
  rw [List.take_length, List.drop_length, decide_eq_false (by omega)]
  simp
theorem opng_back : Back opngX opngB (fun x => (0 ≤ x.1 ∧ x.1 ≤ 64) ∧ x.2.2.length ≤ 5 ∧ ∀ n ∈ x.2.2, 0 ≤ n ∧ n < 18446744073709551616) := fun x rest o h => by
  obtain ⟨x1, x2, x3⟩ := x
  unfold opngX opngB
  simp only [List.append_assoc]
  have hown : 0 ≤ ownN x2 ∧ ownN x2 ≤ 1 := by unfold ownN; split <;> omega
  rw [small_back _ _ _ (by have := h.1; dsimp only at this; omega)]
  dsimp only
  rw [small_back _ _ _ (by omega)]
  dsimp only
  have e : oddX (decide (1 < ownN x2)) (leB ((x3.length : Nat) : Int) 4 ++ ((x3.flatMap fun n => leB n 8) ++ rest), 0, o) = ((leB ((x3.length : Nat) : Int) 4 ++ x3.flatMap fun n => leB n 8) ++ rest, 0, o) := by
    unfold oddX; rw [decide_eq_false (by omega), List.append_assoc]; simp
  rw [e, list_back great_back x3 rest o ⟨by have := h.2.1; dsimp only at this; omega, h.2.2⟩]
  have e2 : decide (ownN x2 = 1) = x2 := by cases x2 <;> rfl
  rw [e2]
theorem word_back {w : Wd} (F : Fine w) (Y : Typ w) : wordX (textB w, 0, false) = w ∧ h5 (textB w, 0, false) = ([], 0, false) := by
  have b0 : textB w = leB w.k 4 ++ (leB w.f 4 ++ (leB w.y 4 ++ ((leB (w.c.length : Nat) 4 ++ w.c.flatMap cardB) ++ ((leB (w.p.length : Nat) 4 ++ w.p.flatMap parcB) ++ ((leB (w.v.length : Nat) 4 ++ w.v.flatMap fun n => leB n 4) ++ ((leB (w.h.length : Nat) 4 ++ w.h.flatMap fun n => leB n 4) ++ ((leB (w.o.length : Nat) 4 ++ w.o.flatMap opngB) ++ []))))))) := by
    simp only [textB, T8, T7, T6, T5, T4, T3, T2, T1, T0, List.append_assoc, List.append_nil]
  have fk := F.k; have ff := F.f; have fy := F.y
  have fcl := F.cl; have fpl := F.pl; have fvl := F.vl; have fhl := F.hl; have fol := F.ol
  have c1 := small_back w.k (leB w.f 4 ++ (leB w.y 4 ++ ((leB (w.c.length : Nat) 4 ++ w.c.flatMap cardB) ++ ((leB (w.p.length : Nat) 4 ++ w.p.flatMap parcB) ++ ((leB (w.v.length : Nat) 4 ++ w.v.flatMap fun n => leB n 4) ++ ((leB (w.h.length : Nat) 4 ++ w.h.flatMap fun n => leB n 4) ++ ((leB (w.o.length : Nat) 4 ++ w.o.flatMap opngB) ++ []))))))) false (by omega)
  have c2 := small_back w.f (leB w.y 4 ++ ((leB (w.c.length : Nat) 4 ++ w.c.flatMap cardB) ++ ((leB (w.p.length : Nat) 4 ++ w.p.flatMap parcB) ++ ((leB (w.v.length : Nat) 4 ++ w.v.flatMap fun n => leB n 4) ++ ((leB (w.h.length : Nat) 4 ++ w.h.flatMap fun n => leB n 4) ++ ((leB (w.o.length : Nat) 4 ++ w.o.flatMap opngB) ++ [])))))) false (by omega)
  have c3 := small_back w.y ((leB (w.c.length : Nat) 4 ++ w.c.flatMap cardB) ++ ((leB (w.p.length : Nat) 4 ++ w.p.flatMap parcB) ++ ((leB (w.v.length : Nat) 4 ++ w.v.flatMap fun n => leB n 4) ++ ((leB (w.h.length : Nat) 4 ++ w.h.flatMap fun n => leB n 4) ++ ((leB (w.o.length : Nat) 4 ++ w.o.flatMap opngB) ++ []))))) false (by omega)
  have c4 := list_back card_back w.c ((leB (w.p.length : Nat) 4 ++ w.p.flatMap parcB) ++ ((leB (w.v.length : Nat) 4 ++ w.v.flatMap fun n => leB n 4) ++ ((leB (w.h.length : Nat) 4 ++ w.h.flatMap fun n => leB n 4) ++ ((leB (w.o.length : Nat) 4 ++ w.o.flatMap opngB) ++ [])))) false ⟨by omega, fun x hx => ⟨F.c x hx, Y.c x hx⟩⟩
  have c5 := list_back parc_back w.p ((leB (w.v.length : Nat) 4 ++ w.v.flatMap fun n => leB n 4) ++ ((leB (w.h.length : Nat) 4 ++ w.h.flatMap fun n => leB n 4) ++ ((leB (w.o.length : Nat) 4 ++ w.o.flatMap opngB) ++ []))) false ⟨by omega, fun x hx => F.p x hx⟩
  have c6 := list_back cell_back w.v ((leB (w.h.length : Nat) 4 ++ w.h.flatMap fun n => leB n 4) ++ ((leB (w.o.length : Nat) 4 ++ w.o.flatMap opngB) ++ [])) false ⟨by omega, fun x hx => Y.v x hx⟩
  have c7 := list_back small_back w.h ((leB (w.o.length : Nat) 4 ++ w.o.flatMap opngB) ++ []) false ⟨by omega, fun x hx => by have := F.h x hx; omega⟩
  have c8 := list_back opng_back w.o [] false ⟨by omega, fun x hx => ⟨(F.o x hx).1, (F.o x hx).2, Y.o x hx⟩⟩
  dsimp only at c1 c2 c3 c4 c5 c6 c7 c8
  rw [b0]
  unfold wordX h5 h4 h3 h2 h1 h0
  rw [c1]; dsimp only
  rw [c2]; dsimp only
  rw [c3]; dsimp only
  rw [c4]; dsimp only
  rw [c5]; dsimp only
  rw [c6]; dsimp only
  rw [c7]; dsimp only
  rw [c8]
  exact ⟨rfl, rfl⟩
/-! ## What was read was written so -/
theorem leB_numB {l : List UInt8} {k : Nat} (h : l.length = k) : leB (numB l : Nat) k = l := by
  refine numB_inj _ _ (by rw [leB_len, h]) ?_
  rw [numB_leB, ← h, Nat.mod_eq_of_lt (numB_lt l)]
theorem take_fwd {rest : List UInt8} {e : Int} {n : Nat} (h : (takeB rest e n).2.2 = 0) : e = 0 ∧ (takeB rest e n).1.length = n ∧ rest = (takeB rest e n).1 ++ (takeB rest e n).2.1 := by
  unfold takeB at *
  by_cases he : e = 0
  · rw [if_pos he] at h ⊢
    by_cases hl : rest.length < n
    · rw [if_pos hl] at h; simp at h
    · rw [if_neg hl]
      exact ⟨he, by rw [List.length_take]; omega, (List.take_append_drop n rest).symm⟩
  · rw [if_neg he] at h; exact absurd h he
def Fwd {α : Type} (one : RX → α × RX) (wt : α → List UInt8) : Prop := ∀ s, (one s).2.2.1 = 0 → (one s).2.2.2 = false → s.2.1 = 0 ∧ s.2.2 = false ∧ s.1 = wt (one s).1 ++ (one s).2.1
theorem small_fwd : Fwd smallX (fun n => leB n 4) := fun s h1 h2 => by
  obtain ⟨h3, h4, h5⟩ := take_fwd (rest := s.1) (e := s.2.1) (n := 4) h1
  refine ⟨h3, h2, ?_⟩
  show s.1 = leB ((numB (takeB s.1 s.2.1 4).1 : Nat) : Int) 4 ++ (takeB s.1 s.2.1 4).2.1
  rw [leB_numB h4]; exact h5
theorem great_fwd : Fwd greatX (fun n => leB n 8) := fun s h1 h2 => by
  obtain ⟨h3, h4, h5⟩ := take_fwd (rest := s.1) (e := s.2.1) (n := 8) h1
  refine ⟨h3, h2, ?_⟩
  show s.1 = leB ((numB (takeB s.1 s.2.1 8).1 : Nat) : Int) 8 ++ (takeB s.1 s.2.1 8).2.1
  rw [leB_numB h4]; exact h5
theorem cell_fwd : Fwd cellX (fun n => leB n 4) := fun s h1 h2 => by
  have := small_rng s
  have e : (cellX s).1 = (smallX s).1 := by show wr .u32 (smallX s).1 = _; simp only [wr]; omega
  rw [e]; exact small_fwd s h1 h2
theorem bytes_fwd : Fwd bytesX (fun b => leB (b.length : Nat) 4 ++ b) := fun s h1 h2 => by
  have h1' : (takeB (takeB s.1 s.2.1 4).2.1 (takeB s.1 s.2.1 4).2.2 (numB (takeB s.1 s.2.1 4).1)).2.2 = 0 := h1
  obtain ⟨h3, h4, h5⟩ := take_fwd h1'
  obtain ⟨g3, g4, g5⟩ := take_fwd h3
  refine ⟨g3, h2, ?_⟩
  show s.1 = leB (((takeB (takeB s.1 s.2.1 4).2.1 (takeB s.1 s.2.1 4).2.2 (numB (takeB s.1 s.2.1 4).1)).1.length : Nat) : Int) 4 ++ (takeB (takeB s.1 s.2.1 4).2.1 (takeB s.1 s.2.1 4).2.2 (numB (takeB s.1 s.2.1 4).1)).1 ++ (takeB (takeB s.1 s.2.1 4).2.1 (takeB s.1 s.2.1 4).2.2 (numB (takeB s.1 s.2.1 4).1)).2.1
  rw [h4, leB_numB g4, List.append_assoc, ← h5]; exact g5
theorem card_fwd : Fwd cardX cardB := fun s h1 h2 => by
  obtain ⟨a1, a2, a3⟩ := great_fwd _ h1 h2
  obtain ⟨b1, b2, b3⟩ := great_fwd _ a1 a2
  obtain ⟨c1, c2, c3⟩ := small_fwd _ b1 b2
  refine ⟨c1, c2, ?_⟩
  show s.1 = leB (smallX s).1 4 ++ leB (greatX (smallX s).2).1 8 ++ leB (greatX (greatX (smallX s).2).2).1 8 ++ (greatX (greatX (smallX s).2).2).2.1
  rw [List.append_assoc, List.append_assoc, ← a3, ← b3]; exact c3
theorem parc_fwd : Fwd parcX parcB := fun s h1 h2 => by
  obtain ⟨a1, a2, a3⟩ := bytes_fwd _ h1 h2
  obtain ⟨b1, b2, b3⟩ := small_fwd _ a1 a2
  obtain ⟨c1, c2, c3⟩ := small_fwd _ b1 b2
  refine ⟨c1, c2, ?_⟩
  show s.1 = leB (smallX s).1 4 ++ leB (smallX (smallX s).2).1 4 ++ (leB (((bytesX (smallX (smallX s).2).2).1.length : Nat) : Int) 4 ++ (bytesX (smallX (smallX s).2).2).1) ++ (bytesX (smallX (smallX s).2).2).2.1
  rw [List.append_assoc, List.append_assoc, ← a3, ← b3]; exact c3
theorem rep_fwd {α : Type} {one : RX → α × RX} {wt : α → List UInt8} (h : Fwd one wt) (s : RX) : ∀ k, (repR one k s).2.2.1 = 0 → (repR one k s).2.2.2 = false → s.2.1 = 0 ∧ s.2.2 = false ∧ s.1 = (repR one k s).1.flatMap wt ++ (repR one k s).2.1
  | 0, h1, h2 => ⟨h1, h2, by simp [repR]⟩
  | k + 1, h1, h2 => by
    obtain ⟨a1, a2, a3⟩ := h _ h1 h2
    obtain ⟨b1, b2, b3⟩ := rep_fwd h s k a1 a2
    refine ⟨b1, b2, ?_⟩
    show s.1 = ((repR one k s).1 ++ [(one (repR one k s).2).1]).flatMap wt ++ (one (repR one k s).2).2.1
    rw [List.flatMap_append, List.append_assoc, List.flatMap_cons, List.flatMap_nil, List.append_nil, ← a3]; exact b3
theorem list_fwd {α : Type} {one : RX → α × RX} {wt : α → List UInt8} (h : Fwd one wt) : Fwd (listR one) (fun l => leB (l.length : Nat) 4 ++ l.flatMap wt) := fun s h1 h2 => by
  have h2' : ((repR one (min (smallX s).1 257).toNat (smallX s).2).2.2.2 || decide (256 < (smallX s).1)) = false := h2
  rw [Bool.or_eq_false_iff] at h2'
  have h3 := of_decide_eq_false h2'.2
  obtain ⟨a1, a2, a3⟩ := rep_fwd h (smallX s).2 _ h1 h2'.1
  obtain ⟨b1, b2, b3⟩ := small_fwd s a1 a2
  refine ⟨b1, b2, ?_⟩
  have hr := small_rng s
  show s.1 = leB ((((repR one (min (smallX s).1 257).toNat (smallX s).2).1.length : Nat)) : Int) 4 ++ (repR one (min (smallX s).1 257).toNat (smallX s).2).1.flatMap wt ++ (repR one (min (smallX s).1 257).toNat (smallX s).2).2.1
  rw [rep_len, show (((min (smallX s).1 257).toNat : Nat) : Int) = (smallX s).1 by omega, List.append_assoc, ← a3]; exact b3
theorem opng_fwd : Fwd opngX opngB := fun s h1 h2 => by
  obtain ⟨a1, a2, a3⟩ := list_fwd great_fwd _ h1 h2
  have a2' : ((smallX (smallX s).2).2.2.2 || decide (1 < (smallX (smallX s).2).1)) = false := a2
  rw [Bool.or_eq_false_iff] at a2'
  have h3 := of_decide_eq_false a2'.2
  obtain ⟨b1, b2, b3⟩ := small_fwd (smallX s).2 a1 a2'.1
  obtain ⟨c1, c2, c3⟩ := small_fwd s b1 b2
  refine ⟨c1, c2, ?_⟩
  have hr := small_rng (smallX s).2
  have ho : ownN (decide ((smallX (smallX s).2).1 = 1)) = (smallX (smallX s).2).1 := by
    unfold ownN
    by_cases e : (smallX (smallX s).2).1 = 1
    · rw [decide_eq_true e, e]; rfl
    · rw [decide_eq_false e]; simp; omega
  have a3' : (smallX (smallX s).2).2.1 = leB ((((opngX s).1.2.2.length : Nat)) : Int) 4 ++ ((opngX s).1.2.2.flatMap fun n => leB n 8) ++ (opngX s).2.1 := a3
  show s.1 = leB (smallX s).1 4 ++ leB (ownN (decide ((smallX (smallX s).2).1 = 1))) 4 ++ leB (((opngX s).1.2.2.length : Nat) : Int) 4 ++ ((opngX s).1.2.2.flatMap fun n => leB n 8) ++ (opngX s).2.1
  rw [ho]
  simp only [List.append_assoc] at a3' ⊢
  rw [← a3', ← b3]; exact c3
theorem word_join {k f y : Int} {c : List Card} {p : List Parc} {v h : List Int} {o : List Opng} {s r1 r2 r3 r4 r5 r6 r7 r8 : List UInt8}
    (a1 : s = leB k 4 ++ r1) (a2 : r1 = leB f 4 ++ r2) (a3 : r2 = leB y 4 ++ r3) (a4 : r3 = leB (c.length : Nat) 4 ++ c.flatMap cardB ++ r4) (a5 : r4 = leB (p.length : Nat) 4 ++ p.flatMap parcB ++ r5)
    (a6 : r5 = (leB (v.length : Nat) 4 ++ v.flatMap fun n => leB n 4) ++ r6) (a7 : r6 = (leB (h.length : Nat) 4 ++ h.flatMap fun n => leB n 4) ++ r7) (a8 : r7 = leB (o.length : Nat) 4 ++ o.flatMap opngB ++ r8) : s = textB ⟨k, f, y, c, p, v, h, o⟩ ++ r8 := by
  subst a8 a7 a6 a5 a4 a3 a2 a1
  simp only [textB, T8, T7, T6, T5, T4, T3, T2, T1, T0, List.append_assoc]
theorem word_fwd {s : RX} (h1 : (h5 s).2.1 = 0) (h2 : (h5 s).2.2 = false) : s.2.1 = 0 ∧ s.1 = textB (wordX s) ++ (h5 s).1 := by
  obtain ⟨a1, a2, a3⟩ := list_fwd opng_fwd (h4 s) h1 h2
  obtain ⟨b1, b2, b3⟩ := list_fwd small_fwd (h3 s) a1 a2
  obtain ⟨c1, c2, c3⟩ := list_fwd cell_fwd (Wrd.h2 s) b1 b2
  obtain ⟨d1, d2, d3⟩ := list_fwd parc_fwd (Wrd.h1 s) c1 c2
  obtain ⟨e1, e2, e3⟩ := list_fwd card_fwd (h0 s) d1 d2
  obtain ⟨f1, f2, f3⟩ := small_fwd _ e1 e2
  obtain ⟨g1, g2, g3⟩ := small_fwd _ f1 f2
  obtain ⟨k1, k2, k3⟩ := small_fwd _ g1 g2
  refine ⟨k1, ?_⟩
  exact word_join k3 g3 f3 e3 d3 c3 b3 a3
end Go.Proofs.Ytidelnccggfmgaa.Wrd

/- Package words: sealed words; a fixed fact. -/
namespace Go.Proofs.Ytidelnccggfmgaa.Wrd
open Go.V Go.Num
open Go.Eng (wr)
open Go.Proofs.Ytidelnccggfmgaa.Let
set_option maxRecDepth 100000
set_option maxHeartbeats 4000000
theorem open_seal {t : List UInt8} (h : t.length ≤ 65536) : openB (sealB t) = (t, 0) := by
  have hl := sealB_len t
  have e1 : (sealB t).take ((sealB t).length - 4) = t := by
    rw [hl, Nat.add_sub_cancel]; unfold sealB; exact List.take_left
  have e2 : (sealB t).drop ((sealB t).length - 4) = leB (crc t : Nat) 4 := by
    rw [hl, Nat.add_sub_cancel]; unfold sealB; exact List.drop_left
  unfold openB
  rw [if_neg (by omega), if_neg (by omega), e1, e2, numB_crc, if_neg (by simp)]
theorem seal_open {bs : List UInt8} (h : (openB bs).2 = 0) : bs = sealB (openB bs).1 := by
  unfold openB at h ⊢
  by_cases h1 : bs.length < 4
  · rw [if_pos h1] at h; simp at h
  rw [if_neg h1] at h ⊢
  by_cases h2 : 65540 < bs.length
  · rw [if_pos h2] at h; simp at h
  rw [if_neg h2] at h ⊢
  by_cases h3 : crc (bs.take (bs.length - 4)) ≠ numB (bs.drop (bs.length - 4))
  · rw [if_pos h3] at h; simp at h
  rw [if_neg h3]
  have h3' := Decidable.of_not_not h3
  show bs = bs.take (bs.length - 4) ++ leB (crc (bs.take (bs.length - 4)) : Nat) 4
  rw [h3', leB_numB (by rw [List.length_drop]; omega), List.take_append_drop]
theorem seal_inj {a b : List UInt8} (ha : a.length ≤ 65536) (hb : b.length ≤ 65536) (h : sealB a = sealB b) : a = b := by
  have h1 := open_seal ha
  rw [h, open_seal hb] at h1
  exact (congrArg Prod.fst h1).symm
theorem great_rng (s : RX) : 0 ≤ (greatX s).1 ∧ (greatX s).1 < 18446744073709551616 := by
  have : numB (takeB s.1 s.2.1 8).1 ≤ 18446744073709551615 := numB_le _ (Let.take_len _ _ _)
  show (0 : Int) ≤ ((numB (takeB s.1 s.2.1 8).1 : Nat) : Int) ∧ ((numB (takeB s.1 s.2.1 8).1 : Nat) : Int) < 18446744073709551616
  omega
theorem rep_all {α : Type} {one : RX → α × RX} {P : α → Prop} (h : ∀ s, P (one s).1) (s : RX) : ∀ k, ∀ x ∈ (repR one k s).1, P x
  | 0, x, hx => by cases hx
  | k + 1, x, hx => by
    have hx' : x ∈ (repR one k s).1 ++ [(one (repR one k s).2).1] := hx
    rcases List.mem_append.1 hx' with hx | hx
    · exact rep_all h s k x hx
    · rw [List.mem_singleton.1 hx]; exact h _
theorem list_all {α : Type} {one : RX → α × RX} {P : α → Prop} (h : ∀ s, P (one s).1) (s : RX) : ∀ x ∈ (listR one s).1, P x := rep_all h _ _
theorem list_len {α : Type} (one : RX → α × RX) (s : RX) : (listR one s).1.length ≤ 257 := by
  show ((repR one (min (smallX s).1 257).toNat (smallX s).2).1).length ≤ 257
  rw [rep_len]; omega
set_option maxHeartbeats 200000
theorem typ_v (s : RX) : ∀ n ∈ (listR cellX s).1, 0 ≤ n ∧ n ≤ 4294967295 := list_all (one := cellX) (P := fun n => 0 ≤ n ∧ n ≤ 4294967295) (fun s => by
    have := small_rng s
    have e : (cellX s).1 = (smallX s).1 := by show wr .u32 (smallX s).1 = _; simp only [wr]; omega
    rw [e]; omega) s
theorem typ_c1 (s : RX) : (0 ≤ (cardX s).1.2.1 ∧ (cardX s).1.2.1 < 18446744073709551616) ∧ (0 ≤ (cardX s).1.2.2 ∧ (cardX s).1.2.2 < 18446744073709551616) := by
  unfold cardX
  exact ⟨great_rng (smallX s).2, great_rng (greatX (smallX s).2).2⟩
theorem typ_c (s : RX) : ∀ x ∈ (listR cardX s).1, (0 ≤ x.2.1 ∧ x.2.1 < 18446744073709551616) ∧ (0 ≤ x.2.2 ∧ x.2.2 < 18446744073709551616) := list_all (one := cardX) (P := fun x => (0 ≤ x.2.1 ∧ x.2.1 < 18446744073709551616) ∧ (0 ≤ x.2.2 ∧ x.2.2 < 18446744073709551616)) typ_c1 s
theorem typ_g (s : RX) : ∀ n ∈ (listR greatX s).1, 0 ≤ n ∧ n < 18446744073709551616 := list_all (one := greatX) (P := fun n => 0 ≤ n ∧ n < 18446744073709551616) great_rng s
theorem typ_o1 (s : RX) : ∀ n ∈ (opngX s).1.2.2, 0 ≤ n ∧ n < 18446744073709551616 := by
  unfold opngX
  exact typ_g _
theorem typ_o (s : RX) : ∀ x ∈ (listR opngX s).1, ∀ n ∈ x.2.2, 0 ≤ n ∧ n < 18446744073709551616 := list_all (one := opngX) (P := fun x => ∀ n ∈ x.2.2, 0 ≤ n ∧ n < 18446744073709551616) typ_o1 s
theorem typ_mk {k f y : Int} {c : List Card} {p : List Parc} {v h : List Int} {o : List Opng} (a : ∀ n ∈ v, 0 ≤ n ∧ n ≤ 4294967295) (b : ∀ x ∈ c, (0 ≤ x.2.1 ∧ x.2.1 < 18446744073709551616) ∧ (0 ≤ x.2.2 ∧ x.2.2 < 18446744073709551616)) (d : ∀ x ∈ o, ∀ n ∈ x.2.2, 0 ≤ n ∧ n < 18446744073709551616) : Typ ⟨k, f, y, c, p, v, h, o⟩ := ⟨a, b, d⟩
theorem word_typ (s : RX) : Typ (wordX s) := typ_mk (typ_v (Wrd.h2 s)) (typ_c (h0 s)) (typ_o (h4 s))
set_option maxHeartbeats 4000000
theorem sOf_seal {t : List UInt8} (h : t.length ≤ 65536) : sOf (sealB t) = (t, 0, false) := by
  unfold sOf; rw [open_seal h]
theorem decG_seal {w : Wd} (h : goodB w = true) (Y : Typ w) : decG (sealB (textB w)) = true ∧ wordX (sOf (sealB (textB w))) = w := by
  have F := fine h
  have hl := (T_len F).2.2.2.2.2.2.2.2.2
  obtain ⟨h1, h2⟩ := word_back F Y
  unfold decG
  rw [sOf_seal (by omega), h1, h2, h]
  exact ⟨rfl, rfl⟩
/-- A word that was read. -/
theorem decG_word {bs : List UInt8} (h : decG bs = true) : goodB (wordX (sOf bs)) = true ∧ bs = sealB (textB (wordX (sOf bs))) := by
  unfold decG at h
  simp only [Bool.and_eq_true, decide_eq_true_eq, Bool.not_eq_true'] at h
  obtain ⟨h1, h2, h3⟩ := h
  refine ⟨h3, ?_⟩
  have h4 : (h5 (sOf bs)).2.1 = 0 ∧ (h5 (sOf bs)).1 = [] := by
    unfold endB at h1
    by_cases e : (h5 (sOf bs)).2.1 = 0 ∧ 0 < (h5 (sOf bs)).1.length
    · rw [if_pos e] at h1; exact absurd h1 (by decide)
    · rw [if_neg e] at h1
      exact ⟨h1, List.length_eq_zero_iff.1 (by omega)⟩
  obtain ⟨h6, h7⟩ := word_fwd h4.1 h2
  rw [h4.2, List.append_nil] at h7
  have h8 := seal_open (bs := bs) h6
  have h9 : (openB bs).1 = textB (wordX (sOf bs)) := h7
  rw [h9] at h8
  exact h8
theorem flatB (b : List UInt8) : ∀ x ∈ bytesD b, FlatD x := fun x hx => by obtain ⟨z, _, rfl⟩ := List.mem_map.1 hx; trivial
theorem Decode_good (bs : List UInt8) (w : Wd) (h : decG bs = true) (hw : wordX (sOf bs) = w) : Ct Try.prog 25 [B8 bs] [] (Is2 (.tup [wdV w, i64 0]) []) := by
  have := Decode_ct bs
  rw [h, hw] at this; exact this
theorem Decode_bad (bs : List UInt8) (h : decG bs = false) : Ct Try.prog 25 [B8 bs] [] (Is2 (.tup [wd0, i64 2]) []) := by
  have := Decode_ct bs
  rw [h] at this; exact this
def w0 : Wd := ⟨6, 0, 0, [], [], [], [2, 5], []⟩
theorem w0_good : goodB w0 = true := by decide +kernel
theorem w0_typ : Typ w0 := ⟨(fun n hn => by cases hn), (fun n hn => by cases hn), (fun n hn => by cases hn)⟩
abbrev nlW (k f y : Int) (h : D) : AV := .d (.agg [.int .i64 k, .int .i64 f, .int .i64 y, .nils, .nils, .nils, h, .nils])
theorem sameB_self (w : Wd) : sameB w w = true := by unfold sameB; simp
theorem awake_ct : Ct Try.prog 20 [] [] (Is2 (.d (.bool true)) []) := by
  refine Ct.introF (E := E 54 0 [.tmp 0] [] [] []) tab_ok Try.call20 Try.func20 rfl rfl rfl rfl rfl (fun hin => ?_)
  obtain ⟨T, hT⟩ : ∃ T, T = sealB (textB w0) := ⟨_, rfl⟩
  have cE : Ct Try.prog 24 [nlW 6 0 0 (.ro [.int .i64 2, .int .i64 5])] [] (Is2 (.tup [.sl 0, i64 0]) [.row 5 1 (bytesD T)]) := by
    have h := Encode_ok w0 w0_good (fine w0_good) w0_typ.v
    rw [← hT] at h
    exact Ct.nlD h
  have cD : Ct Try.prog 25 [B8 T] [] (Is2 (.tup [wdV w0, i64 0]) []) := by
    obtain ⟨h1, h2⟩ := decG_seal w0_good w0_typ
    rw [← hT] at h1 h2
    exact Decode_good T w0 h1 h2
  have cG : Ct Try.prog 22 [nlW 6 0 0 (.ro [.int .i64 2, .int .i64 2])] [] (Is2 (.d (.bool false)) []) := by
    have h := Good_ct ⟨6, 0, 0, [], [], [], [2, 2], []⟩
    rw [show goodB ⟨6, 0, 0, [], [], [], [2, 2], []⟩ = false by decide +kernel] at h
    exact Ct.nlD h
  have cH : Ct Try.prog 22 [nlW 8 1 12 .nils] [] (Is2 (.d (.bool true)) []) := by
    have h := Good_ct ⟨8, 1, 12, [], [], [], [], []⟩
    rw [show goodB ⟨8, 1, 12, [], [], [], [], []⟩ = true by decide +kernel] at h
    exact Ct.nlD h
  (conv => whnf); refine (cE).use ?_
  (conv => whnf); refine And.intro ⟨⟨trivial, trivial, trivial⟩, flatB T, trivial⟩ ?_
  (conv => whnf); refine (cD).use ?_
  (conv => whnf); refine And.intro ⟨by decide, by decide⟩ ?_
  (conv => whnf); refine Idx.mk _ rfl ?_
  (conv => whnf); refine And.intro (by decide) (Idx.mk _ rfl ?_)
  (conv => whnf); refine Idx.mk _ rfl ?_
  (conv => whnf); refine (cG).use ?_
  (conv => whnf); refine And.intro ⟨trivial, trivial⟩ ?_
  (conv => whnf); refine (cH).use ?_
  (conv => whnf); refine And.intro ⟨trivial, trivial⟩ ?_
  (conv => whnf); refine (Same_ct w0 w0).use ?_
  (conv => whnf); refine And.intro ⟨trivial, trivial⟩ ?_
  exact Is2.mk (by rw [sameB_self])
end Go.Proofs.Ytidelnccggfmgaa.Wrd

/- Package words: the laws' functions. -/
namespace Go.Proofs.Ytidelnccggfmgaa.Wrd
open Go.V Go.Num
open Go.Eng (wr)
open Go.Proofs.Ytidelnccggfmgaa.Let
set_option maxRecDepth 100000
set_option maxHeartbeats 4000000
def largeB (w : Wd) : Bool := decide (2000 < w.c.length) || (decide (2000 < w.p.length) || (decide (2000 < w.v.length) || (decide (2000 < w.h.length) || decide (2000 < w.o.length))))
theorem large_no {w : Wd} (h : largeB w = false) : w.c.length ≤ 2000 ∧ w.p.length ≤ 2000 ∧ w.v.length ≤ 2000 ∧ w.h.length ≤ 2000 ∧ w.o.length ≤ 2000 := by
  unfold largeB at h
  simp only [Bool.or_eq_false_iff, decide_eq_false_iff_not] at h
  omega
theorem large_ct (w : Wd) : Ct Try.prog 21 [wdV w] [] (Is2 (.d (.bool (largeB w))) []) := by
  refine Ct.introF (E := E 31 0 [.tmp 2] [] [] []) tab_ok Try.call21 Try.func21 rfl rfl rfl rfl rfl (fun hin => ?_)
  obtain ⟨r, hr⟩ : ∃ r, r = largeB w := ⟨_, rfl⟩
  rw [← hr]
  unfold largeB at hr
  have dc : (w.c.map cardD).length = w.c.length := List.length_map _
  have dp : (w.p.map parcD).length = w.p.length := List.length_map _
  have dv : (w.v.map (D.int .u32)).length = w.v.length := List.length_map _
  have dh : (w.h.map (D.int .i64)).length = w.h.length := List.length_map _
  have dO : (w.o.map opngD).length = w.o.length := List.length_map _
  (conv => whnf); refine cond_d (fun h1 => ?_) (fun h1 => ?_)
  · rw [decide_eq_true (p := 2000 < w.c.length) (by omega)] at hr
    exact Is2.mk (by rw [hr]; rfl)
  rw [decide_eq_false (p := 2000 < w.c.length) (by omega), Bool.false_or] at hr
  (conv => whnf); refine cond_d (fun h2 => ?_) (fun h2 => ?_)
  · rw [decide_eq_true (p := 2000 < w.p.length) (by omega)] at hr
    exact Is2.mk (by rw [hr]; rfl)
  rw [decide_eq_false (p := 2000 < w.p.length) (by omega), Bool.false_or] at hr
  (conv => whnf); refine cond_d (fun h3 => ?_) (fun h3 => ?_)
  · rw [decide_eq_true (p := 2000 < w.v.length) (by omega)] at hr
    exact Is2.mk (by rw [hr]; rfl)
  rw [decide_eq_false (p := 2000 < w.v.length) (by omega), Bool.false_or] at hr
  (conv => whnf); refine cond_d (fun h4 => ?_) (fun h4 => ?_)
  · rw [decide_eq_true (p := 2000 < w.h.length) (by omega)] at hr
    exact Is2.mk (by rw [hr]; rfl)
  rw [decide_eq_false (p := 2000 < w.h.length) (by omega), Bool.false_or] at hr
  exact Is2.mk (by rw [hr, decide_eq_decide.2 (show 2000 < w.o.length ↔ (2000 : Int) < ((w.o.map opngD).length : Nat) by omega)])
theorem WordsGood_ct (w : Wd) : Ct Try.prog 7 [wdV w] [] (Is2 (.d (.bool true)) []) := by
  refine Ct.introF (E := E 15 0 [.tmp 2] [] [] []) tab_ok Try.call7 Try.func7 rfl rfl rfl rfl rfl (fun hin => ?_)
  (conv => whnf); refine DrawI.mkF 11 [[], [3], [1, 4], [4, 5], [4, 6], [1, 7], [7, 8], [1, 7], [7, 10], [7, 9, 11], [4, 7, 12]] (by decide +kernel) ?_
  refine DrawO.mkF _ ((awake_ct).use (And.intro rfl rfl)) ?_
  repeat (first | refine DrawO.mkF _ (And.intro rfl rfl) ?_ | refine DrawO.mkF _ (Idx.mk _ rfl (And.intro rfl rfl)) ?_)
  refine DrawO.mkF _ ((large_ct w).use (And.intro rfl rfl)) ?_
  repeat (first | refine DrawO.mkF _ (And.intro rfl rfl) ?_ | refine DrawO.mkF _ (Idx.mk _ rfl (And.intro rfl rfl)) ?_)
  (conv => whnf); refine cond_i (fun h1 => ?_) (fun h1 => ?_)
  · repeat (first | refine DrawO.mkF _ (And.intro rfl rfl) ?_ | refine DrawO.mkF _ (Idx.mk _ rfl (And.intro rfl rfl)) ?_)
    exact Is2.mk rfl
  obtain ⟨l1, l2, l3, l4, l5⟩ := large_no h1
  repeat (first | refine DrawO.mkF _ (And.intro rfl rfl) ?_ | refine DrawO.mkF _ (Idx.mk _ rfl (And.intro rfl rfl)) ?_)
  refine DrawO.mkF _ ((Good_ct w).use (And.intro ⟨trivial, trivial⟩ (And.intro rfl rfl))) ?_
  repeat (first | refine DrawO.mkF _ (And.intro rfl rfl) ?_ | refine DrawO.mkF _ (Idx.mk _ rfl (And.intro rfl rfl)) ?_)
  refine DrawO.mkF _ ((rGood_ct w l1 l2 l3 l4 l5).use (And.intro ⟨trivial, trivial⟩ (And.intro rfl rfl))) ?_
  repeat (first | refine DrawO.mkF _ (And.intro rfl rfl) ?_ | refine DrawO.mkF _ (Idx.mk _ rfl (And.intro rfl rfl)) ?_)
  exact Is2.mk (by rw [good_rg]; simp)
theorem WordsWrites_ct (w : Wd) (Y : Typ w) : Ct Try.prog 8 [wdV w] [] (Is2 (.d (.bool true)) []) := by
  refine Ct.introF (E := E 60 0 [.tmp 2] [] [] []) tab_ok Try.call8 Try.func8 rfl rfl rfl rfl rfl (fun hin => ?_)
  (conv => whnf); refine (large_ct w).use ?_
  (conv => whnf); refine cond_i (fun h1 => ?_) (fun h1 => ?_)
  · (conv => whnf); refine (awake_ct).use ?_
    exact Is2.mk rfl
  obtain ⟨l1, l2, l3, l4, l5⟩ := large_no h1
  have hG := rGood_ct w l1 l2 l3 l4 l5
  rw [← good_rg] at hG
  cases hg : goodB w with
  | false =>
    rw [hg] at hG
    (conv => whnf); refine (Encode_bad w hg).use ?_
    (conv => whnf); refine And.intro ⟨⟨trivial, trivial, trivial⟩, trivial⟩ ?_
    (conv => whnf); refine (hG).use ?_
    (conv => whnf); refine And.intro ⟨trivial, trivial⟩ ?_
    (conv => whnf); refine (awake_ct).use ?_
    exact Is2.mk rfl
  | true =>
    rw [hg] at hG
    have F := fine hg
    obtain ⟨T, hT⟩ : ∃ T, T = sealB (textB w) := ⟨_, rfl⟩
    have cE := Encode_ok w hg F Y.v
    obtain ⟨d1, d2⟩ := decG_seal hg Y
    rw [← hT] at cE d1 d2
    have hl := (T_len F).2.2.2.2.2.2.2.2.2
    (conv => whnf); refine (cE).use ?_
    (conv => whnf); refine And.intro ⟨⟨trivial, trivial, trivial⟩, flatB T, trivial⟩ ?_
    (conv => whnf); refine (hG).use ?_
    (conv => whnf); refine And.intro ⟨trivial, trivial⟩ ?_
    (conv => whnf); refine (Decode_good T w d1 d2).use ?_
    (conv => whnf); refine DrawI.mkF 26 [[], [33], [4, 34], [34, 35], [34, 36], [37], [3, 38], [38, 39], [1, 38], [38, 41], [38, 42], [38, 40, 43], [38, 44], [45], [6, 46], [46, 47], [46, 48], [49], [5, 50], [1, 50], [50, 51, 52], [50, 53], [54], [5, 55], [1, 55], [55, 56, 57]] (by decide +kernel) ?_
    refine DrawO.mkF _ ((awake_ct).use (And.intro rfl rfl)) ?_
    repeat (first | refine DrawO.mkF _ (And.intro rfl rfl) ?_ | refine DrawO.mkF _ (Idx.mk _ rfl (And.intro rfl rfl)) ?_)
    refine DrawO.mkF (sT T) ⟨T, rfl, And.intro rfl rfl⟩ ?_
    repeat (first | refine DrawO.mkF _ (And.intro rfl rfl) ?_ | refine DrawO.mkF _ (Idx.mk _ rfl (And.intro rfl rfl)) ?_)
    refine DrawO.mkF _ ((rText_ct w F Y).use (And.intro ⟨trivial, trivial⟩ (And.intro rfl rfl))) ?_
    have cS := rSealed_ct (textB w) (by omega)
    rw [← hT] at cS
    refine DrawO.mkF _ ((cS).use (And.intro rfl rfl)) ?_
    refine DrawO.mkF (.d (.bool true)) (And.intro (by simp) rfl) ?_
    repeat (first | refine DrawO.mkF _ (And.intro rfl rfl) ?_ | refine DrawO.mkF _ (Idx.mk _ rfl (And.intro rfl rfl)) ?_)
    have hS := rSame_ct w w
    have hS2 := Same_ct w w
    rw [sameB_self] at hS hS2
    refine DrawO.mkF _ ((hS).use (And.intro ⟨trivial, trivial⟩ (And.intro rfl rfl))) ?_
    repeat (first | refine DrawO.mkF _ (And.intro rfl rfl) ?_ | refine DrawO.mkF _ (Idx.mk _ rfl (And.intro rfl rfl)) ?_)
    refine DrawO.mkF _ ((hS2).use (And.intro ⟨trivial, trivial⟩ (And.intro rfl rfl))) ?_
    repeat (first | refine DrawO.mkF _ (And.intro rfl rfl) ?_ | refine DrawO.mkF _ (Idx.mk _ rfl (And.intro rfl rfl)) ?_)
    exact Is2.mk rfl
abbrev W0 : Wd := ⟨0, 0, 0, [], [], [], [], []⟩
theorem same0 : Ct Try.prog 28 [wd0, wd0] [] (Is2 (.d (.bool true)) []) := by
  have h := rSame_ct W0 W0
  rw [sameB_self] at h
  exact Ct.nlD h
theorem WordsReads_ct (b : List UInt8) : Ct Try.prog 9 [B8 b] [] (Is2 (.d (.bool true)) []) := by
  refine Ct.introF (E := E 35 0 [.tmp 2] [] [] []) tab_ok Try.call9 Try.func9 rfl rfl rfl rfl rfl (fun hin => ?_)
  cases hd : decG b with
  | false =>
    (conv => whnf); refine (Decode_bad b hd).use ?_
    (conv => whnf); refine (awake_ct).use ?_
    (conv => whnf); refine (same0).use ?_
    (conv => whnf); refine And.intro ⟨trivial, trivial⟩ ?_
    exact Is2.mk rfl
  | true =>
    obtain ⟨h1, h2⟩ := decG_word hd
    have Y := word_typ (sOf b)
    have hcl : (wordX (sOf b)).c.length ≤ 2000 := Nat.le_trans (list_len cardX (h0 (sOf b))) (by decide)
    obtain ⟨w, hw⟩ : ∃ w, w = wordX (sOf b) := ⟨_, rfl⟩
    rw [← hw] at h1 h2 Y
    have F := fine h1
    have fcl := F.cl; have fpl := F.pl; have fvl := F.vl; have fhl := F.hl; have fol := F.ol
    have hG := rGood_ct w (by omega) (by omega) (by omega) (by omega) (by omega)
    rw [← good_rg, h1] at hG
    have hl := (T_len F).2.2.2.2.2.2.2.2.2
    have cS := rSealed_ct (textB w) (by omega)
    rw [← h2] at cS
    (conv => whnf); refine (Decode_good b w hd hw.symm).use ?_
    (conv => whnf); refine DrawI.mkF 12 [[], [22], [3, 23], [23, 24], [23, 25], [26], [3, 27], [27, 28], [27, 29], [0, 27], [27, 31], [27, 30, 32]] (by decide +kernel) ?_
    refine DrawO.mkF _ ((awake_ct).use (And.intro rfl rfl)) ?_
    repeat (first | refine DrawO.mkF _ (And.intro rfl rfl) ?_ | refine DrawO.mkF _ (Idx.mk _ rfl (And.intro rfl rfl)) ?_)
    refine DrawO.mkF _ ((hG).use (And.intro ⟨trivial, trivial⟩ (And.intro rfl rfl))) ?_
    repeat (first | refine DrawO.mkF _ (And.intro rfl rfl) ?_ | refine DrawO.mkF _ (Idx.mk _ rfl (And.intro rfl rfl)) ?_)
    refine DrawO.mkF _ ((rText_ct w F Y).use (And.intro ⟨trivial, trivial⟩ (And.intro rfl rfl))) ?_
    refine DrawO.mkF _ ((cS).use (And.intro rfl rfl)) ?_
    repeat (first | refine DrawO.mkF _ (And.intro rfl rfl) ?_ | refine DrawO.mkF _ (Idx.mk _ rfl (And.intro rfl rfl)) ?_)
    refine DrawO.mkF (sT b) ⟨b, rfl, And.intro rfl rfl⟩ ?_
    refine DrawO.mkF (.d (.bool true)) (And.intro (by simp) rfl) ?_
    exact Is2.mk rfl
theorem decG_bent {bs : List UInt8} (h : openB bs = ([], 2)) : decG bs = false := by
  cases e : decG bs with
  | false => rfl
  | true =>
    have h2 := (decG_word e).2
    have F := fine (decG_word e).1
    have hl := (T_len F).2.2.2.2.2.2.2.2.2
    rw [h2, open_seal (by omega)] at h
    have := congrArg Prod.snd h
    simp at this
theorem WordsBent_ct (w : Wd) (bit : Int) (Y : Typ w) (hb : 0 ≤ bit ∧ bit ≤ 65535) : Ct Try.prog 10 [wdV w, .d (.int .u16 bit)] [] (Is2 (.d (.bool true)) []) := by
  refine Ct.introF (E := E 51 0 [.tmp 4] [] [] []) tab_ok Try.call10 Try.func10 rfl rfl rfl rfl rfl (fun hin => ?_)
  cases hg : goodB w with
  | false =>
    (conv => whnf); refine (Encode_bad w hg).use ?_
    (conv => whnf); refine And.intro ⟨⟨trivial, trivial, trivial⟩, trivial⟩ ?_
    (conv => whnf); refine (awake_ct).use ?_
    (conv => whnf); refine (awake_ct).use ?_
    exact Is2.mk rfl
  | true =>
    have F := fine hg
    obtain ⟨T, hT⟩ : ∃ T, T = sealB (textB w) := ⟨_, rfl⟩
    have cE := Encode_ok w hg F Y.v
    rw [← hT] at cE
    have hl := (T_len F).2.2.2.2.2.2.2.2.2
    have hTl : T.length = (textB w).length + 4 := by rw [hT, sealB_len]
    have dT := bD_len T
    (conv => whnf); refine (cE).use ?_
    (conv => whnf); refine And.intro ⟨⟨trivial, trivial, trivial⟩, flatB T, trivial⟩ ?_
    (conv => whnf); refine (awake_ct).use ?_
    obtain ⟨m, hm⟩ : ∃ m : Nat, bit % (8 * ((bytesD T).length : Nat)) = m := ⟨(bit % (8 * ((bytesD T).length : Nat))).toNat, by rw [Int.toNat_of_nonneg (Int.emod_nonneg _ (by omega))]⟩
    have hmT : m < 8 * T.length := by
      have := Int.emod_lt_of_pos bit (show 0 < 8 * (((bytesD T).length : Nat) : Int) by omega)
      omega
    (conv => whnf); refine And.intro ⟨by omega, by omega⟩ ?_
    (conv => whnf); refine And.intro ⟨by omega, by omega⟩ ?_
    rw [hm]
    (conv => whnf); refine And.intro ⟨by omega, by omega⟩ ?_
    (conv => whnf); refine And.intro ⟨by omega, by omega⟩ ?_
    have hq : (m : Int) / 8 = ((m / 8 : Nat) : Int) := by omega
    have hr : (m : Int) % 8 = ((m % 8 : Nat) : Int) := by omega
    obtain ⟨x, hx⟩ := get_some (l := T) (i := m / 8) (by omega)
    rw [hq]
    (conv => whnf); refine Idx.mk _ (bD_get hx) ?_
    (conv => whnf); refine Idx.mk _ rfl ?_
    (conv => whnf); refine And.intro ⟨by omega, by omega⟩ ?_
    (conv => whnf); refine And.intro ⟨by omega, by omega⟩ ?_
    (conv => whnf); refine Idx.mk _ (bD_get hx) ?_
    have hw64 : wr .u64 ((m : Int) % 8) = ((m % 8 : Nat) : Int) := by rw [hr]; simp only [wr]; omega
    have hfl : ((((x.toNat : Int).toNat ^^^ (wr .u8 ((1 : Int) * 2 ^ (min (wr .u64 ((m : Int) % 8)).toNat IntKind.u8.bits))).toNat : Nat)) : Int) = ((flip x (m % 8)).toNat : Int) := by
      rw [hw64]; exact flip_val (Nat.mod_lt _ (by decide))
    have hset : (bytesD T).set (((m / 8 : Nat) : Int)).toNat (D.int .u8 ((((x.toNat : Int).toNat ^^^ (wr .u8 ((1 : Int) * 2 ^ (min (wr .u64 ((m : Int) % 8)).toNat IntKind.u8.bits))).toNat : Nat)) : Int)) = bytesD (T.set (m / 8) (flip x (m % 8))) := by
      rw [hfl, Int.toNat_natCast]; exact List.map_set.symm
    have hop : openB (T.set (m / 8) (flip x (m % 8))) = ([], 2) := by
      rw [hT]
      refine open_bent (by omega) (by omega) ?_
      rw [← hT, hx]
      exact fun e => flip_ne (Nat.mod_lt _ (by decide)) (Option.some.inj e)
    have cD := Decode_bad _ (decG_bent hop)
    unfold B8 at cD
    rw [← hset] at cD
    (conv => whnf); refine (cD).use ?_
    (conv => whnf); refine (same0).use ?_
    (conv => whnf); refine And.intro ⟨trivial, trivial⟩ ?_
    exact Is2.mk rfl
theorem text_inj {v w : Wd} (hv : goodB v = true) (hw : goodB w = true) (Yv : Typ v) (Yw : Typ w) (h : sealB (textB v) = sealB (textB w)) : v = w := by
  have h1 := (decG_seal hv Yv).2
  rw [h, (decG_seal hw Yw).2] at h1
  exact h1.symm
theorem sameB_iff {v w : Wd} : sameB v w = true ↔ v = w := by
  obtain ⟨k, f, y, c, p, u, h, o⟩ := v
  obtain ⟨k', f', y', c', p', u', h', o'⟩ := w
  simp only [sameB, Bool.and_eq_true, decide_eq_true_eq, Wd.mk.injEq]
  constructor
  · rintro ⟨h1, h2, h3, h4, h5, h6, h7, h8⟩; exact ⟨h1, h2, h3, h4, h7, h5, h6, h8⟩
  · rintro ⟨h1, h2, h3, h4, h7, h5, h6, h8⟩; exact ⟨h1, h2, h3, h4, h5, h6, h7, h8⟩
theorem WordsSame_ct (v w : Wd) (Yv : Typ v) (Yw : Typ w) : Ct Try.prog 11 [wdV v, wdV w] [] (Is2 (.d (.bool true)) []) := by
  refine Ct.introF (E := E 55 0 [.tmp 4] [] [] []) tab_ok Try.call11 Try.func11 rfl rfl rfl rfl rfl (fun hin => ?_)
  (conv => whnf); refine (large_ct v).use ?_
  (conv => whnf); refine cond_i (fun h1 => ?_) (fun h1 => ?_)
  · (conv => whnf); refine (awake_ct).use ?_
    exact Is2.mk rfl
  (conv => whnf); refine (large_ct w).use ?_
  (conv => whnf); refine cond_i (fun h2 => ?_) (fun h2 => ?_)
  · (conv => whnf); refine (awake_ct).use ?_
    exact Is2.mk rfl
  obtain ⟨s, hs⟩ : ∃ s, s = sameB v w := ⟨_, rfl⟩
  have hS := rSame_ct v w
  have hS2 := Same_ct v w
  rw [← hs] at hS hS2
  (conv => whnf); refine (hS).use ?_
  (conv => whnf); refine And.intro ⟨trivial, trivial⟩ ?_
  cases hgv : goodB v with
  | false =>
    (conv => whnf); refine (Encode_bad v hgv).use ?_
    (conv => whnf); refine And.intro ⟨⟨trivial, trivial, trivial⟩, trivial⟩ ?_
    cases hgw : goodB w with
    | false =>
      (conv => whnf); refine (Encode_bad w hgw).use ?_
      (conv => whnf); refine And.intro ⟨⟨trivial, trivial, trivial⟩, trivial⟩ ?_
      (conv => whnf); refine (awake_ct).use ?_
      (conv => whnf); refine (hS2).use ?_
      (conv => whnf); refine And.intro ⟨trivial, trivial⟩ ?_
      (conv => whnf); refine cond_i (fun h3 => ?_) (fun h3 => ?_)
      · exact Is2.mk rfl
      · simp at h3
    | true =>
      have cEw := Encode_ok w hgw (fine hgw) Yw.v
      obtain ⟨Tw, hTw⟩ : ∃ T, T = sealB (textB w) := ⟨_, rfl⟩
      rw [← hTw] at cEw
      (conv => whnf); refine (cEw).use ?_
      (conv => whnf); refine And.intro ⟨⟨trivial, trivial, trivial⟩, flatB Tw, trivial⟩ ?_
      (conv => whnf); refine (awake_ct).use ?_
      (conv => whnf); refine (hS2).use ?_
      (conv => whnf); refine And.intro ⟨trivial, trivial⟩ ?_
      (conv => whnf); refine cond_i (fun h3 => ?_) (fun h3 => ?_)
      · exact Is2.mk rfl
      · simp at h3
  | true =>
    have cEv := Encode_ok v hgv (fine hgv) Yv.v
    obtain ⟨Tv, hTv⟩ : ∃ T, T = sealB (textB v) := ⟨_, rfl⟩
    rw [← hTv] at cEv
    (conv => whnf); refine (cEv).use ?_
    (conv => whnf); refine And.intro ⟨⟨trivial, trivial, trivial⟩, flatB Tv, trivial⟩ ?_
    cases hgw : goodB w with
    | false =>
      (conv => whnf); refine (Encode_bad w hgw).use ?_
      (conv => whnf); refine And.intro ⟨⟨trivial, trivial, trivial⟩, trivial⟩ ?_
      (conv => whnf); refine (awake_ct).use ?_
      (conv => whnf); refine (hS2).use ?_
      (conv => whnf); refine And.intro ⟨trivial, trivial⟩ ?_
      (conv => whnf); refine cond_i (fun h3 => ?_) (fun h3 => ?_)
      · exact Is2.mk rfl
      · simp at h3
    | true =>
      have cEw := Encode_ok w hgw (fine hgw) Yw.v
      obtain ⟨Tw, hTw⟩ : ∃ T, T = sealB (textB w) := ⟨_, rfl⟩
      rw [← hTw] at cEw
      (conv => whnf); refine (cEw).use ?_
      (conv => whnf); refine And.intro ⟨⟨trivial, trivial, trivial⟩, flatB Tw, trivial⟩ ?_
      (conv => whnf); refine (awake_ct).use ?_
      (conv => whnf); refine (hS2).use ?_
      (conv => whnf); refine And.intro ⟨trivial, trivial⟩ ?_
      (conv => whnf); refine cond_i (fun h3 => ?_) (fun h3 => ?_)
      · (conv => whnf)
        refine ⟨Tv, rfl, ?_⟩
        (conv => whnf)
        refine ⟨Tw, rfl, ?_⟩
        have e : (decide (Tv = Tw) == s) = true := by
          have : decide (Tv = Tw) = s := by
            rw [hs, Bool.eq_iff_iff, sameB_iff, decide_eq_true_eq, hTv, hTw]
            exact ⟨fun h => text_inj hgv hgw Yv Yw h, fun h => by rw [h]⟩
          rw [this]; simp
        exact Is2.mk (by rw [e])
      · simp at h3
end Go.Proofs.Ytidelnccggfmgaa.Wrd

/- Package words: words as they are given to a law. -/
namespace Go.Proofs.Ytidelnccggfmgaa.Wrd
open Go.V Go.Num
open Go.Eng (wr InR)
open Go.Proofs.Ytidelnccggfmgaa.Let
set_option maxRecDepth 100000
def toB (l : List Int) : List UInt8 := l.map fun n => UInt8.ofNat n.toNat
theorem toB_D {l : List Int} (h : ∀ x ∈ l, InR .u8 x) : l.map (D.int .u8) = bytesD (toB l) := by
  unfold toB bytesD
  rw [List.map_map]
  refine List.map_congr_left (fun x hx => ?_)
  have h1 : 0 ≤ x ∧ x ≤ 255 := h x hx
  show D.int .u8 x = D.int .u8 (((UInt8.ofNat x.toNat).toNat : Nat) : Int)
  rw [UInt8.toNat_ofNat_of_lt' (show x.toNat < 256 by omega)]
  congr 1; omega
abbrev Arg := Int × Int × Int × List (Int × Int × Int × Unit) × List (Int × Int × List Int × Unit) × List Int × List Int × List (Int × Bool × List Int × Unit) × Unit
def toWd (a : Arg) : Wd := ⟨a.1, a.2.1, a.2.2.1, a.2.2.2.1.map (fun x => (x.1, x.2.1, x.2.2.1)), a.2.2.2.2.1.map (fun x => (x.1, x.2.1, toB x.2.2.1)), a.2.2.2.2.2.1, a.2.2.2.2.2.2.1, a.2.2.2.2.2.2.2.1.map (fun x => (x.1, x.2.1, x.2.2.1))⟩
theorem toWd_rel {I : Go.Eng.Imm} {v : Value} (a : Arg) (hb : ∀ x ∈ a.2.2.2.2.1, ∀ n ∈ x.2.2.1, InR .u8 n)
    (h : RelD I v (.agg [.int .i64 a.1, .int .i64 a.2.1, .int .i64 a.2.2.1, .ro (a.2.2.2.1.map fun x => .agg [.int .i64 x.1, .int .u64 x.2.1, .int .u64 x.2.2.1]), .ro (a.2.2.2.2.1.map fun x => .agg [.int .i64 x.1, .int .i64 x.2.1, .ro (x.2.2.1.map (D.int .u8))]), .ro (a.2.2.2.2.2.1.map (D.int .u32)), .ro (a.2.2.2.2.2.2.1.map (D.int .i64)), .ro (a.2.2.2.2.2.2.2.1.map fun x => .agg [.int .i64 x.1, .bool x.2.1, .ro (x.2.2.1.map (D.int .u64))])])) :
    RelD I v (.agg (wdD (toWd a))) := by
  have e1 : (a.2.2.2.1.map fun x => D.agg [.int .i64 x.1, .int .u64 x.2.1, .int .u64 x.2.2.1]) = (toWd a).c.map cardD := by
    unfold toWd; rw [List.map_map]; rfl
  have e2 : (a.2.2.2.2.1.map fun x => D.agg [.int .i64 x.1, .int .i64 x.2.1, .ro (x.2.2.1.map (D.int .u8))]) = (toWd a).p.map parcD := by
    unfold toWd; rw [List.map_map]
    refine List.map_congr_left (fun x hx => ?_)
    show D.agg [_, _, .ro (x.2.2.1.map (D.int .u8))] = D.agg [_, _, .ro (bytesD (toB x.2.2.1))]
    rw [toB_D (hb x hx)]
  have e3 : (a.2.2.2.2.2.2.2.1.map fun x => D.agg [.int .i64 x.1, .bool x.2.1, .ro (x.2.2.1.map (D.int .u64))]) = (toWd a).o.map opngD := by
    unfold toWd; rw [List.map_map]; rfl
  rw [e1, e2, e3] at h
  exact h
theorem toWd_typ (a : Arg) (hv : ∀ n ∈ a.2.2.2.2.2.1, InR .u32 n) (hc : ∀ x ∈ a.2.2.2.1, InR .u64 x.2.1 ∧ InR .u64 x.2.2.1) (ho : ∀ x ∈ a.2.2.2.2.2.2.2.1, ∀ n ∈ x.2.2.1, InR .u64 n) : Typ (toWd a) := by
  refine ⟨fun n hn => hv n hn, fun x hx => ?_, fun x hx n hn => ?_⟩
  · obtain ⟨y, hy, rfl⟩ := List.mem_map.1 hx
    have h1 : 0 ≤ y.2.1 ∧ y.2.1 ≤ 18446744073709551615 := (hc y hy).1
    have h2 : 0 ≤ y.2.2.1 ∧ y.2.2.1 ≤ 18446744073709551615 := (hc y hy).2
    exact ⟨⟨h1.1, Int.lt_add_one_of_le h1.2⟩, h2.1, Int.lt_add_one_of_le h2.2⟩
  · obtain ⟨y, hy, rfl⟩ := List.mem_map.1 hx
    have h1 : 0 ≤ n ∧ n ≤ 18446744073709551615 := ho y hy n hn
    exact ⟨h1.1, Int.lt_add_one_of_le h1.2⟩
end Go.Proofs.Ytidelnccggfmgaa.Wrd
