/- Texts: a world in which the law's variables lie. -/
import Derived.Test.YtklfieidipobpaaDoorKTaleI
import Derived.Test.YtklfieidipobpaaDoorTie
import Derived.Lay
import Derived.LaidMore
import Derived.Deep.DeepLaidRun
import Derived.Test.YtklfieidipobpaaDoorKTaleH
set_option linter.unusedVariables false
set_option linter.unusedSimpArgs false
set_option linter.unnecessarySimpa false
set_option linter.unusedSectionVars false
set_option linter.all false
/- Texts: a world in which the law's variables lie. -/
namespace Go.Proofs.YtklfieidipobpaaDoor.Txt
open Go.V Go.RowKit
set_option maxRecDepth 100000
theorem laid_lines (os : Os) (args : Array Value) : laidMet Tryd.prog Rows.taleLinesRow.laid ((World.laidAll Tryd.prog os Rows.taleLinesRow.laid).forCall (fun _ _ => 0) ⟨#[], args, []⟩).memory :=
  laidMet_of_run3 8 (by kernel_rfl) (by kernel_rfl) (by kernel_rfl)
theorem str_bulk {I : Go.Eng.Imm} {H : Type} {b : ByteArray} {s : List UInt8} {d : DataW H} (h : RelD I (.string b) (.str s)) (hd : d = .lit (.string b.data.toList)) (hb : Rows.uptoBulkAll ([d] ++ []) ≤ 1048576) : s.length ≤ 2000000 := by
  cases h
  subst hd
  have e : (Go.Eng.strOf s).data.toList = s := Go.Eng.strOf_data s
  rw [e] at hb
  have e2 : Rows.uptoBulkAll ([DataW.lit (H := H) (.string s)] ++ []) = s.length + 1 := by simp [Rows.uptoBulkAll, Rows.uptoBulk]
  omega
theorem len_le {H : Type} : ∀ (l : List (DataW H)), l.length ≤ Rows.uptoBulkAll l
  | [] => Nat.zero_le _
  | x :: r => by
    have h1 : 1 ≤ Rows.uptoBulk x := by
      cases x with
      | lit y => cases y <;> simp [Rows.uptoBulk]
      | nil => simp [Rows.uptoBulk]
      | ptr d => simp [Rows.uptoBulk]
      | slice elems spare => simp [Rows.uptoBulk]
      | agg parts => simp [Rows.uptoBulk]
      | iface t d => simp [Rows.uptoBulk]
      | map entries => simp [Rows.uptoBulk]
      | held h => simp [Rows.uptoBulk]
    have h2 := len_le r
    simp only [Rows.uptoBulkAll, List.length_cons]; omega
theorem slice_bulk {P : Program} {I : Go.Eng.Imm} {H : Type} {enc : TypeId × Value → H} {W : World} {sp : Nat → Bool} {held : Bool} {t e : TypeId} {v : Value} {xs : List D} {d : DataW H} {ps : List MemPlace} (ht : P.underlying t = some (.slice e)) (hv : v.cells = #[v])
    (hd : DataW.Trod enc P W 0 sp held t v d ps) (h : RelD I v (.ro xs)) (hb : Rows.uptoBulkAll ([d] ++ []) ≤ 1048576) : xs.length ≤ 1048576 := by
  obtain ⟨fuel, hf⟩ := hd
  rw [hv] at hf
  rcases Deep.open_slice ht hf with ⟨h1, _⟩ | ⟨a, len, cap, m, n, D, Pl, h1, _, _, _, _, h2, _⟩
  · obtain rfl : v = .slice none 0 0 := by simpa using h1
    cases h with
    | ro hn => omega
  · obtain rfl : v = .slice (some a) len cap := by simpa using h1
    cases h with
    | ro hn =>
      rw [(Prod.mk.inj h2).1] at hb
      have h3 := len_le ((List.range len).map D)
      rw [List.length_map, List.length_range] at h3
      simp only [List.append_nil, Rows.uptoBulkAll, Rows.uptoBulk] at hb
      omega
end Go.Proofs.YtklfieidipobpaaDoor.Txt

/- Texts: where a text's first line ends. -/
namespace Go.Proofs.YtklfieidipobpaaDoor.Txt
open Go.V Go.Num
open Go.Eng (strOf strOf_size strOf_data)
set_option maxRecDepth 100000
set_option maxHeartbeats 4000000
/-- How many letters stand ahead of the first end of a line. -/
def cutN : List UInt8 → Nat
  | [] => 0
  | c :: s => if c = 10 then 0 else cutN s + 1
theorem cutN_le : ∀ s : List UInt8, cutN s ≤ s.length
  | [] => Nat.le_refl _
  | c :: s => by
    have := cutN_le s
    unfold cutN
    split
    · exact Nat.zero_le _
    · rw [List.length_cons]; omega
theorem cutN_no : ∀ (s : List UInt8) (j : Nat), j < cutN s → ∃ c, s[j]? = some c ∧ c ≠ 10
  | [], j, h => by cases h
  | c :: s, j, h => by
    unfold cutN at h
    split at h
    · cases h
    · next hc =>
      rcases j with _ | j
      · exact ⟨c, rfl, hc⟩
      · exact cutN_no s j (by omega)
theorem cutN_at : ∀ (s : List UInt8), cutN s < s.length → s[cutN s]? = some 10
  | [], h => by cases h
  | c :: s, h => by
    unfold cutN at h ⊢
    split
    · next hc => rw [hc]; rfl
    · next hc =>
      rw [if_neg hc, List.length_cons] at h
      exact cutN_at s (by omega)
theorem lns_cut : ∀ (s : List UInt8), s ≠ [] → lns s = s.take (cutN s + 1) :: lns (s.drop (cutN s + 1))
  | [], h => absurd rfl h
  | c :: s, _ => by
    rw [lns_cons]
    unfold cutN
    by_cases hc : c = 10
    · rw [if_pos hc, if_pos hc, hc]; rfl
    · rw [if_neg hc, if_neg hc]
      by_cases hs : s = []
      · rw [hs]; rfl
      · rw [lns_cut s hs]; rfl
theorem trim_nl (t : List UInt8) : trimL (t ++ [10]) = t := by
  unfold trimL Lib.trimSuffix
  rw [if_pos (by simp [Lib.hasSuffix])]
  simp
theorem trim_no {t : List UInt8} (h : ∀ u, t = u ++ [10] → False) : trimL t = t := by
  unfold trimL Lib.trimSuffix
  rw [if_neg]
  intro hs
  simp [Lib.hasSuffix] at hs
  obtain ⟨u, hu⟩ := hs
  exact h u hu.symm
theorem trim_cut (s : List UInt8) : trimL (s.take (cutN s + 1)) = s.take (cutN s) := by
  by_cases h : cutN s < s.length
  · have e : s.take (cutN s + 1) = s.take (cutN s) ++ [10] := by rw [List.take_add_one, cutN_at s h]; rfl
    rw [e]
    exact trim_nl _
  · have h1 := cutN_le s
    have h2 : cutN s = s.length := by omega
    rw [h2, List.take_of_length_le (by omega), List.take_of_length_le (by omega)]
    apply trim_no
    intro t e
    have h3 : t.length < cutN s := by rw [h2, e]; simp
    obtain ⟨d, h4, h5⟩ := cutN_no s t.length h3
    rw [e] at h4
    simp at h4
    exact h5 h4.symm
end Go.Proofs.YtklfieidipobpaaDoor.Txt

/- Texts: the law of reading. -/
namespace Go.Proofs.YtklfieidipobpaaDoor.Txt
open Go.V Go.Num
open Go.Eng (wr HS Imm Ent strOf strOf_size strOf_data)
set_option maxRecDepth 100000
set_option maxHeartbeats 4000000
theorem lns_nil {s : List UInt8} (h : lns s = []) : s = [] := by
  by_cases e : s = []
  · exact e
  · rw [lns_cut s e] at h; cases h
theorem line_at {s : List UInt8} {i o : Nat} (h : lns (s.drop o) = (lns s).drop i) (ho : o < s.length) : i < (lns s).length ∧ lns (s.drop (o + cutN (s.drop o) + 1)) = (lns s).drop (i + 1) ∧
    ((s.take (o + cutN (s.drop o))).drop o = trimL ((lns s).getD i [])) ∧ o + cutN (s.drop o) ≤ s.length := by
  have hne : s.drop o ≠ [] := by
    intro e
    have := congrArg List.length e
    rw [List.length_drop, List.length_nil] at this
    omega
  have h1 := lns_cut _ hne
  rw [h] at h1
  have hi : i < (lns s).length := by
    by_cases hi : i < (lns s).length
    · exact hi
    · rw [List.drop_eq_nil_of_le (by omega)] at h1; cases h1
  have hl := cutN_le (s.drop o)
  rw [List.length_drop] at hl
  rw [List.drop_eq_getElem_cons hi] at h1
  injection h1 with h2 h3
  refine ⟨hi, ?_, ?_, by omega⟩
  · rw [h3, List.drop_drop]; rfl
  · have e : (lns s).getD i [] = (lns s)[i] := by rw [List.getD_eq_getElem?_getD, List.getElem?_eq_getElem hi]; rfl
    rw [e, h2, trim_cut, List.drop_take]
    congr 1; omega
theorem readsOk_ct (s : List UInt8) (hs : s.length ≤ 131072) (hn : (lns s).length ≤ 4096) (hall : ∀ l ∈ lns s, eT l = 0)
    (hR : Ct Tryd.prog 14 [S s] [] (Is2 (.tup [.d (.ro ((lns s).map fun l => stD (stpT (trimL l)))), i64 0, i64 0]) [])) : Ct Tryd.prog 5 [S s] [] (Is2 (.d (.bool true)) []) := by
  refine Ct.introF (E := E 128 0 [.tmp 2] [(9, [0, 3, 4, 5, 6, 7, 8])] [(5, [0, 3, 4, 5, 6, 7]), (7, [0, 3, 4, 5, 6, 7, 8])] []) tab_ok Tryd.call5 Tryd.func5 rfl rfl rfl rfl rfl (fun hin => ?_)
  refine hR.use ?_
  obtain ⟨xs, hxs⟩ : ∃ xs, xs = (lns s).map fun l => stD (stpT (trimL l)) := ⟨_, rfl⟩
  have hxl : xs.length = (lns s).length := by rw [hxs, List.length_map]
  rw [← hxs]
  (conv => whnf); refine cond_d (fun h3 => ?_) (fun h3 => ?_)
  · exfalso; omega
  (conv => whnf); refine LoopI.mk (fun q ws os => ∃ i o : Nat, ws = [S s, .d (.ro xs), i64 0, i64 0, i64 i, i64 o] ∧ os = [] ∧ lns (s.drop o) = (lns s).drop i ∧ i ≤ (lns s).length ∧ o ≤ s.length + 1 ∧ q = (lns s).length - i) (lns s).length ⟨0, 0, rfl, rfl, rfl, Nat.zero_le _, Nat.zero_le _, rfl⟩ ?_
  rintro q _ _ ⟨i, o, rfl, rfl, h1, h2, h4, rfl⟩
  have hll := lns_len s
  (conv => whnf); refine cond_d (fun h5 => ?_) (fun h5 => ?_)
  · obtain ⟨hi, hnx, hsl, hol⟩ := line_at h1 (by omega)
    obtain ⟨c, hc⟩ : ∃ c, c = cutN (s.drop o) := ⟨_, rfl⟩
    rw [← hc] at hnx hsl hol
    (conv => whnf); refine JoinI.mk (fun ws os => ws = [S s, .d (.ro xs), i64 0, i64 0, i64 i, i64 o, i64 ((o + c : Nat) : Int)] ∧ os = []) ?_ ?_
    rotate_left
    · rintro _ _ ⟨rfl, rfl⟩
      (conv => whnf); refine And.intro (by first | omega | (dsimp only [List.length, cond]; omega) | (show (-9223372036854775808 : Int) ≤ _ ∧ _ ≤ (9223372036854775807 : Int); omega) | decide) ?_
      (conv => whnf); refine And.intro (by omega) ?_
      obtain ⟨tl, htl⟩ : ∃ tl, tl = trimL ((lns s).getD i []) := ⟨_, rfl⟩
      have hsl2 : (s.take ((o + c : Nat) : Int).toNat).drop (o : Int).toNat = tl := by rw [htl, ← hsl]; rfl
      have htl2 : tl.length ≤ 131072 := by
        rw [← hsl2, List.length_drop, List.length_take]; omega
      have hlm : (lns s).getD i [] ∈ lns s := by rw [List.getD_eq_getElem?_getD, List.getElem?_eq_getElem hi]; exact List.getElem_mem hi
      have he : resE (firstS tl 7) = 0 := by rw [htl]; exact hall _ hlm
      have hS := Step_ct tl (by omega)
      rw [he, resD_stp] at hS
      have hS2 : Ct Tryd.prog 13 [S ((s.take ((o + c : Nat) : Int).toNat).drop (o : Int).toNat)] [] (Is2 (.tup [.d (stD (stpT tl)), i64 0]) []) := by rw [hsl2]; exact hS
      refine hS2.use ?_
      have hgx : xs[((i : Int) + 1 - 1).toNat]? = some (stD (stpT tl)) := by rw [show ((i : Int) + 1 - 1).toNat = i by omega, hxs, List.getElem?_map, htl, List.getD_eq_getElem?_getD, List.getElem?_eq_getElem hi]; rfl
      (conv => whnf); refine DrawI.mkF 16 [[5], [78], [79], [6, 80], [3, 80], [80, 82], [80, 81, 83], [80, 84], [9, 85], [3, 85], [6, 85], [85, 88], [85, 87, 89], [85, 90], [85, 86, 91], [80, 85, 92]] (by decide +kernel) ?_
      repeat (first | refine DrawO.mkF _ (And.intro rfl rfl) ?_ | refine DrawO.mkF _ (Idx.mk _ rfl (And.intro rfl rfl)) ?_)
      (conv => whnf); refine cond_d (fun h8 => ?_) (fun h8 => ?_)
      · exfalso; omega
      repeat (first | refine DrawO.mkF _ (And.intro rfl rfl) ?_ | refine DrawO.mkF _ (Idx.mk _ rfl (And.intro rfl rfl)) ?_)
      refine DrawO.mkF _ (And.intro (by first | omega | (dsimp only [List.length, cond]; omega) | decide) (And.intro rfl rfl)) ?_
      refine DrawO.mkF _ (And.intro (by omega) (Idx.mk _ hgx (And.intro rfl rfl))) ?_
      repeat (first | refine DrawO.mkF _ (And.intro rfl rfl) ?_ | refine DrawO.mkF _ (Idx.mk _ rfl (And.intro rfl rfl)) ?_)
      refine DrawO.mkF _ (EqI.mk [.int, .int, .int] _ eqStep rfl (And.intro rfl rfl)) ?_
      repeat (first | refine DrawO.mkF _ (And.intro rfl rfl) ?_ | refine DrawO.mkF _ (Idx.mk _ rfl (And.intro rfl rfl)) ?_)
      (conv => whnf); refine cond_i (fun h9 => ?_) (fun h9 => ?_)
      · exfalso
        simp at h9
      (conv => whnf); refine And.intro (by first | omega | (dsimp only [List.length, cond]; omega) | (show (-9223372036854775808 : Int) ≤ _ ∧ _ ≤ (9223372036854775807 : Int); omega) | decide) ?_
      (conv => whnf)
      refine ⟨(lns s).length - (i + 1), by omega, i + 1, o + c + 1, rfl, rfl, hnx, by omega, by omega, rfl⟩
    (conv => whnf); refine LoopI.mk (fun q ws os => ∃ j : Nat, ws = [S s, .d (.ro xs), i64 0, i64 0, i64 i, i64 o, i64 ((o + j : Nat) : Int)] ∧ os = [] ∧ j ≤ c ∧ q = c - j) c ⟨0, rfl, rfl, Nat.zero_le _, rfl⟩ ?_
    rintro q _ _ ⟨j, rfl, rfl, h6, rfl⟩
    have h10 : (10 : UInt8).toNat = 10 := rfl
    by_cases hjc : j < c
    · obtain ⟨b, hb1, hb2⟩ := cutN_no (s.drop o) j (by omega)
      have hb3 : s[((o + j : Nat) : Int).toNat]? = some b := by rw [List.getElem?_drop] at hb1; exact hb1
      have hb4 : o + j < s.length := (List.getElem?_eq_some_iff.1 hb3).1
      have hb5 : b.toNat ≠ 10 := fun e => hb2 (UInt8.toNat_inj.1 (by rw [e]; rfl))
      (conv => whnf); refine cond_d (fun h7 => ?_) (fun h7 => ?_)
      · (conv => whnf); refine And.intro (by omega) ?_
        (conv => whnf); refine Idx.mk _ hb3 ?_
        (conv => whnf); refine cond_d (fun h8 => ?_) (fun h8 => ?_)
        · (conv => whnf); refine And.intro (by first | omega | (dsimp only [List.length, cond]; omega) | (show (-9223372036854775808 : Int) ≤ _ ∧ _ ≤ (9223372036854775807 : Int); omega) | decide) ?_
          (conv => whnf)
          exact ⟨c - (j + 1), by omega, j + 1, rfl, rfl, by omega, rfl⟩
        · exfalso
          omega
      · exfalso; omega
    · obtain rfl : j = c := by omega
      (conv => whnf); refine cond_d (fun h7 => ?_) (fun h7 => ?_)
      · have hb3 : s[((o + j : Nat) : Int).toNat]? = some 10 := by
          have := cutN_at (s.drop o) (by rw [← hc, List.length_drop]; omega)
          rw [← hc, List.getElem?_drop] at this
          exact this
        (conv => whnf); refine And.intro (by omega) ?_
        (conv => whnf); refine Idx.mk _ hb3 ?_
        (conv => whnf)
        exact ⟨rfl, rfl⟩
      · (conv => whnf)
        exact ⟨rfl, rfl⟩
  · (conv => whnf); refine cond_d (fun h6 => ?_) (fun h6 => ?_)
    · exfalso; omega
    refine awake_ct.use ?_
    have hi : i = (lns s).length := by
      rw [List.drop_eq_nil_of_le (by omega)] at h1
      have := congrArg List.length h1
      rw [List.length_drop] at this
      simp [lns] at this
      omega
    refine isBool ?_
    simp [hxl, hi]
theorem readsMany_ct (s : List UInt8) (hs : s.length ≤ 131072) (hn : 4096 < (lns s).length) (hall : ∀ l ∈ lns s, eT l = 0)
    (hR : Ct Tryd.prog 14 [S s] [] (Is2 (.tup [.d .nils, i64 0, i64 6]) [])) : Ct Tryd.prog 5 [S s] [] (Is2 (.d (.bool true)) []) := by
  refine Ct.introF (E := E 128 0 [.tmp 2] [(9, [0, 3, 4, 5, 6, 7, 8])] [(5, [0, 3, 4, 5, 6, 7]), (7, [0, 3, 4, 5, 6, 7, 8])] []) tab_ok Tryd.call5 Tryd.func5 rfl rfl rfl rfl rfl (fun hin => ?_)
  refine hR.use ?_
  (conv => whnf); refine cond_d (fun h3 => ?_) (fun h3 => ?_)
  · exfalso; omega
  (conv => whnf); refine LoopI.mk (fun q ws os => ∃ i o : Nat, ws = [S s, .d .nils, i64 0, i64 6, i64 i, i64 o] ∧ os = [] ∧ lns (s.drop o) = (lns s).drop i ∧ i ≤ (lns s).length ∧ o ≤ s.length + 1 ∧ q = (lns s).length - i) (lns s).length ⟨0, 0, rfl, rfl, rfl, Nat.zero_le _, Nat.zero_le _, rfl⟩ ?_
  rintro q _ _ ⟨i, o, rfl, rfl, h1, h2, h4, rfl⟩
  have hll := lns_len s
  (conv => whnf); refine cond_d (fun h5 => ?_) (fun h5 => ?_)
  · obtain ⟨hi, hnx, hsl, hol⟩ := line_at h1 (by omega)
    obtain ⟨c, hc⟩ : ∃ c, c = cutN (s.drop o) := ⟨_, rfl⟩
    rw [← hc] at hnx hsl hol
    (conv => whnf); refine JoinI.mk (fun ws os => ws = [S s, .d .nils, i64 0, i64 6, i64 i, i64 o, i64 ((o + c : Nat) : Int)] ∧ os = []) ?_ ?_
    rotate_left
    · rintro _ _ ⟨rfl, rfl⟩
      (conv => whnf); refine And.intro (by first | omega | (dsimp only [List.length, cond]; omega) | (show (-9223372036854775808 : Int) ≤ _ ∧ _ ≤ (9223372036854775807 : Int); omega) | decide) ?_
      (conv => whnf); refine And.intro (by omega) ?_
      obtain ⟨tl, htl⟩ : ∃ tl, tl = trimL ((lns s).getD i []) := ⟨_, rfl⟩
      have hsl2 : (s.take ((o + c : Nat) : Int).toNat).drop (o : Int).toNat = tl := by rw [htl, ← hsl]; rfl
      have htl2 : tl.length ≤ 131072 := by
        rw [← hsl2, List.length_drop, List.length_take]; omega
      have hlm : (lns s).getD i [] ∈ lns s := by rw [List.getD_eq_getElem?_getD, List.getElem?_eq_getElem hi]; exact List.getElem_mem hi
      have he : resE (firstS tl 7) = 0 := by rw [htl]; exact hall _ hlm
      have hS := Step_ct tl (by omega)
      rw [he, resD_stp] at hS
      have hS2 : Ct Tryd.prog 13 [S ((s.take ((o + c : Nat) : Int).toNat).drop (o : Int).toNat)] [] (Is2 (.tup [.d (stD (stpT tl)), i64 0]) []) := by rw [hsl2]; exact hS
      refine hS2.use ?_
      (conv => whnf); refine DrawI.mkF 16 [[5], [78], [79], [6, 80], [3, 80], [80, 82], [80, 81, 83], [80, 84], [9, 85], [3, 85], [6, 85], [85, 88], [85, 87, 89], [85, 90], [85, 86, 91], [80, 85, 92]] (by decide +kernel) ?_
      repeat (first | refine DrawO.mkF _ (And.intro rfl rfl) ?_ | refine DrawO.mkF _ (Idx.mk _ rfl (And.intro rfl rfl)) ?_)
      (conv => whnf); refine And.intro (by first | omega | (dsimp only [List.length, cond]; omega) | (show (-9223372036854775808 : Int) ≤ _ ∧ _ ≤ (9223372036854775807 : Int); omega) | decide) ?_
      (conv => whnf)
      refine ⟨(lns s).length - (i + 1), by omega, i + 1, o + c + 1, rfl, rfl, hnx, by omega, by omega, rfl⟩
    (conv => whnf); refine LoopI.mk (fun q ws os => ∃ j : Nat, ws = [S s, .d .nils, i64 0, i64 6, i64 i, i64 o, i64 ((o + j : Nat) : Int)] ∧ os = [] ∧ j ≤ c ∧ q = c - j) c ⟨0, rfl, rfl, Nat.zero_le _, rfl⟩ ?_
    rintro q _ _ ⟨j, rfl, rfl, h6, rfl⟩
    have h10 : (10 : UInt8).toNat = 10 := rfl
    by_cases hjc : j < c
    · obtain ⟨b, hb1, hb2⟩ := cutN_no (s.drop o) j (by omega)
      have hb3 : s[((o + j : Nat) : Int).toNat]? = some b := by rw [List.getElem?_drop] at hb1; exact hb1
      have hb4 : o + j < s.length := (List.getElem?_eq_some_iff.1 hb3).1
      have hb5 : b.toNat ≠ 10 := fun e => hb2 (UInt8.toNat_inj.1 (by rw [e]; rfl))
      (conv => whnf); refine cond_d (fun h7 => ?_) (fun h7 => ?_)
      · (conv => whnf); refine And.intro (by omega) ?_
        (conv => whnf); refine Idx.mk _ hb3 ?_
        (conv => whnf); refine cond_d (fun h8 => ?_) (fun h8 => ?_)
        · (conv => whnf); refine And.intro (by first | omega | (dsimp only [List.length, cond]; omega) | (show (-9223372036854775808 : Int) ≤ _ ∧ _ ≤ (9223372036854775807 : Int); omega) | decide) ?_
          (conv => whnf)
          exact ⟨c - (j + 1), by omega, j + 1, rfl, rfl, by omega, rfl⟩
        · exfalso
          omega
      · exfalso; omega
    · obtain rfl : j = c := by omega
      (conv => whnf); refine cond_d (fun h7 => ?_) (fun h7 => ?_)
      · have hb3 : s[((o + j : Nat) : Int).toNat]? = some 10 := by
          have := cutN_at (s.drop o) (by rw [← hc, List.length_drop]; omega)
          rw [← hc, List.getElem?_drop] at this
          exact this
        (conv => whnf); refine And.intro (by omega) ?_
        (conv => whnf); refine Idx.mk _ hb3 ?_
        (conv => whnf)
        exact ⟨rfl, rfl⟩
      · (conv => whnf)
        exact ⟨rfl, rfl⟩
  · have hi : i = (lns s).length := by
      rw [List.drop_eq_nil_of_le (by omega)] at h1
      have := congrArg List.length h1
      rw [List.length_drop] at this
      simp [lns] at this
      omega
    (conv => whnf); refine cond_d (fun h6 => ?_) (fun h6 => ?_)
    · refine awake_ct.use ?_
      exact Is2.mk rfl
    · exfalso; omega
theorem readsBad_ct (s : List UInt8) (hs : s.length ≤ 131072) (p : Nat) (hp : p < (lns s).length) (hall : ∀ i, i < p → eT ((lns s).getD i []) = 0) (hbad : eT ((lns s).getD p []) = 5)
    (hR : Ct Tryd.prog 14 [S s] [] (Is2 (.tup [.d .nils, i64 ((p : Int) + 1), i64 5]) [])) : Ct Tryd.prog 5 [S s] [] (Is2 (.d (.bool true)) []) := by
  refine Ct.introF (E := E 128 0 [.tmp 2] [(9, [0, 3, 4, 5, 6, 7, 8])] [(5, [0, 3, 4, 5, 6, 7]), (7, [0, 3, 4, 5, 6, 7, 8])] []) tab_ok Tryd.call5 Tryd.func5 rfl rfl rfl rfl rfl (fun hin => ?_)
  refine hR.use ?_
  (conv => whnf); refine cond_d (fun h3 => ?_) (fun h3 => ?_)
  · exfalso; omega
  (conv => whnf); refine LoopI.mk (fun q ws os => ∃ i o : Nat, ws = [S s, .d .nils, i64 ((p : Int) + 1), i64 5, i64 i, i64 o] ∧ os = [] ∧ lns (s.drop o) = (lns s).drop i ∧ i ≤ p ∧ o ≤ s.length + 1 ∧ q = (lns s).length - i) (lns s).length ⟨0, 0, rfl, rfl, rfl, Nat.zero_le _, Nat.zero_le _, rfl⟩ ?_
  rintro q _ _ ⟨i, o, rfl, rfl, h1, h2, h4, rfl⟩
  have hll := lns_len s
  (conv => whnf); refine cond_d (fun h5 => ?_) (fun h5 => ?_)
  · obtain ⟨hi, hnx, hsl, hol⟩ := line_at h1 (by omega)
    obtain ⟨c, hc⟩ : ∃ c, c = cutN (s.drop o) := ⟨_, rfl⟩
    rw [← hc] at hnx hsl hol
    (conv => whnf); refine JoinI.mk (fun ws os => ws = [S s, .d .nils, i64 ((p : Int) + 1), i64 5, i64 i, i64 o, i64 ((o + c : Nat) : Int)] ∧ os = []) ?_ ?_
    rotate_left
    · rintro _ _ ⟨rfl, rfl⟩
      (conv => whnf); refine And.intro (by first | omega | (dsimp only [List.length, cond]; omega) | (show (-9223372036854775808 : Int) ≤ _ ∧ _ ≤ (9223372036854775807 : Int); omega) | decide) ?_
      (conv => whnf); refine And.intro (by omega) ?_
      obtain ⟨tl, htl⟩ : ∃ tl, tl = trimL ((lns s).getD i []) := ⟨_, rfl⟩
      have hsl2 : (s.take ((o + c : Nat) : Int).toNat).drop (o : Int).toNat = tl := by rw [htl, ← hsl]; rfl
      have htl2 : tl.length ≤ 131072 := by
        rw [← hsl2, List.length_drop, List.length_take]; omega
      have hlm : (lns s).getD i [] ∈ lns s := by rw [List.getD_eq_getElem?_getD, List.getElem?_eq_getElem hi]; exact List.getElem_mem hi
      by_cases hip : i = p
      · have he : resE (firstS tl 7) = 5 := by rw [htl, hip]; exact hbad
        have hS := Step_ct tl (by omega)
        rw [he, resD_stp] at hS
        have hS2 : Ct Tryd.prog 13 [S ((s.take ((o + c : Nat) : Int).toNat).drop (o : Int).toNat)] [] (Is2 (.tup [.d (stD (stpT tl)), i64 5]) []) := by rw [hsl2]; exact hS
        refine hS2.use ?_
        refine awake_ct.use ?_
        (conv => whnf); refine cond_d (fun h8 => ?_) (fun h8 => ?_)
        · exact Is2.mk rfl
        · exfalso; omega
      have he : resE (firstS tl 7) = 0 := by rw [htl]; exact hall i (by omega)
      have hS := Step_ct tl (by omega)
      rw [he, resD_stp] at hS
      have hS2 : Ct Tryd.prog 13 [S ((s.take ((o + c : Nat) : Int).toNat).drop (o : Int).toNat)] [] (Is2 (.tup [.d (stD (stpT tl)), i64 0]) []) := by rw [hsl2]; exact hS
      refine hS2.use ?_
      (conv => whnf); refine DrawI.mkF 16 [[5], [78], [79], [6, 80], [3, 80], [80, 82], [80, 81, 83], [80, 84], [9, 85], [3, 85], [6, 85], [85, 88], [85, 87, 89], [85, 90], [85, 86, 91], [80, 85, 92]] (by decide +kernel) ?_
      repeat (first | refine DrawO.mkF _ (And.intro rfl rfl) ?_ | refine DrawO.mkF _ (Idx.mk _ rfl (And.intro rfl rfl)) ?_)
      (conv => whnf); refine And.intro (by first | omega | (dsimp only [List.length, cond]; omega) | (show (-9223372036854775808 : Int) ≤ _ ∧ _ ≤ (9223372036854775807 : Int); omega) | decide) ?_
      (conv => whnf)
      refine ⟨(lns s).length - (i + 1), by omega, i + 1, o + c + 1, rfl, rfl, hnx, by omega, by omega, rfl⟩
    (conv => whnf); refine LoopI.mk (fun q ws os => ∃ j : Nat, ws = [S s, .d .nils, i64 ((p : Int) + 1), i64 5, i64 i, i64 o, i64 ((o + j : Nat) : Int)] ∧ os = [] ∧ j ≤ c ∧ q = c - j) c ⟨0, rfl, rfl, Nat.zero_le _, rfl⟩ ?_
    rintro q _ _ ⟨j, rfl, rfl, h6, rfl⟩
    have h10 : (10 : UInt8).toNat = 10 := rfl
    by_cases hjc : j < c
    · obtain ⟨b, hb1, hb2⟩ := cutN_no (s.drop o) j (by omega)
      have hb3 : s[((o + j : Nat) : Int).toNat]? = some b := by rw [List.getElem?_drop] at hb1; exact hb1
      have hb4 : o + j < s.length := (List.getElem?_eq_some_iff.1 hb3).1
      have hb5 : b.toNat ≠ 10 := fun e => hb2 (UInt8.toNat_inj.1 (by rw [e]; rfl))
      (conv => whnf); refine cond_d (fun h7 => ?_) (fun h7 => ?_)
      · (conv => whnf); refine And.intro (by omega) ?_
        (conv => whnf); refine Idx.mk _ hb3 ?_
        (conv => whnf); refine cond_d (fun h8 => ?_) (fun h8 => ?_)
        · (conv => whnf); refine And.intro (by first | omega | (dsimp only [List.length, cond]; omega) | (show (-9223372036854775808 : Int) ≤ _ ∧ _ ≤ (9223372036854775807 : Int); omega) | decide) ?_
          (conv => whnf)
          exact ⟨c - (j + 1), by omega, j + 1, rfl, rfl, by omega, rfl⟩
        · exfalso
          omega
      · exfalso; omega
    · obtain rfl : j = c := by omega
      (conv => whnf); refine cond_d (fun h7 => ?_) (fun h7 => ?_)
      · have hb3 : s[((o + j : Nat) : Int).toNat]? = some 10 := by
          have := cutN_at (s.drop o) (by rw [← hc, List.length_drop]; omega)
          rw [← hc, List.getElem?_drop] at this
          exact this
        (conv => whnf); refine And.intro (by omega) ?_
        (conv => whnf); refine Idx.mk _ hb3 ?_
        (conv => whnf)
        exact ⟨rfl, rfl⟩
      · (conv => whnf)
        exact ⟨rfl, rfl⟩
  · exfalso
    rw [List.drop_eq_nil_of_le (by omega)] at h1
    have := congrArg List.length h1
    rw [List.length_drop] at this
    simp [lns] at this
    omega
theorem readsLong_ct (s : List UInt8) (hs : 131072 < s.length) (hR : Ct Tryd.prog 14 [S s] [] (Is2 (.tup [.d .nils, i64 0, i64 6]) [])) : Ct Tryd.prog 5 [S s] [] (Is2 (.d (.bool true)) []) := by
  refine Ct.introF (E := E 128 0 [.tmp 2] [(9, [0, 3, 4, 5, 6, 7, 8])] [(5, [0, 3, 4, 5, 6, 7]), (7, [0, 3, 4, 5, 6, 7, 8])] []) tab_ok Tryd.call5 Tryd.func5 rfl rfl rfl rfl rfl (fun hin => ?_)
  refine hR.use ?_
  (conv => whnf); refine cond_d (fun h3 => ?_) (fun h3 => ?_)
  · refine awake_ct.use ?_
    exact Is2.mk rfl
  · exfalso; omega
theorem bad_none2 : ∀ (l : List (List UInt8)), bad l = none → ∀ x ∈ l, eT x = 0
  | [], _, x, hx => by cases hx
  | y :: l, h, x, hx => by
    unfold bad at h
    split at h
    · cases h
    · next hy =>
      have h2 : bad l = none := by
        cases hb : bad l with
        | none => rfl
        | some p => rw [hb] at h; cases h
      rcases List.mem_cons.1 hx with rfl | hx
      · exact Decidable.of_not_not hy
      · exact bad_none2 l h2 x hx
theorem bad_some2 : ∀ (l : List (List UInt8)) (p : Nat × Int), bad l = some p → p.1 < l.length ∧ (∀ i, i < p.1 → eT (l.getD i []) = 0) ∧ eT (l.getD p.1 []) = 5 ∧ p.2 = 5
  | [], p, h => by cases h
  | y :: l, p, h => by
    unfold bad at h
    split at h
    · next hy =>
      cases h
      have h5 : eT y = 5 := by
        unfold eT at hy ⊢
        cases hf : firstS (trimL y) 7 with
        | none => rfl
        | some k => rw [hf] at hy; exact absurd rfl hy
      exact ⟨by simp, fun i hi => (by cases hi), h5, h5⟩
    · next hy =>
      have h0 : eT y = 0 := Decidable.of_not_not hy
      cases hb : bad l with
      | none => rw [hb] at h; cases h
      | some q =>
        rw [hb] at h
        cases h
        obtain ⟨h1, h2, h3, h4⟩ := bad_some2 l q hb
        refine ⟨by simpa using h1, fun i hi => ?_, h3, h4⟩
        rcases i with _ | i
        · exact h0
        · exact h2 i (Nat.lt_of_succ_lt_succ hi)
theorem reads_law (s : List UInt8) : Ct Tryd.prog 5 [S s] [] (Is2 (.d (.bool true)) []) := by
  have hR := Read_ct s
  unfold rdR at hR
  by_cases hs : 131072 < s.length
  · rw [if_pos hs] at hR
    exact readsLong_ct s hs hR
  · rw [if_neg hs] at hR
    cases hb : bad (lns s) with
    | some p =>
      rw [hb] at hR
      obtain ⟨h1, h2, h3, h4⟩ := bad_some2 _ _ hb
      have hR : Ct Tryd.prog 14 [S s] [] (Is2 (.tup [.d .nils, i64 ((p.1 : Int) + 1), i64 p.2]) []) := hR
      rw [h4] at hR
      exact readsBad_ct s (by omega) p.1 h1 h2 h3 hR
    | none =>
      rw [hb] at hR
      have hall := bad_none2 _ hb
      by_cases hn : 4096 < (lns s).length
      · exact readsMany_ct s (by omega) hn hall (by simpa only [if_pos hn] using hR)
      · exact readsOk_ct s (by omega) (by omega) hall (by simpa only [if_neg hn] using hR)
end Go.Proofs.YtklfieidipobpaaDoor.Txt

/- Texts: the steps of a text that was written. -/
namespace Go.Proofs.YtklfieidipobpaaDoor.Txt
open Go.V Go.Num
open Go.Eng (strOf strOf_size strOf_data)
set_option maxRecDepth 100000
set_option maxHeartbeats 4000000
theorem lns_app : ∀ (u r : List UInt8), (∀ b ∈ u, b ≠ 10) → lns (u ++ 10 :: r) = (u ++ [10]) :: lns r
  | [], r, _ => rfl
  | c :: u, r, h => by
    have h1 := lns_app u r (fun b hb => h b (List.mem_cons_of_mem _ hb))
    show lns (c :: (u ++ 10 :: r)) = _
    rw [lns_cons, if_neg (h c (List.mem_cons_self ..)), h1]; rfl
theorem word_nl (k : Int) : ∀ b ∈ fWord k, b ≠ 10 := by
  unfold fWord
  repeat' split
  all_goals decide
theorem line_nl (x : St3) : ∀ b ∈ lineOf x, b ≠ 10 := by
  intro b hb
  unfold lineOf lineN at hb
  rcases List.mem_append.1 hb with hb | hb
  · exact word_nl _ b hb
  · obtain ⟨n, _, hn⟩ := List.mem_flatMap.1 hb
    have h10 : (10 : UInt8).toNat = 10 := rfl
    rcases List.mem_cons.1 hn with rfl | hn
    · decide
    · have := itoa_good n b hn
      rintro rfl
      omega
theorem lns_txt : ∀ (l : List St3), lns (txt l) = l.map fun x => lineOf x ++ [10]
  | [] => rfl
  | x :: l => by
    have e : txt (x :: l) = lineOf x ++ 10 :: txt l := by unfold txt; rw [List.flatMap_cons, List.append_assoc]; rfl
    rw [e, lns_app _ _ (line_nl x), lns_txt l]; rfl
theorem stp_line {x : St3} (hx : In64 x) (hok : okOf x = true) : stpT (lineOf x) = x ∧ firstS (lineOf x) 7 = some x.1.toNat := by
  obtain ⟨k, a, b⟩ := x
  obtain ⟨p1, p2, p3, p4⟩ := line_back (k := k) hok hx.1 hx.2
  have e : lineOf (k, a, b) = lineN (fWord k) ([a, b].take (fSize k)) := rfl
  rw [e]
  refine ⟨?_, p1⟩
  unfold stpT
  rw [p1]
  show (((k.toNat : Nat) : Int), valS ((k.toNat : Nat) : Int) _ 0, valS ((k.toNat : Nat) : Int) _ 1) = (k, a, b)
  rw [Int.toNat_of_nonneg (by omega), p2, p3]
theorem bad_all : ∀ {l : List (List UInt8)}, (∀ x ∈ l, eT x = 0) → bad l = none
  | [], _ => rfl
  | y :: l, h => by
    unfold bad
    rw [if_neg (fun c => c (h y (List.mem_cons_self ..))), bad_all (fun z hz => h z (List.mem_cons_of_mem _ hz))]; rfl
theorem rd_txt {l : List St3} (hr : ∀ x ∈ l, In64 x) (hok : l.all okOf = true) (hn : l.length ≤ 4096) (ht : (txt l).length ≤ 131072) : rdR (txt l) = .tup [.d (.ro (l.map stD)), i64 0, i64 0] := by
  have h1 : ∀ x ∈ l, stpT (trimL (lineOf x ++ [10])) = x ∧ eT (lineOf x ++ [10]) = 0 := by
    intro x hx
    obtain ⟨e1, e2⟩ := stp_line (hr x hx) (List.all_eq_true.1 hok x hx)
    refine ⟨by rw [trim_nl]; exact e1, ?_⟩
    unfold eT
    rw [trim_nl, e2]
  unfold rdR
  rw [if_neg (by omega), lns_txt, bad_all (fun y hy => (by obtain ⟨x, hx, rfl⟩ := List.mem_map.1 hy; exact (h1 x hx).2))]
  show (if 4096 < (l.map fun x => lineOf x ++ [10]).length then _ else _) = _
  rw [if_neg (by rw [List.length_map]; omega), List.map_map]
  congr 4
  exact List.map_congr_left (fun x hx => by show stD (stpT (trimL (lineOf x ++ [10]))) = _; rw [(h1 x hx).1])
end Go.Proofs.YtklfieidipobpaaDoor.Txt

/- Texts: the law of texts. -/
namespace Go.Proofs.YtklfieidipobpaaDoor.Txt
open Go.V Go.Num
open Go.Eng (wr HS Imm Ent strOf strOf_size strOf_data)
set_option maxRecDepth 100000
set_option maxHeartbeats 4000000
theorem line_ok {x : St3} (hok : okOf x = true) : Ct Tryd.prog 11 [.d (stD x)] [] (Is2 (.tup [S (lineOf x), .d (.bool true)]) []) := by
  have h := line_ct x.1 x.2.1 x.2.2
  have h1 : okL x.1 x.2.1 x.2.2 = true := hok
  rw [if_pos (okA_down h1), h1] at h
  exact h
theorem line_no {x : St3} (hok : ¬ okOf x = true) : ∃ t, Ct Tryd.prog 11 [.d (stD x)] [] (Is2 (.tup [S t, .d (.bool false)]) []) := by
  have h := line_ct x.1 x.2.1 x.2.2
  have h1 : okL x.1 x.2.1 x.2.2 = false := by
    have h2 : okOf x = okL x.1 x.2.1 x.2.2 := rfl
    rw [← h2]; simpa using hok
  rw [h1] at h
  exact ⟨_, h⟩
theorem textsBad_ct (l : List St3) (hr : ∀ x ∈ l, In64 x) (hl : l.length ≤ 1100000) (hn : ¬ l.all okOf = true) (hW : Ct Tryd.prog 21 [.d (.ro (l.map stD))] [] (Is2 (.tup [S [], i64 1]) [])) :
    Ct Tryd.prog 9 [.d (.ro (l.map stD))] [] (Is2 (.d (.bool true)) []) := by
  refine Ct.introF (E := E 113 0 [.tmp 2] [] [(4, [0, 3, 4, 5, 6]), (17, [0, 9, 12])] []) tab_ok Tryd.call9 Tryd.func9 rfl rfl rfl rfl rfl (fun hin => ?_)
  refine hW.use ?_
  have hml : (l.map stD).length = l.length := List.length_map _
  (conv => whnf); refine LoopI.mk (fun q ws os => ∃ i : Nat, ws = [.d (.ro (l.map stD)), S [], i64 1, S (txt (l.take (min i 5000))), i64 i] ∧ os = [] ∧ i ≤ l.length ∧ (l.take i).all okOf = true ∧ q = l.length - i) l.length ⟨0, rfl, rfl, Nat.zero_le _, rfl, rfl⟩ ?_
  rintro q _ _ ⟨i, rfl, rfl, h1, h2, rfl⟩
  have htl := txt_len (l := l.take (min i 5000)) (fun x hx => hr x (List.mem_of_mem_take hx))
  rw [List.length_take] at htl
  (conv => whnf); refine cond_d (fun h3 => ?_) (fun h3 => ?_)
  · have hi : i < l.length := by omega
    obtain ⟨x, hx⟩ : ∃ x, l[i]? = some x := ⟨_, List.getElem?_eq_getElem hi⟩
    have hg : (l.map stD)[(i : Int).toNat]? = some (stD x) := by rw [show (i : Int).toNat = i by omega, List.getElem?_map, hx]; rfl
    have hxm := List.mem_of_getElem? hx
    have hll := lineOf_len (hr x hxm)
    have hst : l.take (i + 1) = l.take i ++ [x] := by rw [List.take_add_one, hx]; rfl
    (conv => whnf); refine And.intro (by omega) ?_
    (conv => whnf); refine Idx.mk _ hg ?_
    by_cases hok : okOf x = true
    · (conv => whnf); refine (line_ok hok).use ?_
      have hall : (l.take (i + 1)).all okOf = true := by rw [hst, List.all_append, h2]; simp [hok]
      (conv => whnf); refine cond_d (fun h4 => ?_) (fun h4 => ?_)
      · (conv => whnf); refine And.intro (show (lineOf x).length + 1 ≤ _ by omega) ?_
        (conv => whnf); refine And.intro (by rw [List.length_append]; show _ + (_ + 1) ≤ _; omega) ?_
        (conv => whnf); refine And.intro (by first | omega | (dsimp only [List.length, cond]; omega) | (show (-9223372036854775808 : Int) ≤ _ ∧ _ ≤ (9223372036854775807 : Int); omega) | decide) ?_
        (conv => whnf)
        refine ⟨l.length - (i + 1), by omega, i + 1, ?_, rfl, by omega, hall, rfl⟩
        rw [show min (i + 1) 5000 = i + 1 by omega, show min i 5000 = i by omega, hst, txt_snoc]; rfl
      · (conv => whnf); refine And.intro (by first | omega | (dsimp only [List.length, cond]; omega) | (show (-9223372036854775808 : Int) ≤ _ ∧ _ ≤ (9223372036854775807 : Int); omega) | decide) ?_
        (conv => whnf)
        refine ⟨l.length - (i + 1), by omega, i + 1, ?_, rfl, by omega, hall, rfl⟩
        rw [show min (i + 1) 5000 = 5000 by omega, show min i 5000 = 5000 by omega]; rfl
    · obtain ⟨t, ht⟩ := line_no hok
      refine ht.use ?_
      refine awake_ct.use ?_
      exact Is2.mk rfl
  · exfalso
    rw [List.take_of_length_le (by omega)] at h2
    exact hn h2
theorem textsFull_ct (l : List St3) (hr : ∀ x ∈ l, In64 x) (hl : l.length ≤ 1100000) (hall0 : l.all okOf = true) (hn : ¬ (l.length ≤ 4096 ∧ (txt l).length ≤ 131072)) (hW : Ct Tryd.prog 21 [.d (.ro (l.map stD))] [] (Is2 (.tup [S [], i64 6]) [])) :
    Ct Tryd.prog 9 [.d (.ro (l.map stD))] [] (Is2 (.d (.bool true)) []) := by
  refine Ct.introF (E := E 113 0 [.tmp 2] [] [(4, [0, 3, 4, 5, 6]), (17, [0, 9, 12])] []) tab_ok Tryd.call9 Tryd.func9 rfl rfl rfl rfl rfl (fun hin => ?_)
  refine hW.use ?_
  have hml : (l.map stD).length = l.length := List.length_map _
  (conv => whnf); refine LoopI.mk (fun q ws os => ∃ i : Nat, ws = [.d (.ro (l.map stD)), S [], i64 6, S (txt (l.take (min i 5000))), i64 i] ∧ os = [] ∧ i ≤ l.length ∧ (l.take i).all okOf = true ∧ q = l.length - i) l.length ⟨0, rfl, rfl, Nat.zero_le _, rfl, rfl⟩ ?_
  rintro q _ _ ⟨i, rfl, rfl, h1, h2, rfl⟩
  have htl := txt_len (l := l.take (min i 5000)) (fun x hx => hr x (List.mem_of_mem_take hx))
  rw [List.length_take] at htl
  (conv => whnf); refine cond_d (fun h3 => ?_) (fun h3 => ?_)
  · have hi : i < l.length := by omega
    obtain ⟨x, hx⟩ : ∃ x, l[i]? = some x := ⟨_, List.getElem?_eq_getElem hi⟩
    have hg : (l.map stD)[(i : Int).toNat]? = some (stD x) := by rw [show (i : Int).toNat = i by omega, List.getElem?_map, hx]; rfl
    have hxm := List.mem_of_getElem? hx
    have hll := lineOf_len (hr x hxm)
    have hst : l.take (i + 1) = l.take i ++ [x] := by rw [List.take_add_one, hx]; rfl
    (conv => whnf); refine And.intro (by omega) ?_
    (conv => whnf); refine Idx.mk _ hg ?_
    by_cases hok : okOf x = true
    · (conv => whnf); refine (line_ok hok).use ?_
      have hall : (l.take (i + 1)).all okOf = true := by rw [hst, List.all_append, h2]; simp [hok]
      (conv => whnf); refine cond_d (fun h4 => ?_) (fun h4 => ?_)
      · (conv => whnf); refine And.intro (show (lineOf x).length + 1 ≤ _ by omega) ?_
        (conv => whnf); refine And.intro (by rw [List.length_append]; show _ + (_ + 1) ≤ _; omega) ?_
        (conv => whnf); refine And.intro (by first | omega | (dsimp only [List.length, cond]; omega) | (show (-9223372036854775808 : Int) ≤ _ ∧ _ ≤ (9223372036854775807 : Int); omega) | decide) ?_
        (conv => whnf)
        refine ⟨l.length - (i + 1), by omega, i + 1, ?_, rfl, by omega, hall, rfl⟩
        rw [show min (i + 1) 5000 = i + 1 by omega, show min i 5000 = i by omega, hst, txt_snoc]; rfl
      · (conv => whnf); refine And.intro (by first | omega | (dsimp only [List.length, cond]; omega) | (show (-9223372036854775808 : Int) ≤ _ ∧ _ ≤ (9223372036854775807 : Int); omega) | decide) ?_
        (conv => whnf)
        refine ⟨l.length - (i + 1), by omega, i + 1, ?_, rfl, by omega, hall, rfl⟩
        rw [show min (i + 1) 5000 = 5000 by omega, show min i 5000 = 5000 by omega]; rfl
    · exfalso
      exact hok (List.all_eq_true.1 hall0 x hxm)
  · have hil : i = l.length := by omega
    (conv => whnf); refine cond_d (fun h4 => ?_) (fun h4 => ?_)
    · refine awake_ct.use ?_
      exact Is2.mk rfl
    · rw [show min i 5000 = i by omega, List.take_of_length_le (by omega)]
      (conv => whnf); refine cond_d (fun h5 => ?_) (fun h5 => ?_)
      · refine awake_ct.use ?_
        exact Is2.mk rfl
      · exfalso
        exact hn ⟨by omega, by omega⟩
theorem textsOk_ct (l : List St3) (hr : ∀ x ∈ l, In64 x) (hl : l.length ≤ 1100000) (hall0 : l.all okOf = true) (hn : l.length ≤ 4096) (hn2 : (txt l).length ≤ 131072) (hW : Ct Tryd.prog 21 [.d (.ro (l.map stD))] [] (Is2 (.tup [S (txt l), i64 0]) []))
    (hR : Ct Tryd.prog 14 [S (txt l)] [] (Is2 (.tup [.d (.ro (l.map stD)), i64 0, i64 0]) [])) :
    Ct Tryd.prog 9 [.d (.ro (l.map stD))] [] (Is2 (.d (.bool true)) []) := by
  refine Ct.introF (E := E 113 0 [.tmp 2] [] [(4, [0, 3, 4, 5, 6]), (17, [0, 9, 12])] []) tab_ok Tryd.call9 Tryd.func9 rfl rfl rfl rfl rfl (fun hin => ?_)
  refine hW.use ?_
  have hml : (l.map stD).length = l.length := List.length_map _
  (conv => whnf); refine LoopI.mk (fun q ws os => ∃ i : Nat, ws = [.d (.ro (l.map stD)), S (txt l), i64 0, S (txt (l.take (min i 5000))), i64 i] ∧ os = [] ∧ i ≤ l.length ∧ (l.take i).all okOf = true ∧ q = l.length - i) l.length ⟨0, rfl, rfl, Nat.zero_le _, rfl, rfl⟩ ?_
  rintro q _ _ ⟨i, rfl, rfl, h1, h2, rfl⟩
  have htl := txt_len (l := l.take (min i 5000)) (fun x hx => hr x (List.mem_of_mem_take hx))
  rw [List.length_take] at htl
  (conv => whnf); refine cond_d (fun h3 => ?_) (fun h3 => ?_)
  · have hi : i < l.length := by omega
    obtain ⟨x, hx⟩ : ∃ x, l[i]? = some x := ⟨_, List.getElem?_eq_getElem hi⟩
    have hg : (l.map stD)[(i : Int).toNat]? = some (stD x) := by rw [show (i : Int).toNat = i by omega, List.getElem?_map, hx]; rfl
    have hxm := List.mem_of_getElem? hx
    have hll := lineOf_len (hr x hxm)
    have hst : l.take (i + 1) = l.take i ++ [x] := by rw [List.take_add_one, hx]; rfl
    (conv => whnf); refine And.intro (by omega) ?_
    (conv => whnf); refine Idx.mk _ hg ?_
    by_cases hok : okOf x = true
    · (conv => whnf); refine (line_ok hok).use ?_
      have hall : (l.take (i + 1)).all okOf = true := by rw [hst, List.all_append, h2]; simp [hok]
      (conv => whnf); refine cond_d (fun h4 => ?_) (fun h4 => ?_)
      · (conv => whnf); refine And.intro (show (lineOf x).length + 1 ≤ _ by omega) ?_
        (conv => whnf); refine And.intro (by rw [List.length_append]; show _ + (_ + 1) ≤ _; omega) ?_
        (conv => whnf); refine And.intro (by first | omega | (dsimp only [List.length, cond]; omega) | (show (-9223372036854775808 : Int) ≤ _ ∧ _ ≤ (9223372036854775807 : Int); omega) | decide) ?_
        (conv => whnf)
        refine ⟨l.length - (i + 1), by omega, i + 1, ?_, rfl, by omega, hall, rfl⟩
        rw [show min (i + 1) 5000 = i + 1 by omega, show min i 5000 = i by omega, hst, txt_snoc]; rfl
      · (conv => whnf); refine And.intro (by first | omega | (dsimp only [List.length, cond]; omega) | (show (-9223372036854775808 : Int) ≤ _ ∧ _ ≤ (9223372036854775807 : Int); omega) | decide) ?_
        (conv => whnf)
        refine ⟨l.length - (i + 1), by omega, i + 1, ?_, rfl, by omega, hall, rfl⟩
        rw [show min (i + 1) 5000 = 5000 by omega, show min i 5000 = 5000 by omega]; rfl
    · exfalso
      exact hok (List.all_eq_true.1 hall0 x hxm)
  · have hil : i = l.length := by omega
    rw [show min i 5000 = i by omega, List.take_of_length_le (by omega)]
    (conv => whnf); refine cond_d (fun h4 => ?_) (fun h4 => ?_)
    · exfalso; omega
    (conv => whnf); refine cond_d (fun h5 => ?_) (fun h5 => ?_)
    · exfalso; omega
    refine hR.use ?_
    refine awake_ct.use ?_
    (conv => whnf); refine cond_nd (fun h6 => ?_) (fun h6 => ?_)
    · exact absurd rfl h6
    (conv => whnf); refine cond_d (fun h7 => ?_) (fun h7 => ?_)
    · exact absurd rfl h7
    (conv => whnf); refine LoopI.mk (fun q ws os => ∃ j : Nat, ws = [.d (.ro (l.map stD)), .d (.ro (l.map stD)), i64 j] ∧ os = [] ∧ j ≤ l.length ∧ q = l.length - j) l.length ⟨0, rfl, rfl, Nat.zero_le _, rfl⟩ ?_
    rintro q _ _ ⟨j, rfl, rfl, j1, rfl⟩
    (conv => whnf); refine cond_d (fun h8 => ?_) (fun h8 => ?_)
    · have hj : j < l.length := by omega
      obtain ⟨x, hx⟩ : ∃ x, l[j]? = some x := ⟨_, List.getElem?_eq_getElem hj⟩
      have hg : (l.map stD)[(j : Int).toNat]? = some (stD x) := by rw [show (j : Int).toNat = j by omega, List.getElem?_map, hx]; rfl
      (conv => whnf); refine DrawI.mkF 8 [[9], [12], [104, 105], [106], [0], [12], [108, 109], [110]] (by decide +kernel) ?_
      repeat (first | refine DrawO.mkF _ (And.intro rfl rfl) ?_ | refine DrawO.mkF _ (Idx.mk _ rfl (And.intro rfl rfl)) ?_)
      refine DrawO.mkF _ (And.intro (by omega) (Idx.mk _ hg (And.intro rfl rfl))) ?_
      repeat (first | refine DrawO.mkF _ (And.intro rfl rfl) ?_ | refine DrawO.mkF _ (Idx.mk _ rfl (And.intro rfl rfl)) ?_)
      refine DrawO.mkF _ (And.intro (by omega) (Idx.mk _ hg (And.intro rfl rfl))) ?_
      repeat (first | refine DrawO.mkF _ (And.intro rfl rfl) ?_ | refine DrawO.mkF _ (Idx.mk _ rfl (And.intro rfl rfl)) ?_)
      (conv => whnf)
      refine EqI.mk [.int, .int, .int] _ eqStep rfl ?_
      (conv => whnf); refine cond_i (fun h9 => ?_) (fun h9 => ?_)
      · exfalso
        simp at h9
      (conv => whnf); refine And.intro (by first | omega | (dsimp only [List.length, cond]; omega) | (show (-9223372036854775808 : Int) ≤ _ ∧ _ ≤ (9223372036854775807 : Int); omega) | decide) ?_
      (conv => whnf)
      exact ⟨l.length - (j + 1), by omega, j + 1, rfl, rfl, by omega, rfl⟩
    · exact Is2.mk rfl
theorem texts_law (l : List St3) (hr : ∀ x ∈ l, In64 x) (hl : l.length ≤ 1100000) : Ct Tryd.prog 9 [.d (.ro (l.map stD))] [] (Is2 (.d (.bool true)) []) := by
  have hW := Steps_ct l hr hl
  by_cases hall : l.all okOf = true
  · rw [if_pos hall] at hW
    by_cases hn : l.length ≤ 4096 ∧ (txt l).length ≤ 131072
    · rw [if_pos ⟨hall, hn⟩, if_pos hn] at hW
      have hR := Read_ct (txt l)
      rw [rd_txt hr hall hn.1 hn.2] at hR
      exact textsOk_ct l hr hl hall hn.1 hn.2 hW hR
    · rw [if_neg (fun h => hn h.2), if_neg hn] at hW
      exact textsFull_ct l hr hl hall hn hW
  · rw [if_neg (fun h => hall h.1), if_neg hall] at hW
    exact textsBad_ct l hr hl hall hW
end Go.Proofs.YtklfieidipobpaaDoor.Txt
