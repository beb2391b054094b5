/- Package share: what it is made of. -/
import Derived.Test.YtofkdfodehfpdaaGreatKMendRunsB
import Derived.KernelRfl
import Derived.Test.YtofkdfodehfpdaaGreatKMendRunsA
set_option linter.unusedVariables false
set_option linter.unusedSimpArgs false
set_option linter.unnecessarySimpa false
set_option linter.unusedSectionVars false
set_option linter.all false
/- Package share: what it is made of. -/
namespace Go.Proofs.YtofkdfodehfpdaaGreat
open Go.V Go.Num
open Go.Eng (wr)
set_option maxRecDepth 100000
set_option maxHeartbeats 4000000
theorem kInt : KdT Tryz.prog 3 .int := ⟨fun w => by rw [Tryz.isAgg3], _, Tryz.underlying3⟩
theorem kU64 : KdT Tryz.prog 23 .int := ⟨fun w => by rw [Tryz.isAgg23], _, Tryz.underlying23⟩
theorem eqPt : EqT Tryz.prog 60 [.int, .int] := by
  refine EqT.struct Tryz.underlying60 (by kernel_rfl) (by kernel_rfl) rfl (fun i f k h1 h2 => ?_)
  rcases i with _ | _ | i
  · cases h1; cases h2; exact ⟨by decide, rfl, kInt⟩
  · cases h1; cases h2; exact ⟨by decide, rfl, kU64⟩
  · simp at h2
def bigS (xs : List Int) : Bool := xs.any fun n => decide (2305843009213693951 ≤ n)
theorem getD_li {xs : List Int} {i : Nat} (h : i < xs.length) : xs[i]? = some (xs.getD i 0) := by
  rw [List.getD_eq_getElem?_getD, List.getElem?_eq_getElem h]; rfl
end Go.Proofs.YtofkdfodehfpdaaGreat

/- Package share: joining and fitting. -/
namespace Go.Proofs.YtofkdfodehfpdaaGreat
open Go.V Go.Num
open Go.Eng (wr)
set_option maxRecDepth 100000
set_option maxHeartbeats 4000000
theorem sound_take {ps : List (Int × Int)} (h : soundS ps = 0) {k : Nat} (h0 : 0 < k) (h1 : k ≤ ps.length) : soundS (ps.take k) = 0 := by
  obtain ⟨_, hl, ht, hs⟩ := sound_rng h
  have hlen : (ps.take k).length = k := by rw [List.length_take]; omega
  have hg : ∀ i, i < k → (ps.take k).getD i (0, 0) = ps.getD i (0, 0) := fun i hi => by
    rw [List.getD_eq_getElem?_getD, List.getElem?_take, if_pos hi, ← List.getD_eq_getElem?_getD]
  refine sound_of (by omega) (by omega) (fun i j hj hi => ?_) (fun i hi => ?_)
  · rw [hlen] at hi
    rw [hg i hi, hg j (by omega)]
    exact tw_ne ht (by omega) hj
  · rw [hlen] at hi
    rw [hg i hi]
    exact hs i (by omega)
def someE (k : Int) (ps : List (Int × Int)) : Int := if k < 1 then 1 else if 64 < k then 1 else if soundS ps ≠ 0 then soundS ps else if (ps.length : Int) < k then 12 else 0
def someC (k : Int) (ps : List (Int × Int)) : List Int := if someE k ps = 0 then thrS (ps.take k.toNat) else []
theorem someE_zero {k : Int} {ps : List (Int × Int)} (h : someE k ps = 0) : 1 ≤ k ∧ k ≤ 64 ∧ soundS ps = 0 ∧ k ≤ ps.length := by
  unfold someE at h
  split at h
  · cases h
  split at h
  · cases h
  split at h
  · contradiction
  rename_i h3
  split at h
  · cases h
  exact ⟨by omega, by omega, Decidable.of_not_not h3, by omega⟩
theorem some_ct' (k : Int) (ps : List (Int × Int)) : Ct Tryz.prog 30 [i64 k, LP ps] [] (Is2 (.tup [L (someC k ps), i64 (someE k ps)]) []) := by
  refine Ct.introF (E := E 32 0 [.tmp 4, .tmp 5] [] [] [(1000002, [.nl 4]), (1000005, [.nl 4]), (1000007, [.nl 4])]) tab_ok Tryz.call30 Tryz.func30 rfl rfl rfl rfl rfl (fun hin => ?_)
  have hl := lp_len ps
  have hb := hin.2.1.1
  (conv => whnf); refine cond_d (fun h1 => ?_) (fun h1 => ?_)
  · refine Is2.mk ?_
    have : someE k ps = 1 := by unfold someE; rw [if_pos h1]
    unfold someC; rw [this]; rfl
  (conv => whnf); refine cond_d (fun h2 => ?_) (fun h2 => ?_)
  · refine Is2.mk ?_
    have : someE k ps = 1 := by unfold someE; rw [if_neg h1, if_pos h2]
    unfold someC; rw [this]; rfl
  (conv => whnf); refine (Zero_ct ps).use ?_
  (conv => whnf); refine cond_d (fun h3 => ?_) (fun h3 => ?_)
  · refine Is2.mk ?_
    have : someE k ps = soundS ps := by unfold someE; rw [if_neg h1, if_neg h2, if_pos h3]
    unfold someC; rw [this, if_neg h3]; rfl
  have h3' : soundS ps = 0 := Decidable.of_not_not h3
  (conv => whnf); refine cond_d (fun h4 => ?_) (fun h4 => ?_)
  · refine Is2.mk ?_
    have : someE k ps = 12 := by unfold someE; rw [if_neg h1, if_neg h2, if_neg h3, if_pos (by omega)]
    unfold someC; rw [this]; rfl
  have he : someE k ps = 0 := by unfold someE; rw [if_neg h1, if_neg h2, if_neg h3, if_neg (by omega)]
  (conv => whnf); refine And.intro (by first | omega | (dsimp only [List.length, cond]; omega) | (show (-9223372036854775808 : Int) ≤ _ ∧ _ ≤ (9223372036854775807 : Int); omega) | decide) ?_
  have e : (lp ps).take k.toNat = lp (ps.take k.toNat) := List.map_take.symm
  have ht : soundS (ps.take k.toNat) = 0 := sound_take h3' (by omega) (by omega)
  have hc := Through_ct (ps.take k.toNat)
  unfold LP at hc
  rw [← e, ht] at hc
  (conv => whnf); refine (hc).use ?_
  refine Is2.mk ?_
  unfold someC; rw [he, if_pos rfl]
def joinV (k : Int) (ps : List (Int × Int)) : Int := if someE k ps = 0 then ev (someC k ps) 0 % 2305843009213693951 else 0
theorem someC_len (k : Int) (ps : List (Int × Int)) : (someC k ps).length ≤ 64 := by
  unfold someC
  split
  · rename_i h
    obtain ⟨h1, h2, h3, h4⟩ := someE_zero h
    have hs := sound_take h3 (k := k.toNat) (by omega) (by omega)
    rw [thrS_of hs]
    have := sumS_len' (ps.take k.toNat) _ (Nat.le_refl _)
    have h5 : (ps.take k.toNat).length ≤ 64 := by rw [List.length_take]; omega
    omega
  · exact Nat.zero_le _
theorem Join_ct (k : Int) (ps : List (Int × Int)) : Ct Tryz.prog 16 [i64 k, LP ps] [] (Is2 (.tup [u64 (joinV k ps), i64 (someE k ps)]) []) := by
  refine Ct.introF (E := E 19 0 [.tmp 4, .tmp 5] [] [] []) tab_ok Tryz.call16 Tryz.func16 rfl rfl rfl rfl rfl (fun hin => ?_)
  (conv => whnf); refine (some_ct' k ps).use ?_
  (conv => whnf); refine cond_d (fun h => ?_) (fun h => ?_)
  · refine Is2.mk ?_
    unfold joinV; rw [if_neg h]
  have h0 : someE k ps = 0 := Decidable.of_not_not h
  (conv => whnf); refine (At_ct (someC k ps) 0 (by have := someC_len k ps; omega)).use ?_
  refine Is2.mk ?_
  unfold joinV; rw [h0, if_pos rfl]
def offP (c : List Int) (p : Int × Int) : Bool := !decide (ev c (wr .u64 p.1) % 2305843009213693951 = p.2)
def fitsV (k : Int) (ps : List (Int × Int)) : Bool := if someE k ps = 0 then !ps.any (offP (someC k ps)) else false
theorem rJoin_ct (k : Int) (ps : List (Int × Int)) (hp : ∀ i, i < ps.length → 0 ≤ (ps.getD i (0, 0)).2) : Ct Tryz.prog 6 [i64 k, LP ps] [] (Is2 (.tup [u64 (joinV k ps), i64 (someE k ps)]) []) := by
  refine Ct.introF (E := E 30 0 [.tmp 4, .tmp 5] [] [] []) tab_ok Tryz.call6 Tryz.func6 rfl rfl rfl rfl rfl (fun hin => ?_)
  have hl := lp_len ps
  have hb := hin.2.1.1
  (conv => whnf); refine cond_d (fun h1 => ?_) (fun h1 => ?_)
  · refine Is2.mk ?_
    have : someE k ps = 1 := by unfold someE; rw [if_pos h1]
    unfold joinV; rw [this]; rfl
  (conv => whnf); refine cond_d (fun h2 => ?_) (fun h2 => ?_)
  · refine Is2.mk ?_
    have : someE k ps = 1 := by unfold someE; rw [if_neg h1, if_pos h2]
    unfold joinV; rw [this]; rfl
  (conv => whnf); refine (Points_ct ps).use ?_
  (conv => whnf); refine cond_d (fun h3 => ?_) (fun h3 => ?_)
  · (conv => whnf); refine cond_d (fun h4 => ?_) (fun h4 => ?_)
    · refine Is2.mk ?_
      have : someE k ps = 12 := by unfold someE; rw [if_neg h1, if_neg h2, if_neg (fun e => e h3), if_pos (by omega)]
      unfold joinV; rw [this]; rfl
    · have he : someE k ps = 0 := by unfold someE; rw [if_neg h1, if_neg h2, if_neg (fun e => e h3), if_neg (by omega)]
      obtain ⟨_, _, _, hs⟩ := sound_rng h3
      (conv => whnf); refine cond_n (fun e => e h3) ?_
      (conv => whnf); refine And.intro (by first | omega | (dsimp only [List.length, cond]; omega) | (show (-9223372036854775808 : Int) ≤ _ ∧ _ ≤ (9223372036854775807 : Int); omega) | decide) ?_
      have e : (lp ps).take k.toNat = lp (ps.take k.toNat) := List.map_take.symm
      have ht : soundS (ps.take k.toNat) = 0 := sound_take h3 (by omega) (by omega)
      have hg : ∀ i, i < (ps.take k.toNat).length → (ps.take k.toNat).getD i (0, 0) = ps.getD i (0, 0) := fun i hi => by
        rw [List.length_take] at hi
        rw [List.getD_eq_getElem?_getD, List.getElem?_take, if_pos (by omega), ← List.getD_eq_getElem?_getD]
      have hv := Value_ct (ps.take k.toNat) 0 (Int.le_refl _) (fun j hj => by
        rw [hg j hj]
        rw [List.length_take] at hj
        have := hs j (by omega); have := hp j (by omega); omega)
      unfold LP at hv
      rw [← e] at hv
      (conv => whnf); refine (hv).use ?_
      refine Is2.mk ?_
      unfold joinV someC; rw [he, if_pos rfl, if_pos rfl, thr_val ht]
  · (conv => whnf); refine cond_y h3 ?_
    refine Is2.mk ?_
    have : someE k ps = soundS ps := by unfold someE; rw [if_neg h1, if_neg h2, if_pos h3]
    unfold joinV; rw [this, if_neg h3]
/-! ## Shares -/
def shS (c : List Int) (n i : Nat) : List (Int × Int) := (List.range n).map fun j : Nat => if j < i then ((j : Int) + 1, ev c ((j : Int) + 1) % 2305843009213693951) else (0, 0)
theorem shS_len (c : List Int) (n i : Nat) : (shS c n i).length = n := by simp [shS]
theorem shS_all (c : List Int) (n : Nat) : shS c n n = pts c n := by
  unfold shS pts
  refine List.map_congr_left (fun j hj => ?_)
  rw [if_pos (List.mem_range.1 hj)]
theorem shS_set (c : List Int) {n i : Nat} (hi : i < n) : (shS c n i).set i ((i : Int) + 1, ev c ((i : Int) + 1) % 2305843009213693951) = shS c n (i + 1) := by
  apply List.ext_getElem?
  intro j
  unfold shS
  rw [List.getElem?_set, List.getElem?_map, List.getElem?_map, List.length_map, List.length_range]
  by_cases e : i = j
  · subst e
    rw [if_pos rfl, if_pos hi, List.getElem?_range hi, Option.map_some, if_pos (by omega)]
  · rw [if_neg e]
    rcases Nat.lt_or_ge j n with h | h
    · rw [List.getElem?_range h, Option.map_some, Option.map_some]
      by_cases e2 : j < i
      · rw [if_pos e2, if_pos (by omega)]
      · rw [if_neg e2, if_neg (by omega)]
    · rw [List.getElem?_eq_none (by simpa using h)]; rfl
def splitE (s k n : Int) (c : List Int) : Int := if n < 1 ∨ 64 < n ∨ k < 1 ∨ n < k ∨ (c.length : Int) ≠ k - 1 then 1 else if 2305843009213693951 ≤ s ∨ bigS c = true then 4 else 0
def splitS (s k n : Int) (c : List Int) : List (Int × Int) := if splitE s k n c = 0 then pts (s :: c) n.toNat else []
def shareV (s : Int) (c : List Int) (n : Int) : Int := ev (s :: c) (wr .u64 n) % 2305843009213693951
theorem Share_ct (s : Int) (c : List Int) (n : Int) (hl : c.length ≤ 100000) (hn : 0 ≤ wr .u64 n) : Ct Tryz.prog 13 [u64 s, L c, i64 n] [] (Is2 (u64 (shareV s c n)) []) := by
  refine Ct.introF (E := E 14 0 [.tmp 6] [] [] []) tab_ok Tryz.call13 Tryz.func13 rfl rfl rfl rfl rfl (fun hin => ?_)
  have hlc := li_len c
  (conv => whnf); refine And.intro ⟨by dsimp only [List.length]; omega, li_cells _⟩ ?_
  (conv => whnf); refine (rAt_ct (s :: c) (wr .u64 n) (by rw [List.length_cons]; omega) hn).use ?_
  exact isInt rfl
end Go.Proofs.YtofkdfodehfpdaaGreat

/- Package mend: points that openers tell; a seed glued. -/
namespace Go.Proofs.YtofkdfodehfpdaaGreat.Mnd
open Go.V Go.Num
open Go.Eng (wr)
open Go.Proofs.YtofkdfodehfpdaaGreat.Wrd
set_option maxRecDepth 100000
set_option maxHeartbeats 4000000
abbrev opsD (l : List Opng) : D := .ro (l.map opngD)
/-- What openers tell, ahead of more. -/
abbrev tolO (s c : D) (k : Int) (os : List Int) (gs : List (List Opng)) : V.Obj := .vec 71 [i64 k, .d (.ro (os.map (D.int .i64))), .d (.ro (gs.map opsD)), .d s, .d c]
def opP (who : Int) (own : Bool) (size : Int) (x : Opng) : Bool := decide (x.1 = who) && (decide (x.2.1 = own) && decide (((x.2.2.length : Nat) : Int) = size))
abbrev clO (who : Int) (own : Bool) (size : Int) : List V.Obj := [.vec 3 [i64 who], .vec 4 [.d (.bool own)], .vec 3 [i64 size]]
theorem isOp_ct (who : Int) (own : Bool) (size : Int) (x : Opng) : Ct Tryz.prog 84 [.d (opngD x), .ptr 0 0, .ptr 1 0, .ptr 2 0] (clO who own size) (Is2 (.d (.bool (opP who own size x))) (clO who own size)) := by
  refine Ct.introF (E := E 23 3 [.tmp 5] [] [] []) tab_ok Tryz.call84 Tryz.func84 rfl rfl rfl rfl rfl (fun hin => ?_)
  obtain ⟨x1, x2, x3⟩ := x
  have hl : (x3.map (D.int .u64)).length = x3.length := List.length_map _
  (conv => whnf); refine cond_d (fun h1 => ?_) (fun h1 => ?_)
  · (conv => whnf); refine cond_i (fun h2 => ?_) (fun h2 => ?_)
    · refine Is2.mk ?_
      have h2' : x2 = own := by simpa using h2
      unfold opP
      rw [decide_eq_true h1, decide_eq_true h2', decide_eq_decide.2 (show ((x3.length : Nat) : Int) = size ↔ (((x3.map (D.int .u64)).length : Nat) : Int) = size by rw [hl])]; rfl
    · refine Is2.mk ?_
      have h2' : ¬ x2 = own := by simpa using h2
      unfold opP
      rw [decide_eq_false (p := x2 = own) h2']; simp
  · refine Is2.mk ?_
    unfold opP
    rw [decide_eq_false h1]; rfl
theorem opsD_get {l : List Opng} {i : Nat} (h : i < l.length) : (l.map opngD)[((i : Nat) : Int).toNat]? = some (opngD (l.getD i (0, false, []))) := by
  rw [Int.toNat_natCast, List.getElem?_map, List.getD_eq_getElem?_getD, List.getElem?_eq_getElem h]; rfl
theorem any_take {α : Type} {f : α → Bool} {xs : List α} {i : Nat} {x : α} (h : xs[i]? = some x) : (xs.take (i + 1)).any f = ((xs.take i).any f || f x) := by
  rw [List.take_add_one, List.any_append, h]; simp
theorem opIdx_ct (who : Int) (own : Bool) (size : Int) (l : List Opng) : Ct Tryz.prog 83 [.d (opsD l), .fn 84 [] [.ptr 0 0, .ptr 1 0, .ptr 2 0]] (clO who own size) (fun r os => ∃ k : Int, r = i64 k ∧ os = (clO who own size) ∧ -1 ≤ k ∧ (0 ≤ k ↔ l.any (opP who own size) = true) ∧ (0 ≤ k → ∃ j : Nat, k = j ∧ j < l.length ∧ (opP who own size) (l.getD j (0, false, [])) = true ∧ (l.take j).any (opP who own size) = false)) := by
  refine Ct.introF (E := E 19 3 [.tmp 4] [] [(2, [0, 1, 7, 8])] []) tab_ok Tryz.call83 Tryz.func83 rfl rfl rfl rfl rfl (fun hin => ?_)
  have hl := len_D (l := l) (f := opngD)
  have hb := hin.1.1
  (conv => whnf); refine LoopI.mk (fun n vs os => ∃ i : Nat, vs = [.d (opsD l), .fn 84 [] [.ptr 0 0, .ptr 1 0, .ptr 2 0], i64 l.length, i64 i] ∧ os = (clO who own size) ∧ i ≤ l.length ∧ (l.take i).any (opP who own size) = false ∧ n = l.length - i) l.length ⟨0, by rw [hl]; rfl, rfl, Nat.zero_le _, rfl, rfl⟩ ?_
  rintro n _ _ ⟨i, rfl, rfl, h1, h2, rfl⟩
  (conv => whnf); refine cond_d (fun h7 => ?_) (fun h7 => ?_)
  · have hi : i < l.length := by omega
    have hg : l[i]? = some (l.getD i (0, false, [])) := by rw [List.getD_eq_getElem?_getD, List.getElem?_eq_getElem hi]; rfl
    have hs : (l.take (i + 1)).any (opP who own size) = (opP who own size) (l.getD i (0, false, [])) := by rw [any_take hg, h2]; rfl
    (conv => whnf); refine And.intro (by first | omega | (dsimp only [List.length, cond]; omega) | (show (-9223372036854775808 : Int) ≤ _ ∧ _ ≤ (9223372036854775807 : Int); omega) | decide) ?_
    (conv => whnf); refine Idx.mk _ (opsD_get hi) ?_
    (conv => whnf); refine (isOp_ct who own size (l.getD i (0, false, []))).use ?_
    (conv => whnf); refine cond_i (fun h8 => ?_) (fun h8 => ?_)
    · conv => whnf
      refine ⟨i, rfl, rfl, by omega, ⟨fun _ => ?_, fun _ => by omega⟩, fun _ => ⟨i, rfl, hi, h8, h2⟩⟩
      rw [List.any_eq_true]
      exact ⟨l.getD i (0, false, []), List.mem_of_getElem? hg, h8⟩
    · (conv => whnf); refine And.intro (by first | omega | (dsimp only [List.length, cond]; omega) | (show (-9223372036854775808 : Int) ≤ _ ∧ _ ≤ (9223372036854775807 : Int); omega) | decide) ?_
      conv => whnf
      refine ⟨l.length - (i + 1), by omega, i + 1, rfl, rfl, by omega, ?_, rfl⟩
      rw [hs]; exact h8
  · rw [List.take_of_length_le (by omega)] at h2
    exact ⟨-1, rfl, rfl, by omega, by rw [h2]; simp, fun h => by omega⟩
theorem find_some {α : Type} {p : α → Bool} {l : List α} {j : Nat} {d : α} (hj : j < l.length) (hp : p (l.getD j d) = true) (hn : (l.take j).any p = false) : l.find? p = some (l.getD j d) := by
  have e : l = l.take j ++ l.getD j d :: l.drop (j + 1) := by
    rw [List.getD_eq_getElem?_getD, List.getElem?_eq_getElem hj, Option.getD_some, ← List.drop_eq_getElem_cons hj, List.take_append_drop]
  rw [List.find?_eq_some_iff_append]
  refine ⟨hp, l.take j, l.drop (j + 1), e, fun a ha => ?_⟩
  have := List.any_eq_false.1 hn a ha
  simpa using this
theorem find_none {α : Type} {p : α → Bool} {l : List α} (h : l.any p = false) : l.find? p = none := by
  rw [List.find?_eq_none]; intro a ha
  have := List.any_eq_false.1 h a ha
  simpa using this
/-- What one opener tells. -/
def pnt (who : Int) (own : Bool) (size : Int) (k : Nat) (a : Int) (l : List Opng) : List (Int × Int) := match l.find? (opP who own size) with
  | some x => [(a, x.2.2.getD k 0)]
  | none => []
/-- What openers tell, the first so many of them. -/
def ptsN (who : Int) (own : Bool) (size : Int) (k : Nat) (os : List Int) (gs : List (List Opng)) : Nat → List (Int × Int)
  | 0 => []
  | i + 1 => ptsN who own size k os gs i ++ pnt who own size k (os.getD i 0) (gs.getD i [])
theorem ptsN_len (who : Int) (own : Bool) (size : Int) (k : Nat) (os : List Int) (gs : List (List Opng)) : ∀ i, (ptsN who own size k os gs i).length ≤ i
  | 0 => Nat.le_refl _
  | i + 1 => by
    show (ptsN who own size k os gs i ++ pnt who own size k (os.getD i 0) (gs.getD i [])).length ≤ i + 1
    have h1 := ptsN_len who own size k os gs i
    have h2 : (pnt who own size k (os.getD i 0) (gs.getD i [])).length ≤ 1 := by unfold pnt; split <;> simp
    rw [List.length_append]; omega
theorem points_ct (s c : D) (e who : Int) (own : Bool) (k : Nat) (size : Int) (os : List Int) (gs : List (List Opng)) (hk : (k : Int) < size) (hl : os.length ≤ gs.length) (hb : os.length ≤ 1000000) :
    Ct Tryz.prog 61 [.ptr 0 0, i64 who, .d (.bool own), i64 k, i64 size] [tolO s c e os gs] (Is2 (LP (ptsN who own size k os gs os.length)) [tolO s c e os gs]) := by
  refine Ct.introF (E := E 57 1 [.tmp 10] [] [(3, [0, 3, 6, 7, 9, 11, 18, 19, 20])] [(2, [.own 11 60 2]), (1000009, [.fz 10])]) tab_ok Tryz.call61 Tryz.func61 rfl rfl rfl rfl rfl (fun hin => ?_)
  have dos : (os.map (D.int .i64)).length = os.length := List.length_map _
  have dgs : (gs.map opsD).length = gs.length := List.length_map _
  (conv => whnf); refine LoopI.mk (fun q ws oss => ∃ i : Nat, ws = [.ptr 0 0, i64 k, .ptr 1 0, .ptr 2 0, .ptr 3 0, .sl 4, .d (.ro (os.map (D.int .i64))), i64 os.length, i64 i] ∧ oss = [tolO s c e os gs, .vec 3 [i64 who], .vec 4 [.d (.bool own)], .vec 3 [i64 size], .row 60 2 (lp (ptsN who own size k os gs i))] ∧ i ≤ os.length ∧ q = os.length - i) os.length ⟨0, by rw [dos]; rfl, rfl, Nat.zero_le _, rfl⟩ ?_
  rintro q _ _ ⟨i, rfl, rfl, h1, rfl⟩
  have hlp := lp_len (ptsN who own size k os gs i)
  have hpl := ptsN_len who own size k os gs i
  (conv => whnf); refine cond_d (fun h2 => ?_) (fun h2 => ?_)
  · obtain ⟨a, ha⟩ := get_some (l := os) (i := i) (by omega)
    obtain ⟨l, hl2⟩ := get_some (l := gs) (i := i) (by omega)
    have ega : os.getD i 0 = a := by rw [List.getD_eq_getElem?_getD, ha]; rfl
    have egl : gs.getD i [] = l := by rw [List.getD_eq_getElem?_getD, hl2]; rfl
    have hst : ptsN who own size k os gs (i + 1) = ptsN who own size k os gs i ++ pnt who own size k a l := by rw [← ega, ← egl]; rfl
    (conv => whnf); refine And.intro (by omega) (Idx.mk _ (map_at ha) ?_)
    (conv => whnf); refine Idx.mk _ rfl ?_
    (conv => whnf); refine And.intro (by omega) (Idx.mk _ (map_at hl2) ?_)
    (conv => whnf); refine Idx.mk _ rfl ?_
    refine (opIdx_ct who own size l).mono (fun r oss h => ?_)
    obtain ⟨j, rfl, rfl, _, hj1, hj2⟩ := h
    (conv => whnf); refine cond_d (fun h3 => ?_) (fun h3 => ?_)
    · obtain ⟨j', rfl, h4, h5, h6⟩ := hj2 h3
      obtain ⟨x, hx⟩ : ∃ x, l.getD j' (0, false, []) = x := ⟨_, rfl⟩
      have hm := opsD_get h4
      rw [hx] at hm h5
      obtain ⟨x1, x2, x3⟩ := x
      have h7 : ((x3.length : Nat) : Int) = size := by
        unfold opP at h5
        simp only [Bool.and_eq_true, decide_eq_true_eq] at h5
        exact h5.2.2
      obtain ⟨y, hy⟩ := get_some (l := x3) (i := k) (by omega)
      have hp : pnt who own size k a l = [(a, y)] := by
        unfold pnt
        rw [find_some h4 (by rw [hx]; exact h5) h6, hx]
        show [(a, x3.getD k 0)] = _
        rw [List.getD_eq_getElem?_getD, hy]; rfl
      (conv => whnf); refine And.intro (by omega) (Idx.mk _ (map_at hl2) ?_)
      (conv => whnf); refine Idx.mk _ rfl ?_
      (conv => whnf); refine And.intro (by omega) (Idx.mk _ hm ?_)
      (conv => whnf); refine Idx.mk _ rfl ?_
      (conv => whnf); refine And.intro (by omega) (Idx.mk _ (map_at hy) ?_)
      (conv => whnf); refine Idx.mk _ rfl ?_
      (conv => whnf); refine And.intro ⟨by rw [hlp]; dsimp only [List.length]; omega, fun y hy => by cases hy with | head => rfl | tail _ h => cases h⟩ ?_
      (conv => whnf); refine And.intro (by first | omega | (dsimp only [List.length, cond]; omega) | (show (-9223372036854775808 : Int) ≤ _ ∧ _ ≤ (9223372036854775807 : Int); omega) | decide) ?_
      (conv => whnf)
      refine ⟨os.length - (i + 1), by omega, i + 1, rfl, ?_, by omega, rfl⟩
      rw [hst, hp]; unfold lp; rw [List.map_append]; rfl
    · have hp : pnt who own size k a l = [] := by
        have hn : l.any (opP who own size) = false := by
          cases hv : l.any (opP who own size) with
          | false => rfl
          | true => exact absurd (hj1.2 hv) h3
        unfold pnt; rw [find_none hn]
      (conv => whnf); refine And.intro (by first | omega | (dsimp only [List.length, cond]; omega) | (show (-9223372036854775808 : Int) ≤ _ ∧ _ ≤ (9223372036854775807 : Int); omega) | decide) ?_
      (conv => whnf)
      refine ⟨os.length - (i + 1), by omega, i + 1, rfl, ?_, by omega, rfl⟩
      rw [hst, hp, List.append_nil]; rfl
  · obtain rfl : i = os.length := by omega
    exact Is2.mk rfl
end Go.Proofs.YtofkdfodehfpdaaGreat.Mnd

/- Package limb: numbers glued to a seed. -/
namespace Go.Proofs.YtofkdfodehfpdaaGreat.Mnd
open Go.V Go.Num
open Go.Eng (wr)
open Go.Proofs.YtofkdfodehfpdaaGreat.Wrd
set_option maxRecDepth 100000
set_option maxHeartbeats 4000000
def lsz (n : Nat) : Nat := min 7 (32 - 7 * n)
theorem size_ct (n : Nat) (h : n < 5) : Ct Tryz.prog 85 [i64 n] [] (Is2 (i64 (lsz n)) []) := by
  refine Ct.introF (E := E 7 0 [.tmp 2] [] [] []) tab_ok Tryz.call85 Tryz.func85 rfl rfl rfl rfl rfl (fun hin => ?_)
  (conv => whnf); refine And.intro (by first | omega | (dsimp only [List.length, cond]; omega) | (show (-9223372036854775808 : Int) ≤ _ ∧ _ ≤ (9223372036854775807 : Int); omega) | decide) ?_
  (conv => whnf); refine And.intro (by first | omega | (dsimp only [List.length, cond]; omega) | (show (-9223372036854775808 : Int) ≤ _ ∧ _ ≤ (9223372036854775807 : Int); omega) | decide) ?_
  refine isInt ?_
  show min (7 : Int) (32 - (n : Int) * 7) = _
  unfold lsz; omega
/-- So many bytes of a seed, out of numbers. -/
def gl (ls : List Int) (m : Nat) : List Int := (List.range 32).map fun j => if j < m then byt (ls.getD (j / 7) 0) (j % 7) else 0
theorem gl_len (ls : List Int) (m : Nat) : (gl ls m).length = 32 := by simp [gl]
theorem gl_at (ls : List Int) (m : Nat) {j : Nat} (h : j < 32) : (gl ls m)[j]? = some (if j < m then byt (ls.getD (j / 7) 0) (j % 7) else 0) := by
  unfold gl; rw [List.getElem?_map, List.getElem?_range h]; rfl
theorem gl_put (ls : List Int) {m : Nat} (h : m < 32) : (l8 (gl ls m)).take m ++ [D.int .u8 (byt (ls.getD (m / 7) 0) (m % 7))] ++ (l8 (gl ls m)).drop (m + 1) = l8 (gl ls (m + 1)) := by
  have hl : (l8 (gl ls m)).length = 32 := by rw [List.length_map, gl_len]
  apply List.ext_getElem?
  intro j
  by_cases hj : j < 32
  · have e2 : (l8 (gl ls (m + 1)))[j]? = some (D.int .u8 (if j < m + 1 then byt (ls.getD (j / 7) 0) (j % 7) else 0)) := by rw [List.getElem?_map, gl_at ls (m + 1) hj]; rfl
    have e1 : (l8 (gl ls m))[j]? = some (D.int .u8 (if j < m then byt (ls.getD (j / 7) 0) (j % 7) else 0)) := by rw [List.getElem?_map, gl_at ls m hj]; rfl
    rw [e2, List.append_assoc]
    by_cases h1 : j < m
    · rw [List.getElem?_append_left (by rw [List.length_take]; omega), List.getElem?_take, if_pos h1, e1, if_pos h1, if_pos (by omega)]
    · rw [List.getElem?_append_right (by rw [List.length_take]; omega), List.length_take, Nat.min_eq_left (by omega)]
      by_cases h2 : j = m
      · subst h2; rw [Nat.sub_self, if_pos (by omega)]; rfl
      · have : j - m = (j - m - 1) + 1 := by omega
        rw [this, List.singleton_append, List.getElem?_cons_succ, List.getElem?_drop, show m + 1 + (j - m - 1) = j by omega, e1, if_neg h1, if_neg (by omega)]
  · rw [List.getElem?_eq_none (by simp only [List.length_append, List.length_take, List.length_drop, List.length_singleton]; omega), List.getElem?_eq_none (by rw [List.length_map, gl_len]; omega)]
theorem byt_val {x : Int} {i : Nat} (hi : i < 7) : wr .u8 (x / 2 ^ (min (8 * (i : Int)).toNat IntKind.u64.bits)) = byt x i := by
  have e : min (8 * (i : Int)).toNat IntKind.u64.bits = 8 * i := by show min _ 64 = _; omega
  rw [e]
  unfold byt
  rw [show (256 : Int) ^ i = 2 ^ (8 * i) from by rw [Int.pow_mul]; rfl]
  simp only [wr]
/-- Do numbers fit in their places? -/
def GlOk (ls : List Int) : Prop := ls.length = 5 ∧ ∀ n, n < 5 → 0 ≤ ls.getD n 0 ∧ ls.getD n 0 < 18446744073709551616 ∧ ls.getD n 0 / 2 ^ (8 * lsz n) = 0
theorem li_get5 {ls : List Int} {n : Nat} (h : n < ls.length) : (ls.map (D.int .u64))[(((n : Nat) : Int)).toNat * 1]? = some (.int .u64 (ls.getD n 0)) := by
  rw [Nat.mul_one, Int.toNat_natCast, List.getElem?_map, List.getElem?_eq_getElem h, List.getD_eq_getElem?_getD, List.getElem?_eq_getElem h]; rfl
theorem Glue_ct (ls : List Int) (h : GlOk ls) : Ct Tryz.prog 62 [.d (.agg (ls.map (D.int .u64)))] [] (Is2 (.tup [A8 (gl ls 32), i64 0]) []) := by
  refine Ct.introF (E := E 40 0 [.cell 2 90, .tmp 3] [] [(3, [2, 4, 9, 10]), (7, [2, 4, 5, 6, 7, 9, 10, 17, 18])] []) tab_ok Tryz.call62 Tryz.func62 rfl rfl rfl rfl rfl (fun hin => ?_)
  obtain ⟨h5, hx⟩ := h
  have dls : (ls.map (D.int .u64)).length = ls.length := List.length_map _
  (conv => whnf); refine And.intro (by show (ls.map (D.int .u64)).length = 5; omega) ?_
  (conv => whnf); refine LoopI.mk (fun q ws os => ∃ i : Nat, ws = [.ptr 0 0, .ptr 1 0, .d (.agg (ls.map (D.int .u64))), i64 i] ∧ os = [.arr 90 (List.replicate 32 (.int .u8 0)), .arr 90 (l8 (gl ls (min (7 * i) 32)))] ∧ i ≤ 5 ∧ q = 5 - i) 5 ⟨0, rfl, rfl, by omega, rfl⟩ ?_
  rintro q _ _ ⟨i, rfl, rfl, h1, rfl⟩
  (conv => whnf); refine cond_d (fun h2 => ?_) (fun h2 => ?_)
  · obtain ⟨g1, g2, g3⟩ := hx i (by omega)
    have hz : lsz i ≤ 7 ∧ 7 * i + lsz i ≤ 32 ∧ 0 < lsz i := by unfold lsz; omega
    (conv => whnf); refine And.intro ⟨by omega, by omega⟩ (Idx.mk _ (li_get5 (by omega)) ?_)
    (conv => whnf); refine And.intro (by first | omega | (dsimp only [List.length, cond]; omega) | (show (-9223372036854775808 : Int) ≤ _ ∧ _ ≤ (9223372036854775807 : Int); omega) | decide) ?_
    (conv => whnf); refine (size_ct i (by omega)).use ?_
    (conv => whnf); refine LoopI.mk (fun q ws os => ∃ j : Nat, ws = [.ptr 0 0, .ptr 1 0, i64 i, .d (.int .u64 (ls.getD i 0)), i64 (7 * i : Nat), .d (.agg (ls.map (D.int .u64))), i64 i, i64 (lsz i), i64 j] ∧ os = [.arr 90 (List.replicate 32 (.int .u8 0)), .arr 90 (l8 (gl ls (7 * i + j)))] ∧ j ≤ lsz i ∧ q = lsz i - j) (lsz i) ⟨0, ?_, ?_, Nat.zero_le _, rfl⟩ ?_
    · rw [show ((7 * i : Nat) : Int) = (i : Int) * 7 by omega]; rfl
    · rw [show min (7 * i) 32 = 7 * i + 0 by omega]; rfl
    rintro q _ _ ⟨j, rfl, rfl, h3, rfl⟩
    (conv => whnf); refine cond_d (fun h4 => ?_) (fun h4 => ?_)
    · have hl8 : (l8 (gl ls (7 * i + j))).length = 32 := by rw [List.length_map, gl_len]
      (conv => whnf); refine And.intro (by first | omega | (dsimp only [List.length, cond]; omega) | (show (-9223372036854775808 : Int) ≤ _ ∧ _ ≤ (9223372036854775807 : Int); omega) | decide) ?_
      (conv => whnf); refine And.intro (by first | omega | (dsimp only [List.length, cond]; omega) | (show (-9223372036854775808 : Int) ≤ _ ∧ _ ≤ (9223372036854775807 : Int); omega) | decide) ?_
      (conv => whnf); refine And.intro (by first | omega | (dsimp only [List.length, cond]; omega) | (show (-9223372036854775808 : Int) ≤ _ ∧ _ ≤ (9223372036854775807 : Int); omega) | decide) ?_
      (conv => whnf); refine And.intro (by first | omega | (dsimp only [List.length, cond]; omega) | (show (-9223372036854775808 : Int) ≤ _ ∧ _ ≤ (9223372036854775807 : Int); omega) | decide) ?_
      (conv => whnf)
      (conv => whnf); refine And.intro ⟨rfl, by rw [hl8]; show 0 + (((7 * i : Nat) : Int) + (j : Int)).toNat * 1 + 1 ≤ 32; omega⟩ ?_
      (conv => whnf); refine And.intro (by first | omega | (dsimp only [List.length, cond]; omega) | (show (-9223372036854775808 : Int) ≤ _ ∧ _ ≤ (9223372036854775807 : Int); omega) | decide) ?_
      (conv => whnf)
      refine ⟨lsz i - (j + 1), by omega, j + 1, rfl, ?_, by omega, rfl⟩
      show [Obj.arr _ _, Obj.arr _ (setV (l8 (gl ls (7 * i + j))) (0 + (((7 * i : Nat) : Int) + (j : Int)).toNat * 1) [.int .u8 (wr .u8 (ls.getD i 0 / 2 ^ (min (8 * (j : Int)).toNat IntKind.u64.bits)))])] = _
      rw [byt_val (by omega), show 0 + (((7 * i : Nat) : Int) + (j : Int)).toNat * 1 = 7 * i + j by omega]
      have hp := gl_put ls (m := 7 * i + j) (by omega)
      rw [show (7 * i + j) / 7 = i by omega, show (7 * i + j) % 7 = j by omega] at hp
      show [Obj.arr _ _, Obj.arr _ ((l8 (gl ls (7 * i + j))).take (7 * i + j) ++ [D.int .u8 (byt (ls.getD i 0) j)] ++ (l8 (gl ls (7 * i + j))).drop (7 * i + j + 1))] = _
      rw [hp]; rfl
    · obtain rfl : j = lsz i := by omega
      (conv => whnf); refine (size_ct i (by omega)).use ?_
      (conv => whnf); refine And.intro (by first | omega | (dsimp only [List.length, cond]; omega) | (show (-9223372036854775808 : Int) ≤ _ ∧ _ ≤ (9223372036854775807 : Int); omega) | decide) ?_
      (conv => whnf); refine And.intro (by first | omega | (dsimp only [List.length, cond]; omega) | (show (-9223372036854775808 : Int) ≤ _ ∧ _ ≤ (9223372036854775807 : Int); omega) | decide) ?_
      (conv => whnf); refine cond_n ?_ ?_
      · rw [show min (8 * (lsz i : Int)).toNat IntKind.u64.bits = 8 * lsz i by show min _ 64 = _; omega]
        omega
      (conv => whnf); refine And.intro (by first | omega | (dsimp only [List.length, cond]; omega) | (show (-9223372036854775808 : Int) ≤ _ ∧ _ ≤ (9223372036854775807 : Int); omega) | decide) ?_
      (conv => whnf)
      refine ⟨5 - (i + 1), by omega, i + 1, rfl, ?_, by omega, rfl⟩
      have e : 7 * i + lsz i = min (7 * (i + 1)) 32 := by unfold lsz; omega
      rw [e]; rfl
  · obtain rfl : i = 5 := by omega
    (conv => whnf); refine And.intro (by rw [List.length_map, gl_len]) ?_
    (conv => whnf); refine And.intro ⟨?_, ?_⟩ ?_
    · show (l8 _).length = 32
      rw [List.length_map, gl_len]
    · rfl
    (conv => whnf); refine And.intro (by show (l8 _).length = 32; rw [List.length_map, gl_len]) ?_
    (conv => whnf); refine And.intro (by show (l8 _).length = 32; rw [List.length_map, gl_len]) ?_
    (conv => whnf); exact Is2.mk rfl
end Go.Proofs.YtofkdfodehfpdaaGreat.Mnd

/- Package mend: numbers, a seed. -/
namespace Go.Proofs.YtofkdfodehfpdaaGreat.Mnd
open Go.V Go.Num
open Go.Eng (wr)
open Go.Proofs.YtofkdfodehfpdaaGreat.Wrd
set_option maxRecDepth 100000
set_option maxHeartbeats 4000000
theorem Number_ct (k : Int) (ps : List (Int × Int)) : Ct Tryz.prog 5 [i64 k, LP ps] [] (Is2 (.tup [u64 (joinV k ps), i64 (someE k ps)]) []) := by
  refine Ct.introF (E := E 11 0 [.tmp 4, .tmp 5] [] [] []) tab_ok Tryz.call5 Tryz.func5 rfl rfl rfl rfl rfl (fun hin => ?_)
  (conv => whnf); refine (Join_ct k ps).use ?_
  exact Is2.mk rfl
/-- Cells that are filled one after the other. -/
def fil (f : Nat → D) (z : D) (n m : Nat) : List D := (List.range n).map fun j => if j < m then f j else z
theorem fil_len (f : Nat → D) (z : D) (n m : Nat) : (fil f z n m).length = n := by simp [fil]
theorem fil_at (f : Nat → D) (z : D) {n m j : Nat} (h : j < n) : (fil f z n m)[j]? = some (if j < m then f j else z) := by
  unfold fil; rw [List.getElem?_map, List.getElem?_range h]; rfl
theorem fil_put (f : Nat → D) (z : D) {n m : Nat} (h : m < n) : setV (fil f z n m) m [f m] = fil f z n (m + 1) := by
  have hl := fil_len f z n m
  unfold setV
  apply List.ext_getElem?
  intro j
  by_cases hj : j < n
  · rw [fil_at f z (m := m + 1) hj, List.append_assoc]
    by_cases h1 : j < m
    · rw [List.getElem?_append_left (by rw [List.length_take]; omega), List.getElem?_take, if_pos h1, fil_at f z hj, if_pos h1, if_pos (by omega)]
    · rw [List.getElem?_append_right (by rw [List.length_take]; omega), List.length_take, Nat.min_eq_left (by omega)]
      by_cases h2 : j = m
      · subst h2; rw [Nat.sub_self, if_pos (by omega)]; rfl
      · have : j - m = (j - m - 1) + 1 := by omega
        rw [this, List.singleton_append, List.getElem?_cons_succ, List.getElem?_drop]
        show (fil f z n m)[m + 1 + (j - m - 1)]? = _
        rw [show m + 1 + (j - m - 1) = j by omega, fil_at f z hj, if_neg h1, if_neg (by omega)]
  · rw [List.getElem?_eq_none (by simp only [List.length_append, List.length_take, List.length_drop, List.length_singleton]; omega), List.getElem?_eq_none (by rw [fil_len]; omega)]
/-- The numbers of a seed that openers tell. -/
def limT (e who : Int) (os : List Int) (gs : List (List Opng)) (k : Nat) : Int := joinV e (ptsN who true 5 k os gs os.length)
def limL (e who : Int) (os : List Int) (gs : List (List Opng)) : List Int := (List.range 5).map (limT e who os gs)
theorem seed_ct (s c : D) (e who : Int) (os : List Int) (gs : List (List Opng)) (hl : os.length ≤ gs.length) (hb : os.length ≤ 1000000)
    (h0 : ∀ k, k < 5 → someE e (ptsN who true 5 k os gs os.length) = 0) (hg : GlOk (limL e who os gs)) :
    Ct Tryz.prog 46 [.ptr 0 0, i64 who] [tolO s c e os gs] (Is2 (.tup [A8 (gl (limL e who os gs) 32), i64 0]) [tolO s c e os gs]) := by
  refine Ct.introF (E := E 37 1 [.cell 4 90, .tmp 5] [] [(3, [0, 1, 4, 6, 10])] []) tab_ok Tryz.call46 Tryz.func46 rfl rfl rfl rfl rfl (fun hin => ?_)
  have hz := h0
  (conv => whnf); refine LoopI.mk (fun q ws oss => ∃ i : Nat, ws = [.ptr 0 0, i64 who, .ptr 1 0, .ptr 2 0, i64 i] ∧ oss = [tolO s c e os gs, .arr 90 (List.replicate 32 (.int .u8 0)), .arr 51 (fil (fun k => .int .u64 (limT e who os gs k)) (.int .u64 0) 5 i)] ∧ i ≤ 5 ∧ q = 5 - i) 5 ⟨0, rfl, rfl, Nat.zero_le _, rfl⟩ ?_
  rintro q _ _ ⟨i, rfl, rfl, h1, rfl⟩
  (conv => whnf); refine cond_d (fun h2 => ?_) (fun h2 => ?_)
  · (conv => whnf); refine DrawI.mkF 13 [[0], [14], [15], [16], [0], [1], [7], [18, 19, 20], [17, 21], [22], [13], [13], [23]] (by decide +kernel) ?_
    repeat (first | refine DrawO.mkF _ (And.intro rfl rfl) ?_ | refine DrawO.mkF _ (Idx.mk _ rfl (And.intro rfl rfl)) ?_)
    refine DrawO.mkF _ ((points_ct s c e who true i 5 os gs (by omega) hl hb).use (And.intro rfl rfl)) ?_
    repeat (first | refine DrawO.mkF _ (And.intro rfl rfl) ?_ | refine DrawO.mkF _ (Idx.mk _ rfl (And.intro rfl rfl)) ?_)
    refine DrawO.mkF _ ((Number_ct e (ptsN who true 5 i os gs os.length)).use (And.intro rfl rfl)) ?_
    repeat (first | refine DrawO.mkF _ (And.intro rfl rfl) ?_ | refine DrawO.mkF _ (Idx.mk _ rfl (And.intro rfl rfl)) ?_)
    (conv => whnf); refine cond_n (fun hh => hh (h0 i (by omega))) ?_
    (conv => whnf); refine And.intro (by first | omega | (dsimp only [List.length, cond]; omega) | (show (-9223372036854775808 : Int) ≤ _ ∧ _ ≤ (9223372036854775807 : Int); omega) | decide) ?_
    (conv => whnf)
    (conv => whnf); refine And.intro ⟨rfl, by rw [fil_len]; show 0 + (i : Int).toNat * 1 + 1 ≤ 5; omega⟩ ?_
    (conv => whnf); refine And.intro (by first | omega | (dsimp only [List.length, cond]; omega) | (show (-9223372036854775808 : Int) ≤ _ ∧ _ ≤ (9223372036854775807 : Int); omega) | decide) ?_
    (conv => whnf)
    refine ⟨5 - (i + 1), by omega, i + 1, rfl, ?_, by omega, rfl⟩
    have hp := fil_put (fun k => D.int .u64 (limT e who os gs k)) (.int .u64 0) (n := 5) (m := i) (by omega)
    show [_, _, Obj.arr _ (setV (fil (fun k => D.int .u64 (limT e who os gs k)) (.int .u64 0) 5 i) (0 + (i : Int).toNat * 1) [D.int .u64 (limT e who os gs i)])] = _
    rw [show 0 + (i : Int).toNat * 1 = i by omega, hp]; rfl
  · obtain rfl : i = 5 := by omega
    have hf : fil (fun k => D.int .u64 (limT e who os gs k)) (.int .u64 0) 5 5 = (limL e who os gs).map (D.int .u64) := rfl
    rw [hf]
    (conv => whnf); refine And.intro (by show _ = 5; rw [List.length_map]; exact hg.1) ?_
    (conv => whnf); refine (Glue_ct _ hg).use ?_
    (conv => whnf); refine And.intro ⟨by show (l8 _).length = 32; rw [List.length_map, gl_len], rfl⟩ ?_
    (conv => whnf); refine And.intro (by show (l8 _).length = 32; rw [List.length_map, gl_len]) ?_
    (conv => whnf); refine And.intro (by show (l8 _).length = 32; rw [List.length_map, gl_len]) ?_
    (conv => whnf); exact Is2.mk rfl
end Go.Proofs.YtofkdfodehfpdaaGreat.Mnd

/- Package mend: a key. -/
namespace Go.Proofs.YtofkdfodehfpdaaGreat.Mnd
open Go.V Go.Num
open Go.Eng (wr)
open Go.Proofs.YtofkdfodehfpdaaGreat.Wrd
open Go.Proofs.YtofkdfodehfpdaaGreat.Ring
set_option maxRecDepth 100000
set_option maxHeartbeats 4000000
theorem Public_ct (n : Int) (hn : 1 ≤ n ∧ n ≤ 2305843009213693949) : Ct Tryz.prog 66 [u64 n] [] (Is2 (.tup [u64 (pw 37 n.toNat), i64 0]) []) := by
  refine Ct.introF (E := E 11 0 [.tmp 2, .tmp 3] [] [] []) tab_ok Tryz.call66 Tryz.func66 rfl rfl rfl rfl rfl (fun hin => ?_)
  (conv => whnf); refine (gSound_ct n).use ?_
  (conv => whnf); refine cond_nd (fun h => absurd hn h) (fun _ => ?_)
  (conv => whnf); refine (of_ct n 37 ⟨by omega, by omega⟩).use ?_
  exact Is2.mk rfl
/-- The secret number of one who is gone. -/
def keyT (e who : Int) (os : List Int) (gs : List (List Opng)) : Int := joinV e (ptsN who false 1 0 os gs os.length)
theorem key_ct (s d : D) (e : Int) (c : Cd) (os : List Int) (gs : List (List Opng)) (hl : os.length ≤ gs.length) (hb : os.length ≤ 1000000)
    (h0 : someE e (ptsN c.1 false 1 0 os gs os.length) = 0) (hn : 1 ≤ keyT e c.1 os gs ∧ keyT e c.1 os gs ≤ 2305843009213693949) (hk : pw 37 (keyT e c.1 os gs).toNat = c.2.2) :
    Ct Tryz.prog 49 [.ptr 0 0, .d (cdD c)] [tolO s d e os gs] (Is2 (.tup [u64 (keyT e c.1 os gs), i64 0]) [tolO s d e os gs]) := by
  refine Ct.introF (E := E 39 1 [.tmp 4, .tmp 5] [] [] []) tab_ok Tryz.call49 Tryz.func49 rfl rfl rfl rfl rfl (fun hin => ?_)
  obtain ⟨c1, c2, c3⟩ := c
  (conv => whnf); refine DrawI.mkF 13 [[0], [11], [12], [13], [0], [3], [16], [15, 17], [14, 18], [19], [10], [10], [20]] (by decide +kernel) ?_
  repeat (first | refine DrawO.mkF _ (And.intro rfl rfl) ?_ | refine DrawO.mkF _ (Idx.mk _ rfl (And.intro rfl rfl)) ?_)
  refine DrawO.mkF _ ((points_ct s d e c1 false 0 1 os gs (by omega) hl hb).use (And.intro rfl rfl)) ?_
  repeat (first | refine DrawO.mkF _ (And.intro rfl rfl) ?_ | refine DrawO.mkF _ (Idx.mk _ rfl (And.intro rfl rfl)) ?_)
  refine DrawO.mkF _ ((Number_ct e (ptsN c1 false 1 0 os gs os.length)).use (And.intro rfl rfl)) ?_
  repeat (first | refine DrawO.mkF _ (And.intro rfl rfl) ?_ | refine DrawO.mkF _ (Idx.mk _ rfl (And.intro rfl rfl)) ?_)
  (conv => whnf); refine cond_n (fun hh => hh h0) ?_
  (conv => whnf); refine (Public_ct _ hn).use ?_
  (conv => whnf); refine cond_n (fun hh => hh hk) ?_
  exact Is2.mk rfl
/-- A sum from which masks are taken. -/
abbrev wkO (e : Int) (os : List Int) (gs : List (List Opng)) (v : List Int) (cs : List Cd) : V.Obj := tolO (.ro (l32 v)) (.ro (lc cs)) e os gs
theorem Left_ok {who s : Int} {cs : List Cd} {v : List Int} (h : hideE who v.length s cs = 0) : Ct Tryz.prog 50 [i64 who, u64 s, LC cs, i64 (l32 v).length] [] (Is2 (.tup [R32 (leftV who s cs v.length true), i64 0]) []) := by
  have e : (l32 v).length = v.length := List.length_map _
  have := Left_ct who s cs ((l32 v).length : Int)
  rw [e, h] at this
  rw [e]; exact this
theorem Sub_ok {a b : List Int} (ha : a.length ≤ 1000000) (h : b.length = a.length) : Ct Tryz.prog 47 [R32 a, R32 b] [] (Is2 (.tup [R32 (subV a b), i64 0]) []) := by
  have := Ring.Sub_ct a b ha
  rw [if_pos h.symm, if_pos h.symm] at this; exact this
theorem Own_ok {s : List Int} (v : List Int) (hs : s.length = 32) : Ct Tryz.prog 48 [A8 s, i64 (l32 v).length] [] (Is2 (R32 (vecL s 4 v.length)) []) := by
  have e : (l32 v).length = v.length := List.length_map _
  rw [e]; exact Own_ct s v.length hs
theorem gave_ct (e : Int) (c : Cd) (os : List Int) (gs : List (List Opng)) (v : List Int) (cs : List Cd) (hl : os.length ≤ gs.length) (hb : os.length ≤ 1000000) (hv : v.length ≤ 256)
    (h0 : ∀ k, k < 5 → someE e (ptsN c.1 true 5 k os gs os.length) = 0) (hg : GlOk (limL e c.1 os gs)) :
    Ct Tryz.prog 28 [.ptr 0 0, .d (cdD c)] [wkO e os gs v cs] (Is2 (i64 0) [wkO e os gs (subV v (vecL (gl (limL e c.1 os gs) 32) 4 v.length)) cs]) := by
  refine Ct.introF (E := E 38 1 [.tmp 4] [] [] []) tab_ok Tryz.call28 Tryz.func28 rfl rfl rfl rfl rfl (fun hin => ?_)
  have hv8 : (l32 v).length = v.length := List.length_map _
  (conv => whnf); refine DrawI.mixF [⟨[(0, true, [0]), (1, true, [8]), (2, true, [9]), (3, true, [3]), (4, true, [11]), (9, true, [])], [], some (5, [10, 12])⟩, ⟨[(6, true, [13]), (7, true, [7]), (8, true, [7]), (9, false, [])], [9], some (10, [5, 14])⟩, ⟨[(8, false, [7])], [], some (11, [15])⟩, ⟨[], [], none⟩] [9] (by decide +kernel) ?_
  repeat (first | refine DrawO.mkF _ (And.intro rfl rfl) ?_ | refine DrawO.mkF _ (Idx.mk _ rfl (And.intro rfl rfl)) ?_ | refine And.intro rfl ?_)
  refine DrawN.mkF (.arr 90 (List.replicate 32 (.int .u8 0))) rfl (And.intro rfl rfl) ?_
  repeat (first | refine DrawO.mkF _ (And.intro rfl rfl) ?_ | refine DrawO.mkF _ (Idx.mk _ rfl (And.intro rfl rfl)) ?_ | refine And.intro rfl ?_)
  (conv => whnf); refine (seed_ct (.ro (l32 v)) (.ro (lc cs)) e c.1 os gs hl hb h0 hg).use ?_
  repeat (first | refine DrawO.mkF _ (And.intro rfl rfl) ?_ | refine DrawO.mkF _ (Idx.mk _ rfl (And.intro rfl rfl)) ?_ | refine And.intro rfl ?_)
  refine DrawN.mkF _ rfl (And.intro rfl rfl) ?_
  repeat (first | refine DrawO.mkF _ (And.intro rfl rfl) ?_ | refine DrawO.mkF _ (Idx.mk _ rfl (And.intro rfl rfl)) ?_ | refine And.intro rfl ?_)
  (conv => whnf); refine And.intro ⟨?_, ?_⟩ ?_
  · show (l8 _).length = 32
    rw [List.length_map, gl_len]
  · rfl
  repeat (first | refine DrawO.mkF _ (And.intro rfl rfl) ?_ | refine DrawO.mkF _ (Idx.mk _ rfl (And.intro rfl rfl)) ?_ | refine And.intro rfl ?_)
  (conv => whnf)
  (conv => whnf); refine DrawI.mkTF 14 [[0], [0], [21], [22], [23], [5], [0], [26], [27], [28], [29], [25, 30], [24, 31], [32]] [(14, 33, 19), (15, 34, 19), (16, 35, 20)] (by decide +kernel) ?_
  repeat (first | refine DrawO.mkF _ (And.intro rfl rfl) ?_ | refine DrawO.mkF _ (Idx.mk _ rfl (And.intro rfl rfl)) ?_)
  refine DrawO.mkF _ (And.intro (by show (l8 _).length = 32; rw [List.length_map, gl_len]) (And.intro rfl rfl)) ?_
  repeat (first | refine DrawO.mkF _ (And.intro rfl rfl) ?_ | refine DrawO.mkF _ (Idx.mk _ rfl (And.intro rfl rfl)) ?_)
  refine DrawO.mkF _ ((Own_ok (s := gl (limL e c.1 os gs) 32) v (gl_len _ _)).use (And.intro rfl rfl)) ?_
  repeat (first | refine DrawO.mkF _ (And.intro rfl rfl) ?_ | refine DrawO.mkF _ (Idx.mk _ rfl (And.intro rfl rfl)) ?_)
  refine DrawO.mkF _ ((Sub_ok (a := v) (b := vecL (gl (limL e c.1 os gs) 32) 4 v.length) (by omega) (by rw [vecL_len]; exact clampV (by omega))).use (And.intro rfl rfl)) ?_
  repeat (first | refine DrawO.mkF _ (And.intro rfl rfl) ?_ | refine DrawO.mkF _ (Idx.mk _ rfl (And.intro rfl rfl)) ?_)
  exact Is2.mk rfl
theorem gone_ct (e : Int) (c : Cd) (os : List Int) (gs : List (List Opng)) (v : List Int) (cs : List Cd) (hl : os.length ≤ gs.length) (hb : os.length ≤ 1000000) (hv : v.length ≤ 256)
    (h0 : someE e (ptsN c.1 false 1 0 os gs os.length) = 0) (hn : 1 ≤ keyT e c.1 os gs ∧ keyT e c.1 os gs ≤ 2305843009213693949) (hk : pw 37 (keyT e c.1 os gs).toNat = c.2.2)
    (he : hideE c.1 v.length (keyT e c.1 os gs) cs = 0) :
    Ct Tryz.prog 29 [.ptr 0 0, .d (cdD c)] [wkO e os gs v cs] (Is2 (i64 0) [wkO e os gs (subV v (leftV c.1 (keyT e c.1 os gs) cs v.length true)) cs]) := by
  refine Ct.introF (E := E 51 1 [.tmp 4] [] [] []) tab_ok Tryz.call29 Tryz.func29 rfl rfl rfl rfl rfl (fun hin => ?_)
  have hv8 : (l32 v).length = v.length := List.length_map _
  (conv => whnf); refine DrawI.mkF 9 [[0], [9], [10], [3], [11, 12], [13], [8], [8], [14]] (by decide +kernel) ?_
  repeat (first | refine DrawO.mkF _ (And.intro rfl rfl) ?_ | refine DrawO.mkF _ (Idx.mk _ rfl (And.intro rfl rfl)) ?_)
  refine DrawO.mkF _ ((key_ct (.ro (l32 v)) (.ro (lc cs)) e c os gs hl hb h0 hn hk).use (And.intro rfl rfl)) ?_
  repeat (first | refine DrawO.mkF _ (And.intro rfl rfl) ?_ | refine DrawO.mkF _ (Idx.mk _ rfl (And.intro rfl rfl)) ?_)
  (conv => whnf)
  (conv => whnf); refine DrawI.mkF 17 [[3], [20], [5], [0], [23], [24], [25], [0], [27], [28], [29], [30], [21, 22, 26, 31], [32], [19], [19], [33]] (by decide +kernel) ?_
  repeat (first | refine DrawO.mkF _ (And.intro rfl rfl) ?_ | refine DrawO.mkF _ (Idx.mk _ rfl (And.intro rfl rfl)) ?_)
  refine DrawO.mkF _ ((Left_ok he).use (And.intro rfl rfl)) ?_
  repeat (first | refine DrawO.mkF _ (And.intro rfl rfl) ?_ | refine DrawO.mkF _ (Idx.mk _ rfl (And.intro rfl rfl)) ?_)
  (conv => whnf); refine (Sub_ok (by omega) (by rw [leftV_len])).use ?_
  exact Is2.mk rfl
end Go.Proofs.YtofkdfodehfpdaaGreat.Mnd

/- Package mend: what fits. -/
namespace Go.Proofs.YtofkdfodehfpdaaGreat.Mnd
open Go.V Go.Num
open Go.Eng (wr)
open Go.Proofs.YtofkdfodehfpdaaGreat.Wrd
open Go.Proofs.YtofkdfodehfpdaaGreat.Ring
set_option maxRecDepth 100000
set_option maxHeartbeats 4000000
abbrev lI (l : List Int) : List D := l.map (D.int .i64)
abbrev LI (l : List Int) : AV := .d (.ro (lI l))
theorem lI_len (l : List Int) : (lI l).length = l.length := List.length_map _
theorem lI_get {l : List Int} {i : Nat} (h : i < l.length) : (lI l)[((i : Nat) : Int).toNat]? = some (.int .i64 (l.getD i 0)) := by
  rw [Int.toNat_natCast, List.getElem?_map, List.getD_eq_getElem?_getD, List.getElem?_eq_getElem h]; rfl
theorem iIdx_ct (l : List Int) (n : Int) : Ct Tryz.prog 45 [LI l, i64 n] [] (fun r os => ∃ k : Int, r = i64 k ∧ os = [] ∧ (0 ≤ k ↔ l.contains n = true)) := by
  refine Ct.introF (E := E 19 0 [.tmp 4] [] [(2, [0, 1, 7, 8])] []) tab_ok Tryz.call45 Tryz.func45 rfl rfl rfl rfl rfl (fun hin => ?_)
  have hl := lI_len l
  have hb := hin.1.1
  (conv => whnf); refine LoopI.mk (fun q vs os => ∃ i : Nat, vs = [LI l, i64 n, i64 l.length, i64 i] ∧ os = [] ∧ i ≤ l.length ∧ (l.take i).contains n = false ∧ q = l.length - i) l.length ⟨0, by rw [hl]; rfl, rfl, Nat.zero_le _, rfl, rfl⟩ ?_
  rintro q _ _ ⟨i, rfl, rfl, h1, h2, rfl⟩
  (conv => whnf); refine cond_d (fun h7 => ?_) (fun h7 => ?_)
  · have hi : i < l.length := by omega
    have hg : l[i]? = some (l.getD i 0) := by rw [List.getD_eq_getElem?_getD, List.getElem?_eq_getElem hi]; rfl
    (conv => whnf); refine And.intro (by first | omega | (dsimp only [List.length, cond]; omega) | (show (-9223372036854775808 : Int) ≤ _ ∧ _ ≤ (9223372036854775807 : Int); omega) | decide) ?_
    (conv => whnf); refine Idx.mk _ (lI_get hi) ?_
    (conv => whnf); refine Idx.mk _ rfl ?_
    (conv => whnf); refine cond_d (fun h8 => ?_) (fun h8 => ?_)
    · conv => whnf
      refine ⟨i, rfl, rfl, ⟨fun _ => ?_, fun _ => by omega⟩⟩
      rw [h8]
      exact List.contains_iff_mem.2 (List.mem_of_getElem? hg)
    · (conv => whnf); refine And.intro (by first | omega | (dsimp only [List.length, cond]; omega) | (show (-9223372036854775808 : Int) ≤ _ ∧ _ ≤ (9223372036854775807 : Int); omega) | decide) ?_
      conv => whnf
      refine ⟨l.length - (i + 1), by omega, i + 1, rfl, rfl, by omega, ?_, rfl⟩
      rw [List.take_add_one, hg]
      cases hc : ((l.take i) ++ (some (l.getD i 0)).toList).contains n with
      | false => rfl
      | true =>
        have := List.contains_iff_mem.1 hc
        rcases List.mem_append.1 this with h3 | h3
        · rw [List.contains_iff_mem.2 h3] at h2; cases h2
        · simp only [Option.toList_some, List.mem_singleton] at h3
          exact absurd h3 h8
  · rw [List.take_of_length_le (by omega)] at h2
    exact ⟨-1, rfl, rfl, by rw [h2]; simp⟩
theorem iHas_ct (l : List Int) (n : Int) : Ct Tryz.prog 27 [LI l, i64 n] [] (Is2 (.d (.bool (l.contains n))) []) := by
  refine Ct.introF (E := E 9 0 [.tmp 4] [] [] []) tab_ok Tryz.call27 Tryz.func27 rfl rfl rfl rfl rfl (fun hin => ?_)
  refine (iIdx_ct l n).mono (fun r os h => ?_)
  obtain ⟨k, rfl, rfl, hk⟩ := h
  conv => whnf
  refine ⟨?_, rfl⟩
  have : decide (0 ≤ k) = l.contains n := by
    cases h : l.contains n with
    | true => exact decide_eq_true (hk.2 h)
    | false => exact decide_eq_false (fun h2 => by rw [hk.1 h2] at h; cases h)
  rw [← this]
theorem notIn_ct (b : List Int) (n : Int) : Ct Tryz.prog 59 [i64 n, .ptr 0 0] [.vec 33 [LI b]] (Is2 (.d (.bool (!b.contains n))) [.vec 33 [LI b]]) := by
  refine Ct.introF (E := E 8 1 [.tmp 3] [] [] []) tab_ok Tryz.call59 Tryz.func59 rfl rfl rfl rfl rfl (fun hin => ?_)
  (conv => whnf); refine (iHas_ct b n).use ?_
  exact Is2.mk rfl
theorem wthIdx_ct (b : List Int) (a : List Int) : Ct Tryz.prog 82 [LI a, .fn 59 [] [.ptr 0 0]] [V.Obj.vec 33 [LI b]] (fun r os => ∃ k : Int, r = i64 k ∧ os = [V.Obj.vec 33 [LI b]] ∧ -1 ≤ k ∧ (0 ≤ k ↔ a.any (fun n => !b.contains n) = true) ∧ (0 ≤ k → ∃ j : Nat, k = j ∧ j < a.length ∧ (fun n => !b.contains n) (a.getD j 0) = true ∧ (a.take j).any (fun n => !b.contains n) = false)) := by
  refine Ct.introF (E := E 19 1 [.tmp 4] [] [(2, [0, 1, 7, 8])] []) tab_ok Tryz.call82 Tryz.func82 rfl rfl rfl rfl rfl (fun hin => ?_)
  have hl := lI_len a
  have hb := hin.1.1
  (conv => whnf); refine LoopI.mk (fun n vs os => ∃ i : Nat, vs = [LI a, .fn 59 [] [.ptr 0 0], i64 a.length, i64 i] ∧ os = [V.Obj.vec 33 [LI b]] ∧ i ≤ a.length ∧ (a.take i).any (fun n => !b.contains n) = false ∧ n = a.length - i) a.length ⟨0, by rw [hl]; rfl, rfl, Nat.zero_le _, rfl, rfl⟩ ?_
  rintro n _ _ ⟨i, rfl, rfl, h1, h2, rfl⟩
  (conv => whnf); refine cond_d (fun h7 => ?_) (fun h7 => ?_)
  · have hi : i < a.length := by omega
    have hg : a[i]? = some (a.getD i 0) := by rw [List.getD_eq_getElem?_getD, List.getElem?_eq_getElem hi]; rfl
    have hs : (a.take (i + 1)).any (fun n => !b.contains n) = (fun n => !b.contains n) (a.getD i 0) := by rw [any_take hg, h2]; rfl
    (conv => whnf); refine And.intro (by first | omega | (dsimp only [List.length, cond]; omega) | (show (-9223372036854775808 : Int) ≤ _ ∧ _ ≤ (9223372036854775807 : Int); omega) | decide) ?_
    (conv => whnf); refine Idx.mk _ (lI_get hi) ?_; try ((conv => whnf); refine Idx.mk _ rfl ?_)
    (conv => whnf); refine (notIn_ct b (a.getD i 0)).use ?_
    (conv => whnf); refine cond_i (fun h8 => ?_) (fun h8 => ?_)
    · conv => whnf
      refine ⟨i, rfl, rfl, by omega, ⟨fun _ => ?_, fun _ => by omega⟩, fun _ => ⟨i, rfl, hi, h8, h2⟩⟩
      rw [List.any_eq_true]
      exact ⟨a.getD i 0, List.mem_of_getElem? hg, h8⟩
    · (conv => whnf); refine And.intro (by first | omega | (dsimp only [List.length, cond]; omega) | (show (-9223372036854775808 : Int) ≤ _ ∧ _ ≤ (9223372036854775807 : Int); omega) | decide) ?_
      conv => whnf
      refine ⟨a.length - (i + 1), by omega, i + 1, rfl, rfl, by omega, ?_, rfl⟩
      rw [hs]; exact h8
  · rw [List.take_of_length_le (by omega)] at h2
    exact ⟨-1, rfl, rfl, by omega, by rw [h2]; simp, fun h => by omega⟩
theorem wth_ct (b : List Int) (a : List Int) : Ct Tryz.prog 58 [LI a, .fn 59 [] [.ptr 0 0]] [V.Obj.vec 33 [LI b]] (Is2 (.d (.bool (a.any (fun n => !b.contains n)))) [V.Obj.vec 33 [LI b]]) := by
  refine Ct.introF (E := E 9 1 [.tmp 4] [] [] []) tab_ok Tryz.call58 Tryz.func58 rfl rfl rfl rfl rfl (fun hin => ?_)
  refine (wthIdx_ct b a).mono (fun r os h => ?_)
  obtain ⟨k, rfl, rfl, _, hk, _⟩ := h
  conv => whnf
  refine ⟨?_, rfl⟩
  have : decide (0 ≤ k) = a.any (fun n => !b.contains n) := by
    cases h : a.any (fun n => !b.contains n) with
    | true => exact decide_eq_true (hk.2 h)
    | false => exact decide_eq_false (fun h2 => by rw [hk.1 h2] at h; cases h)
  rw [← this]

def subB (a b : List Int) : Bool := !a.any fun n => !b.contains n
theorem within_ct (a b : List Int) : Ct Tryz.prog 41 [LI a, LI b] [] (Is2 (.d (.bool (subB a b))) []) := by
  refine Ct.introF (E := E 9 0 [.tmp 4] [] [] []) tab_ok Tryz.call41 Tryz.func41 rfl rfl rfl rfl rfl (fun hin => ?_)
  (conv => whnf); refine (wth_ct b a).use ?_
  exact Is2.mk rfl
/-- Does each number stand above the one ahead? -/
def risN (l : List Int) : Nat → Bool
  | 0 => true
  | k + 1 => risN l k && decide (l.getD k 0 < l.getD (k + 1) 0)
def risB (l : List Int) : Bool := risN l (l.length - 1)
theorem risN_false (l : List Int) {i : Nat} : ∀ k, i ≤ k → risN l i = false → risN l k = false
  | 0, h, hf => by obtain rfl : i = 0 := by omega
                   exact hf
  | k + 1, h, hf => by
    by_cases hk : i ≤ k
    · show (risN l k && _) = false
      rw [risN_false l k hk hf]; rfl
    · obtain rfl : i = k + 1 := by omega
      exact hf
theorem rising_ct (l : List Int) : Ct Tryz.prog 40 [LI l] [] (Is2 (.d (.bool (risB l))) []) := by
  refine Ct.introF (E := E 20 0 [.tmp 2] [] [(2, [0, 3])] []) tab_ok Tryz.call40 Tryz.func40 rfl rfl rfl rfl rfl (fun hin => ?_)
  have hl := lI_len l
  have hb := hin.1.1
  (conv => whnf); refine LoopI.mk (fun q vs os => ∃ i : Nat, vs = [LI l, i64 ((i : Int) + 1)] ∧ os = [] ∧ i ≤ l.length - 1 ∧ risN l i = true ∧ q = l.length - i) l.length ⟨0, rfl, rfl, by omega, rfl, rfl⟩ ?_
  rintro q _ _ ⟨i, rfl, rfl, h1, h2, rfl⟩
  (conv => whnf); refine cond_d (fun h3 => ?_) (fun h3 => ?_)
  · have g1 : (lI l)[((i : Int) + 1).toNat]? = some (.int .i64 (l.getD (i + 1) 0)) := lI_get (l := l) (i := i + 1) (by omega)
    have g2 : (lI l)[((i : Int) + 1 - 1).toNat]? = some (.int .i64 (l.getD i 0)) := by
      rw [show (i : Int) + 1 - 1 = (i : Nat) by omega]; exact lI_get (l := l) (i := i) (by omega)
    (conv => whnf); refine DrawI.mkF 9 [[0], [3], [10, 11], [12], [0], [3], [15], [14, 16], [17]] (by decide +kernel) ?_
    repeat (first | refine DrawO.mkF _ (And.intro rfl rfl) ?_ | refine DrawO.mkF _ (Idx.mk _ rfl (And.intro rfl rfl)) ?_)
    refine DrawO.mkF _ (And.intro (by omega) (Idx.mk _ g1 (And.intro rfl rfl))) ?_
    repeat (first | refine DrawO.mkF _ (And.intro rfl rfl) ?_ | refine DrawO.mkF _ (Idx.mk _ rfl (And.intro rfl rfl)) ?_)
    refine DrawO.mkF _ (And.intro (by first | omega | (dsimp only [List.length, cond]; omega) | decide) (And.intro rfl rfl)) ?_
    refine DrawO.mkF _ (And.intro (by omega) (Idx.mk _ g2 (And.intro rfl rfl))) ?_
    repeat (first | refine DrawO.mkF _ (And.intro rfl rfl) ?_ | refine DrawO.mkF _ (Idx.mk _ rfl (And.intro rfl rfl)) ?_)
    (conv => whnf); refine cond_d (fun h4 => ?_) (fun h4 => ?_)
    · refine Is2.mk ?_
      have : risN l (i + 1) = false := by
        show (risN l i && decide (l.getD i 0 < l.getD (i + 1) 0)) = false
        rw [decide_eq_false (by omega), Bool.and_false]
      unfold risB
      rw [risN_false l (l.length - 1) (by omega) this]
    · (conv => whnf); refine And.intro (by first | omega | (dsimp only [List.length, cond]; omega) | (show (-9223372036854775808 : Int) ≤ _ ∧ _ ≤ (9223372036854775807 : Int); omega) | decide) ?_
      (conv => whnf)
      refine ⟨l.length - (i + 1), by omega, i + 1, rfl, rfl, by omega, ?_, rfl⟩
      show (risN l i && decide (l.getD i 0 < l.getD (i + 1) 0)) = true
      rw [h2, decide_eq_true (by omega)]; rfl
  · refine Is2.mk ?_
    have e : i = l.length - 1 := by omega
    unfold risB
    rw [← e, h2]
abbrev gfD (g : List Int) : D := .ro (l32 g)
abbrev GF (gs : List (List Int)) : AV := .d (.ro (gs.map gfD))
theorem gf_len (gs : List (List Int)) : (gs.map gfD).length = gs.length := List.length_map _
theorem gf_get {gs : List (List Int)} {i : Nat} (h : i < gs.length) : (gs.map gfD)[((i : Nat) : Int).toNat]? = some (gfD (gs.getD i [])) := by
  rw [Int.toNat_natCast, List.getElem?_map, List.getD_eq_getElem?_getD, List.getElem?_eq_getElem h]; rfl
/-- Is a gift of another size than the first, or too great? -/
def badG (gs : List (List Int)) (v : List Int) : Bool := decide (v.length ≠ (gs.getD 0 []).length) || decide (256 < v.length)
theorem badG_ct (gs : List (List Int)) (v : List Int) (h : 0 < gs.length) : Ct Tryz.prog 43 [.d (gfD v), .ptr 0 0] [.vec 34 [GF gs]] (Is2 (.d (.bool (badG gs v))) [.vec 34 [GF gs]]) := by
  refine Ct.introF (E := E 16 1 [.tmp 3] [] [] []) tab_ok Tryz.call43 Tryz.func43 rfl rfl rfl rfl rfl (fun hin => ?_)
  have hv : (l32 v).length = v.length := List.length_map _
  have h0 : (l32 (gs.getD 0 [])).length = (gs.getD 0 []).length := List.length_map _
  have hg := gf_get (gs := gs) (i := 0) h
  (conv => whnf); refine And.intro (by show (0 : Int) ≤ 0; decide) (Idx.mk _ hg ?_)
  (conv => whnf); refine Idx.mk _ rfl ?_
  (conv => whnf); refine cond_d (fun h1 => ?_) (fun h1 => ?_)
  · refine Is2.mk ?_
    have : v.length ≠ (gs.getD 0 []).length := by omega
    unfold badG
    rw [decide_eq_true this]; rfl
  · refine Is2.mk ?_
    have : ¬ (v.length ≠ (gs.getD 0 []).length) := by omega
    have e : decide ((256 : Int) < ((l32 v).length : Int)) = decide (256 < v.length) := decide_eq_decide.2 (by omega)
    unfold badG
    rw [decide_eq_false this, Bool.false_or, ← e]
theorem bdgIdx_ct (gs : List (List Int)) : Ct Tryz.prog 60 [GF gs, .fn 43 [] [.ptr 0 0]] [V.Obj.vec 34 [GF gs]] (fun r os => ∃ k : Int, r = i64 k ∧ os = [V.Obj.vec 34 [GF gs]] ∧ -1 ≤ k ∧ (0 ≤ k ↔ gs.any (badG gs) = true) ∧ (0 ≤ k → ∃ j : Nat, k = j ∧ j < gs.length ∧ (badG gs) (gs.getD j []) = true ∧ (gs.take j).any (badG gs) = false)) := by
  refine Ct.introF (E := E 19 1 [.tmp 4] [] [(2, [0, 1, 7, 8])] []) tab_ok Tryz.call60 Tryz.func60 rfl rfl rfl rfl rfl (fun hin => ?_)
  have hl := gf_len gs
  have hb := hin.1.1
  (conv => whnf); refine LoopI.mk (fun n vs os => ∃ i : Nat, vs = [GF gs, .fn 43 [] [.ptr 0 0], i64 gs.length, i64 i] ∧ os = [V.Obj.vec 34 [GF gs]] ∧ i ≤ gs.length ∧ (gs.take i).any (badG gs) = false ∧ n = gs.length - i) gs.length ⟨0, by rw [hl]; rfl, rfl, Nat.zero_le _, rfl, rfl⟩ ?_
  rintro n _ _ ⟨i, rfl, rfl, h1, h2, rfl⟩
  (conv => whnf); refine cond_d (fun h7 => ?_) (fun h7 => ?_)
  · have hi : i < gs.length := by omega
    have hg : gs[i]? = some (gs.getD i []) := by rw [List.getD_eq_getElem?_getD, List.getElem?_eq_getElem hi]; rfl
    have hs : (gs.take (i + 1)).any (badG gs) = (badG gs) (gs.getD i []) := by rw [any_take hg, h2]; rfl
    (conv => whnf); refine And.intro (by first | omega | (dsimp only [List.length, cond]; omega) | (show (-9223372036854775808 : Int) ≤ _ ∧ _ ≤ (9223372036854775807 : Int); omega) | decide) ?_
    (conv => whnf); refine Idx.mk _ (gf_get hi) ?_; try ((conv => whnf); refine Idx.mk _ rfl ?_)
    (conv => whnf); refine (badG_ct gs (gs.getD i []) (by omega)).use ?_
    (conv => whnf); refine cond_i (fun h8 => ?_) (fun h8 => ?_)
    · conv => whnf
      refine ⟨i, rfl, rfl, by omega, ⟨fun _ => ?_, fun _ => by omega⟩, fun _ => ⟨i, rfl, hi, h8, h2⟩⟩
      rw [List.any_eq_true]
      exact ⟨gs.getD i [], List.mem_of_getElem? hg, h8⟩
    · (conv => whnf); refine And.intro (by first | omega | (dsimp only [List.length, cond]; omega) | (show (-9223372036854775808 : Int) ≤ _ ∧ _ ≤ (9223372036854775807 : Int); omega) | decide) ?_
      conv => whnf
      refine ⟨gs.length - (i + 1), by omega, i + 1, rfl, rfl, by omega, ?_, rfl⟩
      rw [hs]; exact h8
  · rw [List.take_of_length_le (by omega)] at h2
    exact ⟨-1, rfl, rfl, by omega, by rw [h2]; simp, fun h => by omega⟩
theorem bdg_ct (gs : List (List Int)) : Ct Tryz.prog 42 [GF gs, .fn 43 [] [.ptr 0 0]] [V.Obj.vec 34 [GF gs]] (Is2 (.d (.bool (gs.any (badG gs)))) [V.Obj.vec 34 [GF gs]]) := by
  refine Ct.introF (E := E 9 1 [.tmp 4] [] [] []) tab_ok Tryz.call42 Tryz.func42 rfl rfl rfl rfl rfl (fun hin => ?_)
  refine (bdgIdx_ct gs).mono (fun r os h => ?_)
  obtain ⟨k, rfl, rfl, _, hk, _⟩ := h
  conv => whnf
  refine ⟨?_, rfl⟩
  have : decide (0 ≤ k) = gs.any (badG gs) := by
    cases h : gs.any (badG gs) with
    | true => exact decide_eq_true (hk.2 h)
    | false => exact decide_eq_false (fun h2 => by rw [hk.1 h2] at h; cases h)
  rw [← this]

theorem rising_ok {l : List Int} (h : risB l = true) : Ct Tryz.prog 40 [LI l] [] (Is2 (.d (.bool true)) []) := by rw [← h]; exact rising_ct l
theorem within_ok {a b : List Int} (h : subB a b = true) : Ct Tryz.prog 41 [LI a, LI b] [] (Is2 (.d (.bool true)) []) := by rw [← h]; exact within_ct a b
abbrev OPS (gs : List (List Opng)) : AV := .d (.ro (gs.map opsD))
/-- May all of this be? -/
structure Fit (cs : List Cd) (shared gave : List Int) (gifts : List (List Int)) (openers : List Int) (ops : List (List Opng)) : Prop where
  s : risB shared = true
  g : risB gave = true
  o : risB openers = true
  lg : gifts.length = gave.length
  lo : ops.length = openers.length
  gs : subB gave shared = true
  sc : subB shared (cs.map fun c => c.1) = true
  c : risB (cs.map fun c => c.1) = true
  b : gifts.any (badG gifts) = false
theorem bdg_ok {gs : List (List Int)} (h : gs.any (badG gs) = false) : Ct Tryz.prog 42 [GF gs, .fn 43 [] [.ptr 0 0]] [.vec 34 [GF gs]] (Is2 (.d (.bool false)) [.vec 34 [GF gs]]) := by rw [← h]; exact bdg_ct gs
theorem fits_ct (e : Int) (cs : List Cd) (shared gave : List Int) (gifts : List (List Int)) (openers : List Int) (ops : List (List Opng)) (h : Fit cs shared gave gifts openers ops) (hc : cs.length ≤ 1000000) :
    Ct Tryz.prog 25 [i64 e, LC cs, LI shared, LI gave, GF gifts, LI openers, OPS ops] [] (Is2 (i64 (if (openers.length : Int) < e ∨ gave.length = 0 then 12 else 0)) []) := by
  refine Ct.introF (E := E 88 0 [.tmp 14] [] [(3, [0, 2, 3, 5, 6, 11, 15, 18, 19, 20])] [(2, [.own 15 3 1])]) tab_ok Tryz.call25 Tryz.func25 rfl rfl rfl rfl rfl (fun hin => ?_)
  obtain ⟨hs, hg, ho, hlg, hlo, hgs, hsc, hcc, hbb⟩ := h
  have dlc := lc_len cs
  have dgf := gf_len gifts
  have dgv := lI_len gave
  have dop := lI_len openers
  have dos : (ops.map opsD).length = ops.length := List.length_map _
  (conv => whnf); refine LoopI.mk (fun q ws oss => ∃ i : Nat, ws = [i64 e, LI shared, LI gave, LI openers, OPS ops, .ptr 0 0, .sl 1, LC cs, i64 cs.length, i64 i] ∧ oss = [.vec 34 [GF gifts], .row 3 1 (lI ((cs.take i).map fun c => c.1))] ∧ i ≤ cs.length ∧ q = cs.length - i) cs.length ⟨0, by rw [dlc]; rfl, rfl, Nat.zero_le _, rfl⟩ ?_
  rintro q _ _ ⟨i, rfl, rfl, h1, rfl⟩
  (conv => whnf); refine cond_d (fun h2 => ?_) (fun h2 => ?_)
  · obtain ⟨x, hx⟩ := get_some (l := cs) (i := i) (by omega)
    have hgx := lc_get (cs := cs) (i := i) (by omega)
    have hll : (lI ((cs.take i).map fun c => c.1)).length = i := by rw [lI_len, List.length_map, List.length_take]; omega
    (conv => whnf); refine And.intro (by first | omega | (dsimp only [List.length, cond]; omega) | (show (-9223372036854775808 : Int) ≤ _ ∧ _ ≤ (9223372036854775807 : Int); omega) | decide) ?_
    (conv => whnf); refine Idx.mk _ hgx ?_
    (conv => whnf); refine And.intro ⟨by rw [hll]; dsimp only [List.length]; omega, fun y hy => by cases hy with | head => rfl | tail _ h => cases h⟩ ?_
    (conv => whnf); refine And.intro (by first | omega | (dsimp only [List.length, cond]; omega) | (show (-9223372036854775808 : Int) ≤ _ ∧ _ ≤ (9223372036854775807 : Int); omega) | decide) ?_
    (conv => whnf)
    refine ⟨cs.length - (i + 1), by omega, i + 1, rfl, ?_, by omega, rfl⟩
    have eg : cs.getD i (0, 0, 0) = x := by rw [List.getD_eq_getElem?_getD, hx]; rfl
    have es : (cs.take (i + 1)).map (fun c => c.1) = (cs.take i).map (fun c => c.1) ++ [x.1] := by
      rw [List.take_add_one, hx, List.map_append]; rfl
    rw [es, ← eg]
    unfold lI; rw [List.map_append]; rfl
  · obtain rfl : i = cs.length := by omega
    rw [List.take_length]
    (conv => whnf); refine (rising_ok hs).use ?_
    (conv => whnf); refine (rising_ok hg).use ?_
    (conv => whnf); refine (rising_ok ho).use ?_
    (conv => whnf); refine cond_n (fun hh => hh (by omega)) ?_
    (conv => whnf); refine cond_n (fun hh => hh (by omega)) ?_
    (conv => whnf); refine (within_ok hgs).use ?_
    (conv => whnf); refine (within_ok hsc).use ?_
    (conv => whnf); refine (rising_ok hcc).use ?_
    (conv => whnf); refine (bdg_ok hbb).use ?_
    (conv => whnf); refine cond_d (fun h3 => ?_) (fun h3 => ?_)
    · refine isInt ?_
      rw [if_pos (.inl (by omega))]
    · (conv => whnf); refine cond_d (fun h4 => ?_) (fun h4 => ?_)
      · refine isInt ?_
        rw [if_pos (.inr (by omega))]
      · refine isInt ?_
        rw [if_neg (by omega)]
end Go.Proofs.YtofkdfodehfpdaaGreat.Mnd

/- Package ring: sums of many. -/
namespace Go.Proofs.YtofkdfodehfpdaaGreat.Mnd
open Go.V Go.Num
open Go.Eng (wr)
open Go.Proofs.YtofkdfodehfpdaaGreat.Wrd
open Go.Proofs.YtofkdfodehfpdaaGreat.Ring
set_option maxRecDepth 100000
set_option maxHeartbeats 4000000
/-- The sum of a place of vectors, the first so many of them. -/
def colN (gs : List (List Int)) (i : Nat) : Nat → Int
  | 0 => 0
  | k + 1 => wr .u32 (colN gs i k + (gs.getD k []).getD i 0)
def colV (gs : List (List Int)) (n : Nat) : List Int := (List.range n).map fun i => colN gs i gs.length
theorem colV_len (gs : List (List Int)) (n : Nat) : (colV gs n).length = n := by simp [colV]
theorem l32_get' {l : List Int} {i : Nat} (h : i < l.length) : (l32 l)[((i : Nat) : Int).toNat]? = some (.int .u32 (l.getD i 0)) := by
  rw [Int.toNat_natCast, List.getElem?_map, List.getD_eq_getElem?_getD, List.getElem?_eq_getElem h]; rfl
theorem rSum_ct (gs : List (List Int)) (n : Nat) (h : ∀ k, k < gs.length → (gs.getD k []).length = n) (hn : n ≤ 256) (hg : gs.length ≤ 1000000) : Ct Tryz.prog 26 [i64 n, GF gs] [] (Is2 (.tup [R32 (colV gs n), i64 0]) []) := by
  refine Ct.introF (E := E 50 0 [.tmp 4, .tmp 5] [] [(4, [0, 1, 15, 16, 17]), (11, [1, 8, 27, 28]), (15, [1, 8, 9, 10, 27, 28, 31, 32, 33])] [(1000021, [.fz 4])]) tab_ok Tryz.call26 Tryz.func26 rfl rfl rfl rfl rfl (fun hin => ?_)
  have hl := gf_len gs
  (conv => whnf); refine LoopI.mk (fun q vs os => ∃ i : Nat, vs = [i64 n, GF gs, GF gs, i64 gs.length, i64 i] ∧ os = [] ∧ i ≤ gs.length ∧ q = gs.length - i) gs.length ⟨0, by rw [hl]; rfl, rfl, Nat.zero_le _, rfl⟩ ?_
  rintro q _ _ ⟨i, rfl, rfl, h1, rfl⟩
  (conv => whnf); refine cond_d (fun h2 => ?_) (fun h2 => ?_)
  · have hx := h i (by omega)
    have hxl : (l32 (gs.getD i [])).length = (gs.getD i []).length := List.length_map _
    (conv => whnf); refine And.intro (by first | omega | (dsimp only [List.length, cond]; omega) | (show (-9223372036854775808 : Int) ≤ _ ∧ _ ≤ (9223372036854775807 : Int); omega) | decide) ?_
    (conv => whnf); refine Idx.mk _ (gf_get (by omega)) ?_
    (conv => whnf); refine Idx.mk _ rfl ?_
    (conv => whnf); refine cond_n (fun hh => hh (by omega)) ?_
    (conv => whnf); refine And.intro (by first | omega | (dsimp only [List.length, cond]; omega) | (show (-9223372036854775808 : Int) ≤ _ ∧ _ ≤ (9223372036854775807 : Int); omega) | decide) ?_
    (conv => whnf)
    exact ⟨gs.length - (i + 1), by omega, i + 1, rfl, rfl, by omega, rfl⟩
  obtain rfl : i = gs.length := by omega
  clear h1 h2
  (conv => whnf); refine LoopI.mk (fun q vs os => ∃ i : Nat, vs = [GF gs, .sl 0, i64 n, i64 i] ∧ os = [.row 31 1 (l32 (colV gs i))] ∧ i ≤ n ∧ q = n - i) n ⟨0, rfl, rfl, Nat.zero_le _, rfl⟩ ?_
  rintro q _ _ ⟨i, rfl, rfl, h1, rfl⟩
  (conv => whnf); refine cond_d (fun h2 => ?_) (fun h2 => ?_)
  · (conv => whnf); refine LoopI.mk (fun q vs os => ∃ k : Nat, vs = [GF gs, .sl 0, i64 i, u32 (colN gs i k), i64 n, i64 i, GF gs, i64 gs.length, i64 k] ∧ os = [.row 31 1 (l32 (colV gs i))] ∧ k ≤ gs.length ∧ q = gs.length - k) gs.length ⟨0, by rw [hl]; rfl, rfl, Nat.zero_le _, rfl⟩ ?_
    rintro q _ _ ⟨k, rfl, rfl, h3, rfl⟩
    (conv => whnf); refine cond_d (fun h4 => ?_) (fun h4 => ?_)
    · have hx := h k (by omega)
      have hxl : (l32 (gs.getD k [])).length = (gs.getD k []).length := List.length_map _
      (conv => whnf); refine And.intro (by first | omega | (dsimp only [List.length, cond]; omega) | (show (-9223372036854775808 : Int) ≤ _ ∧ _ ≤ (9223372036854775807 : Int); omega) | decide) ?_
      (conv => whnf); refine Idx.mk _ (gf_get (by omega)) ?_
      (conv => whnf); refine Idx.mk _ rfl ?_
      (conv => whnf); refine And.intro (by first | omega | (dsimp only [List.length, cond]; omega) | (show (-9223372036854775808 : Int) ≤ _ ∧ _ ≤ (9223372036854775807 : Int); omega) | decide) ?_
      (conv => whnf); refine Idx.mk _ (l32_get' (by omega)) ?_
      (conv => whnf); refine Idx.mk _ rfl ?_
      (conv => whnf); refine (Ring.plus_ct (colN gs i k) ((gs.getD k []).getD i 0)).use ?_
      (conv => whnf); refine And.intro (by first | omega | (dsimp only [List.length, cond]; omega) | (show (-9223372036854775808 : Int) ≤ _ ∧ _ ≤ (9223372036854775807 : Int); omega) | decide) ?_
      (conv => whnf)
      exact ⟨gs.length - (k + 1), by omega, k + 1, rfl, rfl, by omega, rfl⟩
    · obtain rfl : k = gs.length := by omega
      have hcl : (l32 (colV gs i)).length = i := by rw [List.length_map, colV_len]
      (conv => whnf); refine And.intro ⟨by rw [hcl]; dsimp only [List.length]; omega, fun y hy => by cases hy with | head => rfl | tail _ h => cases h⟩ ?_
      (conv => whnf); refine And.intro (by first | omega | (dsimp only [List.length, cond]; omega) | (show (-9223372036854775808 : Int) ≤ _ ∧ _ ≤ (9223372036854775807 : Int); omega) | decide) ?_
      (conv => whnf)
      refine ⟨n - (i + 1), by omega, i + 1, rfl, ?_, by omega, rfl⟩
      have es : colV gs (i + 1) = colV gs i ++ [colN gs i gs.length] := by
        unfold colV; rw [List.range_succ, List.map_append]; rfl
      rw [es]
      show _ = [Obj.row _ _ (List.map _ (_ ++ _))]
      rw [List.map_append]; rfl
  · obtain rfl : i = n := by omega
    exact Is2.mk rfl
end Go.Proofs.YtofkdfodehfpdaaGreat.Mnd

/- Package mend: the sum. -/
namespace Go.Proofs.YtofkdfodehfpdaaGreat.Mnd
open Go.V Go.Num
open Go.Eng (wr)
open Go.Proofs.YtofkdfodehfpdaaGreat.Wrd
open Go.Proofs.YtofkdfodehfpdaaGreat.Ring
set_option maxRecDepth 100000
set_option maxHeartbeats 4000000
def givenL (gave : List Int) (cs : List Cd) : List Cd := cs.filter fun c => gave.contains c.1
def restL (shared gave : List Int) (cs : List Cd) : List Cd := cs.filter fun c => !gave.contains c.1 && shared.contains c.1
theorem given_at {gave : List Int} {cs : List Cd} {i : Nat} {x : Cd} (h : cs[i]? = some x) : givenL gave (cs.take (i + 1)) = givenL gave (cs.take i) ++ (if gave.contains x.1 = true then [x] else []) := by
  unfold givenL; rw [List.take_add_one, h, List.filter_append]; congr 1
  show List.filter _ [x] = _
  by_cases hp : gave.contains x.1 = true
  · rw [if_pos hp]; simp only [List.filter, hp]
  · rw [if_neg hp]; simp only [List.filter, Bool.eq_false_iff.2 hp]
theorem rest_at {shared gave : List Int} {cs : List Cd} {i : Nat} {x : Cd} (h : cs[i]? = some x) : restL shared gave (cs.take (i + 1)) = restL shared gave (cs.take i) ++ (if (!gave.contains x.1 && shared.contains x.1) = true then [x] else []) := by
  unfold restL; rw [List.take_add_one, h, List.filter_append]; congr 1
  show List.filter _ [x] = _
  by_cases hp : (!gave.contains x.1 && shared.contains x.1) = true
  · rw [if_pos hp]; simp only [List.filter, hp]
  · rw [if_neg hp]; simp only [List.filter, Bool.eq_false_iff.2 hp]
/-- The sum behind so many of those that gave; then behind so many of those that are gone. -/
def ownN (e : Int) (os : List Int) (gs : List (List Opng)) (given : List Cd) (v : List Int) : Nat → List Int
  | 0 => v
  | k + 1 => subV (ownN e os gs given v k) (vecL (gl (limL e (given.getD k (0, 0, 0)).1 os gs) 32) 4 v.length)
def goneN (e : Int) (os : List Int) (gs : List (List Opng)) (given rest : List Cd) (v : List Int) : Nat → List Int
  | 0 => v
  | k + 1 => subV (goneN e os gs given rest v k) (leftV (rest.getD k (0, 0, 0)).1 (keyT e (rest.getD k (0, 0, 0)).1 os gs) given v.length true)
theorem subV_len' (a b : List Int) : (subV a b).length = a.length := by simp [subV]
theorem ownN_len (e : Int) (os : List Int) (gs : List (List Opng)) (given : List Cd) (v : List Int) : ∀ k, (ownN e os gs given v k).length = v.length
  | 0 => rfl
  | k + 1 => by show (subV _ _).length = _; rw [subV_len', ownN_len e os gs given v k]
theorem goneN_len (e : Int) (os : List Int) (gs : List (List Opng)) (given rest : List Cd) (v : List Int) : ∀ k, (goneN e os gs given rest v k).length = v.length
  | 0 => rfl
  | k + 1 => by show (subV _ _).length = _; rw [subV_len', goneN_len e os gs given rest v k]
theorem fits_ok {e : Int} {cs : List Cd} {shared gave : List Int} {gifts : List (List Int)} {openers : List Int} {ops : List (List Opng)} (h : Fit cs shared gave gifts openers ops) (hc : cs.length ≤ 1000000) {r : Int} (hr : (if (openers.length : Int) < e ∨ gave.length = 0 then (12 : Int) else 0) = r) :
    Ct Tryz.prog 25 [i64 e, LC cs, LI shared, LI gave, GF gifts, LI openers, OPS ops] [] (Is2 (i64 r) []) := by
  rw [← hr]; exact fits_ct e cs shared gave gifts openers ops h hc
theorem SumFew_ct (e : Int) (cs : List Cd) (shared gave : List Int) (gifts : List (List Int)) (openers : List Int) (ops : List (List Opng)) (h : Fit cs shared gave gifts openers ops) (hc : cs.length ≤ 1000000) (hf : (openers.length : Int) < e ∨ gave.length = 0) :
    Ct Tryz.prog 14 [i64 e, LC cs, LI shared, LI gave, GF gifts, LI openers, OPS ops] [] (Is2 (.tup [.d .nils, i64 12]) []) := by
  refine Ct.introF (E := E 120 0 [.tmp 14, .tmp 15] [] [(8, [2, 3, 17, 18, 56, 57, 58]), (16, [17, 18, 90, 91, 92]), (23, [17, 103, 104, 105])] []) tab_ok Tryz.call14 Tryz.func14 rfl rfl rfl rfl rfl (fun hin => ?_)
  (conv => whnf); refine (fits_ok (r := 12) h hc (if_pos hf)).use ?_
  exact Is2.mk rfl
theorem ex_given {cs : List Cd} {shared gave : List Int} (h1 : subB gave shared = true) (h2 : subB shared (cs.map fun c => c.1) = true) (h3 : gave.length ≠ 0) : givenL gave cs ≠ [] := by
  have h4 : ∀ {a b : List Int}, subB a b = true → ∀ n ∈ a, n ∈ b := fun {a b} h n hn => by
    unfold subB at h
    have h5 : (a.any fun n => !b.contains n) = false := by simpa using h
    have := List.any_eq_false.1 h5 n hn
    simpa using this
  obtain ⟨n, hn⟩ : ∃ n, n ∈ gave := by
    cases gave with
    | nil => exact absurd rfl h3
    | cons a t => exact ⟨a, List.mem_cons_self ..⟩
  obtain ⟨c, hc, rfl⟩ := List.mem_map.1 (h4 h2 n (h4 h1 n hn))
  intro h
  have : c ∈ givenL gave cs := List.mem_filter.2 ⟨hc, List.contains_iff_mem.2 hn⟩
  rw [h] at this; cases this
/-- What a sum needs to come out. -/
structure Good (e : Int) (cs : List Cd) (shared gave : List Int) (n : Nat) (openers : List Int) (ops : List (List Opng)) : Prop where
  seed : ∀ c ∈ givenL gave cs, (∀ k, k < 5 → someE e (ptsN c.1 true 5 k openers ops openers.length) = 0) ∧ GlOk (limL e c.1 openers ops)
  key : ∀ c ∈ restL shared gave cs, someE e (ptsN c.1 false 1 0 openers ops openers.length) = 0 ∧ (1 ≤ keyT e c.1 openers ops ∧ keyT e c.1 openers ops ≤ 2305843009213693949) ∧ pw 37 (keyT e c.1 openers ops).toNat = c.2.2 ∧ hideE c.1 n (keyT e c.1 openers ops) (givenL gave cs) = 0
def sumV (e : Int) (cs : List Cd) (shared gave : List Int) (gifts : List (List Int)) (openers : List Int) (ops : List (List Opng)) : List Int :=
  goneN e openers ops (givenL gave cs) (restL shared gave cs) (ownN e openers ops (givenL gave cs) (colV gifts (gifts.getD 0 []).length) (givenL gave cs).length) (restL shared gave cs).length
theorem Sum_ct (e : Int) (cs : List Cd) (shared gave : List Int) (gifts : List (List Int)) (openers : List Int) (ops : List (List Opng)) (h : Fit cs shared gave gifts openers ops) (hc : cs.length ≤ 1000000) (ho : openers.length ≤ 1000000)
    (hgl : gifts.length ≤ 1000000) (hne : gave.length ≠ 0) (hf : ¬ ((openers.length : Int) < e ∨ gave.length = 0)) (hG : Good e cs shared gave (gifts.getD 0 []).length openers ops) :
    Ct Tryz.prog 14 [i64 e, LC cs, LI shared, LI gave, GF gifts, LI openers, OPS ops] [] (Is2 (.tup [R32 (sumV e cs shared gave gifts openers ops), i64 0]) []) := by
  refine Ct.introF (E := E 120 0 [.tmp 14, .tmp 15] [] [(8, [2, 3, 17, 18, 56, 57, 58]), (16, [17, 18, 90, 91, 92]), (23, [17, 103, 104, 105])] [(7, [.own 18 41 3]), (1000015, [.fz 90, .fz 18])]) tab_ok Tryz.call14 Tryz.func14 rfl rfl rfl rfl rfl (fun hin => ?_)
  have hgn : ∀ k, k < gifts.length → (gifts.getD k []).length = (gifts.getD 0 []).length ∧ (gifts.getD k []).length ≤ 256 := fun k hk => by
    have hb := List.any_eq_false.1 h.b (gifts.getD k []) (by rw [List.getD_eq_getElem?_getD, List.getElem?_eq_getElem hk]; exact List.getElem_mem hk)
    unfold badG at hb
    simp only [Bool.or_eq_true, decide_eq_true_eq, not_or] at hb
    omega
  have hg0 : 0 < gifts.length := by have := h.lg; omega
  obtain ⟨n, hn⟩ : ∃ n, n = (gifts.getD 0 []).length := ⟨_, rfl⟩
  have hn2 : n ≤ 256 := by have := (hgn 0 hg0).2; omega
  (conv => whnf); refine (fits_ok (r := 0) h hc (if_neg hf)).use ?_
  have dlc := lc_len cs
  have dgf := gf_len gifts
  have d0 : (l32 (gifts.getD 0 [])).length = (gifts.getD 0 []).length := List.length_map _
  (conv => whnf); refine And.intro (by first | omega | (dsimp only [List.length, cond]; omega) | (show (-9223372036854775808 : Int) ≤ _ ∧ _ ≤ (9223372036854775807 : Int); omega) | decide) ?_
  (conv => whnf); refine Idx.mk _ (gf_get (i := 0) hg0) ?_
  (conv => whnf); refine Idx.mk _ rfl ?_
  have hs := rSum_ct gifts n (fun k hk => by rw [hn]; exact (hgn k hk).1) hn2 hgl
  rw [hn, ← d0] at hs
  obtain ⟨v, hv⟩ : ∃ v, v = colV gifts (l32 (gifts.getD 0 [])).length := ⟨_, rfl⟩
  rw [← hv] at hs
  have hvl : v.length = n := by rw [hv, colV_len]; omega
  refine hs.use ?_
  (conv => whnf); refine LoopI.mk (fun q vs os => ∃ i : Nat, vs = [LI shared, LI gave, .ptr 0 0, .sl 1, LC cs, i64 cs.length, i64 i]
    ∧ (givenL gave (cs.take i) = [] ∧ os = [.vec 71 [i64 e, LI openers, OPS ops, R32 v, .d .nils], .row 41 3 (lc (restL shared gave (cs.take i)))]
      ∨ givenL gave (cs.take i) ≠ [] ∧ os = [.vec 71 [i64 e, LI openers, OPS ops, R32 v, .sl 2], .row 41 3 (lc (restL shared gave (cs.take i))), .row 41 3 (lc (givenL gave (cs.take i)))])
    ∧ i ≤ cs.length ∧ q = cs.length - i) cs.length ⟨0, by rw [dlc]; rfl, .inl ⟨rfl, rfl⟩, Nat.zero_le _, rfl⟩ ?_
  rintro q _ _ ⟨i, rfl, hos, h1, rfl⟩
  have hgl2 : (lc (givenL gave (cs.take i))).length ≤ i := by
    rw [lc_len]
    exact Nat.le_trans (List.length_filter_le _ _) (by rw [List.length_take]; omega)
  have hrl2 : (lc (restL shared gave (cs.take i))).length ≤ i := by
    rw [lc_len]
    exact Nat.le_trans (List.length_filter_le _ _) (by rw [List.length_take]; omega)
  rcases hos with ⟨hgi, rfl⟩ | ⟨hgi, rfl⟩
  · (conv => whnf); refine cond_d (fun h2 => ?_) (fun h2 => ?_)
    · obtain ⟨x, hx⟩ := get_some (l := cs) (i := i) (by omega)
      have hgx : (lc cs)[((i : Nat) : Int).toNat]? = some (cdD x) := map_at hx
      have hga := given_at (gave := gave) hx
      have hra := rest_at (shared := shared) (gave := gave) hx
      (conv => whnf); refine And.intro (by first | omega | (dsimp only [List.length, cond]; omega) | (show (-9223372036854775808 : Int) ≤ _ ∧ _ ≤ (9223372036854775807 : Int); omega) | decide) ?_
      (conv => whnf); refine Idx.mk _ hgx ?_
      (conv => whnf); refine (iHas_ct gave x.1).use ?_
      (conv => whnf); refine cond_i (fun h3 => ?_) (fun h3 => ?_)
      · rw [h3, if_pos rfl] at hga
        rw [h3, if_neg (by simp), List.append_nil] at hra
        (conv => whnf); refine DrawI.mkTF 7 [[17], [17], [68], [69], [70], [20], [72]] [(0, 67, 17), (8, 75, 67)] (by decide +kernel) ?_
        repeat (first | refine DrawO.mkF _ (And.intro rfl rfl) ?_ | refine DrawO.mkF _ (Idx.mk _ rfl (And.intro rfl rfl)) ?_)
        refine DrawO.roF [cdD x] 41 3 (And.intro rfl rfl) ?_
        (conv => whnf); refine And.intro ⟨by dsimp only [List.length]; omega, fun y hy => by cases hy with | head => rfl | tail _ h => cases h⟩ ?_
        (conv => whnf); refine And.intro (by first | omega | (dsimp only [List.length, cond]; omega) | (show (-9223372036854775808 : Int) ≤ _ ∧ _ ≤ (9223372036854775807 : Int); omega) | decide) ?_
        (conv => whnf)
        refine ⟨cs.length - (i + 1), by omega, i + 1, rfl, .inr ⟨by rw [hga]; simp, ?_⟩, by omega, rfl⟩
        rw [hga, hra, hgi]; rfl
      · rw [h3, if_neg (by simp), List.append_nil] at hga
        (conv => whnf); refine (iHas_ct shared x.1).use ?_
        (conv => whnf); refine cond_i (fun h4 => ?_) (fun h4 => ?_)
        · rw [h3, h4, if_pos (show (!false && true) = true from rfl)] at hra
          (conv => whnf); refine And.intro ⟨by dsimp only [List.length]; omega, fun y hy => by cases hy with | head => rfl | tail _ h => cases h⟩ ?_
          (conv => whnf); refine And.intro (by first | omega | (dsimp only [List.length, cond]; omega) | (show (-9223372036854775808 : Int) ≤ _ ∧ _ ≤ (9223372036854775807 : Int); omega) | decide) ?_
          (conv => whnf)
          refine ⟨cs.length - (i + 1), by omega, i + 1, rfl, .inl ⟨by rw [hga]; exact hgi, ?_⟩, by omega, rfl⟩
          rw [hra]; unfold lc; rw [List.map_append]; rfl
        · rw [h3, h4, if_neg (by simp), List.append_nil] at hra
          (conv => whnf); refine And.intro (by first | omega | (dsimp only [List.length, cond]; omega) | (show (-9223372036854775808 : Int) ≤ _ ∧ _ ≤ (9223372036854775807 : Int); omega) | decide) ?_
          (conv => whnf)
          refine ⟨cs.length - (i + 1), by omega, i + 1, rfl, .inl ⟨by rw [hga]; exact hgi, ?_⟩, by omega, rfl⟩
          rw [hra]; rfl
    · obtain rfl : i = cs.length := by omega
      rw [List.take_length] at hgi
      exact absurd hgi (ex_given h.gs h.sc hne)
  · (conv => whnf); refine cond_d (fun h2 => ?_) (fun h2 => ?_)
    · obtain ⟨x, hx⟩ := get_some (l := cs) (i := i) (by omega)
      have hgx : (lc cs)[((i : Nat) : Int).toNat]? = some (cdD x) := map_at hx
      have hga := given_at (gave := gave) hx
      have hra := rest_at (shared := shared) (gave := gave) hx
      (conv => whnf); refine And.intro (by first | omega | (dsimp only [List.length, cond]; omega) | (show (-9223372036854775808 : Int) ≤ _ ∧ _ ≤ (9223372036854775807 : Int); omega) | decide) ?_
      (conv => whnf); refine Idx.mk _ hgx ?_
      (conv => whnf); refine (iHas_ct gave x.1).use ?_
      (conv => whnf); refine cond_i (fun h3 => ?_) (fun h3 => ?_)
      · rw [h3, if_pos rfl] at hga
        rw [h3, if_neg (by simp), List.append_nil] at hra
        (conv => whnf); refine DrawI.mkTF 7 [[17], [17], [68], [69], [70], [20], [72]] [(0, 67, 17), (8, 75, 67)] (by decide +kernel) ?_
        repeat (first | refine DrawO.mkF _ (And.intro rfl rfl) ?_ | refine DrawO.mkF _ (Idx.mk _ rfl (And.intro rfl rfl)) ?_)
        refine DrawO.roF [cdD x] 41 3 (And.intro rfl rfl) ?_
        (conv => whnf); refine And.intro ⟨by dsimp only [List.length]; omega, fun y hy => by cases hy with | head => rfl | tail _ h => cases h⟩ ?_
        (conv => whnf); refine And.intro (by first | omega | (dsimp only [List.length, cond]; omega) | (show (-9223372036854775808 : Int) ≤ _ ∧ _ ≤ (9223372036854775807 : Int); omega) | decide) ?_
        (conv => whnf)
        refine ⟨cs.length - (i + 1), by omega, i + 1, rfl, .inr ⟨by rw [hga]; simp, ?_⟩, by omega, rfl⟩
        rw [hga, hra]; unfold lc; rw [List.map_append]; rfl
      · rw [h3, if_neg (by simp), List.append_nil] at hga
        (conv => whnf); refine (iHas_ct shared x.1).use ?_
        (conv => whnf); refine cond_i (fun h4 => ?_) (fun h4 => ?_)
        · rw [h3, h4, if_pos (show (!false && true) = true from rfl)] at hra
          (conv => whnf); refine And.intro ⟨by dsimp only [List.length]; omega, fun y hy => by cases hy with | head => rfl | tail _ h => cases h⟩ ?_
          (conv => whnf); refine And.intro (by first | omega | (dsimp only [List.length, cond]; omega) | (show (-9223372036854775808 : Int) ≤ _ ∧ _ ≤ (9223372036854775807 : Int); omega) | decide) ?_
          (conv => whnf)
          refine ⟨cs.length - (i + 1), by omega, i + 1, rfl, .inr ⟨by rw [hga]; exact hgi, ?_⟩, by omega, rfl⟩
          rw [hga, hra]; unfold lc; rw [List.map_append]; rfl
        · rw [h3, h4, if_neg (by simp), List.append_nil] at hra
          (conv => whnf); refine And.intro (by first | omega | (dsimp only [List.length, cond]; omega) | (show (-9223372036854775808 : Int) ≤ _ ∧ _ ≤ (9223372036854775807 : Int); omega) | decide) ?_
          (conv => whnf)
          refine ⟨cs.length - (i + 1), by omega, i + 1, rfl, .inr ⟨by rw [hga]; exact hgi, ?_⟩, by omega, rfl⟩
          rw [hga, hra]; rfl
    · obtain rfl : i = cs.length := by omega
      rw [List.take_length] at hgi
      rw [List.take_length]
      have dg := lc_len (givenL gave cs)
      have dr := lc_len (restL shared gave cs)
      rw [List.take_length] at hgl2 hrl2
      (conv => whnf); refine LoopI.mk (fun q vs os => ∃ i : Nat, vs = [.ptr 0 0, LC (restL shared gave cs), LC (givenL gave cs), i64 (givenL gave cs).length, i64 i] ∧ os = [wkO e openers ops (ownN e openers ops (givenL gave cs) v i) (givenL gave cs)] ∧ i ≤ (givenL gave cs).length ∧ q = (givenL gave cs).length - i) (givenL gave cs).length ⟨0, by rw [dg]; rfl, rfl, Nat.zero_le _, rfl⟩ ?_
      rintro q _ _ ⟨i, rfl, rfl, h5, rfl⟩
      have hol := ownN_len e openers ops (givenL gave cs) v i
      (conv => whnf); refine cond_d (fun h6 => ?_) (fun h6 => ?_)
      · obtain ⟨x, hx⟩ := get_some (l := givenL gave cs) (i := i) (by omega)
        have hgx : (lc (givenL gave cs))[((i : Nat) : Int).toNat]? = some (cdD x) := map_at hx
        have hxg : (givenL gave cs).getD i (0, 0, 0) = x := by rw [List.getD_eq_getElem?_getD, hx]; rfl
        obtain ⟨q1, q2⟩ := hG.seed x (List.mem_of_getElem? hx)
        (conv => whnf); refine And.intro (by first | omega | (dsimp only [List.length, cond]; omega) | (show (-9223372036854775808 : Int) ≤ _ ∧ _ ≤ (9223372036854775807 : Int); omega) | decide) ?_
        (conv => whnf); refine Idx.mk _ hgx ?_
        (conv => whnf); refine (gave_ct e x openers ops (ownN e openers ops (givenL gave cs) v i) (givenL gave cs) (by rw [h.lo]; omega) ho (by omega) q1 q2).use ?_
        (conv => whnf); refine And.intro (by first | omega | (dsimp only [List.length, cond]; omega) | (show (-9223372036854775808 : Int) ≤ _ ∧ _ ≤ (9223372036854775807 : Int); omega) | decide) ?_
        (conv => whnf)
        refine ⟨(givenL gave cs).length - (i + 1), by omega, i + 1, rfl, ?_, by omega, rfl⟩
        have es : ownN e openers ops (givenL gave cs) v (i + 1) = subV (ownN e openers ops (givenL gave cs) v i) (vecL (gl (limL e x.1 openers ops) 32) 4 (ownN e openers ops (givenL gave cs) v i).length) := by
          rw [hol, ← hxg]; rfl
        rw [es]
      obtain rfl : i = (givenL gave cs).length := by omega
      obtain ⟨w, hw⟩ : ∃ w, w = ownN e openers ops (givenL gave cs) v (givenL gave cs).length := ⟨_, rfl⟩
      rw [← hw] at hol
      rw [← hw]
      (conv => whnf); refine LoopI.mk (fun q vs os => ∃ i : Nat, vs = [.ptr 0 0, LC (restL shared gave cs), i64 (restL shared gave cs).length, i64 i] ∧ os = [wkO e openers ops (goneN e openers ops (givenL gave cs) (restL shared gave cs) w i) (givenL gave cs)] ∧ i ≤ (restL shared gave cs).length ∧ q = (restL shared gave cs).length - i) (restL shared gave cs).length ⟨0, by rw [dr]; rfl, rfl, Nat.zero_le _, rfl⟩ ?_
      rintro q _ _ ⟨i, rfl, rfl, h7, rfl⟩
      have hol2 := goneN_len e openers ops (givenL gave cs) (restL shared gave cs) w i
      (conv => whnf); refine cond_d (fun h8 => ?_) (fun h8 => ?_)
      · obtain ⟨x, hx⟩ := get_some (l := restL shared gave cs) (i := i) (by omega)
        have hgx : (lc (restL shared gave cs))[((i : Nat) : Int).toNat]? = some (cdD x) := map_at hx
        have hxg : (restL shared gave cs).getD i (0, 0, 0) = x := by rw [List.getD_eq_getElem?_getD, hx]; rfl
        obtain ⟨q1, q2, q3, q4⟩ := hG.key x (List.mem_of_getElem? hx)
        (conv => whnf); refine And.intro (by first | omega | (dsimp only [List.length, cond]; omega) | (show (-9223372036854775808 : Int) ≤ _ ∧ _ ≤ (9223372036854775807 : Int); omega) | decide) ?_
        (conv => whnf); refine Idx.mk _ hgx ?_
        (conv => whnf); refine (gone_ct e x openers ops (goneN e openers ops (givenL gave cs) (restL shared gave cs) w i) (givenL gave cs) (by rw [h.lo]; omega) ho (by omega) q1 q2 q3 (by rw [hol2, hol, hvl, hn]; exact q4)).use ?_
        (conv => whnf); refine And.intro (by first | omega | (dsimp only [List.length, cond]; omega) | (show (-9223372036854775808 : Int) ≤ _ ∧ _ ≤ (9223372036854775807 : Int); omega) | decide) ?_
        (conv => whnf)
        refine ⟨(restL shared gave cs).length - (i + 1), by omega, i + 1, rfl, ?_, by omega, rfl⟩
        have es : goneN e openers ops (givenL gave cs) (restL shared gave cs) w (i + 1) = subV (goneN e openers ops (givenL gave cs) (restL shared gave cs) w i) (leftV x.1 (keyT e x.1 openers ops) (givenL gave cs) (goneN e openers ops (givenL gave cs) (restL shared gave cs) w i).length true) := by
          rw [hol2, ← hxg]; rfl
        rw [es]
      obtain rfl : i = (restL shared gave cs).length := by omega
      have e1 : sumV e cs shared gave gifts openers ops = goneN e openers ops (givenL gave cs) (restL shared gave cs) w (restL shared gave cs).length := by
        unfold sumV; rw [hw, hv, d0]
      rw [e1]
      exact Is2.mk rfl
end Go.Proofs.YtofkdfodehfpdaaGreat.Mnd

/- The reference's masks. -/
namespace Go.Proofs.YtofkdfodehfpdaaGreat.Ring
open Go.V Go.Num
open Go.Eng (wr)
set_option maxRecDepth 100000
set_option maxHeartbeats 4000000
theorem rRise_ct (cs : List Cd) : Ct Tryz.prog 20 [LC cs] [] (Is2 (.d (.bool (riB cs cs.length))) []) := by
  refine Ct.introF (E := E 42 0 [.tmp 2] [] [(2, [0, 3])] []) tab_ok Tryz.call20 Tryz.func20 rfl rfl rfl rfl rfl (fun hin => ?_)
  have hlc := lc_len cs
  have hcl := hin.1.1
  (conv => whnf); refine LoopI.mk (fun q ws os => ∃ i : Nat, ws = [LC cs, i64 i] ∧ os = [] ∧ i ≤ cs.length ∧ riB cs i = true ∧ q = cs.length - i) cs.length ⟨0, rfl, rfl, Nat.zero_le _, rfl, rfl⟩ ?_
  rintro q _ _ ⟨i, rfl, rfl, h5, h6, rfl⟩
  (conv => whnf); refine cond_d (fun h7 => ?_) (fun h7 => ?_)
  · have hn : riB cs (i + 1) = (decide (lastW cs i < wAt cs i) && decide (wAt cs i ≤ 64)) := by
      show (riB cs i && _) = _
      rw [h6, Bool.true_and]
    have hlast := riB_last cs i h6
    have bad : ¬ (lastW cs i < wAt cs i ∧ wAt cs i ≤ 64) → riB cs cs.length = false := fun h => by
      refine riB_false cs (k := i + 1) ?_ (by omega)
      rw [hn]
      by_cases e : lastW cs i < wAt cs i
      · rw [decide_eq_false (p := wAt cs i ≤ 64) (fun h2 => h ⟨e, h2⟩), Bool.and_false]
      · rw [decide_eq_false e, Bool.false_and]
    (conv => whnf); refine DrawI.mkF 31 [[0], [3], [10, 11], [12], [13], [14], [15], [0, 16], [3, 16], [16, 17, 18], [16, 19], [16, 20], [16, 21], [16, 22], [23], [3, 24], [24, 25], [24, 26], [0, 27], [3, 27], [27, 28, 29], [27, 30], [27, 31], [0, 27], [3, 27], [27, 34], [27, 33, 35], [27, 36], [27, 37], [27, 32, 38], [24, 27, 39]] (by decide +kernel) ?_
    repeat (first | refine DrawO.mkF _ (And.intro rfl rfl) ?_ | refine DrawO.mkF _ (Idx.mk _ rfl (And.intro rfl rfl)) ?_)
    refine DrawO.mkF _ (And.intro (by omega) (Idx.mk _ (lc_get (by omega)) (And.intro rfl rfl))) ?_
    repeat (first | refine DrawO.mkF _ (And.intro rfl rfl) ?_ | refine DrawO.mkF _ (Idx.mk _ rfl (And.intro rfl rfl)) ?_)
    (conv => whnf); refine cond_d (fun h8 => ?_) (fun h8 => ?_)
    · have h8' : wAt cs i < 1 := h8
      repeat (first | refine DrawO.mkF _ (And.intro rfl rfl) ?_ | refine DrawO.mkF _ (Idx.mk _ rfl (And.intro rfl rfl)) ?_)
      refine isBool ?_
      rw [bad (by omega)]
    have h8' : ¬ wAt cs i < 1 := h8
    repeat (first | refine DrawO.mkF _ (And.intro rfl rfl) ?_ | refine DrawO.mkF _ (Idx.mk _ rfl (And.intro rfl rfl)) ?_)
    refine DrawO.mkF _ (And.intro (by omega) (Idx.mk _ (lc_get (by omega)) (And.intro rfl rfl))) ?_
    repeat (first | refine DrawO.mkF _ (And.intro rfl rfl) ?_ | refine DrawO.mkF _ (Idx.mk _ rfl (And.intro rfl rfl)) ?_)
    (conv => whnf); refine cond_d (fun h9 => ?_) (fun h9 => ?_)
    · have h9' : 64 < wAt cs i := h9
      repeat (first | refine DrawO.mkF _ (And.intro rfl rfl) ?_ | refine DrawO.mkF _ (Idx.mk _ rfl (And.intro rfl rfl)) ?_)
      refine isBool ?_
      rw [bad (by omega)]
    have h9' : ¬ 64 < wAt cs i := h9
    repeat (first | refine DrawO.mkF _ (And.intro rfl rfl) ?_ | refine DrawO.mkF _ (Idx.mk _ rfl (And.intro rfl rfl)) ?_)
    (conv => whnf); refine cond_d (fun h10 => ?_) (fun h10 => ?_)
    · obtain ⟨j, rfl⟩ : ∃ j, i = j + 1 := ⟨i - 1, by omega⟩
      repeat (first | refine DrawO.mkF _ (And.intro rfl rfl) ?_ | refine DrawO.mkF _ (Idx.mk _ rfl (And.intro rfl rfl)) ?_)
      refine DrawO.mkF _ (And.intro (by omega) (Idx.mk _ (lc_get (by omega)) (And.intro rfl rfl))) ?_
      repeat (first | refine DrawO.mkF _ (And.intro rfl rfl) ?_ | refine DrawO.mkF _ (Idx.mk _ rfl (And.intro rfl rfl)) ?_)
      refine DrawO.mkF _ (And.intro (by first | omega | (dsimp only [List.length, cond]; omega) | decide) (And.intro rfl rfl)) ?_
      have hg : (lc cs)[(((j + 1 : Nat) : Int) - 1).toNat]? = some (cdD (cs.getD j (0, 0, 0))) := by
        rw [show (((j + 1 : Nat) : Int) - 1).toNat = (j : Int).toNat from by omega]; exact lc_get (by omega)
      refine DrawO.mkF _ (And.intro (by omega) (Idx.mk _ hg (And.intro rfl rfl))) ?_
      repeat (first | refine DrawO.mkF _ (And.intro rfl rfl) ?_ | refine DrawO.mkF _ (Idx.mk _ rfl (And.intro rfl rfl)) ?_)
      (conv => whnf); refine cond_d (fun h11 => ?_) (fun h11 => ?_)
      · have h11' : wAt cs (j + 1) ≤ wAt cs j := h11
        refine isBool ?_
        rw [bad (fun h => by have : wAt cs j < wAt cs (j + 1) := h.1; omega)]
      · have h11' : ¬ wAt cs (j + 1) ≤ wAt cs j := h11
        have hl : lastW cs (j + 1) = wAt cs j := rfl
        (conv => whnf); refine And.intro (by first | omega | (dsimp only [List.length, cond]; omega) | (show (-9223372036854775808 : Int) ≤ _ ∧ _ ≤ (9223372036854775807 : Int); omega) | decide) ?_
        (conv => whnf)
        exact ⟨cs.length - (j + 1 + 1), by omega, j + 1 + 1, rfl, rfl, by omega, by rw [hn, decide_eq_true (by omega), decide_eq_true (by omega)]; rfl, rfl⟩
    · obtain rfl : i = 0 := by omega
      have hl : lastW cs 0 = 0 := rfl
      repeat (first | refine DrawO.mkF _ (And.intro rfl rfl) ?_ | refine DrawO.mkF _ (Idx.mk _ rfl (And.intro rfl rfl)) ?_)
      (conv => whnf); refine And.intro (by first | omega | (dsimp only [List.length, cond]; omega) | (show (-9223372036854775808 : Int) ≤ _ ∧ _ ≤ (9223372036854775807 : Int); omega) | decide) ?_
      (conv => whnf)
      exact ⟨cs.length - (0 + 1), by omega, 0 + 1, rfl, rfl, by omega, by rw [hn, decide_eq_true (by omega), decide_eq_true (by omega)]; rfl, rfl⟩
  · obtain rfl : i = cs.length := by omega
    refine isBool ?_
    rw [h6]
theorem mErr_keep (who s : Int) (cs : List Cd) {k m : Nat} (h : mErrN who s cs k ≠ 0) (hm : k ≤ m) : mErrN who s cs m = mErrN who s cs k := by
  induction m with
  | zero => have : k = 0 := by omega
            subst this; rfl
  | succ m ih =>
    by_cases e : k = m + 1
    · subst e; rfl
    · have := ih (by omega)
      show (if mErrN who s cs m ≠ 0 then mErrN who s cs m else _) = _
      rw [if_pos (by rw [this]; exact h), this]
theorem Masks_ct (t : Bool) (who s : Int) (cs : List Cd) (n : Int) : Ct Tryz.prog 9 [i64 who, u64 s, LC cs, i64 n, .d (.bool t)] [] (Is2 (.tup [R32 (if hideE who n s cs = 0 then leftV who s cs n.toNat t else []), i64 (hideE who n s cs)]) []) := by
  refine Ct.introF (E := E 103 0 [.tmp 10, .tmp 11] [(6, [0, 1, 2, 3, 4, 12, 13])] [(5, [0, 1, 2, 3, 4, 12, 13]), (13, [0, 1, 2, 3, 4, 12, 13, 16, 17])] [(1000002, [.nl 10]), (1000010, [.nl 10]), (1000018, [.fz 10])]) tab_ok Tryz.call9 Tryz.func9 rfl rfl rfl rfl rfl (fun hin => ?_)
  have hlc := lc_len cs
  have hcl := hin.2.2.1.1
  have hku : ∀ i, 0 ≤ (cs.getD i (0, 0, 0)).2.2 ∧ (cs.getD i (0, 0, 0)).2.2 ≤ 18446744073709551615 := fun i => by
    rw [List.getD_eq_getElem?_getD]
    cases hx : cs[i]? with
    | none => exact ⟨by simp, by simp⟩
    | some c =>
      have := hin.2.2.1.2 (.int .u64 c.2.2) (by
        unfold cellsOf
        rw [List.mem_flatMap]
        exact ⟨cdD c, List.mem_map_of_mem (List.mem_of_getElem? hx), by simp [cdD, D.cells]⟩)
      exact this
  have bad : ¬ ((1 ≤ who ∧ who ≤ 64) ∧ 0 ≤ n ∧ n ≤ 256) → hideE who n s cs = 1 := fun h => by
    unfold hideE sndB; rw [decide_eq_false h]; rfl
  (conv => whnf); refine cond_d (fun h1 => ?_) (fun h1 => ?_)
  · rw [bad (by omega)]; exact Is2.mk rfl
  (conv => whnf); refine cond_d (fun h2 => ?_) (fun h2 => ?_)
  · rw [bad (by omega)]; exact Is2.mk rfl
  (conv => whnf); refine cond_d (fun h3 => ?_) (fun h3 => ?_)
  · rw [bad (by omega)]; exact Is2.mk rfl
  (conv => whnf); refine cond_d (fun h4 => ?_) (fun h4 => ?_)
  · rw [bad (by omega)]; exact Is2.mk rfl
  (conv => whnf); refine (rRise_ct cs).use ?_
  (conv => whnf); refine cond_i (fun h => ?_) (fun h => ?_)
  · have h' : riB cs cs.length = false := by simpa using h
    have e : hideE who n s cs = 1 := by unfold hideE sndB; rw [h', Bool.and_false]; rfl
    rw [e]; exact Is2.mk rfl
  have h' : riB cs cs.length = true := by simpa using h
  have e : hideE who n s cs = mErrN who s cs cs.length := by unfold hideE sndB; rw [h', decide_eq_true (by omega)]; rfl
  rw [e]
  obtain ⟨m, rfl⟩ := Int.eq_ofNat_of_zero_le (show 0 ≤ n by omega)
  rw [Int.toNat_natCast]
  have hm256 : m ≤ 256 := by omega
  (conv => whnf); refine And.intro (by first | omega | (dsimp only [List.length, cond]; omega) | (show (-9223372036854775808 : Int) ≤ _ ∧ _ ≤ (9223372036854775807 : Int); omega) | decide) ?_
  (conv => whnf); refine LoopI.mk (fun q ws os => ∃ (k : Nat) (w : List Int), ws = [i64 who, u64 s, LC cs, i64 m, .d (.bool t), .sl 0, i64 k] ∧ os = [.row 31 1 (l32 w)] ∧ k ≤ cs.length ∧ w.length = m ∧ mErrN who s cs k = 0 ∧ (∀ i, i < m → w.getD i 0 = wr .u32 (mSumN t who s m cs i k)) ∧ q = cs.length - k) cs.length ⟨0, List.replicate m 0, rfl, ?_, Nat.zero_le _, by simp, rfl, fun i hi => by rw [rep0]; rfl, rfl⟩ ?_
  · show [Obj.row _ _ (List.replicate (m : Int).toNat (D.int .u32 0))] = _
    rw [Int.toNat_natCast, l32_rep]
  rintro q _ _ ⟨k, w, rfl, rfl, h5, hwl, he, hw, rfl⟩
  (conv => whnf); refine cond_d (fun h7 => ?_) (fun h7 => ?_)
  · have hk : k < cs.length := by omega
    obtain ⟨c, hc⟩ : ∃ z, z = cs.getD k (0, 0, 0) := ⟨_, rfl⟩
    have hg : (lc cs)[(k : Int).toNat]? = some (cdD c) := by rw [hc]; exact lc_get hk
    have hcu : 0 ≤ c.2.2 ∧ c.2.2 ≤ 18446744073709551615 := by rw [hc]; exact hku k
    have hE : mErrN who s cs (k + 1) = if c.1 = who then 0 else agE s c.2.2 := by
      rw [hc]; show (if mErrN who s cs k ≠ 0 then _ else _) = _
      rw [if_neg (fun h => h he)]
    have hS : ∀ i, mSumN t who s m cs i (k + 1) = mSumN t who s m cs i k + mTerm t who s m c i := fun i => by rw [hc]; rfl
    (conv => whnf); refine JoinI.mk (fun ws os => ∃ w : List Int, ws = [i64 who, u64 s, LC cs, i64 m, .d (.bool t), .sl 0, i64 k] ∧ os = [.row 31 1 (l32 w)] ∧ w.length = m ∧ mErrN who s cs (k + 1) = 0 ∧ (∀ i, i < m → w.getD i 0 = wr .u32 (mSumN t who s m cs i (k + 1)))) ?_ ?_
    · (conv => whnf); refine And.intro (by omega) (Idx.mk _ hg ?_)
      (conv => whnf); refine Idx.mk _ rfl ?_
      (conv => whnf); refine cond_d (fun h8 => ?_) (fun h8 => ?_)
      · have h8' : c.1 = who := h8
        (conv => whnf)
        refine ⟨w, rfl, rfl, hwl, by rw [hE, if_pos h8'], fun i hi => ?_⟩
        have ht : mTerm t who s m c i = 0 := by unfold mTerm; rw [if_pos h8']
        rw [hw i hi, hS, ht, Int.add_zero]
      have h8' : ¬ c.1 = who := h8
      rw [if_neg h8'] at hE
      (conv => whnf); refine And.intro (by omega) (Idx.mk _ hg ?_)
      (conv => whnf); refine Idx.mk _ rfl ?_
      (conv => whnf); refine (rAgree_ct s c.2.2 hcu).use ?_
      (conv => whnf); refine cond_d (fun h9 => ?_) (fun h9 => ?_)
      · have h9' : ¬ agE s c.2.2 = 0 := h9
        have e2 : mErrN who s cs cs.length = agE s c.2.2 := by
          rw [mErr_keep who s cs (k := k + 1) (by rw [hE]; exact h9') (by omega), hE]
        rw [e2, if_neg h9']
        exact Is2.mk rfl
      have h9' : agE s c.2.2 = 0 := Decidable.of_not_not h9
      (conv => whnf); refine (rPair_ct (agV s c.2.2) m).use ?_
      obtain ⟨M, hM⟩ : ∃ z, z = vecL (derL (agV s c.2.2) 2) 3 (m : Nat) := ⟨_, rfl⟩
      have hMk : M = mkV s c.2.2 m := hM
      have hMl : M.length = m := by rw [hMk, mkV_len _ _ hm256]
      rw [← hM]
      (conv => whnf); refine LoopI.mk (fun q ws os => ∃ (j : Nat) (y : List Int), ws = [i64 who, u64 s, LC cs, i64 m, .d (.bool t), .sl 0, i64 k, R32 M, i64 j] ∧ os = [.row 31 1 (l32 y)] ∧ j ≤ m ∧ y.length = m ∧ (∀ i, i < m → y.getD i 0 = wr .u32 (mSumN t who s m cs i (if i < j then k + 1 else k))) ∧ q = m - j) m ⟨0, w, rfl, rfl, Nat.zero_le _, hwl, fun i hi => by rw [if_neg (by omega)]; exact hw i hi, rfl⟩ ?_
      rintro q _ _ ⟨j, y, rfl, rfl, h10, hyl, hy, rfl⟩
      have hly := l32_len y
      have hlM := l32_len M
      (conv => whnf); refine cond_d (fun h11 => ?_) (fun h11 => ?_)
      · have hj : j < m := by omega
        have ht : mTerm t who s m c j = if (decide (who < c.1) != t) = true then M.getD j 0 else -M.getD j 0 := by unfold mTerm; rw [if_neg h8', hMk]
        have next : ∀ z : Int, z = wr .u32 (mSumN t who s m cs j (k + 1)) → ∀ i, i < m → (y.set j z).getD i 0 = wr .u32 (mSumN t who s m cs i (if i < j + 1 then k + 1 else k)) := fun z hz i hi => by
          rw [getD_set]
          by_cases e : j = i
          · subst e; rw [if_pos ⟨rfl, by omega⟩, if_pos (by omega), hz]
          · rw [if_neg (fun h => e h.1), hy i hi]
            by_cases e2 : i < j
            · rw [if_pos e2, if_pos (by omega)]
            · rw [if_neg e2, if_neg (by omega)]
        have hyj : y.getD j 0 = wr .u32 (mSumN t who s m cs j k) := by rw [hy j hj, if_neg (by omega)]
        (conv => whnf); refine And.intro (by omega) (Idx.mk _ hg ?_)
        (conv => whnf); refine Idx.mk _ rfl ?_
        (conv => whnf); refine cond_i (fun h12 => ?_) (fun h12 => ?_)
        · have h12' : (decide (who < c.1) != t) = true := h12
          (conv => whnf); refine DrawI.mkF 8 [[12], [17], [82, 83], [84], [16], [17], [86, 87], [88]] (by decide +kernel) ?_
          repeat (first | refine DrawO.mkF _ (And.intro rfl rfl) ?_ | refine DrawO.mkF _ (Idx.mk _ rfl (And.intro rfl rfl)) ?_)
          refine DrawO.mkF _ (And.intro (by first | omega | (dsimp only [List.length, cond]; omega) | decide) (And.intro rfl rfl)) ?_
          refine DrawO.mkF (u32 (y.getD j 0)) (Idx.mk _ (l32_geti (by omega)) (Idx.mk _ rfl (And.intro rfl rfl))) ?_
          repeat (first | refine DrawO.mkF _ (And.intro rfl rfl) ?_ | refine DrawO.mkF _ (Idx.mk _ rfl (And.intro rfl rfl)) ?_)
          refine DrawO.mkF _ (And.intro (by omega) (Idx.mk _ (l32_geti (by omega)) (And.intro rfl rfl))) ?_
          repeat (first | refine DrawO.mkF _ (And.intro rfl rfl) ?_ | refine DrawO.mkF _ (Idx.mk _ rfl (And.intro rfl rfl)) ?_)
          (conv => whnf); refine And.intro (by first | omega | (dsimp only [List.length, cond]; omega) | (show (-9223372036854775808 : Int) ≤ _ ∧ _ ≤ (9223372036854775807 : Int); omega) | decide) ?_
          (conv => whnf); refine Idx.mk _ (l32_geti (by omega)) ?_
          (conv => whnf); refine And.intro (by first | omega | (dsimp only [List.length, cond]; omega) | (show (-9223372036854775808 : Int) ≤ _ ∧ _ ≤ (9223372036854775807 : Int); omega) | decide) ?_
          (conv => whnf)
          refine ⟨m - (j + 1), by omega, j + 1, y.set j (wr .u32 (y.getD j 0 + M.getD j 0)), rfl, ?_, by omega, by rw [List.length_set]; exact hyl, next _ ?_, rfl⟩
          · rw [← l32_setr]; rfl
          · rw [hyj, hS, ht, if_pos h12']; simp only [wr]; omega
        · have h12' : ¬ (decide (who < c.1) != t) = true := fun h => by
            have h12'' : (decide (who < c.1) != t) = false := h12
            rw [h12''] at h; cases h
          (conv => whnf); refine DrawI.mkF 8 [[12], [17], [92, 93], [94], [16], [17], [96, 97], [98]] (by decide +kernel) ?_
          repeat (first | refine DrawO.mkF _ (And.intro rfl rfl) ?_ | refine DrawO.mkF _ (Idx.mk _ rfl (And.intro rfl rfl)) ?_)
          refine DrawO.mkF _ (And.intro (by first | omega | (dsimp only [List.length, cond]; omega) | decide) (And.intro rfl rfl)) ?_
          refine DrawO.mkF (u32 (y.getD j 0)) (Idx.mk _ (l32_geti (by omega)) (Idx.mk _ rfl (And.intro rfl rfl))) ?_
          repeat (first | refine DrawO.mkF _ (And.intro rfl rfl) ?_ | refine DrawO.mkF _ (Idx.mk _ rfl (And.intro rfl rfl)) ?_)
          refine DrawO.mkF _ (And.intro (by omega) (Idx.mk _ (l32_geti (by omega)) (And.intro rfl rfl))) ?_
          repeat (first | refine DrawO.mkF _ (And.intro rfl rfl) ?_ | refine DrawO.mkF _ (Idx.mk _ rfl (And.intro rfl rfl)) ?_)
          (conv => whnf); refine And.intro (by first | omega | (dsimp only [List.length, cond]; omega) | (show (-9223372036854775808 : Int) ≤ _ ∧ _ ≤ (9223372036854775807 : Int); omega) | decide) ?_
          (conv => whnf); refine Idx.mk _ (l32_geti (by omega)) ?_
          (conv => whnf); refine And.intro (by first | omega | (dsimp only [List.length, cond]; omega) | (show (-9223372036854775808 : Int) ≤ _ ∧ _ ≤ (9223372036854775807 : Int); omega) | decide) ?_
          (conv => whnf)
          refine ⟨m - (j + 1), by omega, j + 1, y.set j (wr .u32 (y.getD j 0 - M.getD j 0)), rfl, ?_, by omega, by rw [List.length_set]; exact hyl, next _ ?_, rfl⟩
          · rw [← l32_setr]; rfl
          · rw [hyj, hS, ht, if_neg h12']; simp only [wr]; omega
      · obtain rfl : j = m := by omega
        (conv => whnf)
        refine ⟨y, rfl, rfl, hyl, by rw [hE, h9'], fun i hi => ?_⟩
        rw [hy i hi, if_pos hi]
    rintro _ _ ⟨w, rfl, rfl, hwl, he, hw⟩
    (conv => whnf); refine And.intro (by first | omega | (dsimp only [List.length, cond]; omega) | (show (-9223372036854775808 : Int) ≤ _ ∧ _ ≤ (9223372036854775807 : Int); omega) | decide) ?_
    (conv => whnf)
    exact ⟨cs.length - (k + 1), by omega, k + 1, w, rfl, rfl, by omega, hwl, he, hw, rfl⟩
  · obtain rfl : k = cs.length := by omega
    have ew : w = leftV who s cs m t := ext_getD (by rw [leftV_len, hwl]) (fun j hj => by
      rw [leftV_at _ _ _ _ (by omega), hw j (by omega)])
    rw [he, if_pos rfl, ew]
    exact Is2.mk rfl
end Go.Proofs.YtofkdfodehfpdaaGreat.Ring

/- Mend's laws: the fixed fact; numbers. -/
namespace Go.Proofs.YtofkdfodehfpdaaGreat.Mnd
open Go.V Go.Num
open Go.Eng (wr)
open Go.Proofs.YtofkdfodehfpdaaGreat.Wrd
open Go.Proofs.YtofkdfodehfpdaaGreat.Ring
set_option maxRecDepth 100000
set_option maxHeartbeats 4000000
abbrev awO : List (List Opng) := [[(1, true, [0, 0, 0, 0, 0])]]
theorem aw_num : joinV 2 [(1, 11), (2, 15)] = 7 ∧ someE 2 [(1, 11), (2, 15)] = 0 := by decide +kernel
theorem aw_pts {k : Nat} (h : k < 5) : ptsN 1 true 5 k [1] awO 1 = [(1, 0)] := by
  have : ([0, 0, 0, 0, 0] : List Int).getD k 0 = 0 := by
    rcases k with _ | _ | _ | _ | _ | k <;> first | rfl | omega
  show [] ++ [((1 : Int), ([0, 0, 0, 0, 0] : List Int).getD k 0)] = _
  rw [this]; rfl
theorem aw_one : joinV 1 [(1, 0)] = 0 ∧ someE 1 [(1, 0)] = 0 := by decide +kernel
theorem aw_lim : limL 1 1 [1] awO = [0, 0, 0, 0, 0] := by
  have h : ∀ k, k < 5 → limT 1 1 [1] awO k = 0 := fun k hk => by
    unfold limT
    show joinV 1 (ptsN 1 true 5 k [1] awO 1) = 0
    rw [aw_pts hk]; exact aw_one.1
  show [limT 1 1 [1] awO 0, limT 1 1 [1] awO 1, limT 1 1 [1] awO 2, limT 1 1 [1] awO 3, limT 1 1 [1] awO 4] = _
  rw [h 0 (by decide), h 1 (by decide), h 2 (by decide), h 3 (by decide), h 4 (by decide)]
theorem aw_gl : gl [0, 0, 0, 0, 0] 32 = List.replicate 32 0 := by decide +kernel
theorem aw_fit (y : Int) : Fit [(1, 0, 0)] [1] [1] [[y]] [1] awO := ⟨rfl, rfl, rfl, rfl, rfl, rfl, rfl, rfl, rfl⟩
theorem aw_good : Good 1 [(1, 0, 0)] [1] [1] 1 [1] awO := ⟨fun c hc => by
    have : c = (1, 0, 0) := by simpa [givenL] using hc
    subst this
    refine ⟨fun k hk => ?_, ?_⟩
    · show someE 1 (ptsN 1 true 5 k [1] awO 1) = 0
      rw [aw_pts hk]; exact aw_one.2
    · show GlOk (limL 1 1 [1] awO)
      rw [aw_lim]
      refine ⟨rfl, fun n hn => ?_⟩
      have : ([0, 0, 0, 0, 0] : List Int).getD n 0 = 0 := by
        rcases n with _ | _ | _ | _ | _ | n <;> first | rfl | omega
      rw [this]; exact ⟨by decide, by decide, by simp⟩, fun c hc => by
    have : c ∈ ([] : List Cd) := hc
    cases this⟩
theorem aw_sum {z : Int} (hv : vecL (List.replicate 32 0) 4 1 = [z]) : sumV 1 [(1, 0, 0)] [1] [1] [[wr .u32 (z + 9)]] [1] awO = [9] := by
  show subV (colV [[wr .u32 (z + 9)]] 1) (vecL (gl (limL 1 1 [1] awO) 32) 4 ((colV [[wr .u32 (z + 9)]] 1).length : Nat)) = [9]
  rw [colV_len, aw_lim, aw_gl]
  show subV _ (vecL (List.replicate 32 0) 4 1) = _
  rw [hv]
  show [wr .u32 (wr .u32 (0 + wr .u32 (z + 9)) - z)] = [9]
  simp only [wr]
  congr 1
  omega
theorem awake_ct : Ct Tryz.prog 7 [] [] (Is2 (.d (.bool true)) []) := by
  refine Ct.introF (E := E 57 0 [.tmp 0] [] [] []) tab_ok Tryz.call7 Tryz.func7 rfl rfl rfl rfl rfl (fun hin => ?_)
  (conv => whnf); refine (Number_ct 2 [(1, 11), (2, 15)]).use ?_
  rw [aw_num.1, aw_num.2]
  obtain ⟨w, hw⟩ : ∃ w, vecL (List.replicate 32 0) 4 1 = w := ⟨_, rfl⟩
  have hwl : w.length = 1 := by rw [← hw, vecL_len]; rfl
  have hu : U4 w := by rw [← hw]; exact vecL_u4 _ _ _
  obtain ⟨z, rfl⟩ : ∃ z, w = [z] := by
    cases w with
    | nil => cases hwl
    | cons a t => cases t with
      | nil => exact ⟨a, rfl⟩
      | cons b t => simp at hwl
  have ho := rOwn_ct (List.replicate 32 0) 1 rfl
  rw [hw] at ho
  refine ho.use ?_
  (conv => whnf); refine And.intro ⟨by decide, by decide, by decide⟩ ?_
  (conv => whnf); refine And.intro (by show (0 : Int) ≤ 0; decide) ?_
  (conv => whnf); refine Idx.mk _ rfl ?_
  (conv => whnf); refine Idx.mk _ rfl ?_
  have hS := Sum_ct 1 [(1, 0, 0)] [1] [1] [[wr .u32 (z + 9)]] [1] awO (aw_fit _) (by decide) (by decide) (by show 1 ≤ 1000000; decide) (by decide) (by decide) aw_good
  rw [aw_sum hw] at hS
  refine hS.use ?_
  (conv => whnf); refine And.intro (by show (0 : Int) ≤ 0; decide) (Idx.mk _ rfl ?_)
  (conv => whnf); refine Idx.mk _ rfl ?_
  exact Is2.mk rfl
theorem pv_pos : ∀ {ps : List (Int × Int)}, (∀ i, i < ps.length → 0 ≤ (ps.getD i (0, 0)).2) → ∀ i, i < (ps.take 9).length → 0 ≤ ((ps.take 9).getD i (0, 0)).2 := fun {ps} h i hi => by
  rw [List.length_take] at hi
  rw [List.getD_eq_getElem?_getD, List.getElem?_take, if_pos (by omega), ← List.getD_eq_getElem?_getD]
  exact h i (by omega)
theorem MendNumbers_ct (k : Int) (ps : List (Int × Int)) : Ct Tryz.prog 3 [i64 k, LP ps] [] (Is2 (.d (.bool true)) []) := by
  refine Ct.introF (E := E 42 0 [.tmp 4] [] [] []) tab_ok Tryz.call3 Tryz.func3 rfl rfl rfl rfl rfl (fun hin => ?_)
  have hq := lp_rng hin.2.1.2
  have hl := lp_len ps
  have e9 : (lp ps).take 9 = lp (ps.take 9) := List.map_take.symm
  (conv => whnf); refine cond_d (fun h1 => ?_) (fun h1 => ?_)
  · (conv => whnf); refine cond_d (fun h2 => ?_) (fun h2 => ?_)
    · (conv => whnf); refine And.intro (by first | omega | (dsimp only [List.length, cond]; omega) | (show (-9223372036854775808 : Int) ≤ _ ∧ _ ≤ (9223372036854775807 : Int); omega) | decide) ?_
      have hN := Number_ct k (ps.take 9)
      have hJ := rJoin_ct k (ps.take 9) (pv_pos hq)
      rw [show LP (ps.take 9) = .d (.ro ((lp ps).take (Int.toNat 9))) by rw [show Int.toNat 9 = 9 from rfl, e9]] at hN hJ
      refine hN.use ?_
      refine hJ.use ?_
      (conv => whnf); refine (awake_ct).use ?_
      (conv => whnf); refine cond_y rfl ?_
      refine isBool ?_
      simp
    · (conv => whnf); refine (Number_ct k ps).use ?_
      (conv => whnf); refine (rJoin_ct k ps hq).use ?_
      (conv => whnf); refine (awake_ct).use ?_
      (conv => whnf); refine cond_y rfl ?_
      refine isBool ?_
      simp
  · (conv => whnf); refine (Number_ct k ps).use ?_
    (conv => whnf); refine (rJoin_ct k ps hq).use ?_
    (conv => whnf); refine (awake_ct).use ?_
    (conv => whnf); refine cond_y rfl ?_
    refine isBool ?_
    simp
end Go.Proofs.YtofkdfodehfpdaaGreat.Mnd

/- The reference's Cut: a seed as numbers; what is cut can be glued. -/
namespace Go.Proofs.YtofkdfodehfpdaaGreat.Mnd
open Go.V Go.Num
open Go.Eng (wr)
open Go.Proofs.YtofkdfodehfpdaaGreat.Wrd
open Go.Proofs.YtofkdfodehfpdaaGreat.Ring
set_option maxRecDepth 100000
set_option maxHeartbeats 4000000
/-- The number of so many bytes. -/
def hv (s : List Int) (i : Nat) : Nat → Int
  | 0 => 0
  | m + 1 => s.getD i 0 + 256 * hv s (i + 1) m
def By (s : List Int) : Prop := ∀ j, 0 ≤ s.getD j 0 ∧ s.getD j 0 < 256
theorem hv_rng {s : List Int} (h : By s) : ∀ (m i : Nat), 0 ≤ hv s i m ∧ hv s i m < 256 ^ m
  | 0, _ => by show (0 : Int) ≤ 0 ∧ (0 : Int) < 1; decide
  | m + 1, i => by
    have h1 := hv_rng h m (i + 1)
    have h2 := h i
    have e : (256 : Int) ^ (m + 1) = 256 ^ m * 256 := rfl
    show 0 ≤ s.getD i 0 + 256 * hv s (i + 1) m ∧ s.getD i 0 + 256 * hv s (i + 1) m < 256 ^ (m + 1)
    rw [e]
    omega
theorem hv_byt {s : List Int} (h : By s) : ∀ (j m i : Nat), j < m → byt (hv s i m) j = s.getD (i + j) 0
  | 0, m + 1, i, _ => by
    have h2 := h i
    show (s.getD i 0 + 256 * hv s (i + 1) m) / 256 ^ 0 % 256 = _
    rw [Int.pow_zero, Int.ediv_one]; show _ = s.getD i 0; omega
  | j + 1, m + 1, i, hj => by
    have h2 := h i
    have h3 := hv_byt h j m (i + 1) (by omega)
    show (s.getD i 0 + 256 * hv s (i + 1) m) / 256 ^ (j + 1) % 256 = _
    rw [show (256 : Int) ^ (j + 1) = 256 * 256 ^ j by rw [Int.pow_succ, Int.mul_comm], ← Int.ediv_ediv_of_nonneg (by decide), show (s.getD i 0 + 256 * hv s (i + 1) m) / 256 = hv s (i + 1) m by omega, show i + (j + 1) = i + 1 + j by omega]
    exact h3
def cutK (s : List Int) (b k : Nat) : Int := hv s (max b (7 * k)) (7 * k + lsz k - max b (7 * k))
def cutL (s : List Int) : List Int := (List.range 5).map (cutK s 0)
theorem lsz_le (k : Nat) : lsz k ≤ 7 := by unfold lsz; omega
theorem cut_at (s : List Int) {k : Nat} (h : k < 5) : (cutL s).getD k 0 = hv s (7 * k) (lsz k) := by
  unfold cutL
  rw [List.getD_eq_getElem?_getD, List.getElem?_map, List.getElem?_range h]
  show cutK s 0 k = _
  unfold cutK
  rw [Nat.zero_max, Nat.add_sub_cancel_left]
theorem cut_ok {s : List Int} (h : By s) : GlOk (cutL s) := by
  refine ⟨by simp [cutL], fun n hn => ?_⟩
  rw [cut_at s hn]
  obtain ⟨h1, h2⟩ := hv_rng h (lsz n) (7 * n)
  have h3 := lsz_le n
  have h4 : (256 : Int) ^ lsz n ≤ 256 ^ 7 := by
    have : ∀ m, m ≤ 7 → (256 : Int) ^ m ≤ 256 ^ 7 := by decide
    exact this _ h3
  have h5 : (2 : Int) ^ (8 * lsz n) = 256 ^ lsz n := by rw [Int.pow_mul]; rfl
  refine ⟨h1, by omega, ?_⟩
  rw [h5]
  exact Int.ediv_eq_zero_of_lt h1 h2
theorem gl_cut {s : List Int} (h : By s) (hl : s.length = 32) : gl (cutL s) 32 = s := by
  apply List.ext_getElem?
  intro j
  by_cases hj : j < 32
  · rw [gl_at _ 32 hj, if_pos hj, cut_at s (by omega), hv_byt h (j % 7) (lsz (j / 7)) (7 * (j / 7)) (by unfold lsz; omega), show 7 * (j / 7) + j % 7 = j by omega, List.getD_eq_getElem?_getD, List.getElem?_eq_getElem (by omega)]; rfl
  · rw [List.getElem?_eq_none (by rw [gl_len]; omega), List.getElem?_eq_none (by omega)]
theorem set_rng (f g : Nat → D) {n q : Nat} (h : q < n) (hs : ∀ k, k < n → k ≠ q → g k = f k) : setV ((List.range n).map f) q [g q] = (List.range n).map g := by
  have hf : ∀ {j}, j < n → ((List.range n).map f)[j]? = some (f j) := fun hj => by rw [List.getElem?_map, List.getElem?_range hj]; rfl
  have hg : ∀ {j}, j < n → ((List.range n).map g)[j]? = some (g j) := fun hj => by rw [List.getElem?_map, List.getElem?_range hj]; rfl
  have hl : ((List.range n).map f).length = n := by simp
  unfold setV
  apply List.ext_getElem?
  intro j
  by_cases hj : j < n
  · rw [hg hj, List.append_assoc]
    by_cases h1 : j < q
    · rw [List.getElem?_append_left (by rw [List.length_take]; omega), List.getElem?_take, if_pos h1, hf hj, hs j hj (by omega)]
    · rw [List.getElem?_append_right (by rw [List.length_take]; omega), List.length_take, Nat.min_eq_left (by omega)]
      by_cases h2 : j = q
      · subst h2; rw [Nat.sub_self]; rfl
      · have : j - q = (j - q - 1) + 1 := by omega
        rw [this, List.singleton_append, List.getElem?_cons_succ, List.getElem?_drop]
        show ((List.range n).map f)[q + 1 + (j - q - 1)]? = _
        rw [show q + 1 + (j - q - 1) = j by omega, hf hj, hs j hj h2]
  · rw [List.getElem?_eq_none (by simp only [List.length_append, List.length_take, List.length_drop, List.length_singleton, List.length_map, List.length_range]; omega), List.getElem?_eq_none (by simp; omega)]
def cutD (s : List Int) (b : Nat) : List D := (List.range 5).map fun k => .int .u64 (cutK s b k)
theorem cutD_set {s : List Int} {b : Nat} (h : b < 32) : setV (cutD s (b + 1)) (b / 7) [.int .u64 (s.getD b 0 + 256 * cutK s (b + 1) (b / 7))] = cutD s b := by
  have e : s.getD b 0 + 256 * cutK s (b + 1) (b / 7) = cutK s b (b / 7) := by
    unfold cutK
    rw [show max b (7 * (b / 7)) = b by omega, show max (b + 1) (7 * (b / 7)) = b + 1 by omega, show 7 * (b / 7) + lsz (b / 7) - b = (7 * (b / 7) + lsz (b / 7) - (b + 1)) + 1 by unfold lsz; omega]; rfl
  rw [e]
  refine set_rng (fun k => .int .u64 (cutK s (b + 1) k)) (fun k => .int .u64 (cutK s b k)) (by omega) (fun k hk hne => ?_)
  show D.int .u64 (cutK s b k) = .int .u64 (cutK s (b + 1) k)
  unfold cutK
  by_cases h1 : b / 7 < k
  · rw [show max b (7 * k) = 7 * k by omega, show max (b + 1) (7 * k) = 7 * k by omega]
  · rw [show 7 * k + lsz k - max b (7 * k) = 0 by unfold lsz; omega, show 7 * k + lsz k - max (b + 1) (7 * k) = 0 by unfold lsz; omega]; rfl
theorem cutK_rng {s : List Int} (h : By s) {b : Nat} : 0 ≤ cutK s (b + 1) (b / 7) ∧ cutK s (b + 1) (b / 7) < 281474976710656 := by
  obtain ⟨h1, h2⟩ := hv_rng h (7 * (b / 7) + lsz (b / 7) - max (b + 1) (7 * (b / 7))) (max (b + 1) (7 * (b / 7)))
  have h3 : 7 * (b / 7) + lsz (b / 7) - max (b + 1) (7 * (b / 7)) ≤ 6 := by unfold lsz; omega
  have h4 : ∀ m, m ≤ 6 → (256 : Int) ^ m ≤ 281474976710656 := by decide
  exact ⟨h1, by have := h4 _ h3; unfold cutK; omega⟩
theorem Cut_ct (s : List Int) (hl : s.length = 32) (h : By s) : Ct Tryz.prog 12 [A8 s] [] (Is2 (.d (.agg ((cutL s).map (D.int .u64)))) []) := by
  refine Ct.introF (E := E 24 0 [.cell 2 51] [] [(3, [1, 2, 3, 4])] []) tab_ok Tryz.call12 Tryz.func12 rfl rfl rfl rfl rfl (fun hin => ?_)
  have h8 : (l8 s).length = 32 := by rw [List.length_map, hl]
  (conv => whnf); refine And.intro ⟨rfl, rfl⟩ ?_
  (conv => whnf); refine LoopI.mk (fun q ws os => ∃ b : Nat, ws = [.ptr 0 0, .ptr 1 0, .ptr 2 0, i64 ((b : Int) - 1)] ∧ os = [.arr 46 (l8 s), .arr 51 (List.replicate 5 (.int .u64 0)), .arr 51 (cutD s b)] ∧ b ≤ 32 ∧ q = b) 32 ⟨32, rfl, rfl, by decide, rfl⟩ ?_
  rintro q _ _ ⟨b, rfl, rfl, h1, rfl⟩
  (conv => whnf); refine cond_d (fun h2 => ?_) (fun h2 => ?_)
  · obtain ⟨b, rfl⟩ : ∃ b', q = b' + 1 := ⟨q - 1, by omega⟩
    have e : ((b + 1 : Nat) : Int) - 1 = (b : Int) := by omega
    rw [e]
    (conv => whnf); refine DrawI.mkF 12 [[4], [10], [4], [12], [3, 13], [14], [15], [4], [1, 17], [18], [19], [16, 20]] (by decide +kernel) ?_
    repeat (first | refine DrawO.mkF _ (And.intro rfl rfl) ?_ | refine DrawO.mkF _ (Idx.mk _ rfl (And.intro rfl rfl)) ?_)
    refine DrawO.mkF _ (And.intro (by first | omega | (dsimp only [List.length, cond]; omega) | decide) (And.intro rfl rfl)) ?_
    repeat (first | refine DrawO.mkF _ (And.intro rfl rfl) ?_ | refine DrawO.mkF _ (Idx.mk _ rfl (And.intro rfl rfl)) ?_)
    refine DrawO.mkF _ (And.intro (by first | omega | (dsimp only [List.length, cond]; omega) | decide) (And.intro rfl rfl)) ?_
    repeat (first | refine DrawO.mkF _ (And.intro rfl rfl) ?_ | refine DrawO.mkF _ (Idx.mk _ rfl (And.intro rfl rfl)) ?_)
    refine DrawO.mkF _ (And.intro (by first | omega | (dsimp only [List.length, cond]; omega) | decide) (And.intro rfl rfl)) ?_
    have hq : 0 + ((b : Int) / 7).toNat * 1 = b / 7 := by omega
    have hc : (cutD s (b + 1))[0 + ((b : Int) / 7).toNat * 1]? = some (.int .u64 (cutK s (b + 1) (b / 7))) := by
      rw [hq]; unfold cutD; rw [List.getElem?_map, List.getElem?_range (by omega)]; rfl
    have hb : (l8 s)[0 + (b : Int).toNat * 1]? = some (.int .u8 (s.getD b 0)) := by
      rw [show 0 + (b : Int).toNat * 1 = b by omega, List.getElem?_map, List.getElem?_eq_getElem (by omega), List.getD_eq_getElem?_getD, List.getElem?_eq_getElem (by omega)]; rfl
    refine DrawO.mkF _ (Idx.mk _ hc (And.intro rfl rfl)) ?_
    repeat (first | refine DrawO.mkF _ (And.intro rfl rfl) ?_ | refine DrawO.mkF _ (Idx.mk _ rfl (And.intro rfl rfl)) ?_)
    refine DrawO.mkF _ (And.intro (by first | omega | (dsimp only [List.length, cond]; omega) | decide) (And.intro rfl rfl)) ?_
    refine DrawO.mkF _ (Idx.mk _ hb (And.intro rfl rfl)) ?_
    repeat (first | refine DrawO.mkF _ (And.intro rfl rfl) ?_ | refine DrawO.mkF _ (Idx.mk _ rfl (And.intro rfl rfl)) ?_)
    (conv => whnf); refine And.intro (by first | omega | (dsimp only [List.length, cond]; omega) | (show (-9223372036854775808 : Int) ≤ _ ∧ _ ≤ (9223372036854775807 : Int); omega) | decide) ?_
    (conv => whnf)
    (conv => whnf); refine And.intro ⟨rfl, by rw [show (cutD s (b + 1)).length = 5 by simp [cutD]]; show 0 + ((b : Int) / 7).toNat * 1 + 1 ≤ 5; omega⟩ ?_
    (conv => whnf); refine And.intro (by first | omega | (dsimp only [List.length, cond]; omega) | (show (-9223372036854775808 : Int) ≤ _ ∧ _ ≤ (9223372036854775807 : Int); omega) | decide) ?_
    (conv => whnf)
    refine ⟨b, by omega, b, rfl, ?_, by omega, rfl⟩
    obtain ⟨k1, k2⟩ := cutK_rng h (b := b)
    have hbb := h b
    have hw : wr .u64 (wr .u64 (cutK s (b + 1) (b / 7) * 256) + s.getD b 0) = s.getD b 0 + 256 * cutK s (b + 1) (b / 7) := by simp only [wr]; omega
    show [_, _, Obj.arr _ (setV (cutD s (b + 1)) (0 + ((b : Int) / 7).toNat * 1) [.int .u64 (wr .u64 (wr .u64 (cutK s (b + 1) (b / 7) * 256) + s.getD b 0))])] = _
    rw [hw, hq, cutD_set (by omega)]; rfl
  · obtain rfl : q = 0 := by omega
    have hd : (cutD s 0).length = 5 := by simp [cutD]
    have he : cutD s 0 = (cutL s).map (D.int .u64) := by unfold cutD cutL; rw [List.map_map]; rfl
    (conv => whnf); refine And.intro hd ?_
    (conv => whnf); refine And.intro ⟨hd, rfl⟩ ?_
    (conv => whnf); refine And.intro hd ?_
    (conv => whnf); refine And.intro hd ?_
    (conv => whnf)
    refine Is2.mk ?_
    rw [← he]; rfl
end Go.Proofs.YtofkdfodehfpdaaGreat.Mnd

/- Package share: other coefficients; the fixed fact of its laws. -/
namespace Go.Proofs.YtofkdfodehfpdaaGreat
open Go.V Go.Num
open Go.Eng (wr)
set_option maxRecDepth 100000
set_option maxHeartbeats 4000000
theorem lp_cells (ps : List (Int × Int)) : ∀ y ∈ lp ps, y.cells.length = 2 := by
  intro y hy
  obtain ⟨p, _, rfl⟩ := List.mem_map.1 hy
  rfl
def res1 (s : Int) (p : Int × Int) : Int × Int := (p.1, ((p.2 - s) % 2305843009213693951 * inv (wr .u64 p.1)) % 2305843009213693951)
def resS (s : Int) (ps : List (Int × Int)) : List (Int × Int) := ps.map (res1 s)
theorem resS_len (s : Int) (ps : List (Int × Int)) : (resS s ps).length = ps.length := List.length_map _
theorem resS_at (s : Int) {ps : List (Int × Int)} {i : Nat} (h : i < ps.length) : (resS s ps).getD i (0, 0) = res1 s (ps.getD i (0, 0)) := by
  unfold resS
  rw [List.getD_eq_getElem?_getD, List.getElem?_map, getD_get h]; rfl
theorem res_sound (s : Int) {ps : List (Int × Int)} (h : soundS ps = 0) : soundS (resS s ps) = 0 := by
  obtain ⟨h0, hl, ht, hs⟩ := sound_rng h
  refine sound_of (by rw [resS_len]; exact h0) (by rw [resS_len]; exact hl) (fun i k hk hi => ?_) (fun i hi => ?_)
  · rw [resS_len] at hi
    rw [resS_at s hi, resS_at s (by omega)]
    exact tw_ne ht hi hk
  · rw [resS_len] at hi
    rw [resS_at s hi]
    have := hs i hi
    show 1 ≤ (ps.getD i (0, 0)).1 ∧ (ps.getD i (0, 0)).1 ≤ 64 ∧ _ % 2305843009213693951 < 2305843009213693951
    omega
def mixS (s : Int) (ps : List (Int × Int)) (i : Nat) : List (Int × Int) := (resS s ps).take i ++ ps.drop i
theorem mixS_len (s : Int) (ps : List (Int × Int)) (i : Nat) (h : i ≤ ps.length) : (mixS s ps i).length = ps.length := by
  unfold mixS; rw [List.length_append, List.length_take, List.length_drop, resS_len]; omega
theorem mixS_at (s : Int) {ps : List (Int × Int)} {i : Nat} (h : i < ps.length) : (mixS s ps i).getD i (0, 0) = ps.getD i (0, 0) := by
  unfold mixS
  rw [List.getD_eq_getElem?_getD, List.getElem?_append_right (by rw [List.length_take, resS_len]; omega), List.length_take, resS_len, List.getElem?_drop, List.getD_eq_getElem?_getD]
  congr 2; omega
theorem mixS_set (s : Int) {ps : List (Int × Int)} {i : Nat} (h : i < ps.length) : (mixS s ps i).set i (res1 s (ps.getD i (0, 0))) = mixS s ps (i + 1) := by
  apply List.ext_getElem?
  intro j
  rw [List.getElem?_set, mixS_len s ps i (by omega)]
  have hr : (resS s ps)[i]? = some (res1 s (ps.getD i (0, 0))) := by unfold resS; rw [List.getElem?_map, getD_get h]; rfl
  unfold mixS
  rw [List.getElem?_append, List.getElem?_append, List.length_take, List.length_take, resS_len]
  by_cases e : i = j
  · subst e
    rw [if_pos rfl, if_pos h, if_pos (by omega), List.getElem?_take, if_pos (by omega), hr]
  · rw [if_neg e, List.getElem?_take, List.getElem?_take, List.getElem?_drop, List.getElem?_drop]
    by_cases e2 : j < i
    · rw [if_pos (by omega), if_pos e2, if_pos (by omega), if_pos (by omega)]
    · rw [if_neg (by omega), if_neg (by omega)]
      congr 1; omega
def otherE (s k : Int) (ps : List (Int × Int)) : Int := if k < 1 ∨ 64 < k ∨ (ps.length : Int) ≠ k - 1 then 1 else if 2305843009213693951 ≤ s then 4 else if ps.length = 0 then 0 else soundS ps
def otherC (s k : Int) (ps : List (Int × Int)) : List Int := if otherE s k ps = 0 ∧ ps.length ≠ 0 then thrS (resS s ps) ++ List.replicate (ps.length - (thrS (resS s ps)).length) 0 else []
theorem spl7 : splitS 7 2 3 [4] = [(1, 11), (2, 15), (3, 19)] := by decide +kernel
theorem spe7 : splitE 7 2 3 [4] = 0 := by decide +kernel
theorem joi7 : joinV 2 [(2, 15), (3, 19)] = 7 := by decide +kernel
theorem joe7 : someE 2 [(2, 15), (3, 19)] = 0 := by decide +kernel
theorem fit7 : fitsV 2 [(1, 11), (2, 15), (3, 19)] = true := by decide +kernel
theorem fie7 : someE 2 [(1, 11), (2, 15), (3, 19)] = 0 := by decide +kernel
theorem oth7 : otherC 9 2 [(1, 11)] = [2] := by decide +kernel
theorem ote7 : otherE 9 2 [(1, 11)] = 0 := by decide +kernel
end Go.Proofs.YtofkdfodehfpdaaGreat

/- Package share's laws: joining, splitting. -/
namespace Go.Proofs.YtofkdfodehfpdaaGreat
open Go.V Go.Num
open Go.Eng (wr)
set_option maxRecDepth 100000
set_option maxHeartbeats 4000000
theorem splitE_zero {s k n : Int} {c : List Int} (h : splitE s k n c = 0) : 1 ≤ n ∧ n ≤ 64 ∧ 1 ≤ k ∧ k ≤ n ∧ (c.length : Int) = k - 1 ∧ s < 2305843009213693951 ∧ bigS c = false := by
  unfold splitE at h
  split at h
  · cases h
  split at h
  · cases h
  rename_i h1 h2
  refine ⟨by omega, by omega, by omega, by omega, by omega, by omega, ?_⟩
  cases e : bigS c with
  | false => rfl
  | true => exact absurd (.inr e) h2
def fitP (k : Int) (ps : List (Int × Int)) (p : Int × Int) : Bool := decide (valS (ps.take k.toNat) (wr .u64 p.1) (ps.take k.toNat).length = p.2)
theorem all_take {α : Type} {f : α → Bool} {xs : List α} {i : Nat} {x : α} (h : xs[i]? = some x) : (xs.take (i + 1)).all f = ((xs.take i).all f && f x) := by
  rw [List.take_add_one, List.all_append, h]; simp
theorem fits_want {k : Int} {ps : List (Int × Int)} (h : someE k ps = 0) : fitsV k ps = ps.all (fitP k ps) := by
  obtain ⟨h1, h2, h3, h4⟩ := someE_zero h
  have hs := sound_take h3 (k := k.toNat) (by omega) (by omega)
  have hc : someC k ps = thrS (ps.take k.toNat) := by unfold someC; rw [h, if_pos rfl]
  unfold fitsV
  rw [h, if_pos rfl, hc]
  have : (fun p => !offP (thrS (ps.take k.toNat)) p) = fitP k ps := by
    funext p
    unfold offP fitP
    rw [thr_val hs, Bool.not_not]
  rw [← this, List.not_any_eq_all_not]
end Go.Proofs.YtofkdfodehfpdaaGreat

/- Package share's laws: shares come to the number again. -/
namespace Go.Proofs.YtofkdfodehfpdaaGreat
open Go.V Go.Num
open Go.Eng (wr)
set_option maxRecDepth 100000
set_option maxHeartbeats 4000000
theorem back_gen {C : List Int} {qs : List (Int × Int)} (hs : soundS qs = 0) (hv : ∀ j, j < qs.length → (qs.getD j (0, 0)).2 = ev C (qs.getD j (0, 0)).1 % 2305843009213693951) (hc : C.length ≤ qs.length) : thrS qs = tr C := by
  obtain ⟨_, hl2, ht2, hr⟩ := sound_rng hs
  have hl : (thrS qs).length ≤ qs.length := by rw [thrS_of hs]; exact sumS_len' qs _ (Nat.le_refl _)
  have ht : tr (thrS qs) = thrS qs := by rw [thrS_of hs]; exact sumS_tr _ _
  rw [← ht]
  have hg : ∀ j, j < qs.length → (qs.map (·.1)).getD j 0 = (qs.getD j (0, 0)).1 := fun j hj => by
    rw [List.getD_eq_getElem?_getD, List.getElem?_map, getD_get hj]; rfl
  refine agree_tr (rs := qs.map (·.1)) (by simpa using hl) (by simpa using hc) (fun i j hij hj => ?_) (fun r hr' => ?_)
  · rw [List.length_map] at hj
    rw [hg i (by omega), hg j hj]
    have h1 := hr i (by omega)
    have h2 := hr j hj
    have h3 := tw_ne ht2 hj hij
    unfold Cg; omega
  · obtain ⟨p, hp, rfl⟩ := List.mem_map.1 hr'
    obtain ⟨j, hj, e⟩ := List.getElem_of_mem hp
    have e2 : qs.getD j (0, 0) = p := by rw [List.getD_eq_getElem?_getD, List.getElem?_eq_getElem hj, Option.getD_some, e]
    have h2 := thr_at hs (n := j) hj (by rw [hv j hj]; omega)
    rw [hv j hj, e2] at h2
    exact h2
def turnS (C : List Int) (n f i : Nat) : List (Int × Int) := (List.range i).map fun t : Nat => (pts C n).getD ((n - 1 - t + f) % n) (0, 0)
theorem turnS_len (C : List Int) (n f i : Nat) : (turnS C n f i).length = i := by simp [turnS]
theorem turnS_at (C : List Int) {n f i t : Nat} (hn : 0 < n) (h : t < i) : (turnS C n f i).getD t (0, 0) = ((((n - 1 - t + f) % n : Nat) : Int) + 1, ev C ((((n - 1 - t + f) % n : Nat) : Int) + 1) % 2305843009213693951) := by
  unfold turnS
  rw [List.getD_eq_getElem?_getD, List.getElem?_map, List.getElem?_range h, Option.map_some, Option.getD_some, pts_at C (Nat.mod_lt _ hn)]
theorem turnS_succ (C : List Int) (n f i : Nat) : turnS C n f (i + 1) = turnS C n f i ++ [(pts C n).getD ((n - 1 - i + f) % n) (0, 0)] := by
  unfold turnS; rw [List.range_succ, List.map_append]; rfl
theorem mod_ne {n f t u : Nat} (ht : t < u) (hu : u < n) : (n - 1 - t + f) % n ≠ (n - 1 - u + f) % n := by
  intro e
  have e1 : n - 1 - t + f = (n - 1 - u + f) + (u - t) := by omega
  rw [e1] at e
  have h2 : (n - 1 - u + f + (u - t)) % n = ((n - 1 - u + f) % n + (u - t)) % n := by rw [Nat.mod_add_mod]
  rw [h2] at e
  have h3 : (n - 1 - u + f) % n < n := Nat.mod_lt _ (by omega)
  generalize (n - 1 - u + f) % n = z at *
  rcases Nat.lt_or_ge (z + (u - t)) n with h | h
  · rw [Nat.mod_eq_of_lt h] at e; omega
  · have : (z + (u - t)) % n = z + (u - t) - n := by rw [Nat.mod_eq_sub_mod h, Nat.mod_eq_of_lt (by omega)]
    omega
theorem turn_sound (C : List Int) {n f i : Nat} (h0 : 0 < i) (h1 : i ≤ n) (h2 : n ≤ 64) : soundS (turnS C n f i) = 0 := by
  refine sound_of (by rw [turnS_len]; exact h0) (by rw [turnS_len]; omega) (fun a b hb ha => ?_) (fun a ha => ?_)
  · rw [turnS_len] at ha
    rw [turnS_at C (by omega) ha, turnS_at C (by omega) (by omega)]
    have := mod_ne (f := f) hb (show a < n by omega)
    show (((n - 1 - b + f) % n : Nat) : Int) + 1 ≠ (((n - 1 - a + f) % n : Nat) : Int) + 1
    omega
  · rw [turnS_len] at ha
    rw [turnS_at C (by omega) ha]
    have : (n - 1 - a + f) % n < n := Nat.mod_lt _ (by omega)
    show 1 ≤ (((n - 1 - a + f) % n : Nat) : Int) + 1 ∧ (((n - 1 - a + f) % n : Nat) : Int) + 1 ≤ 64 ∧ _ % 2305843009213693951 < 2305843009213693951
    omega
theorem turn_take (C : List Int) (n f i j : Nat) (h : j ≤ i) : (turnS C n f i).take j = turnS C n f j := by
  unfold turnS; rw [← List.map_take, List.take_range, Nat.min_eq_left h]
theorem turn_someE (C : List Int) {n f k : Nat} (h0 : 0 < k) (h1 : k ≤ n) (h2 : n ≤ 64) : someE k (turnS C n f n) = 0 := by
  unfold someE
  rw [if_neg (by omega), if_neg (by omega), if_neg (by rw [turn_sound C (by omega) (Nat.le_refl _) h2]; simp), if_neg (by rw [turnS_len]; omega)]
theorem turn_someC {C : List Int} {n f k : Nat} (h0 : 0 < k) (h1 : k ≤ n) (h2 : n ≤ 64) (hc : C.length = k) : someC k (turnS C n f n) = tr C := by
  unfold someC
  rw [turn_someE C h0 h1 h2, if_pos rfl, Int.toNat_natCast, turn_take C n f n k h1]
  exact back_gen (turn_sound C h0 h1 h2) (fun j hj => by rw [turnS_len] at hj; rw [turnS_at C (by omega) hj]) (by rw [turnS_len]; omega)
theorem turn_few (C : List Int) {n f k : Nat} (h1 : k < n) (h2 : n ≤ 64) : someE ((k : Int) + 1) (turnS C n f k) = if k = 0 then 1 else 12 := by
  unfold someE
  rw [if_neg (by omega), if_neg (by omega)]
  by_cases e : k = 0
  · subst e
    rw [if_pos rfl]; rfl
  · rw [if_neg e, if_neg (by rw [turn_sound C (by omega) (by omega) h2]; simp), if_pos (by rw [turnS_len]; omega)]
theorem turn_join {s : Int} {c : List Int} {n f : Nat} (h1 : c.length < n) (h2 : n ≤ 64) (hs : 0 ≤ s ∧ s < 2305843009213693951) : joinV ((c.length : Int) + 1) (turnS (s :: c) n f n) = s := by
  have e : (c.length : Int) + 1 = ((c.length + 1 : Nat) : Int) := by omega
  rw [e]
  unfold joinV
  rw [turn_someE (s :: c) (by omega) (by omega) h2, if_pos rfl, turn_someC (by omega) (by omega) h2 (by simp)]
  have h := ev_tr (s :: c) 0
  have e2 : ev (s :: c) 0 = s := by show s + 0 * ev c 0 = s; rw [Int.zero_mul, Int.add_zero]
  rw [e2] at h
  unfold Cg at h; omega
theorem turn_fits {s : Int} {c : List Int} {n f : Nat} (h1 : c.length < n) (h2 : n ≤ 64) : fitsV ((c.length : Int) + 1) (turnS (s :: c) n f n) = true := by
  have e : (c.length : Int) + 1 = ((c.length + 1 : Nat) : Int) := by omega
  rw [e]
  unfold fitsV
  rw [turn_someE (s :: c) (by omega) (by omega) h2, if_pos rfl, turn_someC (by omega) (by omega) h2 (by simp)]
  rw [Bool.not_eq_true', List.any_eq_false]
  intro p hp
  obtain ⟨j, hj, e⟩ := List.getElem_of_mem hp
  have e2 : (turnS (s :: c) n f n).getD j (0, 0) = p := by rw [List.getD_eq_getElem?_getD, List.getElem?_eq_getElem hj, Option.getD_some, e]
  rw [turnS_len] at hj
  rw [turnS_at (s :: c) (by omega) hj] at e2
  subst e2
  have hm : (n - 1 - j + f) % n < n := Nat.mod_lt _ (by omega)
  have hw : wr .u64 ((((n - 1 - j + f) % n : Nat) : Int) + 1) = (((n - 1 - j + f) % n : Nat) : Int) + 1 := wr_small (by omega)
  have h := ev_tr (s :: c) ((((n - 1 - j + f) % n : Nat) : Int) + 1)
  unfold Cg at h
  unfold offP
  simp only [hw, h]
  simp
end Go.Proofs.YtofkdfodehfpdaaGreat

/- Mend's laws, the plain part: shares of openers come to the number; what is found among openings. -/
namespace Go.Proofs.YtofkdfodehfpdaaGreat.Mnd
open Go.V Go.Num
open Go.Eng (wr)
open Go.Proofs.YtofkdfodehfpdaaGreat.Wrd
open Go.Proofs.YtofkdfodehfpdaaGreat.Ring
set_option maxRecDepth 100000
set_option maxHeartbeats 4000000
/-- Shares of a number, at some places. -/
def shaL (s : Int) (cf : List Int) (js : List Nat) : List (Int × Int) := js.map fun (j : Nat) => ((j : Int), shareV s cf j)
theorem shaL_len (s : Int) (cf : List Int) (js : List Nat) : (shaL s cf js).length = js.length := by simp [shaL]
theorem shaL_at (s : Int) (cf : List Int) (js : List Nat) {i : Nat} (h : i < js.length) : (shaL s cf js).getD i (0, 0) = (((js.getD i 0 : Nat) : Int), shareV s cf (js.getD i 0 : Nat)) := by
  unfold shaL
  rw [List.getD_eq_getElem?_getD, List.getElem?_map, List.getD_eq_getElem?_getD, List.getElem?_eq_getElem h]; rfl
/-- Places that rise. -/
def Ups (js : List Nat) : Prop := (∀ i k, k < i → i < js.length → js.getD k 0 < js.getD i 0) ∧ ∀ i, i < js.length → 1 ≤ js.getD i 0 ∧ js.getD i 0 ≤ 64
theorem sha_sound (s : Int) (cf : List Int) {js : List Nat} (h : Ups js) (h0 : 0 < js.length) (h1 : js.length ≤ 64) : soundS (shaL s cf js) = 0 := by
  refine sound_of (by rw [shaL_len]; exact h0) (by rw [shaL_len]; exact h1) (fun a b hb ha => ?_) (fun a ha => ?_)
  · rw [shaL_len] at ha
    rw [shaL_at s cf js ha, shaL_at s cf js (by omega)]
    have := h.1 a b hb ha
    show ((js.getD b 0 : Nat) : Int) ≠ ((js.getD a 0 : Nat) : Int)
    omega
  · rw [shaL_len] at ha
    rw [shaL_at s cf js ha]
    have := h.2 a ha
    show 1 ≤ ((js.getD a 0 : Nat) : Int) ∧ ((js.getD a 0 : Nat) : Int) ≤ 64 ∧ _ % 2305843009213693951 < 2305843009213693951
    omega
theorem sha_take (s : Int) (cf : List Int) (js : List Nat) (k : Nat) : (shaL s cf js).take k = shaL s cf (js.take k) := by
  unfold shaL; rw [List.map_take]
theorem ups_take {js : List Nat} (h : Ups js) (k : Nat) : Ups (js.take k) := by
  have e : ∀ i, i < (js.take k).length → (js.take k).getD i 0 = js.getD i 0 := fun i hi => by
    rw [List.length_take] at hi
    rw [List.getD_eq_getElem?_getD, List.getElem?_take, if_pos (by omega), ← List.getD_eq_getElem?_getD]
  refine ⟨fun i j hj hi => ?_, fun i hi => ?_⟩
  · rw [e i hi, e j (by omega)]
    rw [List.length_take] at hi
    exact h.1 i j hj (by omega)
  · rw [e i hi]
    rw [List.length_take] at hi
    exact h.2 i (by omega)
theorem sha_E (s : Int) (cf : List Int) {js : List Nat} (h : Ups js) (h1 : js.length ≤ 64) (hc : cf.length + 1 ≤ js.length) : someE ((cf.length + 1 : Nat) : Int) (shaL s cf js) = 0 := by
  unfold someE
  rw [if_neg (by omega), if_neg (by omega), if_neg (by rw [sha_sound s cf h (by omega) h1]; simp), if_neg (by rw [shaL_len]; omega)]
theorem sha_join {s : Int} (cf : List Int) {js : List Nat} (h : Ups js) (h1 : js.length ≤ 64) (hc : cf.length + 1 ≤ js.length) (hs : 0 ≤ s ∧ s < 2305843009213693951) : joinV ((cf.length + 1 : Nat) : Int) (shaL s cf js) = s := by
  have hsc : someC ((cf.length + 1 : Nat) : Int) (shaL s cf js) = tr (s :: cf) := by
    unfold someC
    rw [sha_E s cf h h1 hc, if_pos rfl, Int.toNat_natCast, sha_take]
    have hl : (js.take (cf.length + 1)).length = cf.length + 1 := by rw [List.length_take]; omega
    have hu := ups_take h (cf.length + 1)
    refine back_gen (sha_sound s cf hu (by omega) (by omega)) (fun j hj => ?_) (by rw [shaL_len, hl]; simp)
    rw [shaL_len] at hj
    rw [shaL_at s cf _ hj]
    have hr := hu.2 j hj
    have ew : wr .u64 (((js.take (cf.length + 1)).getD j 0 : Nat) : Int) = (((js.take (cf.length + 1)).getD j 0 : Nat) : Int) := by simp only [wr]; omega
    show shareV s cf _ = _
    unfold shareV; rw [ew]
  unfold joinV
  rw [sha_E s cf h h1 hc, if_pos rfl, hsc]
  have h := ev_tr (s :: cf) 0
  have e2 : ev (s :: cf) 0 = s := by show s + 0 * ev cf 0 = s; rw [Int.zero_mul, Int.add_zero]
  rw [e2] at h
  unfold Cg at h; omega
/-- What an opener tells of so many. -/
def opgN (G : Nat → Bool) (val : Nat → List Int) (N : Nat) : List Opng := (List.range N).map fun i => (((i + 1 : Nat) : Int), G (i + 1), val (i + 1))
theorem opg_find (G : Nat → Bool) (val : Nat → List Int) (own : Bool) (size : Nat) (w : Nat) (hG : G (w + 1) = own) (hv : (val (w + 1)).length = size) : ∀ {N : Nat}, w < N → (opgN G val N).find? (opP ((w + 1 : Nat) : Int) own size) = some (((w + 1 : Nat) : Int), own, val (w + 1)) := by
  have hno : ∀ {i : Nat}, i ≠ w → opP ((w + 1 : Nat) : Int) own size (((i + 1 : Nat) : Int), G (i + 1), val (i + 1)) = false := fun {i} hi => by
    unfold opP
    rw [decide_eq_false (by show ¬ ((i + 1 : Nat) : Int) = ((w + 1 : Nat) : Int); omega)]; rfl
  have hyes : opP ((w + 1 : Nat) : Int) own size (((w + 1 : Nat) : Int), G (w + 1), val (w + 1)) = true := by
    unfold opP
    rw [decide_eq_true rfl, decide_eq_true (by exact hG), decide_eq_true (by show (((val (w + 1)).length : Nat) : Int) = _; rw [hv])]; rfl
  intro N hN
  induction N with
  | zero => omega
  | succ N ih =>
    unfold opgN
    rw [List.range_succ, List.map_append, List.find?_append]
    show (((opgN G val N).find? _).or _) = _
    by_cases hw : w < N
    · rw [ih hw]; rfl
    · obtain rfl : w = N := by omega
      have : (opgN G val w).find? (opP ((w + 1 : Nat) : Int) own size) = none := by
        rw [List.find?_eq_none]
        intro x hx
        obtain ⟨i, hi, rfl⟩ := List.mem_map.1 hx
        rw [hno (by have := List.mem_range.1 hi; omega)]; simp
      rw [this]
      show [(((w + 1 : Nat) : Int), G (w + 1), val (w + 1))].find? _ = _
      rw [List.find?_cons_of_pos hyes, hG]
/-- What the openers' points come to. -/
theorem pts_all (G : Nat → Bool) (val : Nat → Nat → List Int) (own : Bool) (size : Nat) (k w N : Nat) (js : List Nat) (hG : G (w + 1) = own) (hv : ∀ j, (val j (w + 1)).length = size) (hw : w < N) : ∀ i, i ≤ js.length →
    ptsN ((w + 1 : Nat) : Int) own size k (js.map fun (j : Nat) => (j : Int)) (js.map fun (j : Nat) => opgN G (val j) N) i = (js.take i).map fun (j : Nat) => ((j : Int), (val j (w + 1)).getD k 0)
  | 0, _ => rfl
  | i + 1, h => by
    have hi : i < js.length := by omega
    have hx : js[i]? = some (js.getD i 0) := by rw [List.getD_eq_getElem?_getD, List.getElem?_eq_getElem hi]; rfl
    have e1 : (js.map fun (j : Nat) => (j : Int)).getD i 0 = (js.getD i 0 : Nat) := by rw [List.getD_eq_getElem?_getD, List.getElem?_map, hx]; rfl
    have e2 : (js.map fun (j : Nat) => opgN G (val j) N).getD i [] = opgN G (val (js.getD i 0)) N := by rw [List.getD_eq_getElem?_getD, List.getElem?_map, hx]; rfl
    show ptsN _ _ _ _ _ _ i ++ pnt _ _ _ _ _ _ = _
    rw [pts_all G val own size k w N js hG hv hw i (by omega), e1, e2, List.take_add_one, hx, List.map_append]
    unfold pnt
    rw [opg_find G (val (js.getD i 0)) own size w hG (hv _) hw]; rfl
end Go.Proofs.YtofkdfodehfpdaaGreat.Mnd

/- Package seal and its reference: locking. -/
namespace Go.Proofs.YtofkdfodehfpdaaGreat
open Go.V Go.Num
open Go.Eng (wr)
set_option maxRecDepth 100000
set_option maxHeartbeats 4000000
/-- Numbers as bytes, eight each. -/
def le8 (vs : List Int) : List Int := (List.range (8 * vs.length)).map fun i => byt (vs.getD (i / 8) 0) (i % 8)
theorem le8_len (vs : List Int) : (le8 vs).length = 8 * vs.length := by simp [le8]
theorem le8_at (vs : List Int) {i : Nat} (h : i < 8 * vs.length) : (le8 vs).getD i 0 = byt (vs.getD (i / 8) 0) (i % 8) := by
  unfold le8
  rw [List.getD_eq_getElem?_getD, List.getElem?_map, List.getElem?_range h]; rfl
theorem le8_take (vs : List Int) {i k : Nat} (h : i < vs.length) (hk : k < 8) : (le8 vs).take (8 * i + k + 1) = (le8 vs).take (8 * i + k) ++ [byt (vs.getD i 0) k] := by
  rw [take_succG (by rw [le8_len]; omega), le8_at _ (by omega), show (8 * i + k) / 8 = i from by omega, show (8 * i + k) % 8 = k from by omega]
def lockE (s p f t : Int) (vs : List Int) : Int := if ¬ ((1 ≤ f ∧ f ≤ 64) ∧ 1 ≤ t ∧ t ≤ 64) then 1 else if 8 < vs.length then 1 else if vs.any (fun n => decide (2305843009213693951 ≤ n)) = true then 4 else agE s p
def lockV (s p f t : Int) (vs : List Int) : List Int := if lockE s p f t vs = 0 then hidL (agV s p) f t (le8 vs) else []
end Go.Proofs.YtofkdfodehfpdaaGreat

/- Package seal: bytes as numbers, in plain Lean; opening. -/
namespace Go.Proofs.YtofkdfodehfpdaaGreat
open Go.V Go.Num
open Go.Eng (wr)
set_option maxRecDepth 100000
set_option maxHeartbeats 4000000
/-- Some of the bytes of a number of eight. -/
def prt8 (b : List Int) (i : Nat) : Nat → Int
  | 0 => 0
  | k + 1 => prt8 b i k + b.getD (8 * i + k) 0 * 2 ^ (8 * k)
theorem prt8_rng {b : List Int} (h : By b) (i : Nat) : ∀ k, 0 ≤ prt8 b i k ∧ prt8 b i k < 2 ^ (8 * k)
  | 0 => by simp [prt8]
  | k + 1 => by
    have h1 := prt8_rng h i k
    have h2 := h.getD (8 * i + k)
    have h3 : (2 : Int) ^ (8 * (k + 1)) = 256 * 2 ^ (8 * k) := by rw [Nat.mul_add, Int.pow_add]; omega
    have h4 := Int.mul_le_mul_of_nonneg_right h2.2 (show (0 : Int) ≤ 2 ^ (8 * k) from Int.pow_nonneg (by decide))
    have h5 := Int.mul_nonneg h2.1 (show (0 : Int) ≤ 2 ^ (8 * k) from Int.pow_nonneg (by decide))
    unfold prt8
    omega
theorem p8_le {k : Nat} (h : k ≤ 7) : (2 : Int) ^ (8 * k) ≤ 72057594037927936 := by
  have : ∀ k : Fin 8, (2 : Int) ^ (8 * k.val) ≤ 72057594037927936 := by decide
  exact this ⟨k, by omega⟩
theorem prt8_or {b : List Int} (h : By b) (i k : Nat) (hk : k < 8) : (((prt8 b i k).toNat ||| (wr .u64 (b.getD (8 * i + k) 0 * 2 ^ (min (8 * (k : Int)).toNat 64))).toNat : Nat) : Int) = prt8 b i (k + 1) := by
  have h1 := prt8_rng h i k
  have h2 := h.getD (8 * i + k)
  have e : min (8 * (k : Int)).toNat 64 = 8 * k := by omega
  have h3 : wr .u64 (b.getD (8 * i + k) 0 * 2 ^ (8 * k)) = b.getD (8 * i + k) 0 * 2 ^ (8 * k) := by
    have hp := p8_le (k := k) (by omega)
    have h4 := Int.mul_le_mul_of_nonneg_right h2.2 (show (0 : Int) ≤ 2 ^ (8 * k) from Int.pow_nonneg (by decide))
    have h5 := Int.mul_nonneg h2.1 (show (0 : Int) ≤ 2 ^ (8 * k) from Int.pow_nonneg (by decide))
    simp only [wr]; omega
  rw [e, h3, or_add h1 h2.1]; rfl
/-- Bytes as numbers of eight. -/
def numL (b : List Int) : List Int := (List.range (b.length / 8)).map fun i => prt8 b i 8
theorem numL_len (b : List Int) : (numL b).length = b.length / 8 := by simp [numL]
theorem numL_at (b : List Int) {i : Nat} (h : i < b.length / 8) : (numL b).getD i 0 = prt8 b i 8 := by
  unfold numL
  rw [List.getD_eq_getElem?_getD, List.getElem?_map, List.getElem?_range h]; rfl
theorem emod_256 (v q : Int) (hq : 0 < q) : v % (q * 256) = v % q + v / q % 256 * q := by
  have h1 := Int.emod_add_mul_ediv v q
  have h2 := Int.emod_add_mul_ediv (v / q) 256
  have h3 := Int.emod_nonneg v (show q ≠ 0 by omega)
  have h4 := Int.emod_lt_of_pos v hq
  have h5 := Int.emod_nonneg (v / q) (show (256 : Int) ≠ 0 by decide)
  have h6 := Int.emod_lt_of_pos (v / q) (show (0 : Int) < 256 by decide)
  generalize v / q % 256 = e at *
  generalize v / q / 256 = g at *
  generalize v / q = d at *
  generalize v % q = r at *
  subst h2
  rw [Int.mul_add] at h1
  have e1 : v = (r + e * q) + q * 256 * g := by rw [← h1, Int.mul_comm e q, Int.mul_assoc, Int.add_assoc]
  have h7 := Int.mul_le_mul_of_nonneg_right (show e ≤ 255 by omega) (show 0 ≤ q by omega)
  have h8 := Int.mul_nonneg h5 (show 0 ≤ q by omega)
  rw [e1, Int.add_mul_emod_self_left, Int.emod_eq_of_lt (by omega) (by omega)]
theorem prt8_le8 (vs : List Int) {i : Nat} (h : i < vs.length) (hv : 0 ≤ vs.getD i 0) : ∀ k, k ≤ 8 → prt8 (le8 vs) i k = vs.getD i 0 % 2 ^ (8 * k)
  | 0, _ => by simp [prt8]
  | k + 1, hk => by
    unfold prt8
    rw [prt8_le8 vs h hv k (by omega), le8_at _ (by omega), show (8 * i + k) / 8 = i from by omega, show (8 * i + k) % 8 = k from by omega]
    unfold byt
    have e : (256 : Int) ^ k = 2 ^ (8 * k) := by rw [Int.pow_mul]; rfl
    have e2 : (2 : Int) ^ (8 * (k + 1)) = 2 ^ (8 * k) * 256 := by rw [Nat.mul_add, Int.pow_add]; rfl
    rw [e, e2]
    exact (emod_256 _ _ (Int.pow_pos (by decide))).symm
theorem numL_le8 (vs : List Int) (h : ∀ v ∈ vs, 0 ≤ v ∧ v ≤ 18446744073709551615) : numL (le8 vs) = vs := by
  have hl : (le8 vs).length / 8 = vs.length := by rw [le8_len]; omega
  refine ext_getD (by rw [numL_len, hl]) (fun j hj => ?_)
  rw [numL_len, hl] at hj
  have hv : 0 ≤ vs.getD j 0 ∧ vs.getD j 0 ≤ 18446744073709551615 := by
    rw [List.getD_eq_getElem?_getD, List.getElem?_eq_getElem hj]; exact h _ (List.getElem_mem hj)
  rw [numL_at _ (by rw [hl]; exact hj), prt8_le8 vs hj hv.1 8 (Nat.le_refl _)]
  have : (2 : Int) ^ (8 * 8) = 18446744073709551616 := rfl
  rw [this]; omega
theorem xr_xr (a k : Int) (h : 0 ≤ a) : xr (xr a k) k = a := by
  unfold xr
  rw [Int.toNat_natCast, Nat.xor_assoc, Nat.xor_self, Nat.xor_zero]; omega
theorem xorL_xorL (key nonce : List Int) (ctr : Int) (b : List Int) (h : By b) : xorL key ctr nonce (xorL key ctr nonce b) = b := by
  refine ext_getD (by rw [xorL_len, xorL_len]) (fun j hj => ?_)
  rw [xorL_len, xorL_len] at hj
  rw [xorL_at _ _ _ _ (by rw [xorL_len]; exact hj), xorL_at _ _ _ _ hj, xr_xr _ _ (h.getD j).1]
theorem hid_hid (n f t : Int) (b : List Int) (h : By b) : hidL n f t (hidL n f t b) = b := xorL_xorL _ _ _ _ h
theorem le8_by (vs : List Int) : By (le8 vs) := fun x hx => by
  obtain ⟨j, _, rfl⟩ := List.mem_map.1 hx; exact byt_rng _ _
theorem xorL_by (key nonce : List Int) (ctr : Int) (b : List Int) (h : By b) : By (xorL key ctr nonce b) := fun x hx => by
  obtain ⟨j, _, rfl⟩ := List.mem_map.1 hx; exact xr_rng8 (h.getD j) (blkL_u8 _ _ _ _)
theorem li_setr (xs : List Int) (i : Nat) (x : Int) : (li xs).set (i : Int).toNat (.int .u64 x) = li (xs.set i x) := List.map_set.symm
def openE (s p f t : Int) (b : List Int) : Int := if ¬ ((1 ≤ f ∧ f ≤ 64) ∧ 1 ≤ t ∧ t ≤ 64) then 1 else if b.length % 8 ≠ 0 then 2 else if 64 < b.length then 2 else if agE s p ≠ 0 then agE s p else if (numL (hidL (agV s p) f t b)).any (fun n => decide (2305843009213693951 ≤ n)) = true then 4 else 0
def openV (s p f t : Int) (b : List Int) : List Int := if openE s p f t b = 0 then numL (hidL (agV s p) f t b) else []
end Go.Proofs.YtofkdfodehfpdaaGreat

/- Package seal's laws: the fixed fact; locking. -/
namespace Go.Proofs.YtofkdfodehfpdaaGreat
open Go.V Go.Num
open Go.Eng (wr)
set_option maxRecDepth 100000
set_option maxHeartbeats 4000000
def toB (l : List Int) : List UInt8 := l.map fun x => UInt8.ofNat x.toNat
theorem l8_toB {l : List Int} (h : By l) : l8 l = bytesD (toB l) := by
  unfold toB bytesD
  rw [List.map_map]
  refine List.map_congr_left (fun x hx => ?_)
  have := h x hx
  show D.int .u8 x = D.int .u8 ((UInt8.ofNat x.toNat).toNat : Nat)
  congr 1
  rw [UInt8.toNat_ofNat']; omega
theorem hidL_by (n f t : Int) {b : List Int} (h : By b) : By (hidL n f t b) := xorL_by _ _ _ _ h
theorem lockV_by (s p f t : Int) (vs : List Int) : By (lockV s p f t vs) := by
  unfold lockV
  split
  · exact hidL_by _ _ _ (le8_by vs)
  · intro x hx; cases hx
/-- What was locked is opened. -/
theorem open_lock {s p s' p' f t : Int} {vs : List Int} (h0 : lockE s p f t vs = 0) (h1 : agE s' p' = 0) (hv : agV s' p' = agV s p) (hr : ∀ v ∈ vs, 0 ≤ v ∧ v ≤ 18446744073709551615) : openE s' p' f t (lockV s p f t vs) = 0 ∧ openV s' p' f t (lockV s p f t vs) = vs := by
  have hl : lockV s p f t vs = hidL (agV s p) f t (le8 vs) := by unfold lockV; rw [if_pos h0]
  have hb : hidL (agV s' p') f t (lockV s p f t vs) = le8 vs := by rw [hv, hl, hid_hid _ _ _ _ (le8_by vs)]
  have hlen : (lockV s p f t vs).length = 8 * vs.length := by rw [hl, hidL_len, le8_len]
  have hg : (1 ≤ f ∧ f ≤ 64) ∧ 1 ≤ t ∧ t ≤ 64 := by
    refine Decidable.byContradiction (fun h => ?_)
    unfold lockE at h0; rw [if_pos h] at h0; cases h0
  have h8 : ¬ 8 < vs.length := fun h => by
    unfold lockE at h0; rw [if_neg (fun h => h hg), if_pos h] at h0; cases h0
  have hbig : ¬ vs.any (fun n => decide (2305843009213693951 ≤ n)) = true := fun h => by
    unfold lockE at h0; rw [if_neg (fun h => h hg), if_neg h8, if_pos h] at h0; cases h0
  have e : openE s' p' f t (lockV s p f t vs) = 0 := by
    unfold openE
    rw [if_neg (fun h => h hg), if_neg (by omega), if_neg (by omega), if_neg (fun h => h h1), hb, numL_le8 vs hr, if_neg hbig]
  refine ⟨e, ?_⟩
  unfold openV; rw [if_pos e, hb, numL_le8 vs hr]
end Go.Proofs.YtofkdfodehfpdaaGreat

/- Package seal's laws: opening; what is locked is opened. -/
namespace Go.Proofs.YtofkdfodehfpdaaGreat
open Go.V Go.Num
open Go.Eng (wr)
set_option maxRecDepth 100000
set_option maxHeartbeats 4000000
theorem or_add' {a b : Int} (ha : 0 ≤ a ∧ a < 256) (hb : 0 ≤ b) : (((b * 256).toNat ||| a.toNat : Nat) : Int) = b * 256 + a := by
  have := or_add (k := 8) (a := a) (b := b) ⟨ha.1, ha.2⟩ hb
  rw [Nat.or_comm, show (b * 256 : Int) = b * 2 ^ 8 from rfl, this]; omega
theorem prt8_back {W : List Int} (j k : Nat) (x : Int) (h : prt8 W j (k + 1) + 2 ^ (8 * (k + 1)) * x = prt8 W j 8) : prt8 W j k + 2 ^ (8 * k) * (x * 256 + W.getD (8 * j + k) 0) = prt8 W j 8 := by
  rw [← h]
  have e2 : (2 : Int) ^ (8 * (k + 1)) = 2 ^ (8 * k) * 256 := by rw [Nat.mul_add, Int.pow_add]; rfl
  show _ = prt8 W j k + W.getD (8 * j + k) 0 * 2 ^ (8 * k) + _
  rw [e2]
  grind
theorem li_app' (xs ys : List Int) : li xs ++ li ys = li (xs ++ ys) := List.map_append.symm
theorem pw_comm (a b : Int) (ha : a ≤ 18446744073709551615) (hb : b ≤ 18446744073709551615) : pw (pw 37 a.toNat) b.toNat = pw (pw 37 b.toNat) a.toNat := by
  have h1 : a.toNat < 2 ^ 64 := by omega
  have h2 : b.toNat < 2 ^ 64 := by omega
  rw [pw_eq _ h2, pw_eq _ h1, pw_eq _ h1, pw_eq _ h2, pow_mod, pow_mod, ← Int.pow_mul, ← Int.pow_mul, Nat.mul_comm]
end Go.Proofs.YtofkdfodehfpdaaGreat

/- Package mask's laws: the fixed fact; pairs, hiding, what is left, beginnings. -/
namespace Go.Proofs.YtofkdfodehfpdaaGreat.Ring
open Go.V Go.Num
open Go.Eng (wr)
set_option maxRecDepth 100000
set_option maxHeartbeats 4000000
theorem Cells_ct (a b : List Int) : Ct Tryz.prog 15 [R32 a, R32 b] [] (Is2 (.d (.bool (decide (a = b)))) []) := by
  refine Ct.introF (E := E 26 0 [.tmp 4] [] [(4, [0, 1, 5])] []) tab_ok Tryz.call15 Tryz.func15 rfl rfl rfl rfl rfl (fun hin => ?_)
  obtain ⟨⟨ha, _⟩, ⟨hb, _⟩, _⟩ := hin
  have la := l32_len a
  have lb := l32_len b
  (conv => whnf); refine cond_d (fun h => ?_) (fun h => ?_)
  · refine isBool ?_
    rw [decide_eq_false]; rintro rfl; omega
  · (conv => whnf); refine LoopI.mk (fun n vs os => ∃ i : Nat, vs = [R32 a, R32 b, i64 i] ∧ os = [] ∧ i ≤ a.length ∧ a.take i = b.take i ∧ n = a.length - i) a.length ⟨0, rfl, rfl, Nat.zero_le _, rfl, rfl⟩ ?_
    rintro n _ _ ⟨i, rfl, rfl, h1, h2, rfl⟩
    (conv => whnf); refine cond_d (fun h3 => ?_) (fun h3 => ?_)
    · (conv => whnf); refine DrawI.mkF 8 [[0], [5], [17, 18], [19], [1], [5], [21, 22], [23]] (by decide +kernel) ?_
      repeat (first | refine DrawO.mkF _ (And.intro rfl rfl) ?_ | refine DrawO.mkF _ (Idx.mk _ rfl (And.intro rfl rfl)) ?_)
      refine DrawO.mkF _ (And.intro (by omega) (Idx.mk _ (l32_geti (by omega)) (And.intro rfl rfl))) ?_
      repeat (first | refine DrawO.mkF _ (And.intro rfl rfl) ?_ | refine DrawO.mkF _ (Idx.mk _ rfl (And.intro rfl rfl)) ?_)
      refine DrawO.mkF _ (And.intro (by omega) (Idx.mk _ (l32_geti (by omega)) (And.intro rfl rfl))) ?_
      repeat (first | refine DrawO.mkF _ (And.intro rfl rfl) ?_ | refine DrawO.mkF _ (Idx.mk _ rfl (And.intro rfl rfl)) ?_)
      (conv => whnf); refine cond_d (fun h4 => ?_) (fun h4 => ?_)
      · refine isBool ?_
        rw [decide_eq_false]; rintro rfl; exact h4 rfl
      · (conv => whnf); refine And.intro (by first | omega | (dsimp only [List.length, cond]; omega) | (show (-9223372036854775808 : Int) ≤ _ ∧ _ ≤ (9223372036854775807 : Int); omega) | decide) ?_
        conv => whnf
        refine ⟨a.length - (i + 1), by omega, i + 1, rfl, rfl, by omega, ?_, rfl⟩
        rw [take_succ' (by omega), take_succ' (by omega), h2, Decidable.of_not_not h4]
    · refine isBool ?_
      rw [decide_eq_true]
      have e1 : a.take i = a := List.take_of_length_le (by omega)
      have e2 : b.take i = b := List.take_of_length_le (by omega)
      rw [← e1, h2, e2]
def fewS (cs : List Cd) : List Cd := if 6 < cs.length ∧ cs.length ≤ 64 then cs.take 6 else cs
theorem agV_comm {a b : Int} (ha : a ≤ 18446744073709551615) (hb : b ≤ 18446744073709551615) (h1 : agE a (pw 37 b.toNat) = 0) (h2 : agE b (pw 37 a.toNat) = 0) : agV a (pw 37 b.toNat) = agV b (pw 37 a.toNat) := by
  unfold agV; rw [if_pos h1, if_pos h2]; exact pw_comm b a hb ha
theorem aw_e1 (a b : Int) (h1 : agE 5 b = 0) : hideE 1 1 5 [(1, 0, a), (2, 0, b)] = 0 := by
  have hs : sndB 1 1 [(1, 0, a), (2, 0, b)] = true := rfl
  unfold hideE; rw [if_pos hs]
  simp [mErrN, h1]
theorem aw_e2 (a b : Int) (h2 : agE 7 a = 0) : hideE 2 1 7 [(1, 0, a), (2, 0, b)] = 0 := by
  have hs : sndB 2 1 [(1, 0, a), (2, 0, b)] = true := rfl
  unfold hideE; rw [if_pos hs]
  simp [mErrN, h2]
theorem aw_e3 (a : Int) (h2 : agE 7 a = 0) : hideE 2 1 7 [(1, 0, a)] = 0 := by
  have hs : sndB 2 1 [(1, 0, a)] = true := rfl
  unfold hideE; rw [if_pos hs]
  simp [mErrN, h2]
theorem aw_v1 (a b : Int) (O : List Int) : hideV [1] O 1 5 [(1, 0, a), (2, 0, b)] = [wr .u32 (1 + O.getD 0 0 + (mkV 5 b 1).getD 0 0)] := by
  have e : mSumN false 1 5 1 [(1, 0, a), (2, 0, b)] 0 2 = (mkV 5 b 1).getD 0 0 := by
    simp [mSumN, mTerm]
  show [wr .u32 (1 + O.getD 0 0 + mSumN false 1 5 1 [(1, 0, a), (2, 0, b)] 0 2)] = _
  rw [e]
theorem aw_v2 (a b : Int) (O : List Int) : hideV [2] O 2 7 [(1, 0, a), (2, 0, b)] = [wr .u32 (2 + O.getD 0 0 + -(mkV 7 a 1).getD 0 0)] := by
  have e : mSumN false 2 7 1 [(1, 0, a), (2, 0, b)] 0 2 = -(mkV 7 a 1).getD 0 0 := by
    simp [mSumN, mTerm]
  show [wr .u32 (2 + O.getD 0 0 + mSumN false 2 7 1 [(1, 0, a), (2, 0, b)] 0 2)] = _
  rw [e]
theorem aw_v3 (a : Int) : leftV 2 7 [(1, 0, a)] 1 true = [wr .u32 ((mkV 7 a 1).getD 0 0)] := by
  have e : mSumN true 2 7 1 [(1, 0, a)] 0 1 = (mkV 7 a 1).getD 0 0 := by
    simp [mSumN, mTerm]
  show [wr .u32 (mSumN true 2 7 1 [(1, 0, a)] 0 1)] = _
  rw [e]
end Go.Proofs.YtofkdfodehfpdaaGreat.Ring

/- Package mask's laws: pairs, hiding, what is left, beginnings. -/
namespace Go.Proofs.YtofkdfodehfpdaaGreat.Ring
open Go.V Go.Num
open Go.Eng (wr)
set_option maxRecDepth 100000
set_option maxHeartbeats 4000000
theorem agg_len {s : List Int} (h : s.length = 32) : (D.agg (l8 s)).cells.length = 32 := by
  show (l8 s).length = 32
  rw [l8_len, h]
theorem vecL_pre (seed : List Int) (tag : Int) {n m i : Nat} (h : i < n) (hn : n ≤ 256) (hm : n ≤ m) : (vecL seed tag m).getD i 0 = (vecL seed tag n).getD i 0 := by
  have cb : ∀ k : Nat, (vecL seed tag (k : Int)).length = min k 256 := fun k => by rw [vecL_len]; unfold clampN; omega
  have ck : ∀ k : Nat, clampN (k : Int) 256 = min k 256 := fun k => by unfold clampN; omega
  have ab : ∀ (k j : Nat), k ≤ 256 → j < 4 * k → (bytesL seed tag (4 * (k : Nat))).getD j 0 = xr 0 ((blkL seed (wr .u32 (0 + (j / 64 : Nat))) (nonL tag)).getD (j % 64) 0) := fun k j hk hj => by
    have hc : clampN (4 * (k : Nat) : Int) 65536 = 4 * k := by unfold clampN; omega
    unfold bytesL
    rw [hc, xorL_at _ _ _ _ (by rw [List.length_replicate]; exact hj), rep0]
  rw [vecL_at _ _ _ (by rw [ck]; omega), vecL_at _ _ _ (by rw [ck]; omega), ck, ck]
  unfold nm4
  have e : ∀ j, j < 4 → (bytesL seed tag (4 * (min m 256 : Nat))).getD (4 * i + j) 0 = (bytesL seed tag (4 * (min n 256 : Nat))).getD (4 * i + j) 0 := fun j hj => by
    rw [ab _ _ (by omega) (by omega), ab _ _ (by omega) (by omega)]
  have e0 := e 0 (by omega)
  have e1 := e 1 (by omega)
  have e2 := e 2 (by omega)
  have e3 := e 3 (by omega)
  rw [Nat.add_zero] at e0
  rw [e0, e1, e2, e3]
theorem vecL_take (seed : List Int) (tag : Int) {n m : Nat} (hn : n ≤ 256) (hm : n ≤ m) : (vecL seed tag m).take n = vecL seed tag n := by
  have ck : ∀ k : Nat, clampN (k : Int) 256 = min k 256 := fun k => by unfold clampN; omega
  refine ext_getD (by rw [List.length_take, vecL_len, vecL_len, ck, ck]; omega) (fun j hj => ?_)
  rw [List.length_take, vecL_len, ck] at hj
  rw [← vecL_pre seed tag (n := n) (m := m) (by omega) hn hm, List.getD_eq_getElem?_getD, List.getElem?_take, if_pos (by omega), ← List.getD_eq_getElem?_getD]
end Go.Proofs.YtofkdfodehfpdaaGreat.Ring

/- Package mask's laws: the masks of two are gone from the sum. The plain law. -/
namespace Go.Proofs.YtofkdfodehfpdaaGreat.Ring
open Go.V Go.Num
open Go.Eng (wr)
set_option maxRecDepth 100000
set_option maxHeartbeats 4000000
def Sm (g : Nat → Int) : Nat → Int
  | 0 => 0
  | k + 1 => Sm g k + g k
theorem Sm_ext {f g : Nat → Int} : ∀ {n : Nat}, (∀ i, i < n → f i = g i) → Sm f n = Sm g n
  | 0, _ => rfl
  | n + 1, h => by
    show Sm f n + f n = Sm g n + g n
    rw [Sm_ext (fun i hi => h i (by omega)), h n (by omega)]
theorem Sm_add (f g : Nat → Int) : ∀ n, Sm (fun i => f i + g i) n = Sm f n + Sm g n
  | 0 => rfl
  | n + 1 => by
    show Sm (fun i => f i + g i) n + (f n + g n) = Sm f n + f n + (Sm g n + g n)
    rw [Sm_add f g n]; omega
theorem Sm_neg (f : Nat → Int) : ∀ n, Sm (fun i => - f i) n = - Sm f n
  | 0 => rfl
  | n + 1 => by
    show Sm (fun i => - f i) n + - f n = - (Sm f n + f n)
    rw [Sm_neg f n]; omega
theorem Sm_anti (f : Nat → Nat → Int) : ∀ n, (∀ i j, i < n → j < n → f i j = - f j i) → Sm (fun i => Sm (fun j => f i j) n) n = 0
  | 0, _ => rfl
  | n + 1, h => by
    show Sm (fun i => Sm (fun j => f i j) n + f i n) n + (Sm (fun j => f n j) n + f n n) = 0
    rw [Sm_add, Sm_anti f n (fun i j hi hj => h i j (by omega) (by omega)), Sm_ext (f := fun i => f i n) (g := fun i => - f n i) (fun i hi => h i n (by omega) (by omega)), Sm_neg (fun i => f n i)]
    have := h n n (by omega) (by omega)
    omega
theorem Sm_skip (g : Nat → Int) (l : Nat) : ∀ n, Sm (fun i => if i = l then 0 else g i) n = Sm g n - (if l < n then g l else 0)
  | 0 => by rw [if_neg (by omega)]; rfl
  | n + 1 => by
    show Sm (fun i => if i = l then 0 else g i) n + (if n = l then 0 else g n) = Sm g n + g n - _
    rw [Sm_skip g l n]
    by_cases e : n = l
    · subst e; rw [if_pos rfl, if_neg (by omega), if_pos (by omega)]; omega
    · rw [if_neg e]
      by_cases e2 : l < n
      · rw [if_pos e2, if_pos (by omega)]; omega
      · rw [if_neg e2, if_neg (by omega)]; omega
theorem Sm_gap (g : Nat → Int) (l : Nat) : ∀ n, Sm (fun m => g (if m < l then m else m + 1)) n = if n ≤ l then Sm g n else Sm g (n + 1) - g l
  | 0 => by rw [if_pos (by omega)]; rfl
  | n + 1 => by
    show Sm (fun m => g (if m < l then m else m + 1)) n + g (if n < l then n else n + 1) = _
    rw [Sm_gap g l n]
    by_cases e : n < l
    · rw [if_pos e, if_pos (by omega), if_pos (by omega)]; rfl
    · rw [if_neg e]
      by_cases e2 : n = l
      · subst e2
        rw [if_pos (by omega), if_neg (by omega)]
        show _ = Sm g n + g n + g (n + 1) - g n
        omega
      · rw [if_neg (by omega), if_neg (by omega)]
        show _ = Sm g (n + 1) + g (n + 1) - g l
        omega
/-- The cards of some secrets. -/
def kyS (S : List Int) (i : Nat) : Int := pw 37 (S.getD i 0).toNat
def cdsL (S : List Int) (m : Nat) : List Cd := (List.range m).map fun (i : Nat) => (((i : Int) + 1, 0, kyS S i) : Cd)
theorem cdsL_len (S : List Int) (m : Nat) : (cdsL S m).length = m := by simp [cdsL]
theorem cdsL_at (S : List Int) {m i : Nat} (h : i < m) : (cdsL S m).getD i (0, 0, 0) = ((i : Int) + 1, 0, kyS S i) := by
  unfold cdsL
  rw [List.getD_eq_getElem?_getD, List.getElem?_map, List.getElem?_range h]; rfl
def okS (S : List Int) (m : Nat) : Prop := ∀ i, i < m → (1 ≤ S.getD i 0 ∧ S.getD i 0 ≤ 2305843009213693949) ∧ 2 ≤ kyS S i ∧ kyS S i ≤ 2305843009213693949
theorem agE_ok {S : List Int} {m i j : Nat} (h : okS S m) (hi : i < m) (hj : j < m) : agE (S.getD i 0) (kyS S j) = 0 := by
  unfold agE
  rw [if_neg (fun h2 => h2 (h i hi).1), if_neg (fun h2 => h2 (h j hj).2)]
theorem riB_of {cs : List Cd} : ∀ {m : Nat}, (∀ k, k < m → lastW cs k < wAt cs k ∧ wAt cs k ≤ 64) → riB cs m = true
  | 0, _ => rfl
  | m + 1, h => by
    unfold riB
    rw [riB_of (fun k hk => h k (by omega)), decide_eq_true (h m (by omega)).1, decide_eq_true (h m (by omega)).2]; rfl
theorem mErr_of {who s : Int} {cs : List Cd} : ∀ {m : Nat}, (∀ k, k < m → agE s (cs.getD k (0, 0, 0)).2.2 = 0) → mErrN who s cs m = 0
  | 0, _ => rfl
  | m + 1, h => by
    show (if mErrN who s cs m ≠ 0 then mErrN who s cs m else if (cs.getD m (0, 0, 0)).1 = who then 0 else agE s (cs.getD m (0, 0, 0)).2.2) = 0
    rw [mErr_of (fun k hk => h k (by omega)), if_neg (by simp), h m (by omega)]
    split <;> rfl
theorem hide_ok {S : List Int} {N i n : Nat} (h : okS S N) (hi : i < N) (hN : N ≤ 6) (hn : n ≤ 256) : hideE ((i : Int) + 1) n (S.getD i 0) (cdsL S N) = 0 := by
  unfold hideE
  have hs : sndB ((i : Int) + 1) n (cdsL S N) = true := by
    unfold sndB
    rw [decide_eq_true (by omega), cdsL_len, riB_of (fun k hk => ?_)]; rfl
    have hw : ∀ j, j < N → wAt (cdsL S N) j = j + 1 := fun j hj => by unfold wAt; rw [cdsL_at S hj]
    cases k with
    | zero => rw [hw 0 hk]; show (0 : Int) < _ ∧ _; omega
    | succ k => rw [hw _ hk]; show wAt _ k < _ ∧ _; rw [hw k (by omega)]; omega
  rw [if_pos hs, cdsL_len]
  exact mErr_of (fun k hk => by rw [cdsL_at S hk]; exact agE_ok h hi hk)
def restL (S : List Int) (N l : Nat) : List Cd := (cdsL S N).take l ++ (cdsL S N).drop (l + 1)
theorem restL_len {S : List Int} {N l : Nat} (h : l < N) : (restL S N l).length = N - 1 := by
  unfold restL; rw [List.length_append, List.length_take, List.length_drop, cdsL_len]; omega
theorem restL_at {S : List Int} {N l m : Nat} (h : l < N) (hm : m < N - 1) : (restL S N l).getD m (0, 0, 0) = (((if m < l then m else m + 1 : Nat) : Int) + 1, 0, kyS S (if m < l then m else m + 1)) := by
  unfold restL
  rw [List.getD_eq_getElem?_getD, List.getElem?_append, List.length_take, cdsL_len]
  by_cases e : m < l
  · rw [if_pos (by omega), List.getElem?_take, if_pos e, if_pos e, ← List.getD_eq_getElem?_getD, cdsL_at S (by omega)]
  · rw [if_neg (by omega), List.getElem?_drop, if_neg e, ← List.getD_eq_getElem?_getD, show l + 1 + (m - min l N) = m + 1 from by omega, cdsL_at S (by omega)]
theorem left_ok {S : List Int} {N l n : Nat} (h : okS S N) (hl : l < N) (hN : N ≤ 6) (hn : n ≤ 256) : hideE ((l : Int) + 1) n (S.getD l 0) (restL S N l) = 0 := by
  unfold hideE
  have hs : sndB ((l : Int) + 1) n (restL S N l) = true := by
    unfold sndB
    rw [decide_eq_true (by omega), restL_len hl, riB_of (fun k hk => ?_)]; rfl
    have hw : ∀ j, j < N - 1 → wAt (restL S N l) j = (if j < l then j else j + 1 : Nat) + 1 := fun j hj => by unfold wAt; rw [restL_at hl hj]
    cases k with
    | zero => rw [hw 0 hk]; show (0 : Int) < _ ∧ _; split <;> omega
    | succ k => rw [hw _ hk]; show wAt _ k < _ ∧ _; rw [hw k (by omega)]; split <;> split <;> omega
  rw [if_pos hs, restL_len hl]
  exact mErr_of (fun k hk => by rw [restL_at hl hk]; exact agE_ok h hl (by split <;> omega))
/-- What the mask of two comes to in the one's vector. -/
def mF (S : List Int) (n k i j : Nat) : Int := mTerm false ((i : Int) + 1) (S.getD i 0) n ((j : Int) + 1, 0, kyS S j) k
theorem mF_eq (S : List Int) (n k i j : Nat) : mF S n k i j = if j = i then 0 else if i < j then (mkV (S.getD i 0) (kyS S j) n).getD k 0 else -(mkV (S.getD i 0) (kyS S j) n).getD k 0 := by
  unfold mF mTerm
  by_cases e : j = i
  · subst e; rw [if_pos rfl, if_pos rfl]
  · rw [if_neg (by show ¬ (j : Int) + 1 = (i : Int) + 1; omega), if_neg e]
    by_cases e2 : i < j
    · rw [decide_eq_true (by show (i : Int) + 1 < (j : Int) + 1; omega), if_pos e2]; rfl
    · rw [decide_eq_false (by show ¬ (i : Int) + 1 < (j : Int) + 1; omega), if_neg e2]; rfl
theorem mF_anti {S : List Int} {N n k i j : Nat} (h : okS S N) (hi : i < N) (hj : j < N) : mF S n k i j = - mF S n k j i := by
  have hs : mkV (S.getD i 0) (kyS S j) n = mkV (S.getD j 0) (kyS S i) n := by
    unfold mkV
    have h1 := agE_ok h hi hj
    have h2 := agE_ok h hj hi
    unfold kyS at h1 h2 ⊢
    rw [agV_comm (by have := (h i hi).1; omega) (by have := (h j hj).1; omega) h1 h2]
  rw [mF_eq, mF_eq, hs]
  by_cases e : j = i
  · subst e; rw [if_pos rfl]; rfl
  · rw [if_neg e, if_neg (fun h2 : i = j => e h2.symm)]
    by_cases e2 : i < j
    · rw [if_pos e2, if_neg (by omega)]; omega
    · rw [if_neg e2, if_pos (by omega)]
theorem mSum_cds (S : List Int) (N n k i : Nat) : ∀ m, m ≤ N → mSumN false ((i : Int) + 1) (S.getD i 0) n (cdsL S N) k m = Sm (fun j => mF S n k i j) m
  | 0, _ => rfl
  | m + 1, h => by
    show mSumN _ _ _ _ _ _ m + mTerm _ _ _ _ _ _ = Sm _ m + _
    rw [mSum_cds S N n k i m (by omega), cdsL_at S (by omega)]; rfl
theorem mSum_rest {S : List Int} {N l : Nat} (n k : Nat) (hl : l < N) : ∀ m, m ≤ N - 1 → mSumN true ((l : Int) + 1) (S.getD l 0) n (restL S N l) k m = Sm (fun j => - mF S n k l (if j < l then j else j + 1)) m
  | 0, _ => rfl
  | m + 1, h => by
    show mSumN _ _ _ _ _ _ m + mTerm _ _ _ _ _ _ = Sm _ m + _
    rw [mSum_rest n k hl m (by omega), restL_at hl (by omega)]
    congr 1
    show _ = - mF S n k l (if m < l then m else m + 1)
    rw [mF_eq]
    by_cases e : m < l
    · rw [if_pos e, if_neg (by omega), if_neg (by omega)]
      unfold mTerm
      rw [if_neg (show ¬ ((m : Int) + 1 = (l : Int) + 1) by omega), decide_eq_false (show ¬ ((l : Int) + 1 < (m : Int) + 1) by omega), if_pos (by decide), Int.neg_neg]
    · rw [if_neg e, if_neg (by omega), if_pos (by omega)]
      unfold mTerm
      rw [if_neg (show ¬ (((m + 1 : Nat) : Int) + 1 = (l : Int) + 1) by omega), decide_eq_true (show ((l : Int) + 1 < ((m + 1 : Nat) : Int) + 1) by omega), if_neg (by decide)]
/-- What all of it comes to. -/
theorem goes {S : List Int} {N n k l : Nat} (h : okS S N) (x : Int) :
    wr .u32 (Sm (fun i => if i = l then 0 else x + Sm (fun j => mF S n k i j) N) N + (if l < N then - Sm (fun j => - mF S n k l (if j < l then j else j + 1)) (N - 1) else 0)) = wr .u32 (Sm (fun i => if i = l then 0 else x) N) := by
  have e1 : Sm (fun i => if i = l then 0 else x + Sm (fun j => mF S n k i j) N) N = Sm (fun i => if i = l then 0 else x) N + Sm (fun i => if i = l then 0 else Sm (fun j => mF S n k i j) N) N := by
    rw [← Sm_add]
    exact Sm_ext (fun i _ => by split <;> omega)
  rw [e1, Sm_skip (fun i => Sm (fun j => mF S n k i j) N), Sm_anti _ N (fun i j hi hj => mF_anti h hi hj)]
  by_cases e : l < N
  · rw [if_pos e, if_pos e]
    have h0 : mF S n k l l = 0 := by rw [mF_eq, if_pos rfl]
    have e3 : (if N - 1 ≤ l then Sm (fun j => - mF S n k l j) (N - 1) else Sm (fun j => - mF S n k l j) (N - 1 + 1) - - mF S n k l l) = - Sm (mF S n k l) N := by
      have hneg : ∀ q, Sm (fun j => - mF S n k l j) q = - Sm (mF S n k l) q := fun q => Sm_neg (mF S n k l) q
      rw [hneg, hneg]
      have hN : N = N - 1 + 1 := by omega
      by_cases e2 : N - 1 ≤ l
      · have : l = N - 1 := by omega
        rw [if_pos e2]
        conv => rhs; rw [hN]
        show _ = - (Sm _ (N - 1) + mF S n k l (N - 1))
        rw [← this, h0]; omega
      · rw [if_neg e2, ← hN, h0]; omega
    have e4 : Sm (fun j => - mF S n k l (if j < l then j else j + 1)) (N - 1) = - Sm (mF S n k l) N := by
      rw [Sm_gap (fun j => - mF S n k l j) l (N - 1)]; exact e3
    rw [e4]
    show wr .u32 (_ + (0 - Sm (mF S n k l) N) + - - Sm (mF S n k l) N) = _
    congr 1; omega
  · rw [if_neg e, if_neg e]
    congr 1; omega
end Go.Proofs.YtofkdfodehfpdaaGreat.Ring

/- Mend's laws, the plain part: donors of whom some gave and some open; all fits, and all comes out. -/
namespace Go.Proofs.YtofkdfodehfpdaaGreat.Mnd
open Go.V Go.Num
open Go.Eng (wr)
open Go.Proofs.YtofkdfodehfpdaaGreat.Wrd
open Go.Proofs.YtofkdfodehfpdaaGreat.Ring
set_option maxRecDepth 100000
set_option maxHeartbeats 4000000
def GLn (G : Nat → Bool) (N : Nat) : List Nat := (List.range N).filter fun i => G (i + 1)
def up1 (l : List Nat) : List Int := l.map fun (i : Nat) => ((i + 1 : Nat) : Int)
theorem GLn_mem {G : Nat → Bool} {N i : Nat} : i ∈ GLn G N ↔ i < N ∧ G (i + 1) = true := by unfold GLn; rw [List.mem_filter, List.mem_range]
theorem up1_mem {l : List Nat} {n : Int} : n ∈ up1 l ↔ ∃ i ∈ l, ((i + 1 : Nat) : Int) = n := by unfold up1; rw [List.mem_map]
theorem GLn_up (G : Nat → Bool) (N : Nat) : (GLn G N).Pairwise (· < ·) := List.Pairwise.filter _ List.pairwise_lt_range
theorem up1_up {l : List Nat} (h : l.Pairwise (· < ·)) : (up1 l).Pairwise (· < ·) := by
  unfold up1
  rw [List.pairwise_map]
  exact h.imp (fun hab => by omega)
theorem risN_of {l : List Int} : ∀ {k : Nat}, (∀ j, j < k → l.getD j 0 < l.getD (j + 1) 0) → risN l k = true
  | 0, _ => rfl
  | k + 1, h => by
    show (risN l k && decide (l.getD k 0 < l.getD (k + 1) 0)) = true
    rw [risN_of (fun j hj => h j (by omega)), decide_eq_true (h k (by omega))]; rfl
theorem ris_pw {l : List Int} (h : l.Pairwise (· < ·)) : risB l = true := by
  refine risN_of (fun j hj => ?_)
  have := List.pairwise_iff_getElem.1 h j (j + 1) (by omega) (by omega) (by omega)
  rw [List.getD_eq_getElem?_getD, List.getD_eq_getElem?_getD, List.getElem?_eq_getElem (by omega), List.getElem?_eq_getElem (by omega)]
  exact this
theorem sub_of {a b : List Int} (h : ∀ n ∈ a, n ∈ b) : subB a b = true := by
  unfold subB
  have : (a.any fun n => !b.contains n) = false := by
    rw [List.any_eq_false]
    intro n hn
    have := h n hn
    simp [this]
  rw [this]; rfl
/-- Places of openers. -/
def jsN (O : Nat → Bool) (N : Nat) : List Nat := (GLn O N).map (· + 1)
theorem js_ups {O : Nat → Bool} {N : Nat} (hN : N ≤ 6) : Ups (jsN O N) := by
  have hp : (jsN O N).Pairwise (· < ·) := by
    unfold jsN; rw [List.pairwise_map]
    exact (GLn_up O N).imp (fun hab => by omega)
  refine ⟨fun i k hk hi => ?_, fun i hi => ?_⟩
  · have := List.pairwise_iff_getElem.1 hp k i (by omega) hi hk
    rw [List.getD_eq_getElem?_getD, List.getD_eq_getElem?_getD, List.getElem?_eq_getElem (by omega), List.getElem?_eq_getElem hi]
    exact this
  · have hm : (jsN O N).getD i 0 ∈ jsN O N := by rw [List.getD_eq_getElem?_getD, List.getElem?_eq_getElem hi]; exact List.getElem_mem hi
    obtain ⟨q, hq, e⟩ := List.mem_map.1 hm
    have := (GLn_mem.1 hq).1
    omega
theorem js_len (O : Nat → Bool) (N : Nat) : (jsN O N).length ≤ N := by
  unfold jsN GLn; rw [List.length_map]
  exact Nat.le_trans (List.length_filter_le _ _) (by simp)
abbrev osN (O : Nat → Bool) (N : Nat) : List Int := (jsN O N).map fun (j : Nat) => (j : Int)
theorem os_up (O : Nat → Bool) (N : Nat) : osN O N = up1 (GLn O N) := by unfold osN jsN up1; rw [List.map_map]; rfl
/-- What an opener tells of each. -/
def valN (G : Nat → Bool) (sd : Nat → List Int) (S cf : List Int) (j w : Nat) : List Int := if G w = true then (List.range 5).map fun k => shareV ((cutL (sd w)).getD k 0) cf (j : Int) else [shareV (S.getD (w - 1) 0) cf (j : Int)]
abbrev opsN (G O : Nat → Bool) (sd : Nat → List Int) (S cf : List Int) (N : Nat) : List (List Opng) := (jsN O N).map fun (j : Nat) => opgN G (valN G sd S cf j) N
theorem cds_fst (S : List Int) (N : Nat) : (cdsL S N).map (fun c => c.1) = up1 (List.range N) := by
  unfold cdsL up1; rw [List.map_map]; rfl
theorem runs_fit {G O : Nat → Bool} {sd : Nat → List Int} {S cf : List Int} {N : Nat} {gifts : List (List Int)} {n : Nat} (hl : gifts.length = (GLn G N).length) (hg : ∀ g ∈ gifts, g.length = n) (hn : n ≤ 256) :
    Fit (cdsL S N) (up1 (List.range N)) (up1 (GLn G N)) gifts (osN O N) (opsN G O sd S cf N) := by
  refine ⟨ris_pw (up1_up List.pairwise_lt_range), ris_pw (up1_up (GLn_up G N)), ?_, ?_, ?_, ?_, ?_, ?_, ?_⟩
  · rw [os_up]; exact ris_pw (up1_up (GLn_up O N))
  · unfold up1; rw [List.length_map]; exact hl
  · rw [List.length_map, List.length_map]
  · refine sub_of (fun m hm => ?_)
    obtain ⟨i, hi, e⟩ := up1_mem.1 hm
    exact up1_mem.2 ⟨i, List.mem_range.2 (GLn_mem.1 hi).1, e⟩
  · rw [cds_fst]; exact sub_of (fun _ h => h)
  · rw [cds_fst]; exact ris_pw (up1_up List.pairwise_lt_range)
  · rw [List.any_eq_false]
    intro g hm
    have h1 := hg g hm
    have h2 : (gifts.getD 0 []).length = n := by
      cases gifts with
      | nil => cases hm
      | cons a t => exact hg a (List.mem_cons_self ..)
    unfold badG
    rw [decide_eq_false (by omega), decide_eq_false (by omega)]; simp
theorem cds_mem {S : List Int} {N : Nat} {c : Cd} (h : c ∈ cdsL S N) : ∃ i, i < N ∧ c = (((i + 1 : Nat) : Int), 0, kyS S i) := by
  obtain ⟨i, hi, rfl⟩ := List.mem_map.1 h
  exact ⟨i, List.mem_range.1 hi, rfl⟩
theorem gave_has {G : Nat → Bool} {N i : Nat} (hi : i < N) : (up1 (GLn G N)).contains ((i + 1 : Nat) : Int) = G (i + 1) := by
  cases h : G (i + 1) with
  | true => exact List.contains_iff_mem.2 (up1_mem.2 ⟨i, GLn_mem.2 ⟨hi, h⟩, rfl⟩)
  | false =>
    cases h2 : (up1 (GLn G N)).contains ((i + 1 : Nat) : Int) with
    | false => rfl
    | true =>
      obtain ⟨q, hq, e⟩ := up1_mem.1 (List.contains_iff_mem.1 h2)
      have : q = i := by omega
      subst this
      rw [(GLn_mem.1 hq).2] at h; cases h
theorem shared_has {N i : Nat} (hi : i < N) : (up1 (List.range N)).contains ((i + 1 : Nat) : Int) = true :=
  List.contains_iff_mem.2 (up1_mem.2 ⟨i, List.mem_range.2 hi, rfl⟩)
theorem given_eq (G : Nat → Bool) (S : List Int) (N : Nat) : givenL (up1 (GLn G N)) (cdsL S N) = (GLn G N).map fun (i : Nat) => ((((i + 1 : Nat) : Int), 0, kyS S i) : Cd) := by
  have h : ∀ i, i ∈ List.range N → ((up1 (GLn G N)).contains ((i + 1 : Nat) : Int)) = G (i + 1) := fun i hi => gave_has (List.mem_range.1 hi)
  unfold givenL cdsL
  rw [List.filter_map]
  exact congrArg (List.map fun (i : Nat) => ((((i + 1 : Nat) : Int), 0, kyS S i) : Cd)) (List.filter_congr (fun i hi => h i hi))
theorem rest_eq (G : Nat → Bool) (S : List Int) (N : Nat) : restL (up1 (List.range N)) (up1 (GLn G N)) (cdsL S N) = (GLn (fun i => !G i) N).map fun (i : Nat) => ((((i + 1 : Nat) : Int), 0, kyS S i) : Cd) := by
  have h : ∀ i, i ∈ List.range N → (!(up1 (GLn G N)).contains ((i + 1 : Nat) : Int) && (up1 (List.range N)).contains ((i + 1 : Nat) : Int)) = !G (i + 1) := fun i hi => by
    rw [gave_has (List.mem_range.1 hi), shared_has (List.mem_range.1 hi), Bool.and_true]
  unfold restL cdsL
  rw [List.filter_map]
  exact congrArg (List.map fun (i : Nat) => ((((i + 1 : Nat) : Int), 0, kyS S i) : Cd)) (List.filter_congr (fun i hi => h i hi))
/-- What the shares of one who gave come to. -/
theorem runs_seed {G O : Nat → Bool} {sd : Nat → List Int} {S cf : List Int} {N i : Nat} (hN : N ≤ 6) (hi : i < N) (hG : G (i + 1) = true) (hO : cf.length + 1 ≤ (jsN O N).length) (hb : By (sd (i + 1))) :
    (∀ k, k < 5 → someE ((cf.length + 1 : Nat) : Int) (ptsN ((i + 1 : Nat) : Int) true 5 k (osN O N) (opsN G O sd S cf N) (osN O N).length) = 0) ∧ limL ((cf.length + 1 : Nat) : Int) ((i + 1 : Nat) : Int) (osN O N) (opsN G O sd S cf N) = cutL (sd (i + 1)) := by
  have hu := js_ups (O := O) hN
  have h64 := js_len O N
  have hp : ∀ k, k < 5 → ptsN ((i + 1 : Nat) : Int) true 5 k (osN O N) (opsN G O sd S cf N) (osN O N).length = shaL ((cutL (sd (i + 1))).getD k 0) cf (jsN O N) := fun k hk => by
    rw [List.length_map]
    refine Eq.trans (pts_all G (valN G sd S cf) true 5 k i N (jsN O N) hG (fun j => by unfold valN; rw [if_pos hG]; simp) hi _ (Nat.le_refl _)) ?_
    rw [List.take_length]
    unfold shaL
    refine List.map_congr_left (fun j _ => ?_)
    unfold valN
    rw [if_pos hG, List.getD_eq_getElem?_getD, List.getElem?_map, List.getElem?_range hk]; rfl
  have hc : (cutL (sd (i + 1))).length = 5 := (cut_ok hb).1
  refine ⟨fun k hk => by rw [hp k hk]; exact sha_E _ cf hu (by omega) hO, ?_⟩
  have hj : ∀ k, k < 5 → limT ((cf.length + 1 : Nat) : Int) ((i + 1 : Nat) : Int) (osN O N) (opsN G O sd S cf N) k = (cutL (sd (i + 1))).getD k 0 := fun k hk => by
    unfold limT
    rw [hp k hk]
    refine sha_join cf hu (by omega) hO ?_
    rw [cut_at _ hk]
    obtain ⟨h1, h2⟩ := hv_rng hb (lsz k) (7 * k)
    have h4 : ∀ m, m ≤ 7 → (256 : Int) ^ m ≤ 72057594037927936 := by decide
    have := h4 _ (lsz_le k)
    exact ⟨h1, by omega⟩
  unfold limL
  apply List.ext_getElem?
  intro k
  by_cases hk : k < 5
  · rw [List.getElem?_map, List.getElem?_range hk]
    show some (limT _ _ _ _ k) = _
    rw [hj k hk, List.getD_eq_getElem?_getD, List.getElem?_eq_getElem (by omega)]; rfl
  · rw [List.getElem?_eq_none (by simp; omega), List.getElem?_eq_none (by omega)]
/-- What the shares of one who is gone come to. -/
theorem runs_key {G O : Nat → Bool} {sd : Nat → List Int} {S cf : List Int} {N i : Nat} (hN : N ≤ 6) (hi : i < N) (hG : G (i + 1) = false) (hO : cf.length + 1 ≤ (jsN O N).length) (hs : 0 ≤ S.getD i 0 ∧ S.getD i 0 < 2305843009213693951) :
    someE ((cf.length + 1 : Nat) : Int) (ptsN ((i + 1 : Nat) : Int) false 1 0 (osN O N) (opsN G O sd S cf N) (osN O N).length) = 0 ∧ keyT ((cf.length + 1 : Nat) : Int) ((i + 1 : Nat) : Int) (osN O N) (opsN G O sd S cf N) = S.getD i 0 := by
  have hu := js_ups (O := O) hN
  have h64 := js_len O N
  have hG' : ¬ G (i + 1) = true := by rw [hG]; simp
  have hp : ptsN ((i + 1 : Nat) : Int) false 1 0 (osN O N) (opsN G O sd S cf N) (osN O N).length = shaL (S.getD i 0) cf (jsN O N) := by
    rw [List.length_map]
    refine Eq.trans (pts_all G (valN G sd S cf) false 1 0 i N (jsN O N) hG (fun j => by unfold valN; rw [if_neg hG']; rfl) hi _ (Nat.le_refl _)) ?_
    rw [List.take_length]
    unfold shaL
    refine List.map_congr_left (fun j _ => ?_)
    unfold valN
    rw [if_neg hG']; rfl
  refine ⟨by rw [hp]; exact sha_E _ cf hu (by omega) hO, ?_⟩
  unfold keyT
  rw [hp]
  exact sha_join cf hu (by omega) hO hs
end Go.Proofs.YtofkdfodehfpdaaGreat.Mnd

/- Mend's laws, the plain part: a sum comes out. -/
namespace Go.Proofs.YtofkdfodehfpdaaGreat.Mnd
open Go.V Go.Num
open Go.Eng (wr)
open Go.Proofs.YtofkdfodehfpdaaGreat.Wrd
open Go.Proofs.YtofkdfodehfpdaaGreat.Ring
set_option maxRecDepth 100000
set_option maxHeartbeats 4000000
abbrev cdA (S : List Int) (i : Nat) : Cd := (((i + 1 : Nat) : Int), 0, kyS S i)
theorem sel_at (S : List Int) (l : List Nat) {k : Nat} (h : k < l.length) : (l.map (cdA S)).getD k (0, 0, 0) = cdA S (l.getD k 0) := by
  rw [List.getD_eq_getElem?_getD, List.getElem?_map, List.getD_eq_getElem?_getD, List.getElem?_eq_getElem h]; rfl
theorem sel_ok {S : List Int} {N i n : Nat} {l : List Nat} (h : okS S N) (hi : i < N) (hN : N ≤ 6) (hn : n ≤ 256) (hp : l.Pairwise (· < ·)) (hl : ∀ q ∈ l, q < N) : hideE ((i + 1 : Nat) : Int) n (S.getD i 0) (l.map (cdA S)) = 0 := by
  have hq : ∀ k, k < l.length → l.getD k 0 < N := fun k hk => hl _ (by rw [List.getD_eq_getElem?_getD, List.getElem?_eq_getElem hk]; exact List.getElem_mem hk)
  have hm : ∀ k, k + 1 < l.length → l.getD k 0 < l.getD (k + 1) 0 := fun k hk => by
    have := List.pairwise_iff_getElem.1 hp k (k + 1) (by omega) hk (by omega)
    rw [List.getD_eq_getElem?_getD, List.getD_eq_getElem?_getD, List.getElem?_eq_getElem (by omega), List.getElem?_eq_getElem hk]
    exact this
  unfold hideE
  have hs : sndB ((i + 1 : Nat) : Int) n (l.map (cdA S)) = true := by
    unfold sndB
    rw [decide_eq_true (by omega), List.length_map, riB_of (fun k hk => ?_)]; rfl
    have hw : ∀ j, j < l.length → wAt (l.map (cdA S)) j = ((l.getD j 0 + 1 : Nat) : Int) := fun j hj => by unfold wAt; rw [sel_at S l hj]
    cases k with
    | zero => rw [hw 0 hk]; have := hq 0 hk; show (0 : Int) < _ ∧ _; omega
    | succ k => rw [hw _ hk]; have := hq _ hk; have := hm k hk; show wAt _ k < _ ∧ _; rw [hw k (by omega)]; omega
  rw [if_pos hs, List.length_map]
  exact mErr_of (fun k hk => by rw [sel_at S l hk]; exact agE_ok h hi (hq k hk))
theorem runs_good {G O : Nat → Bool} {sd : Nat → List Int} {S cf : List Int} {N n : Nat} (h : okS S N) (hN : N ≤ 6) (hn : n ≤ 256) (hO : cf.length + 1 ≤ (jsN O N).length) (hb : ∀ i, By (sd i)) (hS : ∀ i, S.getD i 0 < 2305843009213693951) :
    Good ((cf.length + 1 : Nat) : Int) (cdsL S N) (up1 (List.range N)) (up1 (GLn G N)) n (osN O N) (opsN G O sd S cf N) := by
  refine ⟨fun c hc => ?_, fun c hc => ?_⟩
  · rw [given_eq] at hc
    obtain ⟨i, hi, rfl⟩ := List.mem_map.1 hc
    obtain ⟨h1, h2⟩ := GLn_mem.1 hi
    obtain ⟨q1, q2⟩ := runs_seed (O := O) (S := S) hN h1 h2 hO (hb (i + 1))
    refine ⟨q1, ?_⟩
    show GlOk (limL _ ((i + 1 : Nat) : Int) _ _)
    rw [q2]; exact cut_ok (hb (i + 1))
  · rw [rest_eq] at hc
    obtain ⟨i, hi, rfl⟩ := List.mem_map.1 hc
    obtain ⟨h1, h2⟩ := GLn_mem.1 hi
    have h2' : G (i + 1) = false := by simpa using h2
    have hr := (h i h1).1
    obtain ⟨q1, q2⟩ := runs_key (sd := sd) hN h1 h2' hO ⟨by omega, hS i⟩
    refine ⟨q1, ?_, ?_, ?_⟩
    · show 1 ≤ keyT _ ((i + 1 : Nat) : Int) _ _ ∧ keyT _ ((i + 1 : Nat) : Int) _ _ ≤ _
      rw [q2]; exact hr
    · show pw 37 (keyT _ ((i + 1 : Nat) : Int) _ _).toNat = kyS S i
      rw [q2]; rfl
    · show hideE ((i + 1 : Nat) : Int) n (keyT _ ((i + 1 : Nat) : Int) _ _) _ = 0
      rw [q2, given_eq]
      exact sel_ok h h1 hN hn (GLn_up G N) (fun q hq => (GLn_mem.1 hq).1)
/-- Sums over chosen ones. -/
def LS (g : Nat → Int) : List Nat → Int
  | [] => 0
  | i :: l => g i + LS g l
theorem LS_app (g : Nat → Int) : ∀ a b : List Nat, LS g (a ++ b) = LS g a + LS g b
  | [], b => by show LS g b = 0 + _; omega
  | i :: a, b => by show g i + LS g (a ++ b) = g i + LS g a + LS g b; rw [LS_app g a b]; omega
theorem LS_sel (g : Nat → Int) (G : Nat → Bool) : ∀ N, LS g (GLn G N) = Sm (fun i => if G (i + 1) = true then g i else 0) N
  | 0 => rfl
  | N + 1 => by
    have e : GLn G (N + 1) = GLn G N ++ (if G (N + 1) = true then [N] else []) := by
      unfold GLn; rw [List.range_succ, List.filter_append]; congr 1
      by_cases hg : G (N + 1) = true
      · rw [if_pos hg]; simp only [List.filter, hg]
      · rw [if_neg hg]; simp only [List.filter, Bool.eq_false_iff.2 hg]
    rw [e, LS_app, LS_sel g G N]
    show _ = Sm _ N + (if G (N + 1) = true then g N else 0)
    by_cases hg : G (N + 1) = true
    · rw [if_pos hg, if_pos hg]; show _ + (g N + 0) = _; omega
    · rw [if_neg hg, if_neg hg]; rfl
theorem LS_ext {f g : Nat → Int} : ∀ {l : List Nat}, (∀ i ∈ l, f i = g i) → LS f l = LS g l
  | [], _ => rfl
  | i :: l, h => by show f i + LS f l = g i + LS g l; rw [h i (List.mem_cons_self ..), LS_ext (fun j hj => h j (List.mem_cons_of_mem _ hj))]
theorem LS_take (g : Nat → Int) {l : List Nat} {k : Nat} (h : k < l.length) : LS g (l.take (k + 1)) = LS g (l.take k) + g (l.getD k 0) := by
  have hx : l[k]? = some (l.getD k 0) := by rw [List.getD_eq_getElem?_getD, List.getElem?_eq_getElem h]; rfl
  rw [List.take_add_one, hx, LS_app]; show _ + (g _ + 0) = _; omega
/-- Those that gave: their pairs are gone; what is left of those that are gone goes. -/
theorem all_gone {S : List Int} {N n k : Nat} (G : Nat → Bool) (h : okS S N) :
    LS (fun i => Sm (fun j => mF S n k i j) N) (GLn G N) + LS (fun l => LS (fun i => mF S n k l i) (GLn G N)) (GLn (fun i => !G i) N) = 0 := by
  rw [LS_sel, LS_sel]
  have e1 : ∀ l, LS (fun i => mF S n k l i) (GLn G N) = Sm (fun i => if G (i + 1) = true then mF S n k l i else 0) N := fun l => LS_sel _ _ _
  have e2 := Sm_anti (fun i j => if G (i + 1) = true then mF S n k i j else if G (j + 1) = true then mF S n k i j else 0) N (fun i j hi hj => by
    have := mF_anti (n := n) (k := k) h hi hj
    show (if G (i + 1) = true then mF S n k i j else if G (j + 1) = true then mF S n k i j else 0) = - (if G (j + 1) = true then mF S n k j i else if G (i + 1) = true then mF S n k j i else 0)
    split <;> split <;> omega)
  rw [← Sm_add]
  refine Eq.trans ?_ e2
  refine Sm_ext (fun i hi => ?_)
  show (if G (i + 1) = true then Sm (fun j => mF S n k i j) N else 0) + (if (!G (i + 1)) = true then LS (fun q => mF S n k i q) (GLn G N) else 0) = Sm (fun j => if G (i + 1) = true then mF S n k i j else if G (j + 1) = true then mF S n k i j else 0) N
  rw [e1 i]
  by_cases hg : G (i + 1) = true
  · rw [if_pos hg, hg, if_neg (by simp), Int.add_zero]
    exact Sm_ext (fun j hj => by rw [if_pos rfl])
  · rw [if_neg hg, if_pos (by simpa using hg), Int.zero_add]
    exact Sm_ext (fun j hj => by rw [if_neg hg])
end Go.Proofs.YtofkdfodehfpdaaGreat.Mnd

/- Mend's laws, the plain part: what the sum is. -/
namespace Go.Proofs.YtofkdfodehfpdaaGreat.Mnd
open Go.V Go.Num
open Go.Eng (wr)
open Go.Proofs.YtofkdfodehfpdaaGreat.Wrd
open Go.Proofs.YtofkdfodehfpdaaGreat.Ring
set_option maxRecDepth 100000
set_option maxHeartbeats 4000000
theorem wr_mod (x : Int) : wr .u32 x = x % 4294967296 := by simp only [wr]
theorem LS_addf (f g : Nat → Int) : ∀ l, LS (fun i => f i + g i) l = LS f l + LS g l
  | [] => rfl
  | i :: l => by show f i + g i + LS _ l = f i + LS f l + (g i + LS g l); rw [LS_addf f g l]; omega
theorem LS_negf (f : Nat → Int) : ∀ l, LS (fun i => - f i) l = - LS f l
  | [] => rfl
  | i :: l => by show - f i + LS _ l = - (f i + LS f l); rw [LS_negf f l]; omega
theorem LS_mod {f g : Nat → Int} : ∀ {l : List Nat}, (∀ i ∈ l, f i % 4294967296 = g i % 4294967296) → LS f l % 4294967296 = LS g l % 4294967296
  | [], _ => rfl
  | i :: l, h => by
    have h1 := h i (List.mem_cons_self ..)
    have h2 := LS_mod (l := l) (fun j hj => h j (List.mem_cons_of_mem _ hj))
    show (f i + LS f l) % 4294967296 = (g i + LS g l) % 4294967296
    omega
theorem col_ls (v : Nat → List Int) (l : List Nat) (p : Nat) : ∀ k, k ≤ l.length → colN (l.map v) p k % 4294967296 = LS (fun i => (v i).getD p 0) (l.take k) % 4294967296
  | 0, _ => rfl
  | k + 1, h => by
    have e : (l.map v).getD k [] = v (l.getD k 0) := by
      rw [List.getD_eq_getElem?_getD, List.getElem?_map, List.getD_eq_getElem?_getD, List.getElem?_eq_getElem (by omega)]; rfl
    have ih := col_ls v l p k (by omega)
    rw [LS_take _ (by omega)]
    show wr .u32 (colN (l.map v) p k + ((l.map v).getD k []).getD p 0) % 4294967296 = _
    rw [e, wr_mod]; omega
theorem own_ls (e : Int) (os : List Int) (gs : List (List Opng)) (S : List Int) (l : List Nat) (v : List Int) (own : Nat → List Int) {n p : Nat} (hv : v.length = n) (hp : p < n) (ho : ∀ i ∈ l, vecL (gl (limL e ((i + 1 : Nat) : Int) os gs) 32) 4 n = own i) : ∀ k, k ≤ l.length →
    (ownN e os gs (l.map (cdA S)) v k).getD p 0 % 4294967296 = (v.getD p 0 - LS (fun i => (own i).getD p 0) (l.take k)) % 4294967296
  | 0, _ => by show v.getD p 0 % _ = (v.getD p 0 - 0) % _; rw [Int.sub_zero]
  | k + 1, h => by
    have ih := own_ls e os gs S l v own hv hp ho k (by omega)
    have hm : l.getD k 0 ∈ l := by rw [List.getD_eq_getElem?_getD, List.getElem?_eq_getElem (by omega)]; exact List.getElem_mem _
    rw [LS_take _ (by omega)]
    show (subV (ownN e os gs (l.map (cdA S)) v k) (vecL (gl (limL e ((l.map (cdA S)).getD k (0, 0, 0)).1 os gs) 32) 4 v.length)).getD p 0 % _ = _
    rw [sel_at S l (by omega), hv]
    show (subV (ownN e os gs (l.map (cdA S)) v k) (vecL (gl (limL e ((l.getD k 0 + 1 : Nat) : Int) os gs) 32) 4 n)).getD p 0 % _ = _
    rw [ho _ hm, subV_at _ _ (by rw [ownN_len]; omega), wr_mod]
    omega
theorem mT_neg (who s : Int) (n : Nat) (c : Cd) (p : Nat) : mTerm true who s n c p = - mTerm false who s n c p := by
  unfold mTerm
  by_cases h : c.1 = who
  · rw [if_pos h, if_pos h]; rfl
  · rw [if_neg h, if_neg h]
    by_cases h2 : who < c.1
    · rw [decide_eq_true h2, if_neg (by decide), if_pos (by decide)]
    · rw [decide_eq_false h2, if_pos (by decide), if_neg (by decide), Int.neg_neg]
theorem sum_ls (S : List Int) (n p w : Nat) (l : List Nat) : ∀ m, m ≤ l.length → mSumN true ((w + 1 : Nat) : Int) (S.getD w 0) n (l.map (cdA S)) p m = - LS (fun i => mF S n p w i) (l.take m)
  | 0, _ => rfl
  | m + 1, h => by
    rw [LS_take _ (by omega)]
    show mSumN _ _ _ _ _ _ m + mTerm _ _ _ _ _ _ = _
    rw [sum_ls S n p w l m (by omega), sel_at S l (by omega), mT_neg]
    show - _ + - mF S n p w (l.getD m 0) = _
    omega
theorem gone_ls (e : Int) (os : List Int) (gs : List (List Opng)) (S : List Int) (gl nl : List Nat) (v : List Int) {n p : Nat} (hv : v.length = n) (hp : p < n) (hk : ∀ i ∈ nl, keyT e ((i + 1 : Nat) : Int) os gs = S.getD i 0) : ∀ k, k ≤ nl.length →
    (goneN e os gs (gl.map (cdA S)) (nl.map (cdA S)) v k).getD p 0 % 4294967296 = (v.getD p 0 + LS (fun w => LS (fun i => mF S n p w i) gl) (nl.take k)) % 4294967296
  | 0, _ => by show v.getD p 0 % _ = (v.getD p 0 + 0) % _; rw [Int.add_zero]
  | k + 1, h => by
    have ih := gone_ls e os gs S gl nl v hv hp hk k (by omega)
    have hm : nl.getD k 0 ∈ nl := by rw [List.getD_eq_getElem?_getD, List.getElem?_eq_getElem (by omega)]; exact List.getElem_mem _
    rw [LS_take _ (by omega)]
    show (subV (goneN e os gs (gl.map (cdA S)) (nl.map (cdA S)) v k) (leftV ((nl.map (cdA S)).getD k (0, 0, 0)).1 (keyT e ((nl.map (cdA S)).getD k (0, 0, 0)).1 os gs) (gl.map (cdA S)) v.length true)).getD p 0 % _ = _
    rw [sel_at S nl (by omega), hv]
    show (subV (goneN e os gs (gl.map (cdA S)) (nl.map (cdA S)) v k) (leftV ((nl.getD k 0 + 1 : Nat) : Int) (keyT e ((nl.getD k 0 + 1 : Nat) : Int) os gs) (gl.map (cdA S)) n true)).getD p 0 % _ = _
    rw [hk _ hm, subV_at _ _ (by rw [goneN_len]; omega), leftV_at _ _ _ _ hp, List.length_map, sum_ls S n p _ gl _ (Nat.le_refl _), List.take_length, wr_mod, wr_mod]
    omega
theorem own_rng (e : Int) (os : List Int) (gs : List (List Opng)) (given : List Cd) (v : List Int) (k : Nat) {p : Nat} (hp : p < v.length) : 0 ≤ (ownN e os gs given v (k + 1)).getD p 0 ∧ (ownN e os gs given v (k + 1)).getD p 0 < 4294967296 := by
  show 0 ≤ (subV _ _).getD p 0 ∧ (subV _ _).getD p 0 < 4294967296
  rw [subV_at _ _ (by rw [ownN_len]; exact hp), wr_mod]; omega
theorem gone_rng (e : Int) (os : List Int) (gs : List (List Opng)) (given rest : List Cd) (v : List Int) {p : Nat} (hp : p < v.length) (hv : 0 ≤ v.getD p 0 ∧ v.getD p 0 < 4294967296) : ∀ k, 0 ≤ (goneN e os gs given rest v k).getD p 0 ∧ (goneN e os gs given rest v k).getD p 0 < 4294967296
  | 0 => hv
  | k + 1 => by
    show 0 ≤ (subV _ _).getD p 0 ∧ (subV _ _).getD p 0 < 4294967296
    rw [subV_at _ _ (by rw [goneN_len]; exact hp), wr_mod]; omega
theorem colV_at (gs : List (List Int)) {n p : Nat} (h : p < n) : (colV gs n).getD p 0 = colN gs p gs.length := by
  unfold colV
  rw [List.getD_eq_getElem?_getD, List.getElem?_map, List.getElem?_range h]; rfl
theorem runs_sum {G O : Nat → Bool} {sd : Nat → List Int} {S cf : List Int} {N n : Nat} (h : okS S N) (hN : N ≤ 6) (hO : cf.length + 1 ≤ (jsN O N).length) (hb : ∀ i, By (sd i)) (hsl : ∀ i, (sd i).length = 32) (hS : ∀ i, S.getD i 0 < 2305843009213693951)
    (v : Nat → List Int) (x : List Int) (want : List Int) (hvl : ∀ i, (v i).length = n)
    (hval : ∀ i ∈ GLn G N, ∀ p, p < n → (v i).getD p 0 % 4294967296 = (x.getD p 0 * ((i + 1 : Nat) : Int) + (vecL (sd (i + 1)) 4 n).getD p 0 + Sm (fun j => mF S n p i j) N) % 4294967296)
    (hwl : want.length = n) (hw : ∀ p, p < n → want.getD p 0 = LS (fun i => x.getD p 0 * ((i + 1 : Nat) : Int)) (GLn G N) % 4294967296) (hne : 0 < (GLn G N).length) :
    sumV ((cf.length + 1 : Nat) : Int) (cdsL S N) (up1 (List.range N)) (up1 (GLn G N)) ((GLn G N).map v) (osN O N) (opsN G O sd S cf N) = want := by
  have h0 : (((GLn G N).map v).getD 0 []).length = n := by
    rw [List.getD_eq_getElem?_getD, List.getElem?_map, List.getElem?_eq_getElem hne]; exact hvl _
  unfold sumV
  rw [h0, given_eq, rest_eq]
  obtain ⟨gl0, hgl0⟩ : ∃ l, l = GLn G N := ⟨_, rfl⟩
  have hlen : ∀ l : List Nat, (l.map (cdA S)).length = l.length := fun l => List.length_map _
  show goneN _ _ _ ((GLn G N).map (cdA S)) ((GLn (fun i => !G i) N).map (cdA S)) (ownN _ _ _ ((GLn G N).map (cdA S)) _ ((GLn G N).map (cdA S)).length) ((GLn (fun i => !G i) N).map (cdA S)).length = _
  rw [hlen, hlen]
  obtain ⟨o, ho⟩ : ∃ o, o = ownN ((cf.length + 1 : Nat) : Int) (osN O N) (opsN G O sd S cf N) ((GLn G N).map (cdA S)) (colV ((GLn G N).map v) n) (GLn G N).length := ⟨_, rfl⟩
  have hol : o.length = n := by rw [ho, ownN_len, colV_len]
  rw [← ho]
  refine ext_getD (by rw [goneN_len, hol, hwl]) (fun p hp => ?_)
  rw [goneN_len, hol] at hp
  have hor : 0 ≤ o.getD p 0 ∧ o.getD p 0 < 4294967296 := by
    rw [ho]
    obtain ⟨m, hm⟩ : ∃ m, (GLn G N).length = m + 1 := ⟨(GLn G N).length - 1, by omega⟩
    rw [hm]; exact own_rng _ _ _ _ _ _ (by rw [colV_len]; exact hp)
  have hr := gone_rng ((cf.length + 1 : Nat) : Int) (osN O N) (opsN G O sd S cf N) ((GLn G N).map (cdA S)) ((GLn (fun i => !G i) N).map (cdA S)) o (by omega) hor (GLn (fun i => !G i) N).length
  have h1 := gone_ls ((cf.length + 1 : Nat) : Int) (osN O N) (opsN G O sd S cf N) S (GLn G N) (GLn (fun i => !G i) N) o hol hp (fun i hi => by
    obtain ⟨q1, q2⟩ := GLn_mem.1 hi
    have q2' : G (i + 1) = false := by simpa using q2
    exact (runs_key (sd := sd) hN q1 q2' hO ⟨by have := (h i q1).1; omega, hS i⟩).2) _ (Nat.le_refl _)
  have h2 := own_ls ((cf.length + 1 : Nat) : Int) (osN O N) (opsN G O sd S cf N) S (GLn G N) (colV ((GLn G N).map v) n) (fun i => vecL (sd (i + 1)) 4 n) (colV_len _ _) hp (fun i hi => by
    obtain ⟨q1, q2⟩ := GLn_mem.1 hi
    rw [(runs_seed (O := O) (S := S) hN q1 q2 hO (hb (i + 1))).2, gl_cut (hb _) (hsl _)]) _ (Nat.le_refl _)
  rw [← ho] at h2
  have h3 := col_ls v (GLn G N) p _ (Nat.le_refl _)
  rw [List.take_length] at h1 h2 h3
  rw [colV_at _ hp, List.length_map] at h2
  have h4 := LS_mod (l := GLn G N) (fun i hi => hval i hi p hp)
  have h5 : LS (fun i => x.getD p 0 * ((i + 1 : Nat) : Int) + (vecL (sd (i + 1)) 4 n).getD p 0 + Sm (fun j => mF S n p i j) N) (GLn G N) = LS (fun i => x.getD p 0 * ((i + 1 : Nat) : Int)) (GLn G N) + LS (fun i => (vecL (sd (i + 1)) 4 n).getD p 0) (GLn G N) + LS (fun i => Sm (fun j => mF S n p i j) N) (GLn G N) := by
    rw [LS_addf (fun i => x.getD p 0 * ((i + 1 : Nat) : Int) + (vecL (sd (i + 1)) 4 n).getD p 0) (fun i => Sm (fun j => mF S n p i j) N), LS_addf (fun i => x.getD p 0 * ((i + 1 : Nat) : Int)) (fun i => (vecL (sd (i + 1)) 4 n).getD p 0)]
  have h6 := all_gone (n := n) (k := p) G h
  rw [h5] at h4
  rw [hw p hp]
  omega
end Go.Proofs.YtofkdfodehfpdaaGreat.Mnd

/- Mend's laws: is a number there. -/
namespace Go.Proofs.YtofkdfodehfpdaaGreat.Mnd
open Go.V Go.Num
open Go.Eng (wr)
open Go.Proofs.YtofkdfodehfpdaaGreat.Wrd
open Go.Proofs.YtofkdfodehfpdaaGreat.Ring
set_option maxRecDepth 100000
set_option maxHeartbeats 4000000
theorem has_ct (l : List Int) (n : Int) : Ct Tryz.prog 11 [LI l, i64 n] [] (Is2 (.d (.bool (l.contains n))) []) := by
  refine Ct.introF (E := E 18 0 [.tmp 4] [] [(2, [0, 1, 5])] []) tab_ok Tryz.call11 Tryz.func11 rfl rfl rfl rfl rfl (fun hin => ?_)
  have hl := lI_len l
  have hb := hin.1.1
  (conv => whnf); refine LoopI.mk (fun q vs os => ∃ i : Nat, vs = [LI l, i64 n, i64 i] ∧ os = [] ∧ i ≤ l.length ∧ (l.take i).contains n = false ∧ q = l.length - i) l.length ⟨0, rfl, rfl, Nat.zero_le _, rfl, rfl⟩ ?_
  rintro q _ _ ⟨i, rfl, rfl, h1, h2, rfl⟩
  (conv => whnf); refine cond_d (fun h7 => ?_) (fun h7 => ?_)
  · have hi : i < l.length := by omega
    have hg : l[i]? = some (l.getD i 0) := by rw [List.getD_eq_getElem?_getD, List.getElem?_eq_getElem hi]; rfl
    (conv => whnf); refine And.intro (by first | omega | (dsimp only [List.length, cond]; omega) | (show (-9223372036854775808 : Int) ≤ _ ∧ _ ≤ (9223372036854775807 : Int); omega) | decide) ?_
    (conv => whnf); refine Idx.mk _ (lI_get hi) ?_
    (conv => whnf); refine Idx.mk _ rfl ?_
    (conv => whnf); refine cond_d (fun h8 => ?_) (fun h8 => ?_)
    · refine Is2.mk ?_
      rw [List.contains_iff_mem.2 (by rw [← h8]; exact List.mem_of_getElem? hg)]
    · (conv => whnf); refine And.intro (by first | omega | (dsimp only [List.length, cond]; omega) | (show (-9223372036854775808 : Int) ≤ _ ∧ _ ≤ (9223372036854775807 : Int); omega) | decide) ?_
      conv => whnf
      refine ⟨l.length - (i + 1), by omega, i + 1, rfl, rfl, by omega, ?_, rfl⟩
      rw [List.take_add_one, hg]
      cases hc : ((l.take i) ++ (some (l.getD i 0)).toList).contains n with
      | false => rfl
      | true =>
        have := List.contains_iff_mem.1 hc
        rcases List.mem_append.1 this with h3 | h3
        · rw [List.contains_iff_mem.2 h3] at h2; cases h2
        · simp only [Option.toList_some, List.mem_singleton] at h3
          exact absurd h3.symm h8
  · rw [List.take_of_length_le (by omega)] at h2
    refine Is2.mk ?_
    rw [h2]
end Go.Proofs.YtofkdfodehfpdaaGreat.Mnd

/- Mend's laws: runs, the walk. -/
namespace Go.Proofs.YtofkdfodehfpdaaGreat.Mnd
open Go.V Go.Num
open Go.Eng (wr)
open Go.Proofs.YtofkdfodehfpdaaGreat.Wrd
open Go.Proofs.YtofkdfodehfpdaaGreat.Ring
set_option maxRecDepth 100000
set_option maxHeartbeats 4000000
abbrev u16 (n : Int) : AV := .d (.int .u16 n)
abbrev b8 (n : Int) : AV := .d (.int .u8 n)
/-- Coefficients of a number. -/
def cfN (salt : Int) (m : Nat) : List Int := (List.range m).map fun (i : Nat) => wr .u64 (wr .u64 (salt * wr .u64 ((i : Int) + 1)) + 77)
abbrev S6 : List Int := [51, 52, 53, 54, 55, 56]
theorem S6_at {i : Nat} (h : i < 6) : S6.getD i 0 = (i : Int) + 51 := by
  rcases i with _ | _ | _ | _ | _ | _ | i <;> first | rfl | omega
theorem key_pw {i : Nat} (h : i < 6) : Ct Tryz.prog 8 [u64 37, u64 (wr .u64 (50 + ((i : Int) + 1)))] [] (Is2 (u64 (kyS S6 i)) []) := by
  have e : wr .u64 (50 + ((i : Int) + 1)) = S6.getD i 0 := by rw [S6_at h]; simp only [wr]; omega
  rw [e]
  exact rPow_ct 37 (S6.getD i 0) (by decide) (by rw [S6_at h]; omega)
theorem okS6 : okS S6 6 := by
  have : ∀ i, i < 6 → (1 ≤ S6.getD i 0 ∧ S6.getD i 0 ≤ 2305843009213693949) ∧ 2 ≤ kyS S6 i ∧ kyS S6 i ≤ 2305843009213693949 := by decide +kernel
  exact this
theorem okSN {N : Nat} (h : N ≤ 6) : okS S6 N := fun i hi => okS6 i (by omega)
def bitN (v : Int) (w : Nat) : Bool := !decide ((((v / 2 ^ min (wr .u64 (w : Int)).toNat IntKind.u16.bits).toNat &&& Int.toNat 1 : Nat) : Int) = 0)
/-- The own seed of one. -/
def sdN (salt : Int) (w : Nat) : List Int := wr .u8 (w : Int) :: wr .u8 salt :: List.replicate 30 0
/-- What all gave, of those that gave, the first so many. -/
def wntN (gv : Int) (y : List Int) (k : Nat) : Nat → Int
  | 0 => 0
  | j + 1 => if bitN gv (j + 1) = true then wr .u32 (wntN gv y k j + wr .u32 (y.getD k 0 * wr .u32 ((j : Int) + 1))) else wntN gv y k j
def wntL (gv : Int) (y : List Int) (j : Nat) : List Int := (List.range y.length).map fun k => wntN gv y k j
theorem wnt_zero (gv : Int) (y : List Int) : wntL gv y 0 = List.replicate y.length 0 := by
  unfold wntL
  apply List.ext_getElem (by simp)
  intro i h1 h2
  simp [wntN]
theorem wnt_no {gv : Int} (y : List Int) {j : Nat} (h : bitN gv (j + 1) = false) : wntL gv y (j + 1) = wntL gv y j := by
  unfold wntL
  refine List.map_congr_left (fun k _ => ?_)
  show (if bitN gv (j + 1) = true then _ else _) = _
  rw [h]; rfl
theorem GL_step (G : Nat → Bool) (N : Nat) : GLn G (N + 1) = GLn G N ++ (if G (N + 1) = true then [N] else []) := by
  unfold GLn; rw [List.range_succ, List.filter_append]; congr 1
  by_cases hg : G (N + 1) = true
  · rw [if_pos hg]; simp only [List.filter, hg]
  · rw [if_neg hg]; simp only [List.filter, Bool.eq_false_iff.2 hg]
theorem sdN_len (salt : Int) (w : Nat) : (sdN salt w).length = 32 := by unfold sdN; simp
theorem sdN_by (salt : Int) (w : Nat) : By (sdN salt w) := by
  intro i
  have h : ∀ x ∈ sdN salt w, 0 ≤ x ∧ x < 256 := fun x hx => by
    rcases List.mem_cons.1 hx with rfl | hx
    · simp only [wr]; omega
    · rcases List.mem_cons.1 hx with rfl | hx
      · simp only [wr]; omega
      · rw [(List.mem_replicate.1 hx).2]; omega
  rw [List.getD_eq_getElem?_getD]
  cases hi : (sdN salt w)[i]? with
  | none => exact ⟨Int.le_refl _, by decide⟩
  | some x => exact h x (List.mem_of_getElem? hi)
/-- Shares of one's limbs. -/
def shsN (C : List Int) (salt : Int) (f j k : Nat) : List Int := (List.range k).map fun k => shareV (C.getD k 0) (cfN salt f) ((j + 1 : Nat) : Int)
theorem shs_step (C : List Int) (salt : Int) (f j k : Nat) : shsN C salt f j (k + 1) = shsN C salt f j k ++ [shareV (C.getD k 0) (cfN salt f) ((j : Int) + 1)] := by
  unfold shsN; rw [List.range_succ, List.map_append]; rfl
theorem opg_step (G : Nat → Bool) (val : Nat → List Int) (i : Nat) : opgN G val (i + 1) = opgN G val i ++ [(((i : Int) + 1, G (i + 1), val (i + 1)) : Opng)] := by
  unfold opgN; rw [List.range_succ, List.map_append]; rfl
theorem Cut_ex (salt : Int) (w : Nat) : ∃ C : List Int, C = cutL (sdN salt w) ∧ Ct Tryz.prog 12 [A8 (sdN salt w)] [] (Is2 (.d (.agg (C.map (D.int .u64)))) []) ∧ C.length = 5 :=
  ⟨_, rfl, Cut_ct _ (sdN_len _ _) (sdN_by _ _), (cut_ok (sdN_by _ _)).1⟩
theorem js_step (O : Nat → Bool) (N : Nat) : jsN O (N + 1) = jsN O N ++ (if O (N + 1) = true then [N + 1] else []) := by
  unfold jsN; rw [GL_step, List.map_append]
  by_cases h : O (N + 1) = true
  · rw [if_pos h, if_pos h]; rfl
  · rw [if_neg h, if_neg h]; rfl
def mskN (N n j : Nat) : List Int := leftV ((j : Int) + 1) (S6.getD j 0) (cdsL S6 N) n false
/-- Places that are done, ahead of others. -/
def mixL (f g : Nat → Int) (n k : Nat) : List Int := (List.range n).map fun i => if i < k then f i else g i
theorem mix_zero (f g : Nat → Int) (n : Nat) : mixL f g n 0 = (List.range n).map g := by
  unfold mixL
  refine List.map_congr_left (fun i _ => ?_)
  rw [if_neg (by omega)]
theorem mix_all (f g : Nat → Int) (n : Nat) : mixL f g n n = (List.range n).map f := by
  unfold mixL
  refine List.map_congr_left (fun i hi => ?_)
  rw [if_pos (List.mem_range.1 hi)]
theorem mix_len (f g : Nat → Int) (n k : Nat) : (mixL f g n k).length = n := by simp [mixL]
theorem mix_at (f g : Nat → Int) {n k : Nat} (h : k < n) : (mixL f g n k).getD k 0 = g k := by
  unfold mixL
  rw [List.getD_eq_getElem?_getD, List.getElem?_map, List.getElem?_range h]
  show (if k < k then f k else g k) = g k
  rw [if_neg (by omega)]
theorem mix_set (f g : Nat → Int) {n k : Nat} {v : Int} (hv : v = f k) : (mixL f g n k).set k v = mixL f g n (k + 1) := by
  apply List.ext_getElem?
  intro i
  unfold mixL
  rw [List.getElem?_set, List.length_map, List.length_range, List.getElem?_map, List.getElem?_map]
  by_cases hi : i < n
  · rw [List.getElem?_range hi]
    by_cases e : k = i
    · subst e
      rw [if_pos rfl, if_pos hi, hv]
      show some (f k) = some (if k < k + 1 then f k else g k)
      rw [if_pos (by omega)]
    · rw [if_neg e]
      show some (if i < k then f i else g i) = some (if i < k + 1 then f i else g i)
      by_cases e2 : i < k
      · rw [if_pos e2, if_pos (by omega)]
      · rw [if_neg e2, if_neg (by omega)]
  · rw [List.getElem?_eq_none (by simp; omega)]
    by_cases e : k = i
    · rw [if_pos e, if_neg (by omega)]; rfl
    · rw [if_neg e]; rfl
theorem mix_step (f g : Nat → Int) {n k : Nat} {v : Int} (hv : v = f k) : (l32 (mixL f g n k)).set (k : Int).toNat (.int .u32 v) = l32 (mixL f g n (k + 1)) := by
  rw [l32_setr, mix_set f g hv]
/-- A gift. -/
def giftN (N : Nat) (salt : Int) (y : List Int) (j : Nat) : List Int := (List.range y.length).map fun k => wr .u32 (wr .u32 (wr .u32 (y.getD k 0 * wr .u32 ((j : Int) + 1)) + (vecL (sdN salt (j + 1)) 4 y.length).getD k 0) + (mskN N y.length j).getD k 0)
theorem gift_at {N : Nat} {salt : Int} {y : List Int} {j k : Nat} (h : k < y.length) : (giftN N salt y j).getD k 0 = wr .u32 (wr .u32 (wr .u32 (y.getD k 0 * wr .u32 ((j : Int) + 1)) + (vecL (sdN salt (j + 1)) 4 y.length).getD k 0) + (mskN N y.length j).getD k 0) := by
  unfold giftN
  rw [List.getD_eq_getElem?_getD, List.getElem?_map, List.getElem?_range h]; rfl
theorem gift_self {N : Nat} {salt : Int} {y : List Int} {j : Nat} : giftN N salt y j = (List.range y.length).map fun p => (giftN N salt y j).getD p 0 := by
  apply List.ext_getElem?
  intro i
  by_cases hi : i < y.length
  · rw [List.getElem?_map, List.getElem?_range hi]
    show _ = some ((giftN N salt y j).getD i 0)
    rw [List.getD_eq_getElem?_getD, List.getElem?_eq_getElem (show i < (giftN N salt y j).length by unfold giftN; rw [List.length_map, List.length_range]; exact hi)]; rfl
  · rw [List.getElem?_eq_none (by unfold giftN; rw [List.length_map, List.length_range]; omega), List.getElem?_eq_none (by rw [List.length_map, List.length_range]; omega)]
theorem Masks_ok {N j : Nat} {y : List Int} (hN : N ≤ 6) (hj : j < N) (hy : y.length ≤ 256) : Ct Tryz.prog 9 [i64 ((j : Int) + 1), u64 (wr .u64 (50 + ((j : Int) + 1))), LC (cdsL S6 N), i64 (l32 y).length, .d (.bool false)] [] (Is2 (.tup [R32 (mskN N y.length j), i64 0]) []) := by
  have e : wr .u64 (50 + ((j : Int) + 1)) = S6.getD j 0 := by rw [S6_at (by omega)]; simp only [wr]; omega
  have el : (l32 y).length = y.length := List.length_map _
  rw [e, el]
  have h := Masks_ct false ((j : Int) + 1) (S6.getD j 0) (cdsL S6 N) (y.length : Int)
  rw [hide_ok (okSN hN) hj hN hy, if_pos rfl, Int.toNat_natCast] at h
  exact h
theorem gift_mod {N : Nat} {salt : Int} {y : List Int} {i p : Nat} (hi : i < N) (hp : p < y.length) :
    (giftN N salt y i).getD p 0 % 4294967296 = (y.getD p 0 * ((i + 1 : Nat) : Int) + (vecL (sdN salt (i + 1)) 4 y.length).getD p 0 + Sm (fun j => mF S6 y.length p i j) N) % 4294967296 := by
  have e : (mskN N y.length i).getD p 0 = wr .u32 (Sm (fun j => mF S6 y.length p i j) N) := by
    unfold mskN
    rw [leftV_at _ _ _ _ hp, cdsL_len, mSum_cds S6 N y.length p i N (Nat.le_refl _)]
  rw [gift_at hp, e]
  obtain ⟨a, ha⟩ : ∃ a, a = y.getD p 0 := ⟨_, rfl⟩
  obtain ⟨b, hb⟩ : ∃ b, b = (vecL (sdN salt (i + 1)) 4 y.length).getD p 0 := ⟨_, rfl⟩
  obtain ⟨c, hc⟩ : ∃ c, c = Sm (fun j => mF S6 y.length p i j) N := ⟨_, rfl⟩
  rw [← ha, ← hb, ← hc]
  have e1 : wr .u32 ((i : Int) + 1) = ((i : Int) + 1) % 4294967296 := wr_mod _
  have e2 : (a * wr .u32 ((i : Int) + 1)) % 4294967296 = (a * ((i + 1 : Nat) : Int)) % 4294967296 := by rw [e1, Int.mul_emod, Int.emod_emod, ← Int.mul_emod]; rfl
  obtain ⟨u, hu⟩ : ∃ u, u = a * wr .u32 ((i : Int) + 1) := ⟨_, rfl⟩
  obtain ⟨v, hv⟩ : ∃ v, v = a * ((i + 1 : Nat) : Int) := ⟨_, rfl⟩
  rw [← hu, ← hv] at e2
  rw [← hu, ← hv, wr_mod, wr_mod, wr_mod, wr_mod]
  omega
theorem wnt_ls (gv : Int) (y : List Int) {p : Nat} (hp : p < y.length) (N : Nat) : (wntL gv y N).getD p 0 = LS (fun i => y.getD p 0 * ((i + 1 : Nat) : Int)) (GLn (bitN gv) N) % 4294967296 := by
  have e : (wntL gv y N).getD p 0 = wntN gv y p N := by
    unfold wntL
    rw [List.getD_eq_getElem?_getD, List.getElem?_map, List.getElem?_range hp]; rfl
  rw [e]
  induction N with
  | zero => rfl
  | succ N ih =>
    rw [GL_step, LS_app]
    show (if bitN gv (N + 1) = true then _ else _) = _
    by_cases h : bitN gv (N + 1) = true
    · rw [if_pos h, if_pos h]
      show wr .u32 (wntN gv y p N + wr .u32 (y.getD p 0 * wr .u32 ((N : Int) + 1))) = (LS _ _ + (y.getD p 0 * ((N + 1 : Nat) : Int) + 0)) % _
      have ih' := ih (by unfold wntL; rw [List.getD_eq_getElem?_getD, List.getElem?_map, List.getElem?_range hp]; rfl)
      rw [ih', wr_mod, wr_mod, wr_mod]
      obtain ⟨a, ha⟩ : ∃ a, a = y.getD p 0 := ⟨_, rfl⟩
      rw [← ha]
      have e2 : (a * (((N : Int) + 1) % 4294967296)) % 4294967296 = (a * ((N + 1 : Nat) : Int)) % 4294967296 := by rw [Int.mul_emod, Int.emod_emod, ← Int.mul_emod]; rfl
      obtain ⟨u, hu⟩ : ∃ u, u = a * (((N : Int) + 1) % 4294967296) := ⟨_, rfl⟩
      obtain ⟨v, hv⟩ : ∃ v, v = a * ((N + 1 : Nat) : Int) := ⟨_, rfl⟩
      rw [← hu, ← hv] at e2
      rw [← hu, ← hv]
      omega
    · rw [if_neg h, if_neg h]
      have ih' := ih (by unfold wntL; rw [List.getD_eq_getElem?_getD, List.getElem?_map, List.getElem?_range hp]; rfl)
      rw [ih']
      show _ = (LS _ _ + 0) % _
      rw [Int.add_zero]
theorem MendRuns_ct (n e gv op : Int) (x : List Int) (salt : Int) : Ct Tryz.prog 4 [b8 n, b8 e, u16 gv, u16 op, R32 x, u32 salt] [] (Is2 (.d (.bool true)) []) := by
  refine Ct.introF (E := E 299 0 [.tmp 12] [(3, [0, 1, 2, 3, 4, 5]), (4, [1, 2, 3, 4, 5, 13]), (5, [2, 3, 4, 5, 13, 14])] [(8, [2, 3, 4, 5, 13, 14, 15, 16, 17]), (13, [2, 3, 4, 5, 13, 14, 15, 16, 18, 19]), (18, [2, 3, 4, 5, 13, 14, 15, 16, 18, 20]), (25, [2, 3, 4, 5, 13, 14, 15, 16, 18, 20, 21, 23, 24, 25]), (32, [3, 5, 13, 14, 15, 16, 18, 26]), (37, [3, 5, 13, 14, 15, 16, 18, 26, 27, 28]), (42, [3, 5, 13, 14, 15, 16, 18, 26, 27, 28, 29, 30, 31])] [(17, [.fzF 15 1, .fzF 15 2]), (31, [.fzF 15 3, .fzF 15 4]), (1000011, [.fz 16]), (1000039, [.ownF 29 2 23 1]), (47, [.fzF 29 2]), (50, [.fzF 15 5, .fzF 15 6]), (1000005, [.ownF 15 1 41 3, .ownF 15 2 3 1, .ownF 15 3 3 1, .ownF 15 4 30 1, .ownF 15 5 3 1, .ownF 15 6 47 1])]) tab_ok Tryz.call4 Tryz.func4 rfl rfl rfl rfl rfl (fun hin => ?_)
  have hxl : (l32 x).length = x.length := List.length_map _
  (conv => whnf); refine JoinI.mk (fun ws os => ∃ y : List Int, y.length ≤ 40 ∧ ws = [b8 n, b8 e, u16 gv, u16 op, R32 y, u32 salt] ∧ os = []) ?_ ?_
  · (conv => whnf); refine cond_d (fun h1 => ?_) (fun h1 => ?_)
    · (conv => whnf); refine And.intro (by first | omega | (dsimp only [List.length, cond]; omega) | (show (-9223372036854775808 : Int) ≤ _ ∧ _ ≤ (9223372036854775807 : Int); omega) | decide) ?_
      (conv => whnf)
      refine ⟨x.take 40, by rw [List.length_take]; omega, ?_, rfl⟩
      show _ = [b8 n, b8 e, u16 gv, u16 op, .d (.ro (l32 (x.take 40))), u32 salt]
      rw [show l32 (x.take 40) = (l32 x).take 40 from List.map_take]; rfl
    · (conv => whnf)
      exact ⟨x, by omega, rfl, rfl⟩
  rintro _ _ ⟨y, hy, rfl, rfl⟩
  have hn : 0 ≤ n ∧ n ≤ 255 := hin.1
  have he : 0 ≤ e ∧ e ≤ 255 := hin.2.1
  (conv => whnf); refine JoinI.mk (fun ws os => ∃ N : Nat, (1 ≤ N ∧ N ≤ 6) ∧ ws = [b8 e, u16 gv, u16 op, R32 y, u32 salt, i64 N] ∧ os = []) ?_ ?_
  · (conv => whnf); refine And.intro (by decide) ?_
    (conv => whnf); refine And.intro (by first | omega | (dsimp only [List.length, cond]; omega) | (show (-9223372036854775808 : Int) ≤ _ ∧ _ ≤ (9223372036854775807 : Int); omega) | decide) ?_
    (conv => whnf)
    refine ⟨(n % 6 + 1).toNat, by omega, ?_, rfl⟩
    rw [show (((n % 6 + 1).toNat : Nat) : Int) = n % 6 + 1 by omega]
  rintro _ _ ⟨N, hN, rfl, rfl⟩
  have hm1 : 0 ≤ e % (N : Int) := Int.emod_nonneg _ (by omega)
  have hm2 : e % (N : Int) < N := Int.emod_lt_of_pos _ (by omega)
  (conv => whnf); refine JoinI.mk (fun ws os => ∃ f : Nat, f < N ∧ ws = [u16 gv, u16 op, R32 y, u32 salt, i64 N, i64 ((f + 1 : Nat) : Int)] ∧ os = []) ?_ ?_
  · (conv => whnf); refine And.intro ⟨he.1, show ¬ (N : Int) = 0 by omega⟩ ?_
    (conv => whnf); refine And.intro (by first | omega | (dsimp only [List.length, cond]; omega) | (show (-9223372036854775808 : Int) ≤ _ ∧ _ ≤ (9223372036854775807 : Int); omega) | decide) ?_
    (conv => whnf)
    refine ⟨(e % (N : Int)).toNat, by omega, ?_, rfl⟩
    rw [show (((e % (N : Int)).toNat + 1 : Nat) : Int) = e % (N : Int) + 1 by omega]
  rintro _ _ ⟨f, hf, rfl, rfl⟩
  (conv => whnf); refine LoopI.mk (fun q ws os => ∃ i : Nat, ws = [u16 gv, u16 op, R32 y, u32 salt, i64 N, i64 ((f + 1 : Nat) : Int), .ptr 0 0, .sl 1, i64 ((i : Int) + 1)] ∧ os = [.vec 37 [i64 ((f + 1 : Nat) : Int), .sl 2, .sl 3, .sl 4, .sl 5, .sl 6, .sl 7], .row 23 1 ((cfN salt i).map (D.int .u64)), .row 41 3 [], .row 3 1 [], .row 3 1 [], .row 30 1 [], .row 3 1 [], .row 47 1 []] ∧ i ≤ f ∧ q = f - i) f ⟨0, rfl, rfl, Nat.zero_le _, rfl⟩ ?_
  rintro q _ _ ⟨i, rfl, rfl, h1, rfl⟩
  (conv => whnf); refine cond_d (fun h2 => ?_) (fun h2 => ?_)
  · have hcl : ((cfN salt i).map (D.int .u64)).length = i := by simp [cfN]
    (conv => whnf); refine And.intro ⟨by rw [hcl]; dsimp only [List.length]; omega, fun y hy => by cases hy with | head => rfl | tail _ h => cases h⟩ ?_
    (conv => whnf); refine And.intro (by first | omega | (dsimp only [List.length, cond]; omega) | (show (-9223372036854775808 : Int) ≤ _ ∧ _ ≤ (9223372036854775807 : Int); omega) | decide) ?_
    (conv => whnf)
    refine ⟨f - (i + 1), by omega, i + 1, rfl, ?_, by omega, rfl⟩
    have es : cfN salt (i + 1) = cfN salt i ++ [wr .u64 (wr .u64 (salt * wr .u64 ((i : Int) + 1)) + 77)] := by
      unfold cfN; rw [List.range_succ, List.map_append]; rfl
    rw [es, List.map_append]; rfl
  obtain rfl : f = i := by omega
  have hyl : (l32 y).length = y.length := List.length_map _
  (conv => whnf); refine And.intro ⟨by omega, by omega, by rw [hyl]; show (4 : Int) * _ ≤ _; omega⟩ ?_
  (conv => whnf); refine LoopI.mk (fun q ws os => ∃ j : Nat, ws = [u16 gv, u16 op, R32 y, u32 salt, i64 N, i64 ((f + 1 : Nat) : Int), .ptr 0 0, .d (.ro ((cfN salt f).map (D.int .u64))), .sl 1, i64 ((j : Int) + 1)] ∧ os = [.vec 37 [i64 ((f + 1 : Nat) : Int), .sl 2, .sl 3, .sl 4, .sl 5, .sl 6, .sl 7], .row 31 1 (List.replicate ((l32 y).length : Int).toNat (.int .u32 0)), .row 41 3 (lc (cdsL S6 j)), .row 3 1 (lI (up1 (List.range j))), .row 3 1 [], .row 30 1 [], .row 3 1 [], .row 47 1 []] ∧ j ≤ N ∧ q = N - j) N ⟨0, rfl, rfl, Nat.zero_le _, rfl⟩ ?_
  rintro q _ _ ⟨j, rfl, rfl, h3, rfl⟩
  (conv => whnf); refine cond_d (fun h4 => ?_) (fun h4 => ?_)
  · have hc1 : (lc (cdsL S6 j)).length = j := by rw [lc_len, cdsL_len]
    have hc2 : (lI (up1 (List.range j))).length = j := by rw [lI_len]; simp [up1]
    (conv => whnf); refine DrawI.mkF 9 [[15], [73], [19], [19], [76], [77], [78], [75, 79], [80]] (by decide +kernel) ?_
    repeat (first | refine DrawO.mkF _ (And.intro rfl rfl) ?_ | refine DrawO.mkF _ (Idx.mk _ rfl (And.intro rfl rfl)) ?_)
    refine DrawO.mkF _ (And.intro (by first | omega | (dsimp only [List.length, cond]; omega) | decide) (And.intro rfl rfl)) ?_
    repeat (first | refine DrawO.mkF _ (And.intro rfl rfl) ?_ | refine DrawO.mkF _ (Idx.mk _ rfl (And.intro rfl rfl)) ?_)
    refine DrawO.mkF _ ((key_pw (i := j) (by omega)).use (And.intro rfl rfl)) ?_
    repeat (first | refine DrawO.mkF _ (And.intro rfl rfl) ?_ | refine DrawO.mkF _ (Idx.mk _ rfl (And.intro rfl rfl)) ?_)
    refine DrawO.roF [cdD ((j : Int) + 1, 0, kyS S6 j)] 41 3 (And.intro rfl rfl) ?_
    (conv => whnf); refine And.intro ⟨by rw [hc1]; dsimp only [List.length]; omega, fun y hy => by cases hy with | head => rfl | tail _ h => cases h⟩ ?_
    (conv => whnf); refine And.intro ⟨by rw [hc2]; dsimp only [List.length]; omega, fun y hy => by cases hy with | head => rfl | tail _ h => cases h⟩ ?_
    (conv => whnf); refine And.intro (by first | omega | (dsimp only [List.length, cond]; omega) | (show (-9223372036854775808 : Int) ≤ _ ∧ _ ≤ (9223372036854775807 : Int); omega) | decide) ?_
    (conv => whnf)
    refine ⟨N - (j + 1), by omega, j + 1, rfl, ?_, by omega, rfl⟩
    have es1 : cdsL S6 (j + 1) = cdsL S6 j ++ [(((j : Int) + 1, 0, kyS S6 j) : Cd)] := by
      unfold cdsL; rw [List.range_succ, List.map_append]; rfl
    have es2 : up1 (List.range (j + 1)) = up1 (List.range j) ++ [(j : Int) + 1] := by
      unfold up1; rw [List.range_succ, List.map_append]; rfl
    rw [es1, es2]; unfold lc lI; rw [List.map_append, List.map_append]; rfl
  obtain rfl : N = j := by omega
  clear h4 h3 h2 h1
  (conv => whnf)
  (conv => whnf); refine LoopI.mk (fun q ws os => ∃ j : Nat, ws = [u16 gv, u16 op, R32 y, u32 salt, i64 N, i64 ((f + 1 : Nat) : Int), .ptr 0 0, .d (.ro ((cfN salt f).map (D.int .u64))), .sl 1, i64 ((j : Int) + 1)] ∧ os = [.vec 37 [i64 ((f + 1 : Nat) : Int), LC (cdsL S6 N), LI (up1 (List.range N)), .sl 2, .sl 3, .sl 4, .sl 5], .row 31 1 (l32 (wntL gv y j)), .row 3 1 (lI (up1 (GLn (bitN gv) j))), .row 30 1 ((GLn (bitN gv) j).map fun i => gfD (giftN N salt y i)), .row 3 1 [], .row 47 1 []] ∧ j ≤ N ∧ q = N - j) N ⟨0, rfl, by rw [wnt_zero, show l32 (List.replicate y.length 0) = List.replicate ((l32 y).length : Int).toNat (.int .u32 0) by rw [hyl, Int.toNat_natCast]; exact List.map_replicate]; rfl, Nat.zero_le _, rfl⟩ ?_
  rintro q _ _ ⟨j, rfl, rfl, h3, rfl⟩
  (conv => whnf); refine cond_d (fun h4 => ?_) (fun h4 => ?_)
  · (conv => whnf); refine cond_d (fun h5 => ?_) (fun h5 => ?_)
    · have hb : bitN gv (j + 1) = false := by
        unfold bitN
        rw [Bool.not_eq_false']
        exact decide_eq_true h5
      (conv => whnf); refine And.intro (by first | omega | (dsimp only [List.length, cond]; omega) | (show (-9223372036854775808 : Int) ≤ _ ∧ _ ≤ (9223372036854775807 : Int); omega) | decide) ?_
      (conv => whnf)
      refine ⟨N - (j + 1), by omega, j + 1, rfl, ?_, by omega, rfl⟩
      rw [wnt_no y hb, GL_step, hb, if_neg (by simp), List.append_nil]; rfl
    · (conv => whnf); refine And.intro (by first | omega | (dsimp only [List.length, cond]; omega) | (show (-9223372036854775808 : Int) ≤ _ ∧ _ ≤ (9223372036854775807 : Int); omega) | decide) ?_
      (conv => whnf); refine (Masks_ok (y := y) hN.2 (show j < N by omega) (by omega)).use ?_
      have hO := rOwn_ct (sdN salt (j + 1)) ((l32 y).length : Int) rfl
      have hOl : vecL (sdN salt (j + 1)) 4 ((l32 y).length : Int) = vecL (sdN salt (j + 1)) 4 y.length := by rw [hyl]
      rw [hOl] at hO
      refine hO.use ?_
      (conv => whnf); refine And.intro ⟨by omega, by omega, by rw [hyl]; show (4 : Int) * _ ≤ _; omega⟩ ?_
      (conv => whnf); refine LoopI.mk (fun q ws os => ∃ k : Nat, ws = [u16 gv, u16 op, R32 y, u32 salt, i64 N, i64 ((f + 1 : Nat) : Int), .ptr 0 0, .d (.ro ((cfN salt f).map (D.int .u64))), .sl 1, i64 ((j : Int) + 1), R32 (mskN N y.length j), R32 (vecL (sdN salt (j + 1)) 4 y.length), .sl 2, i64 k] ∧ os = [.vec 37 [i64 ((f + 1 : Nat) : Int), LC (cdsL S6 N), LI (up1 (List.range N)), .sl 3, .sl 4, .sl 5, .sl 6], .row 31 1 (l32 (mixL (fun p => wr .u32 (wntN gv y p j + wr .u32 (y.getD p 0 * wr .u32 ((j : Int) + 1)))) (fun p => wntN gv y p j) y.length k)), .row 31 1 (l32 (mixL (fun p => (giftN N salt y j).getD p 0) (fun _ => 0) y.length k)), .row 3 1 (lI (up1 (GLn (bitN gv) j))), .row 30 1 ((GLn (bitN gv) j).map fun i => gfD (giftN N salt y i)), .row 3 1 [], .row 47 1 []] ∧ k ≤ y.length ∧ q = y.length - k) y.length ⟨0, rfl, ?_, Nat.zero_le _, rfl⟩ ?_
      · rw [mix_zero, mix_zero]
        have ez : l32 ((List.range y.length).map fun _ => (0 : Int)) = List.replicate ((l32 y).length : Int).toNat (.int .u32 0) := by
          rw [hyl, Int.toNat_natCast]; unfold l32; rw [List.map_map]
          apply List.ext_getElem (by simp)
          intro i h1 h2
          simp
        rw [ez]; rfl
      rintro q _ _ ⟨k, rfl, rfl, h6, rfl⟩
      (conv => whnf); refine cond_d (fun h7 => ?_) (fun h7 => ?_)
      · have hk : k < y.length := by omega
        have hml : (mskN N y.length j).length = y.length := leftV_len _ _ _ _ _
        have hvl : (vecL (sdN salt (j + 1)) 4 y.length).length = y.length := by rw [vecL_len]; unfold clampN; omega
        have hl1 := l32_len (mskN N y.length j)
        have hl2 := l32_len (vecL (sdN salt (j + 1)) 4 y.length)
        have hl3 := l32_len (mixL (fun p => (giftN N salt y j).getD p 0) (fun _ => 0) y.length k)
        have hl4 := l32_len (mixL (fun p => wr .u32 (wntN gv y p j + wr .u32 (y.getD p 0 * wr .u32 ((j : Int) + 1)))) (fun p => wntN gv y p j) y.length k)
        rw [mix_len] at hl3 hl4
        have hwk : (l32 (mixL (fun p => wr .u32 (wntN gv y p j + wr .u32 (y.getD p 0 * wr .u32 ((j : Int) + 1)))) (fun p => wntN gv y p j) y.length k))[(k : Int).toNat]? = some (.int .u32 (wntN gv y k j)) := by
          rw [l32_geti (by rw [mix_len]; exact hk), mix_at _ _ hk]
        (conv => whnf); refine DrawI.mkF 19 [[24], [25], [4], [25], [132, 133], [134], [20], [136], [135, 137], [23], [25], [139, 140], [141], [138, 142], [21], [25], [144, 145], [146], [143, 147]] (by decide +kernel) ?_
        repeat (first | refine DrawO.mkF _ (And.intro rfl rfl) ?_ | refine DrawO.mkF _ (Idx.mk _ rfl (And.intro rfl rfl)) ?_)
        refine DrawO.mkF _ (And.intro (by omega) (Idx.mk _ (l32_geti hk) (And.intro rfl rfl))) ?_
        repeat (first | refine DrawO.mkF _ (And.intro rfl rfl) ?_ | refine DrawO.mkF _ (Idx.mk _ rfl (And.intro rfl rfl)) ?_)
        refine DrawO.mkF _ (And.intro (by omega) (Idx.mk _ (l32_geti (by omega)) (And.intro rfl rfl))) ?_
        repeat (first | refine DrawO.mkF _ (And.intro rfl rfl) ?_ | refine DrawO.mkF _ (Idx.mk _ rfl (And.intro rfl rfl)) ?_)
        refine DrawO.mkF _ (And.intro (by omega) (Idx.mk _ (l32_geti (by omega)) (And.intro rfl rfl))) ?_
        repeat (first | refine DrawO.mkF _ (And.intro rfl rfl) ?_ | refine DrawO.mkF _ (Idx.mk _ rfl (And.intro rfl rfl)) ?_)
        (conv => whnf); refine And.intro (by first | omega | (dsimp only [List.length, cond]; omega) | (show (-9223372036854775808 : Int) ≤ _ ∧ _ ≤ (9223372036854775807 : Int); omega) | decide) ?_
        (conv => whnf); refine Idx.mk _ (l32_geti (by rw [mix_len]; exact hk)) ?_
        (conv => whnf); refine DrawI.mkF 11 [[18], [25], [150, 151], [152], [4], [25], [154, 155], [156], [20], [158], [157, 159]] (by decide +kernel) ?_
        repeat (first | refine DrawO.mkF _ (And.intro rfl rfl) ?_ | refine DrawO.mkF _ (Idx.mk _ rfl (And.intro rfl rfl)) ?_)
        refine DrawO.mkF _ (And.intro (by first | omega | (dsimp only [List.length, cond]; omega) | decide) (And.intro rfl rfl)) ?_
        refine DrawO.mkF (u32 (wntN gv y k j)) (Idx.mk _ hwk (Idx.mk _ rfl (And.intro rfl rfl))) ?_
        repeat (first | refine DrawO.mkF _ (And.intro rfl rfl) ?_ | refine DrawO.mkF _ (Idx.mk _ rfl (And.intro rfl rfl)) ?_)
        refine DrawO.mkF _ (And.intro (by omega) (Idx.mk _ (l32_geti hk) (And.intro rfl rfl))) ?_
        repeat (first | refine DrawO.mkF _ (And.intro rfl rfl) ?_ | refine DrawO.mkF _ (Idx.mk _ rfl (And.intro rfl rfl)) ?_)
        (conv => whnf); refine And.intro (by first | omega | (dsimp only [List.length, cond]; omega) | (show (-9223372036854775808 : Int) ≤ _ ∧ _ ≤ (9223372036854775807 : Int); omega) | decide) ?_
        (conv => whnf); refine Idx.mk _ hwk ?_
        (conv => whnf); refine And.intro (by first | omega | (dsimp only [List.length, cond]; omega) | (show (-9223372036854775808 : Int) ≤ _ ∧ _ ≤ (9223372036854775807 : Int); omega) | decide) ?_
        (conv => whnf)
        refine ⟨y.length - (k + 1), by omega, k + 1, rfl, ?_, by omega, rfl⟩
        have s1 := mix_step (fun p => (giftN N salt y j).getD p 0) (fun _ => 0) (n := y.length) (k := k) (v := wr .u32 (wr .u32 (wr .u32 (y.getD k 0 * wr .u32 ((j : Int) + 1)) + (vecL (sdN salt (j + 1)) 4 y.length).getD k 0) + (mskN N y.length j).getD k 0)) (gift_at hk).symm
        have s2 := mix_step (fun p => wr .u32 (wntN gv y p j + wr .u32 (y.getD p 0 * wr .u32 ((j : Int) + 1)))) (fun p => wntN gv y p j) (n := y.length) (k := k) (v := wr .u32 (wntN gv y k j + wr .u32 (y.getD k 0 * wr .u32 ((j : Int) + 1)))) rfl
        rw [← s1, ← s2]; rfl
      · obtain rfl : y.length = k := by omega
        have hgl : (GLn (bitN gv) j).length ≤ j := by unfold GLn; exact Nat.le_trans (List.length_filter_le _ _) (by simp)
        have hg1 : (lI (up1 (GLn (bitN gv) j))).length ≤ j := by rw [lI_len]; unfold up1; rw [List.length_map]; exact hgl
        have hg2 : ((GLn (bitN gv) j).map fun i => gfD (giftN N salt y i)).length ≤ j := by rw [List.length_map]; exact hgl
        (conv => whnf); refine And.intro ⟨by dsimp only [List.length] at hg1 ⊢; omega, fun y hy => by cases hy with | head => rfl | tail _ h => cases h⟩ ?_
        (conv => whnf); refine And.intro ⟨by dsimp only [List.length] at hg2 ⊢; omega, fun y hy => by cases hy with | head => rfl | tail _ h => cases h⟩ ?_
        (conv => whnf); refine And.intro (by first | omega | (dsimp only [List.length, cond]; omega) | (show (-9223372036854775808 : Int) ≤ _ ∧ _ ≤ (9223372036854775807 : Int); omega) | decide) ?_
        (conv => whnf)
        refine ⟨N - (j + 1), by omega, j + 1, rfl, ?_, by omega, rfl⟩
        have hb : bitN gv (j + 1) = true := by
          unfold bitN
          rw [Bool.not_eq_true']
          exact decide_eq_false h5
        have e1 : wntL gv y (j + 1) = mixL (fun p => wr .u32 (wntN gv y p j + wr .u32 (y.getD p 0 * wr .u32 ((j : Int) + 1)))) (fun p => wntN gv y p j) y.length y.length := by
          rw [mix_all]; unfold wntL
          refine List.map_congr_left (fun k _ => ?_)
          show (if bitN gv (j + 1) = true then _ else _) = _
          rw [if_pos hb]
        have e2 : giftN N salt y j = mixL (fun p => (giftN N salt y j).getD p 0) (fun _ => 0) y.length y.length := by
          rw [mix_all]; exact gift_self
        have e3 : up1 (GLn (bitN gv) (j + 1)) = up1 (GLn (bitN gv) j) ++ [(j : Int) + 1] := by
          rw [GL_step, hb, if_pos rfl]; unfold up1; rw [List.map_append]; rfl
        have e4 : ((GLn (bitN gv) (j + 1)).map fun i => gfD (giftN N salt y i)) = ((GLn (bitN gv) j).map fun i => gfD (giftN N salt y i)) ++ [gfD (mixL (fun p => (giftN N salt y j).getD p 0) (fun _ => 0) y.length y.length)] := by
          rw [GL_step, hb, if_pos rfl, List.map_append, ← e2]; rfl
        rw [e1, e3, e4]; unfold lI; rw [List.map_append]; rfl
  obtain rfl : N = j := by omega
  clear h4 h3
  obtain ⟨gifts, hgf⟩ : ∃ g, g = ((GLn (bitN gv) N).map fun i => giftN N salt y i) := ⟨_, rfl⟩
  have hgd : ((GLn (bitN gv) N).map fun i => gfD (giftN N salt y i)) = gifts.map gfD := by rw [hgf, List.map_map]; rfl
  rw [hgd]
  (conv => whnf)
  (conv => whnf); refine LoopI.mk (fun q ws os => ∃ j : Nat, ws = [u16 op, u32 salt, i64 N, i64 ((f + 1 : Nat) : Int), .ptr 0 0, .d (.ro ((cfN salt f).map (D.int .u64))), .sl 1, i64 ((j : Int) + 1)] ∧ os = [.vec 37 [i64 ((f + 1 : Nat) : Int), LC (cdsL S6 N), LI (up1 (List.range N)), LI (up1 (GLn (bitN gv) N)), GF gifts, .sl 2, .sl 3], .row 31 1 (l32 (wntL gv y N)), .row 3 1 (lI (osN (bitN op) j)), .row 47 1 ((jsN (bitN op) j).map fun q => opsD (opgN (bitN gv) (valN (bitN gv) (sdN salt) S6 (cfN salt f) q) N))] ∧ j ≤ N ∧ q = N - j) N ⟨0, rfl, rfl, Nat.zero_le _, rfl⟩ ?_
  rintro q _ _ ⟨j, rfl, rfl, h3, rfl⟩
  (conv => whnf); refine cond_d (fun h4 => ?_) (fun h4 => ?_)
  · (conv => whnf); refine cond_d (fun h5 => ?_) (fun h5 => ?_)
    · have hb : bitN op (j + 1) = false := by
        unfold bitN
        rw [Bool.not_eq_false']
        exact decide_eq_true h5
      (conv => whnf); refine And.intro (by first | omega | (dsimp only [List.length, cond]; omega) | (show (-9223372036854775808 : Int) ≤ _ ∧ _ ≤ (9223372036854775807 : Int); omega) | decide) ?_
      (conv => whnf)
      refine ⟨N - (j + 1), by omega, j + 1, rfl, ?_, by omega, rfl⟩
      have e : jsN (bitN op) (j + 1) = jsN (bitN op) j := by rw [js_step, hb, if_neg (by simp), List.append_nil]
      unfold osN; rw [e]; rfl
    · have hb : bitN op (j + 1) = true := by
        unfold bitN
        rw [Bool.not_eq_true']
        exact decide_eq_false h5
      (conv => whnf); refine LoopI.mk (fun q ws os => ∃ i : Nat, ws = [u16 op, u32 salt, i64 N, i64 ((f + 1 : Nat) : Int), .ptr 0 0, .d (.ro ((cfN salt f).map (D.int .u64))), .sl 1, i64 ((j : Int) + 1), .sl 2, i64 ((i : Int) + 1)] ∧ os = [.vec 37 [i64 ((f + 1 : Nat) : Int), LC (cdsL S6 N), LI (up1 (List.range N)), LI (up1 (GLn (bitN gv) N)), GF gifts, .sl 3, .sl 4], .row 31 1 (l32 (wntL gv y N)), .row 50 3 ((opgN (bitN gv) (valN (bitN gv) (sdN salt) S6 (cfN salt f) (j + 1)) i).map opngD), .row 3 1 (lI (osN (bitN op) j)), .row 47 1 ((jsN (bitN op) j).map fun q => opsD (opgN (bitN gv) (valN (bitN gv) (sdN salt) S6 (cfN salt f) q) N))] ∧ i ≤ N ∧ q = N - i) N ⟨0, rfl, rfl, Nat.zero_le _, rfl⟩ ?_
      rintro q _ _ ⟨i, rfl, rfl, h6, rfl⟩
      (conv => whnf); refine cond_d (fun h7 => ?_) (fun h7 => ?_)
      · have hh := has_ct (up1 (GLn (bitN gv) N)) ((i : Int) + 1)
        rw [show (i : Int) + 1 = ((i + 1 : Nat) : Int) from rfl, gave_has (show i < N by omega)] at hh
        obtain ⟨b, hb2⟩ : ∃ b, b = bitN gv (i + 1) := ⟨_, rfl⟩
        rw [← hb2] at hh
        obtain ⟨C, hC, hcut, hC5⟩ := Cut_ex salt (i + 1)
        have hog : ((opgN (bitN gv) (valN (bitN gv) (sdN salt) S6 (cfN salt f) (j + 1)) i).map opngD).length = i := by simp [opgN]
        have hcl : (C.map (D.int .u64)).length = 5 := by rw [List.length_map]; exact hC5
        (conv => whnf); refine (hh).use ?_
        (conv => whnf); refine (hcut).use ?_
        (conv => whnf); refine And.intro ⟨hcl, rfl⟩ ?_
        (conv => whnf); refine LoopI.mk (fun q ws os => ∃ k : Nat, ws = [u16 op, u32 salt, i64 N, i64 ((f + 1 : Nat) : Int), .ptr 0 0, .d (.ro ((cfN salt f).map (D.int .u64))), .sl 1, i64 ((j : Int) + 1), .sl 2, i64 ((i : Int) + 1), .ptr 3 0, .ptr 4 0, i64 k] ∧ os = [.vec 37 [i64 ((f + 1 : Nat) : Int), LC (cdsL S6 N), LI (up1 (List.range N)), LI (up1 (GLn (bitN gv) N)), GF gifts, .sl 5, .sl 6], .row 31 1 (l32 (wntL gv y N)), .row 50 3 ((opgN (bitN gv) (valN (bitN gv) (sdN salt) S6 (cfN salt f) (j + 1)) i).map opngD), .vec 50 [i64 ((i : Int) + 1), .d (.bool b), .sl 7], .arr 51 (C.map (D.int .u64)), .row 3 1 (lI (osN (bitN op) j)), .row 47 1 ((jsN (bitN op) j).map fun q => opsD (opgN (bitN gv) (valN (bitN gv) (sdN salt) S6 (cfN salt f) q) N)), .row 23 1 ((shsN C salt f j k).map (D.int .u64))] ∧ k ≤ 5 ∧ (b = false → k = 0) ∧ q = 5 - k) 5 ⟨0, rfl, rfl, Nat.zero_le _, fun _ => rfl, rfl⟩ ?_
        rintro q _ _ ⟨k, rfl, rfl, h8, h9, rfl⟩
        cases b with
        | true =>
          (conv => whnf); refine cond_d (fun h10 => ?_) (fun h10 => ?_)
          · have hk5 : k < 5 := by omega
            have hck : (C.map (D.int .u64))[0 + (k : Int).toNat * 1]? = some (.int .u64 (C.getD k 0)) := by
              rw [show 0 + (k : Int).toNat * 1 = k by omega, List.getElem?_map, List.getD_eq_getElem?_getD, List.getElem?_eq_getElem (by omega)]; rfl
            have hsl : ((shsN C salt f j k).map (D.int .u64)).length = k := by simp [shsN]
            (conv => whnf); refine DrawI.mkF 9 [[29], [212], [31], [30, 214], [215], [16], [26], [216, 217, 218], [219]] (by decide +kernel) ?_
            repeat (first | refine DrawO.mkF _ (And.intro rfl rfl) ?_ | refine DrawO.mkF _ (Idx.mk _ rfl (And.intro rfl rfl)) ?_)
            refine DrawO.mkF _ (And.intro (by first | omega | (dsimp only [List.length, cond]; omega) | decide) (And.intro rfl rfl)) ?_
            refine DrawO.mkF _ (Idx.mk _ hck (And.intro rfl rfl)) ?_
            repeat (first | refine DrawO.mkF _ (And.intro rfl rfl) ?_ | refine DrawO.mkF _ (Idx.mk _ rfl (And.intro rfl rfl)) ?_)
            refine DrawO.mkF _ ((Share_ct (C.getD k 0) (cfN salt f) ((j : Int) + 1) (by simp [cfN]; omega) (by simp only [wr]; omega)).use (And.intro rfl rfl)) ?_
            repeat (first | refine DrawO.mkF _ (And.intro rfl rfl) ?_ | refine DrawO.mkF _ (Idx.mk _ rfl (And.intro rfl rfl)) ?_)
            refine DrawO.roF [.int .u64 (shareV (C.getD k 0) (cfN salt f) ((j : Int) + 1))] 23 1 (And.intro rfl rfl) ?_
            (conv => whnf); refine And.intro ⟨by rw [hsl]; dsimp only [List.length]; omega, fun y hy => by cases hy with | head => rfl | tail _ h => cases h⟩ ?_
            (conv => whnf); refine And.intro (by first | omega | (dsimp only [List.length, cond]; omega) | (show (-9223372036854775808 : Int) ≤ _ ∧ _ ≤ (9223372036854775807 : Int); omega) | decide) ?_
            (conv => whnf)
            refine ⟨5 - (k + 1), by omega, k + 1, rfl, ?_, by omega, (fun h => by cases h), rfl⟩
            rw [shs_step, List.map_append]; rfl
          · have hk5 : k = 5 := by omega
            (conv => whnf); refine And.intro ⟨by rw [hog]; dsimp only [List.length]; omega, fun y hy => by cases hy with | head => rfl | tail _ h => cases h⟩ ?_
            (conv => whnf); refine And.intro (by first | omega | (dsimp only [List.length, cond]; omega) | (show (-9223372036854775808 : Int) ≤ _ ∧ _ ≤ (9223372036854775807 : Int); omega) | decide) ?_
            (conv => whnf)
            refine ⟨N - (i + 1), by omega, i + 1, rfl, ?_, by omega, rfl⟩
            have ev : (valN (bitN gv) (sdN salt) S6 (cfN salt f) (j + 1)) (i + 1) = shsN C salt f j k := by
              unfold valN shsN; rw [← hb2, if_pos rfl, hC, hk5]
            rw [opg_step, ← hb2, ev, List.map_append]; rfl
        | false =>
          have hk0 : k = 0 := h9 rfl
          (conv => whnf); refine cond_y (by omega) ?_
          (conv => whnf); refine And.intro (by first | omega | (dsimp only [List.length, cond]; omega) | (show (-9223372036854775808 : Int) ≤ _ ∧ _ ≤ (9223372036854775807 : Int); omega) | decide) ?_
          have hs6 : wr .u64 (50 + ((i : Int) + 1)) = S6.getD i 0 := by rw [S6_at (by omega)]; simp only [wr]; omega
          have hsh := Share_ct (wr .u64 (50 + ((i : Int) + 1))) (cfN salt f) ((j : Int) + 1) (by simp [cfN]; omega) (by simp only [wr]; omega)
          (conv => whnf); refine (hsh).use ?_
          (conv => whnf); refine And.intro ⟨by rw [hog]; dsimp only [List.length]; omega, fun y hy => by cases hy with | head => rfl | tail _ h => cases h⟩ ?_
          (conv => whnf); refine And.intro (by first | omega | (dsimp only [List.length, cond]; omega) | (show (-9223372036854775808 : Int) ≤ _ ∧ _ ≤ (9223372036854775807 : Int); omega) | decide) ?_
          (conv => whnf)
          refine ⟨N - (i + 1), by omega, i + 1, rfl, ?_, by omega, rfl⟩
          have ev : (valN (bitN gv) (sdN salt) S6 (cfN salt f) (j + 1)) (i + 1) = [shareV (wr .u64 (50 + ((i : Int) + 1))) (cfN salt f) ((j : Int) + 1)] := by
            unfold valN; rw [← hb2, if_neg (by simp), hs6]; rfl
          rw [opg_step, ← hb2, ev, List.map_append]; rfl
      · obtain rfl : N = i := by omega
        have ho1 : (lI (osN (bitN op) j)).length ≤ j := by rw [lI_len, List.length_map]; exact js_len _ _
        have ho2 : ((jsN (bitN op) j).map fun q => opsD (opgN (bitN gv) (valN (bitN gv) (sdN salt) S6 (cfN salt f) q) N)).length ≤ j := by rw [List.length_map]; exact js_len _ _
        (conv => whnf); refine And.intro ⟨by dsimp only [List.length] at ho1 ⊢; omega, fun y hy => by cases hy with | head => rfl | tail _ h => cases h⟩ ?_
        (conv => whnf); refine And.intro ⟨by dsimp only [List.length] at ho2 ⊢; omega, fun y hy => by cases hy with | head => rfl | tail _ h => cases h⟩ ?_
        (conv => whnf); refine And.intro (by first | omega | (dsimp only [List.length, cond]; omega) | (show (-9223372036854775808 : Int) ≤ _ ∧ _ ≤ (9223372036854775807 : Int); omega) | decide) ?_
        (conv => whnf)
        refine ⟨N - (j + 1), by omega, j + 1, rfl, ?_, by omega, rfl⟩
        have e : jsN (bitN op) (j + 1) = jsN (bitN op) j ++ [j + 1] := by rw [js_step, hb, if_pos rfl]
        unfold osN; rw [e]; unfold lI; rw [List.map_append, List.map_append, List.map_append]; rfl
  obtain rfl : N = j := by omega
  clear h4 h3
  have hcf : (cfN salt f).length = f := by simp [cfN]
  have hgl : gifts.length = (GLn (bitN gv) N).length := by rw [hgf, List.length_map]
  have hgn : ∀ g ∈ gifts, g.length = y.length := by
    rw [hgf]; intro g hg
    obtain ⟨i, _, rfl⟩ := List.mem_map.1 hg
    simp [giftN]
  have hfit := runs_fit (O := bitN op) (sd := sdN salt) (S := S6) (cf := cfN salt f) (N := N) hgl hgn (show y.length ≤ 256 by omega)
  have hops : OPS (opsN (bitN gv) (bitN op) (sdN salt) S6 (cfN salt f) N) = .d (.ro ((jsN (bitN op) N).map fun q => opsD (opgN (bitN gv) (valN (bitN gv) (sdN salt) S6 (cfN salt f) q) N))) := by
    show AV.d (.ro (List.map _ (List.map _ _))) = _
    rw [List.map_map]; rfl
  have hcl : (cdsL S6 N).length ≤ 1000000 := by rw [cdsL_len]; omega
  have hol : (osN (bitN op) N).length = (jsN (bitN op) N).length := List.length_map _
  have hjl := js_len (bitN op) N
  have hul : (up1 (GLn (bitN gv) N)).length = (GLn (bitN gv) N).length := by unfold up1; rw [List.length_map]
  have hl1 := lI_len (osN (bitN op) N)
  have hl2 := lI_len (up1 (GLn (bitN gv) N))
  by_cases hfew : ((osN (bitN op) N).length : Int) < ((f + 1 : Nat) : Int) ∨ (up1 (GLn (bitN gv) N)).length = 0
  · have hs := SumFew_ct ((f + 1 : Nat) : Int) _ _ _ _ _ _ hfit hcl hfew
    rw [hops] at hs
    (conv => whnf); refine (hs).use ?_
    (conv => whnf); refine cond_d (fun k1 => ?_) (fun k1 => ?_)
    · (conv => whnf); refine (awake_ct).use ?_
      exact Is2.mk rfl
    · (conv => whnf); refine cond_y (by rw [hl2]; omega) ?_
      (conv => whnf); refine (awake_ct).use ?_
      exact Is2.mk rfl
  · have hO : (cfN salt f).length + 1 ≤ (jsN (bitN op) N).length := by omega
    have hne : 0 < (GLn (bitN gv) N).length := by omega
    have hgN : (GLn (bitN gv) N).length ≤ N := by unfold GLn; exact Nat.le_trans (List.length_filter_le _ _) (by simp)
    have hg0 : (gifts.getD 0 []).length = y.length := by
      refine hgn _ ?_
      rw [List.getD_eq_getElem?_getD, List.getElem?_eq_getElem (by omega)]; exact List.getElem_mem _
    have hSl : ∀ i, S6.getD i 0 < 2305843009213693951 := fun i => by
      rcases i with _ | _ | _ | _ | _ | _ | i <;> first | decide | (show (0 : Int) < _; decide)
    have hgood := runs_good (G := bitN gv) (O := bitN op) (sd := sdN salt) (S := S6) (cf := cfN salt f) (n := y.length) (okSN hN.2) hN.2 (by omega) hO (sdN_by salt) hSl
    have hsum := runs_sum (G := bitN gv) (O := bitN op) (sd := sdN salt) (S := S6) (cf := cfN salt f) (okSN hN.2) hN.2 hO (sdN_by salt) (sdN_len salt) hSl (giftN N salt y) y (wntL gv y N) (fun i => by simp [giftN]) (fun i hi p hp => gift_mod (GLn_mem.1 hi).1 hp) (by simp [wntL]) (fun p hp => wnt_ls gv y hp N) hne
    rw [hcf] at hgood hsum
    rw [← hgf] at hsum
    rw [← hg0] at hgood
    have hs := Sum_ct ((f + 1 : Nat) : Int) _ _ _ _ _ _ hfit hcl (by omega) (by omega) (by omega) hfew hgood
    rw [hops, hsum] at hs
    (conv => whnf); refine (hs).use ?_
    (conv => whnf); refine cond_n (by rw [hl1]; omega) ?_
    (conv => whnf); refine cond_n (by rw [hl2]; omega) ?_
    (conv => whnf); refine (awake_ct).use ?_
    (conv => whnf); refine (Cells_ct (wntL gv y N) (wntL gv y N)).use ?_
    refine Is2.mk ?_
    rw [decide_eq_true rfl]
end Go.Proofs.YtofkdfodehfpdaaGreat.Mnd
