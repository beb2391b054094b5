/- Package share: what it is made of. -/
import Derived.Test.YtofkdfodehfpdaaGreatKMendNumbersB
import Derived.KernelRfl
import Derived.Test.YtofkdfodehfpdaaGreatKMendNumbersA
set_option linter.unusedVariables false
set_option linter.unusedSimpArgs false
set_option linter.unnecessarySimpa false
set_option linter.unusedSectionVars false
set_option linter.all false
/- Package share: what it is made of. -/
namespace Go.Proofs.YtofkdfodehfpdaaGreat
open Go.V Go.Num
open Go.Eng (wr)
set_option maxRecDepth 100000
set_option maxHeartbeats 4000000
theorem kInt : KdT Tryz.prog 3 .int := ⟨fun w => by rw [Tryz.isAgg3], _, Tryz.underlying3⟩
theorem kU64 : KdT Tryz.prog 23 .int := ⟨fun w => by rw [Tryz.isAgg23], _, Tryz.underlying23⟩
theorem eqPt : EqT Tryz.prog 60 [.int, .int] := by
  refine EqT.struct Tryz.underlying60 (by kernel_rfl) (by kernel_rfl) rfl (fun i f k h1 h2 => ?_)
  rcases i with _ | _ | i
  · cases h1; cases h2; exact ⟨by decide, rfl, kInt⟩
  · cases h1; cases h2; exact ⟨by decide, rfl, kU64⟩
  · simp at h2
def bigS (xs : List Int) : Bool := xs.any fun n => decide (2305843009213693951 ≤ n)
theorem getD_li {xs : List Int} {i : Nat} (h : i < xs.length) : xs[i]? = some (xs.getD i 0) := by
  rw [List.getD_eq_getElem?_getD, List.getElem?_eq_getElem h]; rfl
end Go.Proofs.YtofkdfodehfpdaaGreat

/- Package share: joining and fitting. -/
namespace Go.Proofs.YtofkdfodehfpdaaGreat
open Go.V Go.Num
open Go.Eng (wr)
set_option maxRecDepth 100000
set_option maxHeartbeats 4000000
theorem sound_take {ps : List (Int × Int)} (h : soundS ps = 0) {k : Nat} (h0 : 0 < k) (h1 : k ≤ ps.length) : soundS (ps.take k) = 0 := by
  obtain ⟨_, hl, ht, hs⟩ := sound_rng h
  have hlen : (ps.take k).length = k := by rw [List.length_take]; omega
  have hg : ∀ i, i < k → (ps.take k).getD i (0, 0) = ps.getD i (0, 0) := fun i hi => by
    rw [List.getD_eq_getElem?_getD, List.getElem?_take, if_pos hi, ← List.getD_eq_getElem?_getD]
  refine sound_of (by omega) (by omega) (fun i j hj hi => ?_) (fun i hi => ?_)
  · rw [hlen] at hi
    rw [hg i hi, hg j (by omega)]
    exact tw_ne ht (by omega) hj
  · rw [hlen] at hi
    rw [hg i hi]
    exact hs i (by omega)
def someE (k : Int) (ps : List (Int × Int)) : Int := if k < 1 then 1 else if 64 < k then 1 else if soundS ps ≠ 0 then soundS ps else if (ps.length : Int) < k then 12 else 0
def someC (k : Int) (ps : List (Int × Int)) : List Int := if someE k ps = 0 then thrS (ps.take k.toNat) else []
theorem someE_zero {k : Int} {ps : List (Int × Int)} (h : someE k ps = 0) : 1 ≤ k ∧ k ≤ 64 ∧ soundS ps = 0 ∧ k ≤ ps.length := by
  unfold someE at h
  split at h
  · cases h
  split at h
  · cases h
  split at h
  · contradiction
  rename_i h3
  split at h
  · cases h
  exact ⟨by omega, by omega, Decidable.of_not_not h3, by omega⟩
theorem some_ct' (k : Int) (ps : List (Int × Int)) : Ct Tryz.prog 30 [i64 k, LP ps] [] (Is2 (.tup [L (someC k ps), i64 (someE k ps)]) []) := by
  refine Ct.introF (E := E 32 0 [.tmp 4, .tmp 5] [] [] [(1000002, [.nl 4]), (1000005, [.nl 4]), (1000007, [.nl 4])]) tab_ok Tryz.call30 Tryz.func30 rfl rfl rfl rfl rfl (fun hin => ?_)
  have hl := lp_len ps
  have hb := hin.2.1.1
  (conv => whnf); refine cond_d (fun h1 => ?_) (fun h1 => ?_)
  · refine Is2.mk ?_
    have : someE k ps = 1 := by unfold someE; rw [if_pos h1]
    unfold someC; rw [this]; rfl
  (conv => whnf); refine cond_d (fun h2 => ?_) (fun h2 => ?_)
  · refine Is2.mk ?_
    have : someE k ps = 1 := by unfold someE; rw [if_neg h1, if_pos h2]
    unfold someC; rw [this]; rfl
  (conv => whnf); refine (Zero_ct ps).use ?_
  (conv => whnf); refine cond_d (fun h3 => ?_) (fun h3 => ?_)
  · refine Is2.mk ?_
    have : someE k ps = soundS ps := by unfold someE; rw [if_neg h1, if_neg h2, if_pos h3]
    unfold someC; rw [this, if_neg h3]; rfl
  have h3' : soundS ps = 0 := Decidable.of_not_not h3
  (conv => whnf); refine cond_d (fun h4 => ?_) (fun h4 => ?_)
  · refine Is2.mk ?_
    have : someE k ps = 12 := by unfold someE; rw [if_neg h1, if_neg h2, if_neg h3, if_pos (by omega)]
    unfold someC; rw [this]; rfl
  have he : someE k ps = 0 := by unfold someE; rw [if_neg h1, if_neg h2, if_neg h3, if_neg (by omega)]
  (conv => whnf); refine And.intro (by first | omega | (dsimp only [List.length, cond]; omega) | (show (-9223372036854775808 : Int) ≤ _ ∧ _ ≤ (9223372036854775807 : Int); omega) | decide) ?_
  have e : (lp ps).take k.toNat = lp (ps.take k.toNat) := List.map_take.symm
  have ht : soundS (ps.take k.toNat) = 0 := sound_take h3' (by omega) (by omega)
  have hc := Through_ct (ps.take k.toNat)
  unfold LP at hc
  rw [← e, ht] at hc
  (conv => whnf); refine (hc).use ?_
  refine Is2.mk ?_
  unfold someC; rw [he, if_pos rfl]
def joinV (k : Int) (ps : List (Int × Int)) : Int := if someE k ps = 0 then ev (someC k ps) 0 % 2305843009213693951 else 0
theorem someC_len (k : Int) (ps : List (Int × Int)) : (someC k ps).length ≤ 64 := by
  unfold someC
  split
  · rename_i h
    obtain ⟨h1, h2, h3, h4⟩ := someE_zero h
    have hs := sound_take h3 (k := k.toNat) (by omega) (by omega)
    rw [thrS_of hs]
    have := sumS_len' (ps.take k.toNat) _ (Nat.le_refl _)
    have h5 : (ps.take k.toNat).length ≤ 64 := by rw [List.length_take]; omega
    omega
  · exact Nat.zero_le _
theorem Join_ct (k : Int) (ps : List (Int × Int)) : Ct Tryz.prog 16 [i64 k, LP ps] [] (Is2 (.tup [u64 (joinV k ps), i64 (someE k ps)]) []) := by
  refine Ct.introF (E := E 19 0 [.tmp 4, .tmp 5] [] [] []) tab_ok Tryz.call16 Tryz.func16 rfl rfl rfl rfl rfl (fun hin => ?_)
  (conv => whnf); refine (some_ct' k ps).use ?_
  (conv => whnf); refine cond_d (fun h => ?_) (fun h => ?_)
  · refine Is2.mk ?_
    unfold joinV; rw [if_neg h]
  have h0 : someE k ps = 0 := Decidable.of_not_not h
  (conv => whnf); refine (At_ct (someC k ps) 0 (by have := someC_len k ps; omega)).use ?_
  refine Is2.mk ?_
  unfold joinV; rw [h0, if_pos rfl]
def offP (c : List Int) (p : Int × Int) : Bool := !decide (ev c (wr .u64 p.1) % 2305843009213693951 = p.2)
def fitsV (k : Int) (ps : List (Int × Int)) : Bool := if someE k ps = 0 then !ps.any (offP (someC k ps)) else false
theorem rJoin_ct (k : Int) (ps : List (Int × Int)) (hp : ∀ i, i < ps.length → 0 ≤ (ps.getD i (0, 0)).2) : Ct Tryz.prog 6 [i64 k, LP ps] [] (Is2 (.tup [u64 (joinV k ps), i64 (someE k ps)]) []) := by
  refine Ct.introF (E := E 30 0 [.tmp 4, .tmp 5] [] [] []) tab_ok Tryz.call6 Tryz.func6 rfl rfl rfl rfl rfl (fun hin => ?_)
  have hl := lp_len ps
  have hb := hin.2.1.1
  (conv => whnf); refine cond_d (fun h1 => ?_) (fun h1 => ?_)
  · refine Is2.mk ?_
    have : someE k ps = 1 := by unfold someE; rw [if_pos h1]
    unfold joinV; rw [this]; rfl
  (conv => whnf); refine cond_d (fun h2 => ?_) (fun h2 => ?_)
  · refine Is2.mk ?_
    have : someE k ps = 1 := by unfold someE; rw [if_neg h1, if_pos h2]
    unfold joinV; rw [this]; rfl
  (conv => whnf); refine (Points_ct ps).use ?_
  (conv => whnf); refine cond_d (fun h3 => ?_) (fun h3 => ?_)
  · (conv => whnf); refine cond_d (fun h4 => ?_) (fun h4 => ?_)
    · refine Is2.mk ?_
      have : someE k ps = 12 := by unfold someE; rw [if_neg h1, if_neg h2, if_neg (fun e => e h3), if_pos (by omega)]
      unfold joinV; rw [this]; rfl
    · have he : someE k ps = 0 := by unfold someE; rw [if_neg h1, if_neg h2, if_neg (fun e => e h3), if_neg (by omega)]
      obtain ⟨_, _, _, hs⟩ := sound_rng h3
      (conv => whnf); refine cond_n (fun e => e h3) ?_
      (conv => whnf); refine And.intro (by first | omega | (dsimp only [List.length, cond]; omega) | (show (-9223372036854775808 : Int) ≤ _ ∧ _ ≤ (9223372036854775807 : Int); omega) | decide) ?_
      have e : (lp ps).take k.toNat = lp (ps.take k.toNat) := List.map_take.symm
      have ht : soundS (ps.take k.toNat) = 0 := sound_take h3 (by omega) (by omega)
      have hg : ∀ i, i < (ps.take k.toNat).length → (ps.take k.toNat).getD i (0, 0) = ps.getD i (0, 0) := fun i hi => by
        rw [List.length_take] at hi
        rw [List.getD_eq_getElem?_getD, List.getElem?_take, if_pos (by omega), ← List.getD_eq_getElem?_getD]
      have hv := Value_ct (ps.take k.toNat) 0 (Int.le_refl _) (fun j hj => by
        rw [hg j hj]
        rw [List.length_take] at hj
        have := hs j (by omega); have := hp j (by omega); omega)
      unfold LP at hv
      rw [← e] at hv
      (conv => whnf); refine (hv).use ?_
      refine Is2.mk ?_
      unfold joinV someC; rw [he, if_pos rfl, if_pos rfl, thr_val ht]
  · (conv => whnf); refine cond_y h3 ?_
    refine Is2.mk ?_
    have : someE k ps = soundS ps := by unfold someE; rw [if_neg h1, if_neg h2, if_pos h3]
    unfold joinV; rw [this, if_neg h3]
/-! ## Shares -/
def shS (c : List Int) (n i : Nat) : List (Int × Int) := (List.range n).map fun j : Nat => if j < i then ((j : Int) + 1, ev c ((j : Int) + 1) % 2305843009213693951) else (0, 0)
theorem shS_len (c : List Int) (n i : Nat) : (shS c n i).length = n := by simp [shS]
theorem shS_all (c : List Int) (n : Nat) : shS c n n = pts c n := by
  unfold shS pts
  refine List.map_congr_left (fun j hj => ?_)
  rw [if_pos (List.mem_range.1 hj)]
theorem shS_set (c : List Int) {n i : Nat} (hi : i < n) : (shS c n i).set i ((i : Int) + 1, ev c ((i : Int) + 1) % 2305843009213693951) = shS c n (i + 1) := by
  apply List.ext_getElem?
  intro j
  unfold shS
  rw [List.getElem?_set, List.getElem?_map, List.getElem?_map, List.length_map, List.length_range]
  by_cases e : i = j
  · subst e
    rw [if_pos rfl, if_pos hi, List.getElem?_range hi, Option.map_some, if_pos (by omega)]
  · rw [if_neg e]
    rcases Nat.lt_or_ge j n with h | h
    · rw [List.getElem?_range h, Option.map_some, Option.map_some]
      by_cases e2 : j < i
      · rw [if_pos e2, if_pos (by omega)]
      · rw [if_neg e2, if_neg (by omega)]
    · rw [List.getElem?_eq_none (by simpa using h)]; rfl
def splitE (s k n : Int) (c : List Int) : Int := if n < 1 ∨ 64 < n ∨ k < 1 ∨ n < k ∨ (c.length : Int) ≠ k - 1 then 1 else if 2305843009213693951 ≤ s ∨ bigS c = true then 4 else 0
def splitS (s k n : Int) (c : List Int) : List (Int × Int) := if splitE s k n c = 0 then pts (s :: c) n.toNat else []
def shareV (s : Int) (c : List Int) (n : Int) : Int := ev (s :: c) (wr .u64 n) % 2305843009213693951
theorem Share_ct (s : Int) (c : List Int) (n : Int) (hl : c.length ≤ 100000) (hn : 0 ≤ wr .u64 n) : Ct Tryz.prog 13 [u64 s, L c, i64 n] [] (Is2 (u64 (shareV s c n)) []) := by
  refine Ct.introF (E := E 14 0 [.tmp 6] [] [] []) tab_ok Tryz.call13 Tryz.func13 rfl rfl rfl rfl rfl (fun hin => ?_)
  have hlc := li_len c
  (conv => whnf); refine And.intro ⟨by dsimp only [List.length]; omega, li_cells _⟩ ?_
  (conv => whnf); refine (rAt_ct (s :: c) (wr .u64 n) (by rw [List.length_cons]; omega) hn).use ?_
  exact isInt rfl
end Go.Proofs.YtofkdfodehfpdaaGreat

/- Package mend: points that openers tell; a seed glued. -/
namespace Go.Proofs.YtofkdfodehfpdaaGreat.Mnd
open Go.V Go.Num
open Go.Eng (wr)
open Go.Proofs.YtofkdfodehfpdaaGreat.Wrd
set_option maxRecDepth 100000
set_option maxHeartbeats 4000000
abbrev opsD (l : List Opng) : D := .ro (l.map opngD)
/-- What openers tell, ahead of more. -/
abbrev tolO (s c : D) (k : Int) (os : List Int) (gs : List (List Opng)) : V.Obj := .vec 71 [i64 k, .d (.ro (os.map (D.int .i64))), .d (.ro (gs.map opsD)), .d s, .d c]
def opP (who : Int) (own : Bool) (size : Int) (x : Opng) : Bool := decide (x.1 = who) && (decide (x.2.1 = own) && decide (((x.2.2.length : Nat) : Int) = size))
abbrev clO (who : Int) (own : Bool) (size : Int) : List V.Obj := [.vec 3 [i64 who], .vec 4 [.d (.bool own)], .vec 3 [i64 size]]
theorem isOp_ct (who : Int) (own : Bool) (size : Int) (x : Opng) : Ct Tryz.prog 84 [.d (opngD x), .ptr 0 0, .ptr 1 0, .ptr 2 0] (clO who own size) (Is2 (.d (.bool (opP who own size x))) (clO who own size)) := by
  refine Ct.introF (E := E 23 3 [.tmp 5] [] [] []) tab_ok Tryz.call84 Tryz.func84 rfl rfl rfl rfl rfl (fun hin => ?_)
  obtain ⟨x1, x2, x3⟩ := x
  have hl : (x3.map (D.int .u64)).length = x3.length := List.length_map _
  (conv => whnf); refine cond_d (fun h1 => ?_) (fun h1 => ?_)
  · (conv => whnf); refine cond_i (fun h2 => ?_) (fun h2 => ?_)
    · refine Is2.mk ?_
      have h2' : x2 = own := by simpa using h2
      unfold opP
      rw [decide_eq_true h1, decide_eq_true h2', decide_eq_decide.2 (show ((x3.length : Nat) : Int) = size ↔ (((x3.map (D.int .u64)).length : Nat) : Int) = size by rw [hl])]; rfl
    · refine Is2.mk ?_
      have h2' : ¬ x2 = own := by simpa using h2
      unfold opP
      rw [decide_eq_false (p := x2 = own) h2']; simp
  · refine Is2.mk ?_
    unfold opP
    rw [decide_eq_false h1]; rfl
theorem opsD_get {l : List Opng} {i : Nat} (h : i < l.length) : (l.map opngD)[((i : Nat) : Int).toNat]? = some (opngD (l.getD i (0, false, []))) := by
  rw [Int.toNat_natCast, List.getElem?_map, List.getD_eq_getElem?_getD, List.getElem?_eq_getElem h]; rfl
theorem any_take {α : Type} {f : α → Bool} {xs : List α} {i : Nat} {x : α} (h : xs[i]? = some x) : (xs.take (i + 1)).any f = ((xs.take i).any f || f x) := by
  rw [List.take_add_one, List.any_append, h]; simp
theorem opIdx_ct (who : Int) (own : Bool) (size : Int) (l : List Opng) : Ct Tryz.prog 83 [.d (opsD l), .fn 84 [] [.ptr 0 0, .ptr 1 0, .ptr 2 0]] (clO who own size) (fun r os => ∃ k : Int, r = i64 k ∧ os = (clO who own size) ∧ -1 ≤ k ∧ (0 ≤ k ↔ l.any (opP who own size) = true) ∧ (0 ≤ k → ∃ j : Nat, k = j ∧ j < l.length ∧ (opP who own size) (l.getD j (0, false, [])) = true ∧ (l.take j).any (opP who own size) = false)) := by
  refine Ct.introF (E := E 19 3 [.tmp 4] [] [(2, [0, 1, 7, 8])] []) tab_ok Tryz.call83 Tryz.func83 rfl rfl rfl rfl rfl (fun hin => ?_)
  have hl := len_D (l := l) (f := opngD)
  have hb := hin.1.1
  (conv => whnf); refine LoopI.mk (fun n vs os => ∃ i : Nat, vs = [.d (opsD l), .fn 84 [] [.ptr 0 0, .ptr 1 0, .ptr 2 0], i64 l.length, i64 i] ∧ os = (clO who own size) ∧ i ≤ l.length ∧ (l.take i).any (opP who own size) = false ∧ n = l.length - i) l.length ⟨0, by rw [hl]; rfl, rfl, Nat.zero_le _, rfl, rfl⟩ ?_
  rintro n _ _ ⟨i, rfl, rfl, h1, h2, rfl⟩
  (conv => whnf); refine cond_d (fun h7 => ?_) (fun h7 => ?_)
  · have hi : i < l.length := by omega
    have hg : l[i]? = some (l.getD i (0, false, [])) := by rw [List.getD_eq_getElem?_getD, List.getElem?_eq_getElem hi]; rfl
    have hs : (l.take (i + 1)).any (opP who own size) = (opP who own size) (l.getD i (0, false, [])) := by rw [any_take hg, h2]; rfl
    (conv => whnf); refine And.intro (by first | omega | (dsimp only [List.length, cond]; omega) | (show (-9223372036854775808 : Int) ≤ _ ∧ _ ≤ (9223372036854775807 : Int); omega) | decide) ?_
    (conv => whnf); refine Idx.mk _ (opsD_get hi) ?_
    (conv => whnf); refine (isOp_ct who own size (l.getD i (0, false, []))).use ?_
    (conv => whnf); refine cond_i (fun h8 => ?_) (fun h8 => ?_)
    · conv => whnf
      refine ⟨i, rfl, rfl, by omega, ⟨fun _ => ?_, fun _ => by omega⟩, fun _ => ⟨i, rfl, hi, h8, h2⟩⟩
      rw [List.any_eq_true]
      exact ⟨l.getD i (0, false, []), List.mem_of_getElem? hg, h8⟩
    · (conv => whnf); refine And.intro (by first | omega | (dsimp only [List.length, cond]; omega) | (show (-9223372036854775808 : Int) ≤ _ ∧ _ ≤ (9223372036854775807 : Int); omega) | decide) ?_
      conv => whnf
      refine ⟨l.length - (i + 1), by omega, i + 1, rfl, rfl, by omega, ?_, rfl⟩
      rw [hs]; exact h8
  · rw [List.take_of_length_le (by omega)] at h2
    exact ⟨-1, rfl, rfl, by omega, by rw [h2]; simp, fun h => by omega⟩
theorem find_some {α : Type} {p : α → Bool} {l : List α} {j : Nat} {d : α} (hj : j < l.length) (hp : p (l.getD j d) = true) (hn : (l.take j).any p = false) : l.find? p = some (l.getD j d) := by
  have e : l = l.take j ++ l.getD j d :: l.drop (j + 1) := by
    rw [List.getD_eq_getElem?_getD, List.getElem?_eq_getElem hj, Option.getD_some, ← List.drop_eq_getElem_cons hj, List.take_append_drop]
  rw [List.find?_eq_some_iff_append]
  refine ⟨hp, l.take j, l.drop (j + 1), e, fun a ha => ?_⟩
  have := List.any_eq_false.1 hn a ha
  simpa using this
theorem find_none {α : Type} {p : α → Bool} {l : List α} (h : l.any p = false) : l.find? p = none := by
  rw [List.find?_eq_none]; intro a ha
  have := List.any_eq_false.1 h a ha
  simpa using this
/-- What one opener tells. -/
def pnt (who : Int) (own : Bool) (size : Int) (k : Nat) (a : Int) (l : List Opng) : List (Int × Int) := match l.find? (opP who own size) with
  | some x => [(a, x.2.2.getD k 0)]
  | none => []
/-- What openers tell, the first so many of them. -/
def ptsN (who : Int) (own : Bool) (size : Int) (k : Nat) (os : List Int) (gs : List (List Opng)) : Nat → List (Int × Int)
  | 0 => []
  | i + 1 => ptsN who own size k os gs i ++ pnt who own size k (os.getD i 0) (gs.getD i [])
theorem ptsN_len (who : Int) (own : Bool) (size : Int) (k : Nat) (os : List Int) (gs : List (List Opng)) : ∀ i, (ptsN who own size k os gs i).length ≤ i
  | 0 => Nat.le_refl _
  | i + 1 => by
    show (ptsN who own size k os gs i ++ pnt who own size k (os.getD i 0) (gs.getD i [])).length ≤ i + 1
    have h1 := ptsN_len who own size k os gs i
    have h2 : (pnt who own size k (os.getD i 0) (gs.getD i [])).length ≤ 1 := by unfold pnt; split <;> simp
    rw [List.length_append]; omega
theorem points_ct (s c : D) (e who : Int) (own : Bool) (k : Nat) (size : Int) (os : List Int) (gs : List (List Opng)) (hk : (k : Int) < size) (hl : os.length ≤ gs.length) (hb : os.length ≤ 1000000) :
    Ct Tryz.prog 61 [.ptr 0 0, i64 who, .d (.bool own), i64 k, i64 size] [tolO s c e os gs] (Is2 (LP (ptsN who own size k os gs os.length)) [tolO s c e os gs]) := by
  refine Ct.introF (E := E 57 1 [.tmp 10] [] [(3, [0, 3, 6, 7, 9, 11, 18, 19, 20])] [(2, [.own 11 60 2]), (1000009, [.fz 10])]) tab_ok Tryz.call61 Tryz.func61 rfl rfl rfl rfl rfl (fun hin => ?_)
  have dos : (os.map (D.int .i64)).length = os.length := List.length_map _
  have dgs : (gs.map opsD).length = gs.length := List.length_map _
  (conv => whnf); refine LoopI.mk (fun q ws oss => ∃ i : Nat, ws = [.ptr 0 0, i64 k, .ptr 1 0, .ptr 2 0, .ptr 3 0, .sl 4, .d (.ro (os.map (D.int .i64))), i64 os.length, i64 i] ∧ oss = [tolO s c e os gs, .vec 3 [i64 who], .vec 4 [.d (.bool own)], .vec 3 [i64 size], .row 60 2 (lp (ptsN who own size k os gs i))] ∧ i ≤ os.length ∧ q = os.length - i) os.length ⟨0, by rw [dos]; rfl, rfl, Nat.zero_le _, rfl⟩ ?_
  rintro q _ _ ⟨i, rfl, rfl, h1, rfl⟩
  have hlp := lp_len (ptsN who own size k os gs i)
  have hpl := ptsN_len who own size k os gs i
  (conv => whnf); refine cond_d (fun h2 => ?_) (fun h2 => ?_)
  · obtain ⟨a, ha⟩ := get_some (l := os) (i := i) (by omega)
    obtain ⟨l, hl2⟩ := get_some (l := gs) (i := i) (by omega)
    have ega : os.getD i 0 = a := by rw [List.getD_eq_getElem?_getD, ha]; rfl
    have egl : gs.getD i [] = l := by rw [List.getD_eq_getElem?_getD, hl2]; rfl
    have hst : ptsN who own size k os gs (i + 1) = ptsN who own size k os gs i ++ pnt who own size k a l := by rw [← ega, ← egl]; rfl
    (conv => whnf); refine And.intro (by omega) (Idx.mk _ (map_at ha) ?_)
    (conv => whnf); refine Idx.mk _ rfl ?_
    (conv => whnf); refine And.intro (by omega) (Idx.mk _ (map_at hl2) ?_)
    (conv => whnf); refine Idx.mk _ rfl ?_
    refine (opIdx_ct who own size l).mono (fun r oss h => ?_)
    obtain ⟨j, rfl, rfl, _, hj1, hj2⟩ := h
    (conv => whnf); refine cond_d (fun h3 => ?_) (fun h3 => ?_)
    · obtain ⟨j', rfl, h4, h5, h6⟩ := hj2 h3
      obtain ⟨x, hx⟩ : ∃ x, l.getD j' (0, false, []) = x := ⟨_, rfl⟩
      have hm := opsD_get h4
      rw [hx] at hm h5
      obtain ⟨x1, x2, x3⟩ := x
      have h7 : ((x3.length : Nat) : Int) = size := by
        unfold opP at h5
        simp only [Bool.and_eq_true, decide_eq_true_eq] at h5
        exact h5.2.2
      obtain ⟨y, hy⟩ := get_some (l := x3) (i := k) (by omega)
      have hp : pnt who own size k a l = [(a, y)] := by
        unfold pnt
        rw [find_some h4 (by rw [hx]; exact h5) h6, hx]
        show [(a, x3.getD k 0)] = _
        rw [List.getD_eq_getElem?_getD, hy]; rfl
      (conv => whnf); refine And.intro (by omega) (Idx.mk _ (map_at hl2) ?_)
      (conv => whnf); refine Idx.mk _ rfl ?_
      (conv => whnf); refine And.intro (by omega) (Idx.mk _ hm ?_)
      (conv => whnf); refine Idx.mk _ rfl ?_
      (conv => whnf); refine And.intro (by omega) (Idx.mk _ (map_at hy) ?_)
      (conv => whnf); refine Idx.mk _ rfl ?_
      (conv => whnf); refine And.intro ⟨by rw [hlp]; dsimp only [List.length]; omega, fun y hy => by cases hy with | head => rfl | tail _ h => cases h⟩ ?_
      (conv => whnf); refine And.intro (by first | omega | (dsimp only [List.length, cond]; omega) | (show (-9223372036854775808 : Int) ≤ _ ∧ _ ≤ (9223372036854775807 : Int); omega) | decide) ?_
      (conv => whnf)
      refine ⟨os.length - (i + 1), by omega, i + 1, rfl, ?_, by omega, rfl⟩
      rw [hst, hp]; unfold lp; rw [List.map_append]; rfl
    · have hp : pnt who own size k a l = [] := by
        have hn : l.any (opP who own size) = false := by
          cases hv : l.any (opP who own size) with
          | false => rfl
          | true => exact absurd (hj1.2 hv) h3
        unfold pnt; rw [find_none hn]
      (conv => whnf); refine And.intro (by first | omega | (dsimp only [List.length, cond]; omega) | (show (-9223372036854775808 : Int) ≤ _ ∧ _ ≤ (9223372036854775807 : Int); omega) | decide) ?_
      (conv => whnf)
      refine ⟨os.length - (i + 1), by omega, i + 1, rfl, ?_, by omega, rfl⟩
      rw [hst, hp, List.append_nil]; rfl
  · obtain rfl : i = os.length := by omega
    exact Is2.mk rfl
end Go.Proofs.YtofkdfodehfpdaaGreat.Mnd

/- Package limb: numbers glued to a seed. -/
namespace Go.Proofs.YtofkdfodehfpdaaGreat.Mnd
open Go.V Go.Num
open Go.Eng (wr)
open Go.Proofs.YtofkdfodehfpdaaGreat.Wrd
set_option maxRecDepth 100000
set_option maxHeartbeats 4000000
def lsz (n : Nat) : Nat := min 7 (32 - 7 * n)
theorem size_ct (n : Nat) (h : n < 5) : Ct Tryz.prog 85 [i64 n] [] (Is2 (i64 (lsz n)) []) := by
  refine Ct.introF (E := E 7 0 [.tmp 2] [] [] []) tab_ok Tryz.call85 Tryz.func85 rfl rfl rfl rfl rfl (fun hin => ?_)
  (conv => whnf); refine And.intro (by first | omega | (dsimp only [List.length, cond]; omega) | (show (-9223372036854775808 : Int) ≤ _ ∧ _ ≤ (9223372036854775807 : Int); omega) | decide) ?_
  (conv => whnf); refine And.intro (by first | omega | (dsimp only [List.length, cond]; omega) | (show (-9223372036854775808 : Int) ≤ _ ∧ _ ≤ (9223372036854775807 : Int); omega) | decide) ?_
  refine isInt ?_
  show min (7 : Int) (32 - (n : Int) * 7) = _
  unfold lsz; omega
/-- So many bytes of a seed, out of numbers. -/
def gl (ls : List Int) (m : Nat) : List Int := (List.range 32).map fun j => if j < m then byt (ls.getD (j / 7) 0) (j % 7) else 0
theorem gl_len (ls : List Int) (m : Nat) : (gl ls m).length = 32 := by simp [gl]
theorem gl_at (ls : List Int) (m : Nat) {j : Nat} (h : j < 32) : (gl ls m)[j]? = some (if j < m then byt (ls.getD (j / 7) 0) (j % 7) else 0) := by
  unfold gl; rw [List.getElem?_map, List.getElem?_range h]; rfl
theorem gl_put (ls : List Int) {m : Nat} (h : m < 32) : (l8 (gl ls m)).take m ++ [D.int .u8 (byt (ls.getD (m / 7) 0) (m % 7))] ++ (l8 (gl ls m)).drop (m + 1) = l8 (gl ls (m + 1)) := by
  have hl : (l8 (gl ls m)).length = 32 := by rw [List.length_map, gl_len]
  apply List.ext_getElem?
  intro j
  by_cases hj : j < 32
  · have e2 : (l8 (gl ls (m + 1)))[j]? = some (D.int .u8 (if j < m + 1 then byt (ls.getD (j / 7) 0) (j % 7) else 0)) := by rw [List.getElem?_map, gl_at ls (m + 1) hj]; rfl
    have e1 : (l8 (gl ls m))[j]? = some (D.int .u8 (if j < m then byt (ls.getD (j / 7) 0) (j % 7) else 0)) := by rw [List.getElem?_map, gl_at ls m hj]; rfl
    rw [e2, List.append_assoc]
    by_cases h1 : j < m
    · rw [List.getElem?_append_left (by rw [List.length_take]; omega), List.getElem?_take, if_pos h1, e1, if_pos h1, if_pos (by omega)]
    · rw [List.getElem?_append_right (by rw [List.length_take]; omega), List.length_take, Nat.min_eq_left (by omega)]
      by_cases h2 : j = m
      · subst h2; rw [Nat.sub_self, if_pos (by omega)]; rfl
      · have : j - m = (j - m - 1) + 1 := by omega
        rw [this, List.singleton_append, List.getElem?_cons_succ, List.getElem?_drop, show m + 1 + (j - m - 1) = j by omega, e1, if_neg h1, if_neg (by omega)]
  · rw [List.getElem?_eq_none (by simp only [List.length_append, List.length_take, List.length_drop, List.length_singleton]; omega), List.getElem?_eq_none (by rw [List.length_map, gl_len]; omega)]
theorem byt_val {x : Int} {i : Nat} (hi : i < 7) : wr .u8 (x / 2 ^ (min (8 * (i : Int)).toNat IntKind.u64.bits)) = byt x i := by
  have e : min (8 * (i : Int)).toNat IntKind.u64.bits = 8 * i := by show min _ 64 = _; omega
  rw [e]
  unfold byt
  rw [show (256 : Int) ^ i = 2 ^ (8 * i) from by rw [Int.pow_mul]; rfl]
  simp only [wr]
/-- Do numbers fit in their places? -/
def GlOk (ls : List Int) : Prop := ls.length = 5 ∧ ∀ n, n < 5 → 0 ≤ ls.getD n 0 ∧ ls.getD n 0 < 18446744073709551616 ∧ ls.getD n 0 / 2 ^ (8 * lsz n) = 0
theorem li_get5 {ls : List Int} {n : Nat} (h : n < ls.length) : (ls.map (D.int .u64))[(((n : Nat) : Int)).toNat * 1]? = some (.int .u64 (ls.getD n 0)) := by
  rw [Nat.mul_one, Int.toNat_natCast, List.getElem?_map, List.getElem?_eq_getElem h, List.getD_eq_getElem?_getD, List.getElem?_eq_getElem h]; rfl
theorem Glue_ct (ls : List Int) (h : GlOk ls) : Ct Tryz.prog 62 [.d (.agg (ls.map (D.int .u64)))] [] (Is2 (.tup [A8 (gl ls 32), i64 0]) []) := by
  refine Ct.introF (E := E 40 0 [.cell 2 90, .tmp 3] [] [(3, [2, 4, 9, 10]), (7, [2, 4, 5, 6, 7, 9, 10, 17, 18])] []) tab_ok Tryz.call62 Tryz.func62 rfl rfl rfl rfl rfl (fun hin => ?_)
  obtain ⟨h5, hx⟩ := h
  have dls : (ls.map (D.int .u64)).length = ls.length := List.length_map _
  (conv => whnf); refine And.intro (by show (ls.map (D.int .u64)).length = 5; omega) ?_
  (conv => whnf); refine LoopI.mk (fun q ws os => ∃ i : Nat, ws = [.ptr 0 0, .ptr 1 0, .d (.agg (ls.map (D.int .u64))), i64 i] ∧ os = [.arr 90 (List.replicate 32 (.int .u8 0)), .arr 90 (l8 (gl ls (min (7 * i) 32)))] ∧ i ≤ 5 ∧ q = 5 - i) 5 ⟨0, rfl, rfl, by omega, rfl⟩ ?_
  rintro q _ _ ⟨i, rfl, rfl, h1, rfl⟩
  (conv => whnf); refine cond_d (fun h2 => ?_) (fun h2 => ?_)
  · obtain ⟨g1, g2, g3⟩ := hx i (by omega)
    have hz : lsz i ≤ 7 ∧ 7 * i + lsz i ≤ 32 ∧ 0 < lsz i := by unfold lsz; omega
    (conv => whnf); refine And.intro ⟨by omega, by omega⟩ (Idx.mk _ (li_get5 (by omega)) ?_)
    (conv => whnf); refine And.intro (by first | omega | (dsimp only [List.length, cond]; omega) | (show (-9223372036854775808 : Int) ≤ _ ∧ _ ≤ (9223372036854775807 : Int); omega) | decide) ?_
    (conv => whnf); refine (size_ct i (by omega)).use ?_
    (conv => whnf); refine LoopI.mk (fun q ws os => ∃ j : Nat, ws = [.ptr 0 0, .ptr 1 0, i64 i, .d (.int .u64 (ls.getD i 0)), i64 (7 * i : Nat), .d (.agg (ls.map (D.int .u64))), i64 i, i64 (lsz i), i64 j] ∧ os = [.arr 90 (List.replicate 32 (.int .u8 0)), .arr 90 (l8 (gl ls (7 * i + j)))] ∧ j ≤ lsz i ∧ q = lsz i - j) (lsz i) ⟨0, ?_, ?_, Nat.zero_le _, rfl⟩ ?_
    · rw [show ((7 * i : Nat) : Int) = (i : Int) * 7 by omega]; rfl
    · rw [show min (7 * i) 32 = 7 * i + 0 by omega]; rfl
    rintro q _ _ ⟨j, rfl, rfl, h3, rfl⟩
    (conv => whnf); refine cond_d (fun h4 => ?_) (fun h4 => ?_)
    · have hl8 : (l8 (gl ls (7 * i + j))).length = 32 := by rw [List.length_map, gl_len]
      (conv => whnf); refine And.intro (by first | omega | (dsimp only [List.length, cond]; omega) | (show (-9223372036854775808 : Int) ≤ _ ∧ _ ≤ (9223372036854775807 : Int); omega) | decide) ?_
      (conv => whnf); refine And.intro (by first | omega | (dsimp only [List.length, cond]; omega) | (show (-9223372036854775808 : Int) ≤ _ ∧ _ ≤ (9223372036854775807 : Int); omega) | decide) ?_
      (conv => whnf); refine And.intro (by first | omega | (dsimp only [List.length, cond]; omega) | (show (-9223372036854775808 : Int) ≤ _ ∧ _ ≤ (9223372036854775807 : Int); omega) | decide) ?_
      (conv => whnf); refine And.intro (by first | omega | (dsimp only [List.length, cond]; omega) | (show (-9223372036854775808 : Int) ≤ _ ∧ _ ≤ (9223372036854775807 : Int); omega) | decide) ?_
      (conv => whnf)
      (conv => whnf); refine And.intro ⟨rfl, by rw [hl8]; show 0 + (((7 * i : Nat) : Int) + (j : Int)).toNat * 1 + 1 ≤ 32; omega⟩ ?_
      (conv => whnf); refine And.intro (by first | omega | (dsimp only [List.length, cond]; omega) | (show (-9223372036854775808 : Int) ≤ _ ∧ _ ≤ (9223372036854775807 : Int); omega) | decide) ?_
      (conv => whnf)
      refine ⟨lsz i - (j + 1), by omega, j + 1, rfl, ?_, by omega, rfl⟩
      show [Obj.arr _ _, Obj.arr _ (setV (l8 (gl ls (7 * i + j))) (0 + (((7 * i : Nat) : Int) + (j : Int)).toNat * 1) [.int .u8 (wr .u8 (ls.getD i 0 / 2 ^ (min (8 * (j : Int)).toNat IntKind.u64.bits)))])] = _
      rw [byt_val (by omega), show 0 + (((7 * i : Nat) : Int) + (j : Int)).toNat * 1 = 7 * i + j by omega]
      have hp := gl_put ls (m := 7 * i + j) (by omega)
      rw [show (7 * i + j) / 7 = i by omega, show (7 * i + j) % 7 = j by omega] at hp
      show [Obj.arr _ _, Obj.arr _ ((l8 (gl ls (7 * i + j))).take (7 * i + j) ++ [D.int .u8 (byt (ls.getD i 0) j)] ++ (l8 (gl ls (7 * i + j))).drop (7 * i + j + 1))] = _
      rw [hp]; rfl
    · obtain rfl : j = lsz i := by omega
      (conv => whnf); refine (size_ct i (by omega)).use ?_
      (conv => whnf); refine And.intro (by first | omega | (dsimp only [List.length, cond]; omega) | (show (-9223372036854775808 : Int) ≤ _ ∧ _ ≤ (9223372036854775807 : Int); omega) | decide) ?_
      (conv => whnf); refine And.intro (by first | omega | (dsimp only [List.length, cond]; omega) | (show (-9223372036854775808 : Int) ≤ _ ∧ _ ≤ (9223372036854775807 : Int); omega) | decide) ?_
      (conv => whnf); refine cond_n ?_ ?_
      · rw [show min (8 * (lsz i : Int)).toNat IntKind.u64.bits = 8 * lsz i by show min _ 64 = _; omega]
        omega
      (conv => whnf); refine And.intro (by first | omega | (dsimp only [List.length, cond]; omega) | (show (-9223372036854775808 : Int) ≤ _ ∧ _ ≤ (9223372036854775807 : Int); omega) | decide) ?_
      (conv => whnf)
      refine ⟨5 - (i + 1), by omega, i + 1, rfl, ?_, by omega, rfl⟩
      have e : 7 * i + lsz i = min (7 * (i + 1)) 32 := by unfold lsz; omega
      rw [e]; rfl
  · obtain rfl : i = 5 := by omega
    (conv => whnf); refine And.intro (by rw [List.length_map, gl_len]) ?_
    (conv => whnf); refine And.intro ⟨?_, ?_⟩ ?_
    · show (l8 _).length = 32
      rw [List.length_map, gl_len]
    · rfl
    (conv => whnf); refine And.intro (by show (l8 _).length = 32; rw [List.length_map, gl_len]) ?_
    (conv => whnf); refine And.intro (by show (l8 _).length = 32; rw [List.length_map, gl_len]) ?_
    (conv => whnf); exact Is2.mk rfl
end Go.Proofs.YtofkdfodehfpdaaGreat.Mnd

/- Package mend: numbers, a seed. -/
namespace Go.Proofs.YtofkdfodehfpdaaGreat.Mnd
open Go.V Go.Num
open Go.Eng (wr)
open Go.Proofs.YtofkdfodehfpdaaGreat.Wrd
set_option maxRecDepth 100000
set_option maxHeartbeats 4000000
theorem Number_ct (k : Int) (ps : List (Int × Int)) : Ct Tryz.prog 5 [i64 k, LP ps] [] (Is2 (.tup [u64 (joinV k ps), i64 (someE k ps)]) []) := by
  refine Ct.introF (E := E 11 0 [.tmp 4, .tmp 5] [] [] []) tab_ok Tryz.call5 Tryz.func5 rfl rfl rfl rfl rfl (fun hin => ?_)
  (conv => whnf); refine (Join_ct k ps).use ?_
  exact Is2.mk rfl
/-- Cells that are filled one after the other. -/
def fil (f : Nat → D) (z : D) (n m : Nat) : List D := (List.range n).map fun j => if j < m then f j else z
theorem fil_len (f : Nat → D) (z : D) (n m : Nat) : (fil f z n m).length = n := by simp [fil]
theorem fil_at (f : Nat → D) (z : D) {n m j : Nat} (h : j < n) : (fil f z n m)[j]? = some (if j < m then f j else z) := by
  unfold fil; rw [List.getElem?_map, List.getElem?_range h]; rfl
theorem fil_put (f : Nat → D) (z : D) {n m : Nat} (h : m < n) : setV (fil f z n m) m [f m] = fil f z n (m + 1) := by
  have hl := fil_len f z n m
  unfold setV
  apply List.ext_getElem?
  intro j
  by_cases hj : j < n
  · rw [fil_at f z (m := m + 1) hj, List.append_assoc]
    by_cases h1 : j < m
    · rw [List.getElem?_append_left (by rw [List.length_take]; omega), List.getElem?_take, if_pos h1, fil_at f z hj, if_pos h1, if_pos (by omega)]
    · rw [List.getElem?_append_right (by rw [List.length_take]; omega), List.length_take, Nat.min_eq_left (by omega)]
      by_cases h2 : j = m
      · subst h2; rw [Nat.sub_self, if_pos (by omega)]; rfl
      · have : j - m = (j - m - 1) + 1 := by omega
        rw [this, List.singleton_append, List.getElem?_cons_succ, List.getElem?_drop]
        show (fil f z n m)[m + 1 + (j - m - 1)]? = _
        rw [show m + 1 + (j - m - 1) = j by omega, fil_at f z hj, if_neg h1, if_neg (by omega)]
  · rw [List.getElem?_eq_none (by simp only [List.length_append, List.length_take, List.length_drop, List.length_singleton]; omega), List.getElem?_eq_none (by rw [fil_len]; omega)]
/-- The numbers of a seed that openers tell. -/
def limT (e who : Int) (os : List Int) (gs : List (List Opng)) (k : Nat) : Int := joinV e (ptsN who true 5 k os gs os.length)
def limL (e who : Int) (os : List Int) (gs : List (List Opng)) : List Int := (List.range 5).map (limT e who os gs)
theorem seed_ct (s c : D) (e who : Int) (os : List Int) (gs : List (List Opng)) (hl : os.length ≤ gs.length) (hb : os.length ≤ 1000000)
    (h0 : ∀ k, k < 5 → someE e (ptsN who true 5 k os gs os.length) = 0) (hg : GlOk (limL e who os gs)) :
    Ct Tryz.prog 46 [.ptr 0 0, i64 who] [tolO s c e os gs] (Is2 (.tup [A8 (gl (limL e who os gs) 32), i64 0]) [tolO s c e os gs]) := by
  refine Ct.introF (E := E 37 1 [.cell 4 90, .tmp 5] [] [(3, [0, 1, 4, 6, 10])] []) tab_ok Tryz.call46 Tryz.func46 rfl rfl rfl rfl rfl (fun hin => ?_)
  have hz := h0
  (conv => whnf); refine LoopI.mk (fun q ws oss => ∃ i : Nat, ws = [.ptr 0 0, i64 who, .ptr 1 0, .ptr 2 0, i64 i] ∧ oss = [tolO s c e os gs, .arr 90 (List.replicate 32 (.int .u8 0)), .arr 51 (fil (fun k => .int .u64 (limT e who os gs k)) (.int .u64 0) 5 i)] ∧ i ≤ 5 ∧ q = 5 - i) 5 ⟨0, rfl, rfl, Nat.zero_le _, rfl⟩ ?_
  rintro q _ _ ⟨i, rfl, rfl, h1, rfl⟩
  (conv => whnf); refine cond_d (fun h2 => ?_) (fun h2 => ?_)
  · (conv => whnf); refine DrawI.mkF 13 [[0], [14], [15], [16], [0], [1], [7], [18, 19, 20], [17, 21], [22], [13], [13], [23]] (by decide +kernel) ?_
    repeat (first | refine DrawO.mkF _ (And.intro rfl rfl) ?_ | refine DrawO.mkF _ (Idx.mk _ rfl (And.intro rfl rfl)) ?_)
    refine DrawO.mkF _ ((points_ct s c e who true i 5 os gs (by omega) hl hb).use (And.intro rfl rfl)) ?_
    repeat (first | refine DrawO.mkF _ (And.intro rfl rfl) ?_ | refine DrawO.mkF _ (Idx.mk _ rfl (And.intro rfl rfl)) ?_)
    refine DrawO.mkF _ ((Number_ct e (ptsN who true 5 i os gs os.length)).use (And.intro rfl rfl)) ?_
    repeat (first | refine DrawO.mkF _ (And.intro rfl rfl) ?_ | refine DrawO.mkF _ (Idx.mk _ rfl (And.intro rfl rfl)) ?_)
    (conv => whnf); refine cond_n (fun hh => hh (h0 i (by omega))) ?_
    (conv => whnf); refine And.intro (by first | omega | (dsimp only [List.length, cond]; omega) | (show (-9223372036854775808 : Int) ≤ _ ∧ _ ≤ (9223372036854775807 : Int); omega) | decide) ?_
    (conv => whnf)
    (conv => whnf); refine And.intro ⟨rfl, by rw [fil_len]; show 0 + (i : Int).toNat * 1 + 1 ≤ 5; omega⟩ ?_
    (conv => whnf); refine And.intro (by first | omega | (dsimp only [List.length, cond]; omega) | (show (-9223372036854775808 : Int) ≤ _ ∧ _ ≤ (9223372036854775807 : Int); omega) | decide) ?_
    (conv => whnf)
    refine ⟨5 - (i + 1), by omega, i + 1, rfl, ?_, by omega, rfl⟩
    have hp := fil_put (fun k => D.int .u64 (limT e who os gs k)) (.int .u64 0) (n := 5) (m := i) (by omega)
    show [_, _, Obj.arr _ (setV (fil (fun k => D.int .u64 (limT e who os gs k)) (.int .u64 0) 5 i) (0 + (i : Int).toNat * 1) [D.int .u64 (limT e who os gs i)])] = _
    rw [show 0 + (i : Int).toNat * 1 = i by omega, hp]; rfl
  · obtain rfl : i = 5 := by omega
    have hf : fil (fun k => D.int .u64 (limT e who os gs k)) (.int .u64 0) 5 5 = (limL e who os gs).map (D.int .u64) := rfl
    rw [hf]
    (conv => whnf); refine And.intro (by show _ = 5; rw [List.length_map]; exact hg.1) ?_
    (conv => whnf); refine (Glue_ct _ hg).use ?_
    (conv => whnf); refine And.intro ⟨by show (l8 _).length = 32; rw [List.length_map, gl_len], rfl⟩ ?_
    (conv => whnf); refine And.intro (by show (l8 _).length = 32; rw [List.length_map, gl_len]) ?_
    (conv => whnf); refine And.intro (by show (l8 _).length = 32; rw [List.length_map, gl_len]) ?_
    (conv => whnf); exact Is2.mk rfl
end Go.Proofs.YtofkdfodehfpdaaGreat.Mnd

/- Package mend: a key. -/
namespace Go.Proofs.YtofkdfodehfpdaaGreat.Mnd
open Go.V Go.Num
open Go.Eng (wr)
open Go.Proofs.YtofkdfodehfpdaaGreat.Wrd
open Go.Proofs.YtofkdfodehfpdaaGreat.Ring
set_option maxRecDepth 100000
set_option maxHeartbeats 4000000
theorem Public_ct (n : Int) (hn : 1 ≤ n ∧ n ≤ 2305843009213693949) : Ct Tryz.prog 66 [u64 n] [] (Is2 (.tup [u64 (pw 37 n.toNat), i64 0]) []) := by
  refine Ct.introF (E := E 11 0 [.tmp 2, .tmp 3] [] [] []) tab_ok Tryz.call66 Tryz.func66 rfl rfl rfl rfl rfl (fun hin => ?_)
  (conv => whnf); refine (gSound_ct n).use ?_
  (conv => whnf); refine cond_nd (fun h => absurd hn h) (fun _ => ?_)
  (conv => whnf); refine (of_ct n 37 ⟨by omega, by omega⟩).use ?_
  exact Is2.mk rfl
/-- The secret number of one who is gone. -/
def keyT (e who : Int) (os : List Int) (gs : List (List Opng)) : Int := joinV e (ptsN who false 1 0 os gs os.length)
theorem key_ct (s d : D) (e : Int) (c : Cd) (os : List Int) (gs : List (List Opng)) (hl : os.length ≤ gs.length) (hb : os.length ≤ 1000000)
    (h0 : someE e (ptsN c.1 false 1 0 os gs os.length) = 0) (hn : 1 ≤ keyT e c.1 os gs ∧ keyT e c.1 os gs ≤ 2305843009213693949) (hk : pw 37 (keyT e c.1 os gs).toNat = c.2.2) :
    Ct Tryz.prog 49 [.ptr 0 0, .d (cdD c)] [tolO s d e os gs] (Is2 (.tup [u64 (keyT e c.1 os gs), i64 0]) [tolO s d e os gs]) := by
  refine Ct.introF (E := E 39 1 [.tmp 4, .tmp 5] [] [] []) tab_ok Tryz.call49 Tryz.func49 rfl rfl rfl rfl rfl (fun hin => ?_)
  obtain ⟨c1, c2, c3⟩ := c
  (conv => whnf); refine DrawI.mkF 13 [[0], [11], [12], [13], [0], [3], [16], [15, 17], [14, 18], [19], [10], [10], [20]] (by decide +kernel) ?_
  repeat (first | refine DrawO.mkF _ (And.intro rfl rfl) ?_ | refine DrawO.mkF _ (Idx.mk _ rfl (And.intro rfl rfl)) ?_)
  refine DrawO.mkF _ ((points_ct s d e c1 false 0 1 os gs (by omega) hl hb).use (And.intro rfl rfl)) ?_
  repeat (first | refine DrawO.mkF _ (And.intro rfl rfl) ?_ | refine DrawO.mkF _ (Idx.mk _ rfl (And.intro rfl rfl)) ?_)
  refine DrawO.mkF _ ((Number_ct e (ptsN c1 false 1 0 os gs os.length)).use (And.intro rfl rfl)) ?_
  repeat (first | refine DrawO.mkF _ (And.intro rfl rfl) ?_ | refine DrawO.mkF _ (Idx.mk _ rfl (And.intro rfl rfl)) ?_)
  (conv => whnf); refine cond_n (fun hh => hh h0) ?_
  (conv => whnf); refine (Public_ct _ hn).use ?_
  (conv => whnf); refine cond_n (fun hh => hh hk) ?_
  exact Is2.mk rfl
/-- A sum from which masks are taken. -/
abbrev wkO (e : Int) (os : List Int) (gs : List (List Opng)) (v : List Int) (cs : List Cd) : V.Obj := tolO (.ro (l32 v)) (.ro (lc cs)) e os gs
theorem Left_ok {who s : Int} {cs : List Cd} {v : List Int} (h : hideE who v.length s cs = 0) : Ct Tryz.prog 50 [i64 who, u64 s, LC cs, i64 (l32 v).length] [] (Is2 (.tup [R32 (leftV who s cs v.length true), i64 0]) []) := by
  have e : (l32 v).length = v.length := List.length_map _
  have := Left_ct who s cs ((l32 v).length : Int)
  rw [e, h] at this
  rw [e]; exact this
theorem Sub_ok {a b : List Int} (ha : a.length ≤ 1000000) (h : b.length = a.length) : Ct Tryz.prog 47 [R32 a, R32 b] [] (Is2 (.tup [R32 (subV a b), i64 0]) []) := by
  have := Ring.Sub_ct a b ha
  rw [if_pos h.symm, if_pos h.symm] at this; exact this
theorem Own_ok {s : List Int} (v : List Int) (hs : s.length = 32) : Ct Tryz.prog 48 [A8 s, i64 (l32 v).length] [] (Is2 (R32 (vecL s 4 v.length)) []) := by
  have e : (l32 v).length = v.length := List.length_map _
  rw [e]; exact Own_ct s v.length hs
theorem gave_ct (e : Int) (c : Cd) (os : List Int) (gs : List (List Opng)) (v : List Int) (cs : List Cd) (hl : os.length ≤ gs.length) (hb : os.length ≤ 1000000) (hv : v.length ≤ 256)
    (h0 : ∀ k, k < 5 → someE e (ptsN c.1 true 5 k os gs os.length) = 0) (hg : GlOk (limL e c.1 os gs)) :
    Ct Tryz.prog 28 [.ptr 0 0, .d (cdD c)] [wkO e os gs v cs] (Is2 (i64 0) [wkO e os gs (subV v (vecL (gl (limL e c.1 os gs) 32) 4 v.length)) cs]) := by
  refine Ct.introF (E := E 38 1 [.tmp 4] [] [] []) tab_ok Tryz.call28 Tryz.func28 rfl rfl rfl rfl rfl (fun hin => ?_)
  have hv8 : (l32 v).length = v.length := List.length_map _
  (conv => whnf); refine DrawI.mixF [⟨[(0, true, [0]), (1, true, [8]), (2, true, [9]), (3, true, [3]), (4, true, [11]), (9, true, [])], [], some (5, [10, 12])⟩, ⟨[(6, true, [13]), (7, true, [7]), (8, true, [7]), (9, false, [])], [9], some (10, [5, 14])⟩, ⟨[(8, false, [7])], [], some (11, [15])⟩, ⟨[], [], none⟩] [9] (by decide +kernel) ?_
  repeat (first | refine DrawO.mkF _ (And.intro rfl rfl) ?_ | refine DrawO.mkF _ (Idx.mk _ rfl (And.intro rfl rfl)) ?_ | refine And.intro rfl ?_)
  refine DrawN.mkF (.arr 90 (List.replicate 32 (.int .u8 0))) rfl (And.intro rfl rfl) ?_
  repeat (first | refine DrawO.mkF _ (And.intro rfl rfl) ?_ | refine DrawO.mkF _ (Idx.mk _ rfl (And.intro rfl rfl)) ?_ | refine And.intro rfl ?_)
  (conv => whnf); refine (seed_ct (.ro (l32 v)) (.ro (lc cs)) e c.1 os gs hl hb h0 hg).use ?_
  repeat (first | refine DrawO.mkF _ (And.intro rfl rfl) ?_ | refine DrawO.mkF _ (Idx.mk _ rfl (And.intro rfl rfl)) ?_ | refine And.intro rfl ?_)
  refine DrawN.mkF _ rfl (And.intro rfl rfl) ?_
  repeat (first | refine DrawO.mkF _ (And.intro rfl rfl) ?_ | refine DrawO.mkF _ (Idx.mk _ rfl (And.intro rfl rfl)) ?_ | refine And.intro rfl ?_)
  (conv => whnf); refine And.intro ⟨?_, ?_⟩ ?_
  · show (l8 _).length = 32
    rw [List.length_map, gl_len]
  · rfl
  repeat (first | refine DrawO.mkF _ (And.intro rfl rfl) ?_ | refine DrawO.mkF _ (Idx.mk _ rfl (And.intro rfl rfl)) ?_ | refine And.intro rfl ?_)
  (conv => whnf)
  (conv => whnf); refine DrawI.mkTF 14 [[0], [0], [21], [22], [23], [5], [0], [26], [27], [28], [29], [25, 30], [24, 31], [32]] [(14, 33, 19), (15, 34, 19), (16, 35, 20)] (by decide +kernel) ?_
  repeat (first | refine DrawO.mkF _ (And.intro rfl rfl) ?_ | refine DrawO.mkF _ (Idx.mk _ rfl (And.intro rfl rfl)) ?_)
  refine DrawO.mkF _ (And.intro (by show (l8 _).length = 32; rw [List.length_map, gl_len]) (And.intro rfl rfl)) ?_
  repeat (first | refine DrawO.mkF _ (And.intro rfl rfl) ?_ | refine DrawO.mkF _ (Idx.mk _ rfl (And.intro rfl rfl)) ?_)
  refine DrawO.mkF _ ((Own_ok (s := gl (limL e c.1 os gs) 32) v (gl_len _ _)).use (And.intro rfl rfl)) ?_
  repeat (first | refine DrawO.mkF _ (And.intro rfl rfl) ?_ | refine DrawO.mkF _ (Idx.mk _ rfl (And.intro rfl rfl)) ?_)
  refine DrawO.mkF _ ((Sub_ok (a := v) (b := vecL (gl (limL e c.1 os gs) 32) 4 v.length) (by omega) (by rw [vecL_len]; exact clampV (by omega))).use (And.intro rfl rfl)) ?_
  repeat (first | refine DrawO.mkF _ (And.intro rfl rfl) ?_ | refine DrawO.mkF _ (Idx.mk _ rfl (And.intro rfl rfl)) ?_)
  exact Is2.mk rfl
theorem gone_ct (e : Int) (c : Cd) (os : List Int) (gs : List (List Opng)) (v : List Int) (cs : List Cd) (hl : os.length ≤ gs.length) (hb : os.length ≤ 1000000) (hv : v.length ≤ 256)
    (h0 : someE e (ptsN c.1 false 1 0 os gs os.length) = 0) (hn : 1 ≤ keyT e c.1 os gs ∧ keyT e c.1 os gs ≤ 2305843009213693949) (hk : pw 37 (keyT e c.1 os gs).toNat = c.2.2)
    (he : hideE c.1 v.length (keyT e c.1 os gs) cs = 0) :
    Ct Tryz.prog 29 [.ptr 0 0, .d (cdD c)] [wkO e os gs v cs] (Is2 (i64 0) [wkO e os gs (subV v (leftV c.1 (keyT e c.1 os gs) cs v.length true)) cs]) := by
  refine Ct.introF (E := E 51 1 [.tmp 4] [] [] []) tab_ok Tryz.call29 Tryz.func29 rfl rfl rfl rfl rfl (fun hin => ?_)
  have hv8 : (l32 v).length = v.length := List.length_map _
  (conv => whnf); refine DrawI.mkF 9 [[0], [9], [10], [3], [11, 12], [13], [8], [8], [14]] (by decide +kernel) ?_
  repeat (first | refine DrawO.mkF _ (And.intro rfl rfl) ?_ | refine DrawO.mkF _ (Idx.mk _ rfl (And.intro rfl rfl)) ?_)
  refine DrawO.mkF _ ((key_ct (.ro (l32 v)) (.ro (lc cs)) e c os gs hl hb h0 hn hk).use (And.intro rfl rfl)) ?_
  repeat (first | refine DrawO.mkF _ (And.intro rfl rfl) ?_ | refine DrawO.mkF _ (Idx.mk _ rfl (And.intro rfl rfl)) ?_)
  (conv => whnf)
  (conv => whnf); refine DrawI.mkF 17 [[3], [20], [5], [0], [23], [24], [25], [0], [27], [28], [29], [30], [21, 22, 26, 31], [32], [19], [19], [33]] (by decide +kernel) ?_
  repeat (first | refine DrawO.mkF _ (And.intro rfl rfl) ?_ | refine DrawO.mkF _ (Idx.mk _ rfl (And.intro rfl rfl)) ?_)
  refine DrawO.mkF _ ((Left_ok he).use (And.intro rfl rfl)) ?_
  repeat (first | refine DrawO.mkF _ (And.intro rfl rfl) ?_ | refine DrawO.mkF _ (Idx.mk _ rfl (And.intro rfl rfl)) ?_)
  (conv => whnf); refine (Sub_ok (by omega) (by rw [leftV_len])).use ?_
  exact Is2.mk rfl
end Go.Proofs.YtofkdfodehfpdaaGreat.Mnd

/- Package mend: what fits. -/
namespace Go.Proofs.YtofkdfodehfpdaaGreat.Mnd
open Go.V Go.Num
open Go.Eng (wr)
open Go.Proofs.YtofkdfodehfpdaaGreat.Wrd
open Go.Proofs.YtofkdfodehfpdaaGreat.Ring
set_option maxRecDepth 100000
set_option maxHeartbeats 4000000
abbrev lI (l : List Int) : List D := l.map (D.int .i64)
abbrev LI (l : List Int) : AV := .d (.ro (lI l))
theorem lI_len (l : List Int) : (lI l).length = l.length := List.length_map _
theorem lI_get {l : List Int} {i : Nat} (h : i < l.length) : (lI l)[((i : Nat) : Int).toNat]? = some (.int .i64 (l.getD i 0)) := by
  rw [Int.toNat_natCast, List.getElem?_map, List.getD_eq_getElem?_getD, List.getElem?_eq_getElem h]; rfl
theorem iIdx_ct (l : List Int) (n : Int) : Ct Tryz.prog 45 [LI l, i64 n] [] (fun r os => ∃ k : Int, r = i64 k ∧ os = [] ∧ (0 ≤ k ↔ l.contains n = true)) := by
  refine Ct.introF (E := E 19 0 [.tmp 4] [] [(2, [0, 1, 7, 8])] []) tab_ok Tryz.call45 Tryz.func45 rfl rfl rfl rfl rfl (fun hin => ?_)
  have hl := lI_len l
  have hb := hin.1.1
  (conv => whnf); refine LoopI.mk (fun q vs os => ∃ i : Nat, vs = [LI l, i64 n, i64 l.length, i64 i] ∧ os = [] ∧ i ≤ l.length ∧ (l.take i).contains n = false ∧ q = l.length - i) l.length ⟨0, by rw [hl]; rfl, rfl, Nat.zero_le _, rfl, rfl⟩ ?_
  rintro q _ _ ⟨i, rfl, rfl, h1, h2, rfl⟩
  (conv => whnf); refine cond_d (fun h7 => ?_) (fun h7 => ?_)
  · have hi : i < l.length := by omega
    have hg : l[i]? = some (l.getD i 0) := by rw [List.getD_eq_getElem?_getD, List.getElem?_eq_getElem hi]; rfl
    (conv => whnf); refine And.intro (by first | omega | (dsimp only [List.length, cond]; omega) | (show (-9223372036854775808 : Int) ≤ _ ∧ _ ≤ (9223372036854775807 : Int); omega) | decide) ?_
    (conv => whnf); refine Idx.mk _ (lI_get hi) ?_
    (conv => whnf); refine Idx.mk _ rfl ?_
    (conv => whnf); refine cond_d (fun h8 => ?_) (fun h8 => ?_)
    · conv => whnf
      refine ⟨i, rfl, rfl, ⟨fun _ => ?_, fun _ => by omega⟩⟩
      rw [h8]
      exact List.contains_iff_mem.2 (List.mem_of_getElem? hg)
    · (conv => whnf); refine And.intro (by first | omega | (dsimp only [List.length, cond]; omega) | (show (-9223372036854775808 : Int) ≤ _ ∧ _ ≤ (9223372036854775807 : Int); omega) | decide) ?_
      conv => whnf
      refine ⟨l.length - (i + 1), by omega, i + 1, rfl, rfl, by omega, ?_, rfl⟩
      rw [List.take_add_one, hg]
      cases hc : ((l.take i) ++ (some (l.getD i 0)).toList).contains n with
      | false => rfl
      | true =>
        have := List.contains_iff_mem.1 hc
        rcases List.mem_append.1 this with h3 | h3
        · rw [List.contains_iff_mem.2 h3] at h2; cases h2
        · simp only [Option.toList_some, List.mem_singleton] at h3
          exact absurd h3 h8
  · rw [List.take_of_length_le (by omega)] at h2
    exact ⟨-1, rfl, rfl, by rw [h2]; simp⟩
theorem iHas_ct (l : List Int) (n : Int) : Ct Tryz.prog 27 [LI l, i64 n] [] (Is2 (.d (.bool (l.contains n))) []) := by
  refine Ct.introF (E := E 9 0 [.tmp 4] [] [] []) tab_ok Tryz.call27 Tryz.func27 rfl rfl rfl rfl rfl (fun hin => ?_)
  refine (iIdx_ct l n).mono (fun r os h => ?_)
  obtain ⟨k, rfl, rfl, hk⟩ := h
  conv => whnf
  refine ⟨?_, rfl⟩
  have : decide (0 ≤ k) = l.contains n := by
    cases h : l.contains n with
    | true => exact decide_eq_true (hk.2 h)
    | false => exact decide_eq_false (fun h2 => by rw [hk.1 h2] at h; cases h)
  rw [← this]
theorem notIn_ct (b : List Int) (n : Int) : Ct Tryz.prog 59 [i64 n, .ptr 0 0] [.vec 33 [LI b]] (Is2 (.d (.bool (!b.contains n))) [.vec 33 [LI b]]) := by
  refine Ct.introF (E := E 8 1 [.tmp 3] [] [] []) tab_ok Tryz.call59 Tryz.func59 rfl rfl rfl rfl rfl (fun hin => ?_)
  (conv => whnf); refine (iHas_ct b n).use ?_
  exact Is2.mk rfl
theorem wthIdx_ct (b : List Int) (a : List Int) : Ct Tryz.prog 82 [LI a, .fn 59 [] [.ptr 0 0]] [V.Obj.vec 33 [LI b]] (fun r os => ∃ k : Int, r = i64 k ∧ os = [V.Obj.vec 33 [LI b]] ∧ -1 ≤ k ∧ (0 ≤ k ↔ a.any (fun n => !b.contains n) = true) ∧ (0 ≤ k → ∃ j : Nat, k = j ∧ j < a.length ∧ (fun n => !b.contains n) (a.getD j 0) = true ∧ (a.take j).any (fun n => !b.contains n) = false)) := by
  refine Ct.introF (E := E 19 1 [.tmp 4] [] [(2, [0, 1, 7, 8])] []) tab_ok Tryz.call82 Tryz.func82 rfl rfl rfl rfl rfl (fun hin => ?_)
  have hl := lI_len a
  have hb := hin.1.1
  (conv => whnf); refine LoopI.mk (fun n vs os => ∃ i : Nat, vs = [LI a, .fn 59 [] [.ptr 0 0], i64 a.length, i64 i] ∧ os = [V.Obj.vec 33 [LI b]] ∧ i ≤ a.length ∧ (a.take i).any (fun n => !b.contains n) = false ∧ n = a.length - i) a.length ⟨0, by rw [hl]; rfl, rfl, Nat.zero_le _, rfl, rfl⟩ ?_
  rintro n _ _ ⟨i, rfl, rfl, h1, h2, rfl⟩
  (conv => whnf); refine cond_d (fun h7 => ?_) (fun h7 => ?_)
  · have hi : i < a.length := by omega
    have hg : a[i]? = some (a.getD i 0) := by rw [List.getD_eq_getElem?_getD, List.getElem?_eq_getElem hi]; rfl
    have hs : (a.take (i + 1)).any (fun n => !b.contains n) = (fun n => !b.contains n) (a.getD i 0) := by rw [any_take hg, h2]; rfl
    (conv => whnf); refine And.intro (by first | omega | (dsimp only [List.length, cond]; omega) | (show (-9223372036854775808 : Int) ≤ _ ∧ _ ≤ (9223372036854775807 : Int); omega) | decide) ?_
    (conv => whnf); refine Idx.mk _ (lI_get hi) ?_; try ((conv => whnf); refine Idx.mk _ rfl ?_)
    (conv => whnf); refine (notIn_ct b (a.getD i 0)).use ?_
    (conv => whnf); refine cond_i (fun h8 => ?_) (fun h8 => ?_)
    · conv => whnf
      refine ⟨i, rfl, rfl, by omega, ⟨fun _ => ?_, fun _ => by omega⟩, fun _ => ⟨i, rfl, hi, h8, h2⟩⟩
      rw [List.any_eq_true]
      exact ⟨a.getD i 0, List.mem_of_getElem? hg, h8⟩
    · (conv => whnf); refine And.intro (by first | omega | (dsimp only [List.length, cond]; omega) | (show (-9223372036854775808 : Int) ≤ _ ∧ _ ≤ (9223372036854775807 : Int); omega) | decide) ?_
      conv => whnf
      refine ⟨a.length - (i + 1), by omega, i + 1, rfl, rfl, by omega, ?_, rfl⟩
      rw [hs]; exact h8
  · rw [List.take_of_length_le (by omega)] at h2
    exact ⟨-1, rfl, rfl, by omega, by rw [h2]; simp, fun h => by omega⟩
theorem wth_ct (b : List Int) (a : List Int) : Ct Tryz.prog 58 [LI a, .fn 59 [] [.ptr 0 0]] [V.Obj.vec 33 [LI b]] (Is2 (.d (.bool (a.any (fun n => !b.contains n)))) [V.Obj.vec 33 [LI b]]) := by
  refine Ct.introF (E := E 9 1 [.tmp 4] [] [] []) tab_ok Tryz.call58 Tryz.func58 rfl rfl rfl rfl rfl (fun hin => ?_)
  refine (wthIdx_ct b a).mono (fun r os h => ?_)
  obtain ⟨k, rfl, rfl, _, hk, _⟩ := h
  conv => whnf
  refine ⟨?_, rfl⟩
  have : decide (0 ≤ k) = a.any (fun n => !b.contains n) := by
    cases h : a.any (fun n => !b.contains n) with
    | true => exact decide_eq_true (hk.2 h)
    | false => exact decide_eq_false (fun h2 => by rw [hk.1 h2] at h; cases h)
  rw [← this]

def subB (a b : List Int) : Bool := !a.any fun n => !b.contains n
theorem within_ct (a b : List Int) : Ct Tryz.prog 41 [LI a, LI b] [] (Is2 (.d (.bool (subB a b))) []) := by
  refine Ct.introF (E := E 9 0 [.tmp 4] [] [] []) tab_ok Tryz.call41 Tryz.func41 rfl rfl rfl rfl rfl (fun hin => ?_)
  (conv => whnf); refine (wth_ct b a).use ?_
  exact Is2.mk rfl
/-- Does each number stand above the one ahead? -/
def risN (l : List Int) : Nat → Bool
  | 0 => true
  | k + 1 => risN l k && decide (l.getD k 0 < l.getD (k + 1) 0)
def risB (l : List Int) : Bool := risN l (l.length - 1)
theorem risN_false (l : List Int) {i : Nat} : ∀ k, i ≤ k → risN l i = false → risN l k = false
  | 0, h, hf => by obtain rfl : i = 0 := by omega
                   exact hf
  | k + 1, h, hf => by
    by_cases hk : i ≤ k
    · show (risN l k && _) = false
      rw [risN_false l k hk hf]; rfl
    · obtain rfl : i = k + 1 := by omega
      exact hf
theorem rising_ct (l : List Int) : Ct Tryz.prog 40 [LI l] [] (Is2 (.d (.bool (risB l))) []) := by
  refine Ct.introF (E := E 20 0 [.tmp 2] [] [(2, [0, 3])] []) tab_ok Tryz.call40 Tryz.func40 rfl rfl rfl rfl rfl (fun hin => ?_)
  have hl := lI_len l
  have hb := hin.1.1
  (conv => whnf); refine LoopI.mk (fun q vs os => ∃ i : Nat, vs = [LI l, i64 ((i : Int) + 1)] ∧ os = [] ∧ i ≤ l.length - 1 ∧ risN l i = true ∧ q = l.length - i) l.length ⟨0, rfl, rfl, by omega, rfl, rfl⟩ ?_
  rintro q _ _ ⟨i, rfl, rfl, h1, h2, rfl⟩
  (conv => whnf); refine cond_d (fun h3 => ?_) (fun h3 => ?_)
  · have g1 : (lI l)[((i : Int) + 1).toNat]? = some (.int .i64 (l.getD (i + 1) 0)) := lI_get (l := l) (i := i + 1) (by omega)
    have g2 : (lI l)[((i : Int) + 1 - 1).toNat]? = some (.int .i64 (l.getD i 0)) := by
      rw [show (i : Int) + 1 - 1 = (i : Nat) by omega]; exact lI_get (l := l) (i := i) (by omega)
    (conv => whnf); refine DrawI.mkF 9 [[0], [3], [10, 11], [12], [0], [3], [15], [14, 16], [17]] (by decide +kernel) ?_
    repeat (first | refine DrawO.mkF _ (And.intro rfl rfl) ?_ | refine DrawO.mkF _ (Idx.mk _ rfl (And.intro rfl rfl)) ?_)
    refine DrawO.mkF _ (And.intro (by omega) (Idx.mk _ g1 (And.intro rfl rfl))) ?_
    repeat (first | refine DrawO.mkF _ (And.intro rfl rfl) ?_ | refine DrawO.mkF _ (Idx.mk _ rfl (And.intro rfl rfl)) ?_)
    refine DrawO.mkF _ (And.intro (by first | omega | (dsimp only [List.length, cond]; omega) | decide) (And.intro rfl rfl)) ?_
    refine DrawO.mkF _ (And.intro (by omega) (Idx.mk _ g2 (And.intro rfl rfl))) ?_
    repeat (first | refine DrawO.mkF _ (And.intro rfl rfl) ?_ | refine DrawO.mkF _ (Idx.mk _ rfl (And.intro rfl rfl)) ?_)
    (conv => whnf); refine cond_d (fun h4 => ?_) (fun h4 => ?_)
    · refine Is2.mk ?_
      have : risN l (i + 1) = false := by
        show (risN l i && decide (l.getD i 0 < l.getD (i + 1) 0)) = false
        rw [decide_eq_false (by omega), Bool.and_false]
      unfold risB
      rw [risN_false l (l.length - 1) (by omega) this]
    · (conv => whnf); refine And.intro (by first | omega | (dsimp only [List.length, cond]; omega) | (show (-9223372036854775808 : Int) ≤ _ ∧ _ ≤ (9223372036854775807 : Int); omega) | decide) ?_
      (conv => whnf)
      refine ⟨l.length - (i + 1), by omega, i + 1, rfl, rfl, by omega, ?_, rfl⟩
      show (risN l i && decide (l.getD i 0 < l.getD (i + 1) 0)) = true
      rw [h2, decide_eq_true (by omega)]; rfl
  · refine Is2.mk ?_
    have e : i = l.length - 1 := by omega
    unfold risB
    rw [← e, h2]
abbrev gfD (g : List Int) : D := .ro (l32 g)
abbrev GF (gs : List (List Int)) : AV := .d (.ro (gs.map gfD))
theorem gf_len (gs : List (List Int)) : (gs.map gfD).length = gs.length := List.length_map _
theorem gf_get {gs : List (List Int)} {i : Nat} (h : i < gs.length) : (gs.map gfD)[((i : Nat) : Int).toNat]? = some (gfD (gs.getD i [])) := by
  rw [Int.toNat_natCast, List.getElem?_map, List.getD_eq_getElem?_getD, List.getElem?_eq_getElem h]; rfl
/-- Is a gift of another size than the first, or too great? -/
def badG (gs : List (List Int)) (v : List Int) : Bool := decide (v.length ≠ (gs.getD 0 []).length) || decide (256 < v.length)
theorem badG_ct (gs : List (List Int)) (v : List Int) (h : 0 < gs.length) : Ct Tryz.prog 43 [.d (gfD v), .ptr 0 0] [.vec 34 [GF gs]] (Is2 (.d (.bool (badG gs v))) [.vec 34 [GF gs]]) := by
  refine Ct.introF (E := E 16 1 [.tmp 3] [] [] []) tab_ok Tryz.call43 Tryz.func43 rfl rfl rfl rfl rfl (fun hin => ?_)
  have hv : (l32 v).length = v.length := List.length_map _
  have h0 : (l32 (gs.getD 0 [])).length = (gs.getD 0 []).length := List.length_map _
  have hg := gf_get (gs := gs) (i := 0) h
  (conv => whnf); refine And.intro (by show (0 : Int) ≤ 0; decide) (Idx.mk _ hg ?_)
  (conv => whnf); refine Idx.mk _ rfl ?_
  (conv => whnf); refine cond_d (fun h1 => ?_) (fun h1 => ?_)
  · refine Is2.mk ?_
    have : v.length ≠ (gs.getD 0 []).length := by omega
    unfold badG
    rw [decide_eq_true this]; rfl
  · refine Is2.mk ?_
    have : ¬ (v.length ≠ (gs.getD 0 []).length) := by omega
    have e : decide ((256 : Int) < ((l32 v).length : Int)) = decide (256 < v.length) := decide_eq_decide.2 (by omega)
    unfold badG
    rw [decide_eq_false this, Bool.false_or, ← e]
theorem bdgIdx_ct (gs : List (List Int)) : Ct Tryz.prog 60 [GF gs, .fn 43 [] [.ptr 0 0]] [V.Obj.vec 34 [GF gs]] (fun r os => ∃ k : Int, r = i64 k ∧ os = [V.Obj.vec 34 [GF gs]] ∧ -1 ≤ k ∧ (0 ≤ k ↔ gs.any (badG gs) = true) ∧ (0 ≤ k → ∃ j : Nat, k = j ∧ j < gs.length ∧ (badG gs) (gs.getD j []) = true ∧ (gs.take j).any (badG gs) = false)) := by
  refine Ct.introF (E := E 19 1 [.tmp 4] [] [(2, [0, 1, 7, 8])] []) tab_ok Tryz.call60 Tryz.func60 rfl rfl rfl rfl rfl (fun hin => ?_)
  have hl := gf_len gs
  have hb := hin.1.1
  (conv => whnf); refine LoopI.mk (fun n vs os => ∃ i : Nat, vs = [GF gs, .fn 43 [] [.ptr 0 0], i64 gs.length, i64 i] ∧ os = [V.Obj.vec 34 [GF gs]] ∧ i ≤ gs.length ∧ (gs.take i).any (badG gs) = false ∧ n = gs.length - i) gs.length ⟨0, by rw [hl]; rfl, rfl, Nat.zero_le _, rfl, rfl⟩ ?_
  rintro n _ _ ⟨i, rfl, rfl, h1, h2, rfl⟩
  (conv => whnf); refine cond_d (fun h7 => ?_) (fun h7 => ?_)
  · have hi : i < gs.length := by omega
    have hg : gs[i]? = some (gs.getD i []) := by rw [List.getD_eq_getElem?_getD, List.getElem?_eq_getElem hi]; rfl
    have hs : (gs.take (i + 1)).any (badG gs) = (badG gs) (gs.getD i []) := by rw [any_take hg, h2]; rfl
    (conv => whnf); refine And.intro (by first | omega | (dsimp only [List.length, cond]; omega) | (show (-9223372036854775808 : Int) ≤ _ ∧ _ ≤ (9223372036854775807 : Int); omega) | decide) ?_
    (conv => whnf); refine Idx.mk _ (gf_get hi) ?_; try ((conv => whnf); refine Idx.mk _ rfl ?_)
    (conv => whnf); refine (badG_ct gs (gs.getD i []) (by omega)).use ?_
    (conv => whnf); refine cond_i (fun h8 => ?_) (fun h8 => ?_)
    · conv => whnf
      refine ⟨i, rfl, rfl, by omega, ⟨fun _ => ?_, fun _ => by omega⟩, fun _ => ⟨i, rfl, hi, h8, h2⟩⟩
      rw [List.any_eq_true]
      exact ⟨gs.getD i [], List.mem_of_getElem? hg, h8⟩
    · (conv => whnf); refine And.intro (by first | omega | (dsimp only [List.length, cond]; omega) | (show (-9223372036854775808 : Int) ≤ _ ∧ _ ≤ (9223372036854775807 : Int); omega) | decide) ?_
      conv => whnf
      refine ⟨gs.length - (i + 1), by omega, i + 1, rfl, rfl, by omega, ?_, rfl⟩
      rw [hs]; exact h8
  · rw [List.take_of_length_le (by omega)] at h2
    exact ⟨-1, rfl, rfl, by omega, by rw [h2]; simp, fun h => by omega⟩
theorem bdg_ct (gs : List (List Int)) : Ct Tryz.prog 42 [GF gs, .fn 43 [] [.ptr 0 0]] [V.Obj.vec 34 [GF gs]] (Is2 (.d (.bool (gs.any (badG gs)))) [V.Obj.vec 34 [GF gs]]) := by
  refine Ct.introF (E := E 9 1 [.tmp 4] [] [] []) tab_ok Tryz.call42 Tryz.func42 rfl rfl rfl rfl rfl (fun hin => ?_)
  refine (bdgIdx_ct gs).mono (fun r os h => ?_)
  obtain ⟨k, rfl, rfl, _, hk, _⟩ := h
  conv => whnf
  refine ⟨?_, rfl⟩
  have : decide (0 ≤ k) = gs.any (badG gs) := by
    cases h : gs.any (badG gs) with
    | true => exact decide_eq_true (hk.2 h)
    | false => exact decide_eq_false (fun h2 => by rw [hk.1 h2] at h; cases h)
  rw [← this]

theorem rising_ok {l : List Int} (h : risB l = true) : Ct Tryz.prog 40 [LI l] [] (Is2 (.d (.bool true)) []) := by rw [← h]; exact rising_ct l
theorem within_ok {a b : List Int} (h : subB a b = true) : Ct Tryz.prog 41 [LI a, LI b] [] (Is2 (.d (.bool true)) []) := by rw [← h]; exact within_ct a b
abbrev OPS (gs : List (List Opng)) : AV := .d (.ro (gs.map opsD))
/-- May all of this be? -/
structure Fit (cs : List Cd) (shared gave : List Int) (gifts : List (List Int)) (openers : List Int) (ops : List (List Opng)) : Prop where
  s : risB shared = true
  g : risB gave = true
  o : risB openers = true
  lg : gifts.length = gave.length
  lo : ops.length = openers.length
  gs : subB gave shared = true
  sc : subB shared (cs.map fun c => c.1) = true
  c : risB (cs.map fun c => c.1) = true
  b : gifts.any (badG gifts) = false
theorem bdg_ok {gs : List (List Int)} (h : gs.any (badG gs) = false) : Ct Tryz.prog 42 [GF gs, .fn 43 [] [.ptr 0 0]] [.vec 34 [GF gs]] (Is2 (.d (.bool false)) [.vec 34 [GF gs]]) := by rw [← h]; exact bdg_ct gs
theorem fits_ct (e : Int) (cs : List Cd) (shared gave : List Int) (gifts : List (List Int)) (openers : List Int) (ops : List (List Opng)) (h : Fit cs shared gave gifts openers ops) (hc : cs.length ≤ 1000000) :
    Ct Tryz.prog 25 [i64 e, LC cs, LI shared, LI gave, GF gifts, LI openers, OPS ops] [] (Is2 (i64 (if (openers.length : Int) < e ∨ gave.length = 0 then 12 else 0)) []) := by
  refine Ct.introF (E := E 88 0 [.tmp 14] [] [(3, [0, 2, 3, 5, 6, 11, 15, 18, 19, 20])] [(2, [.own 15 3 1])]) tab_ok Tryz.call25 Tryz.func25 rfl rfl rfl rfl rfl (fun hin => ?_)
  obtain ⟨hs, hg, ho, hlg, hlo, hgs, hsc, hcc, hbb⟩ := h
  have dlc := lc_len cs
  have dgf := gf_len gifts
  have dgv := lI_len gave
  have dop := lI_len openers
  have dos : (ops.map opsD).length = ops.length := List.length_map _
  (conv => whnf); refine LoopI.mk (fun q ws oss => ∃ i : Nat, ws = [i64 e, LI shared, LI gave, LI openers, OPS ops, .ptr 0 0, .sl 1, LC cs, i64 cs.length, i64 i] ∧ oss = [.vec 34 [GF gifts], .row 3 1 (lI ((cs.take i).map fun c => c.1))] ∧ i ≤ cs.length ∧ q = cs.length - i) cs.length ⟨0, by rw [dlc]; rfl, rfl, Nat.zero_le _, rfl⟩ ?_
  rintro q _ _ ⟨i, rfl, rfl, h1, rfl⟩
  (conv => whnf); refine cond_d (fun h2 => ?_) (fun h2 => ?_)
  · obtain ⟨x, hx⟩ := get_some (l := cs) (i := i) (by omega)
    have hgx := lc_get (cs := cs) (i := i) (by omega)
    have hll : (lI ((cs.take i).map fun c => c.1)).length = i := by rw [lI_len, List.length_map, List.length_take]; omega
    (conv => whnf); refine And.intro (by first | omega | (dsimp only [List.length, cond]; omega) | (show (-9223372036854775808 : Int) ≤ _ ∧ _ ≤ (9223372036854775807 : Int); omega) | decide) ?_
    (conv => whnf); refine Idx.mk _ hgx ?_
    (conv => whnf); refine And.intro ⟨by rw [hll]; dsimp only [List.length]; omega, fun y hy => by cases hy with | head => rfl | tail _ h => cases h⟩ ?_
    (conv => whnf); refine And.intro (by first | omega | (dsimp only [List.length, cond]; omega) | (show (-9223372036854775808 : Int) ≤ _ ∧ _ ≤ (9223372036854775807 : Int); omega) | decide) ?_
    (conv => whnf)
    refine ⟨cs.length - (i + 1), by omega, i + 1, rfl, ?_, by omega, rfl⟩
    have eg : cs.getD i (0, 0, 0) = x := by rw [List.getD_eq_getElem?_getD, hx]; rfl
    have es : (cs.take (i + 1)).map (fun c => c.1) = (cs.take i).map (fun c => c.1) ++ [x.1] := by
      rw [List.take_add_one, hx, List.map_append]; rfl
    rw [es, ← eg]
    unfold lI; rw [List.map_append]; rfl
  · obtain rfl : i = cs.length := by omega
    rw [List.take_length]
    (conv => whnf); refine (rising_ok hs).use ?_
    (conv => whnf); refine (rising_ok hg).use ?_
    (conv => whnf); refine (rising_ok ho).use ?_
    (conv => whnf); refine cond_n (fun hh => hh (by omega)) ?_
    (conv => whnf); refine cond_n (fun hh => hh (by omega)) ?_
    (conv => whnf); refine (within_ok hgs).use ?_
    (conv => whnf); refine (within_ok hsc).use ?_
    (conv => whnf); refine (rising_ok hcc).use ?_
    (conv => whnf); refine (bdg_ok hbb).use ?_
    (conv => whnf); refine cond_d (fun h3 => ?_) (fun h3 => ?_)
    · refine isInt ?_
      rw [if_pos (.inl (by omega))]
    · (conv => whnf); refine cond_d (fun h4 => ?_) (fun h4 => ?_)
      · refine isInt ?_
        rw [if_pos (.inr (by omega))]
      · refine isInt ?_
        rw [if_neg (by omega)]
end Go.Proofs.YtofkdfodehfpdaaGreat.Mnd

/- Package ring: sums of many. -/
namespace Go.Proofs.YtofkdfodehfpdaaGreat.Mnd
open Go.V Go.Num
open Go.Eng (wr)
open Go.Proofs.YtofkdfodehfpdaaGreat.Wrd
open Go.Proofs.YtofkdfodehfpdaaGreat.Ring
set_option maxRecDepth 100000
set_option maxHeartbeats 4000000
/-- The sum of a place of vectors, the first so many of them. -/
def colN (gs : List (List Int)) (i : Nat) : Nat → Int
  | 0 => 0
  | k + 1 => wr .u32 (colN gs i k + (gs.getD k []).getD i 0)
def colV (gs : List (List Int)) (n : Nat) : List Int := (List.range n).map fun i => colN gs i gs.length
theorem colV_len (gs : List (List Int)) (n : Nat) : (colV gs n).length = n := by simp [colV]
theorem l32_get' {l : List Int} {i : Nat} (h : i < l.length) : (l32 l)[((i : Nat) : Int).toNat]? = some (.int .u32 (l.getD i 0)) := by
  rw [Int.toNat_natCast, List.getElem?_map, List.getD_eq_getElem?_getD, List.getElem?_eq_getElem h]; rfl
theorem rSum_ct (gs : List (List Int)) (n : Nat) (h : ∀ k, k < gs.length → (gs.getD k []).length = n) (hn : n ≤ 256) (hg : gs.length ≤ 1000000) : Ct Tryz.prog 26 [i64 n, GF gs] [] (Is2 (.tup [R32 (colV gs n), i64 0]) []) := by
  refine Ct.introF (E := E 50 0 [.tmp 4, .tmp 5] [] [(4, [0, 1, 15, 16, 17]), (11, [1, 8, 27, 28]), (15, [1, 8, 9, 10, 27, 28, 31, 32, 33])] [(1000021, [.fz 4])]) tab_ok Tryz.call26 Tryz.func26 rfl rfl rfl rfl rfl (fun hin => ?_)
  have hl := gf_len gs
  (conv => whnf); refine LoopI.mk (fun q vs os => ∃ i : Nat, vs = [i64 n, GF gs, GF gs, i64 gs.length, i64 i] ∧ os = [] ∧ i ≤ gs.length ∧ q = gs.length - i) gs.length ⟨0, by rw [hl]; rfl, rfl, Nat.zero_le _, rfl⟩ ?_
  rintro q _ _ ⟨i, rfl, rfl, h1, rfl⟩
  (conv => whnf); refine cond_d (fun h2 => ?_) (fun h2 => ?_)
  · have hx := h i (by omega)
    have hxl : (l32 (gs.getD i [])).length = (gs.getD i []).length := List.length_map _
    (conv => whnf); refine And.intro (by first | omega | (dsimp only [List.length, cond]; omega) | (show (-9223372036854775808 : Int) ≤ _ ∧ _ ≤ (9223372036854775807 : Int); omega) | decide) ?_
    (conv => whnf); refine Idx.mk _ (gf_get (by omega)) ?_
    (conv => whnf); refine Idx.mk _ rfl ?_
    (conv => whnf); refine cond_n (fun hh => hh (by omega)) ?_
    (conv => whnf); refine And.intro (by first | omega | (dsimp only [List.length, cond]; omega) | (show (-9223372036854775808 : Int) ≤ _ ∧ _ ≤ (9223372036854775807 : Int); omega) | decide) ?_
    (conv => whnf)
    exact ⟨gs.length - (i + 1), by omega, i + 1, rfl, rfl, by omega, rfl⟩
  obtain rfl : i = gs.length := by omega
  clear h1 h2
  (conv => whnf); refine LoopI.mk (fun q vs os => ∃ i : Nat, vs = [GF gs, .sl 0, i64 n, i64 i] ∧ os = [.row 31 1 (l32 (colV gs i))] ∧ i ≤ n ∧ q = n - i) n ⟨0, rfl, rfl, Nat.zero_le _, rfl⟩ ?_
  rintro q _ _ ⟨i, rfl, rfl, h1, rfl⟩
  (conv => whnf); refine cond_d (fun h2 => ?_) (fun h2 => ?_)
  · (conv => whnf); refine LoopI.mk (fun q vs os => ∃ k : Nat, vs = [GF gs, .sl 0, i64 i, u32 (colN gs i k), i64 n, i64 i, GF gs, i64 gs.length, i64 k] ∧ os = [.row 31 1 (l32 (colV gs i))] ∧ k ≤ gs.length ∧ q = gs.length - k) gs.length ⟨0, by rw [hl]; rfl, rfl, Nat.zero_le _, rfl⟩ ?_
    rintro q _ _ ⟨k, rfl, rfl, h3, rfl⟩
    (conv => whnf); refine cond_d (fun h4 => ?_) (fun h4 => ?_)
    · have hx := h k (by omega)
      have hxl : (l32 (gs.getD k [])).length = (gs.getD k []).length := List.length_map _
      (conv => whnf); refine And.intro (by first | omega | (dsimp only [List.length, cond]; omega) | (show (-9223372036854775808 : Int) ≤ _ ∧ _ ≤ (9223372036854775807 : Int); omega) | decide) ?_
      (conv => whnf); refine Idx.mk _ (gf_get (by omega)) ?_
      (conv => whnf); refine Idx.mk _ rfl ?_
      (conv => whnf); refine And.intro (by first | omega | (dsimp only [List.length, cond]; omega) | (show (-9223372036854775808 : Int) ≤ _ ∧ _ ≤ (9223372036854775807 : Int); omega) | decide) ?_
      (conv => whnf); refine Idx.mk _ (l32_get' (by omega)) ?_
      (conv => whnf); refine Idx.mk _ rfl ?_
      (conv => whnf); refine (Ring.plus_ct (colN gs i k) ((gs.getD k []).getD i 0)).use ?_
      (conv => whnf); refine And.intro (by first | omega | (dsimp only [List.length, cond]; omega) | (show (-9223372036854775808 : Int) ≤ _ ∧ _ ≤ (9223372036854775807 : Int); omega) | decide) ?_
      (conv => whnf)
      exact ⟨gs.length - (k + 1), by omega, k + 1, rfl, rfl, by omega, rfl⟩
    · obtain rfl : k = gs.length := by omega
      have hcl : (l32 (colV gs i)).length = i := by rw [List.length_map, colV_len]
      (conv => whnf); refine And.intro ⟨by rw [hcl]; dsimp only [List.length]; omega, fun y hy => by cases hy with | head => rfl | tail _ h => cases h⟩ ?_
      (conv => whnf); refine And.intro (by first | omega | (dsimp only [List.length, cond]; omega) | (show (-9223372036854775808 : Int) ≤ _ ∧ _ ≤ (9223372036854775807 : Int); omega) | decide) ?_
      (conv => whnf)
      refine ⟨n - (i + 1), by omega, i + 1, rfl, ?_, by omega, rfl⟩
      have es : colV gs (i + 1) = colV gs i ++ [colN gs i gs.length] := by
        unfold colV; rw [List.range_succ, List.map_append]; rfl
      rw [es]
      show _ = [Obj.row _ _ (List.map _ (_ ++ _))]
      rw [List.map_append]; rfl
  · obtain rfl : i = n := by omega
    exact Is2.mk rfl
end Go.Proofs.YtofkdfodehfpdaaGreat.Mnd

/- Package mend: the sum. -/
namespace Go.Proofs.YtofkdfodehfpdaaGreat.Mnd
open Go.V Go.Num
open Go.Eng (wr)
open Go.Proofs.YtofkdfodehfpdaaGreat.Wrd
open Go.Proofs.YtofkdfodehfpdaaGreat.Ring
set_option maxRecDepth 100000
set_option maxHeartbeats 4000000
def givenL (gave : List Int) (cs : List Cd) : List Cd := cs.filter fun c => gave.contains c.1
def restL (shared gave : List Int) (cs : List Cd) : List Cd := cs.filter fun c => !gave.contains c.1 && shared.contains c.1
theorem given_at {gave : List Int} {cs : List Cd} {i : Nat} {x : Cd} (h : cs[i]? = some x) : givenL gave (cs.take (i + 1)) = givenL gave (cs.take i) ++ (if gave.contains x.1 = true then [x] else []) := by
  unfold givenL; rw [List.take_add_one, h, List.filter_append]; congr 1
  show List.filter _ [x] = _
  by_cases hp : gave.contains x.1 = true
  · rw [if_pos hp]; simp only [List.filter, hp]
  · rw [if_neg hp]; simp only [List.filter, Bool.eq_false_iff.2 hp]
theorem rest_at {shared gave : List Int} {cs : List Cd} {i : Nat} {x : Cd} (h : cs[i]? = some x) : restL shared gave (cs.take (i + 1)) = restL shared gave (cs.take i) ++ (if (!gave.contains x.1 && shared.contains x.1) = true then [x] else []) := by
  unfold restL; rw [List.take_add_one, h, List.filter_append]; congr 1
  show List.filter _ [x] = _
  by_cases hp : (!gave.contains x.1 && shared.contains x.1) = true
  · rw [if_pos hp]; simp only [List.filter, hp]
  · rw [if_neg hp]; simp only [List.filter, Bool.eq_false_iff.2 hp]
/-- The sum behind so many of those that gave; then behind so many of those that are gone. -/
def ownN (e : Int) (os : List Int) (gs : List (List Opng)) (given : List Cd) (v : List Int) : Nat → List Int
  | 0 => v
  | k + 1 => subV (ownN e os gs given v k) (vecL (gl (limL e (given.getD k (0, 0, 0)).1 os gs) 32) 4 v.length)
def goneN (e : Int) (os : List Int) (gs : List (List Opng)) (given rest : List Cd) (v : List Int) : Nat → List Int
  | 0 => v
  | k + 1 => subV (goneN e os gs given rest v k) (leftV (rest.getD k (0, 0, 0)).1 (keyT e (rest.getD k (0, 0, 0)).1 os gs) given v.length true)
theorem subV_len' (a b : List Int) : (subV a b).length = a.length := by simp [subV]
theorem ownN_len (e : Int) (os : List Int) (gs : List (List Opng)) (given : List Cd) (v : List Int) : ∀ k, (ownN e os gs given v k).length = v.length
  | 0 => rfl
  | k + 1 => by show (subV _ _).length = _; rw [subV_len', ownN_len e os gs given v k]
theorem goneN_len (e : Int) (os : List Int) (gs : List (List Opng)) (given rest : List Cd) (v : List Int) : ∀ k, (goneN e os gs given rest v k).length = v.length
  | 0 => rfl
  | k + 1 => by show (subV _ _).length = _; rw [subV_len', goneN_len e os gs given rest v k]
theorem fits_ok {e : Int} {cs : List Cd} {shared gave : List Int} {gifts : List (List Int)} {openers : List Int} {ops : List (List Opng)} (h : Fit cs shared gave gifts openers ops) (hc : cs.length ≤ 1000000) {r : Int} (hr : (if (openers.length : Int) < e ∨ gave.length = 0 then (12 : Int) else 0) = r) :
    Ct Tryz.prog 25 [i64 e, LC cs, LI shared, LI gave, GF gifts, LI openers, OPS ops] [] (Is2 (i64 r) []) := by
  rw [← hr]; exact fits_ct e cs shared gave gifts openers ops h hc
theorem SumFew_ct (e : Int) (cs : List Cd) (shared gave : List Int) (gifts : List (List Int)) (openers : List Int) (ops : List (List Opng)) (h : Fit cs shared gave gifts openers ops) (hc : cs.length ≤ 1000000) (hf : (openers.length : Int) < e ∨ gave.length = 0) :
    Ct Tryz.prog 14 [i64 e, LC cs, LI shared, LI gave, GF gifts, LI openers, OPS ops] [] (Is2 (.tup [.d .nils, i64 12]) []) := by
  refine Ct.introF (E := E 120 0 [.tmp 14, .tmp 15] [] [(8, [2, 3, 17, 18, 56, 57, 58]), (16, [17, 18, 90, 91, 92]), (23, [17, 103, 104, 105])] []) tab_ok Tryz.call14 Tryz.func14 rfl rfl rfl rfl rfl (fun hin => ?_)
  (conv => whnf); refine (fits_ok (r := 12) h hc (if_pos hf)).use ?_
  exact Is2.mk rfl
theorem ex_given {cs : List Cd} {shared gave : List Int} (h1 : subB gave shared = true) (h2 : subB shared (cs.map fun c => c.1) = true) (h3 : gave.length ≠ 0) : givenL gave cs ≠ [] := by
  have h4 : ∀ {a b : List Int}, subB a b = true → ∀ n ∈ a, n ∈ b := fun {a b} h n hn => by
    unfold subB at h
    have h5 : (a.any fun n => !b.contains n) = false := by simpa using h
    have := List.any_eq_false.1 h5 n hn
    simpa using this
  obtain ⟨n, hn⟩ : ∃ n, n ∈ gave := by
    cases gave with
    | nil => exact absurd rfl h3
    | cons a t => exact ⟨a, List.mem_cons_self ..⟩
  obtain ⟨c, hc, rfl⟩ := List.mem_map.1 (h4 h2 n (h4 h1 n hn))
  intro h
  have : c ∈ givenL gave cs := List.mem_filter.2 ⟨hc, List.contains_iff_mem.2 hn⟩
  rw [h] at this; cases this
/-- What a sum needs to come out. -/
structure Good (e : Int) (cs : List Cd) (shared gave : List Int) (n : Nat) (openers : List Int) (ops : List (List Opng)) : Prop where
  seed : ∀ c ∈ givenL gave cs, (∀ k, k < 5 → someE e (ptsN c.1 true 5 k openers ops openers.length) = 0) ∧ GlOk (limL e c.1 openers ops)
  key : ∀ c ∈ restL shared gave cs, someE e (ptsN c.1 false 1 0 openers ops openers.length) = 0 ∧ (1 ≤ keyT e c.1 openers ops ∧ keyT e c.1 openers ops ≤ 2305843009213693949) ∧ pw 37 (keyT e c.1 openers ops).toNat = c.2.2 ∧ hideE c.1 n (keyT e c.1 openers ops) (givenL gave cs) = 0
def sumV (e : Int) (cs : List Cd) (shared gave : List Int) (gifts : List (List Int)) (openers : List Int) (ops : List (List Opng)) : List Int :=
  goneN e openers ops (givenL gave cs) (restL shared gave cs) (ownN e openers ops (givenL gave cs) (colV gifts (gifts.getD 0 []).length) (givenL gave cs).length) (restL shared gave cs).length
theorem Sum_ct (e : Int) (cs : List Cd) (shared gave : List Int) (gifts : List (List Int)) (openers : List Int) (ops : List (List Opng)) (h : Fit cs shared gave gifts openers ops) (hc : cs.length ≤ 1000000) (ho : openers.length ≤ 1000000)
    (hgl : gifts.length ≤ 1000000) (hne : gave.length ≠ 0) (hf : ¬ ((openers.length : Int) < e ∨ gave.length = 0)) (hG : Good e cs shared gave (gifts.getD 0 []).length openers ops) :
    Ct Tryz.prog 14 [i64 e, LC cs, LI shared, LI gave, GF gifts, LI openers, OPS ops] [] (Is2 (.tup [R32 (sumV e cs shared gave gifts openers ops), i64 0]) []) := by
  refine Ct.introF (E := E 120 0 [.tmp 14, .tmp 15] [] [(8, [2, 3, 17, 18, 56, 57, 58]), (16, [17, 18, 90, 91, 92]), (23, [17, 103, 104, 105])] [(7, [.own 18 41 3]), (1000015, [.fz 90, .fz 18])]) tab_ok Tryz.call14 Tryz.func14 rfl rfl rfl rfl rfl (fun hin => ?_)
  have hgn : ∀ k, k < gifts.length → (gifts.getD k []).length = (gifts.getD 0 []).length ∧ (gifts.getD k []).length ≤ 256 := fun k hk => by
    have hb := List.any_eq_false.1 h.b (gifts.getD k []) (by rw [List.getD_eq_getElem?_getD, List.getElem?_eq_getElem hk]; exact List.getElem_mem hk)
    unfold badG at hb
    simp only [Bool.or_eq_true, decide_eq_true_eq, not_or] at hb
    omega
  have hg0 : 0 < gifts.length := by have := h.lg; omega
  obtain ⟨n, hn⟩ : ∃ n, n = (gifts.getD 0 []).length := ⟨_, rfl⟩
  have hn2 : n ≤ 256 := by have := (hgn 0 hg0).2; omega
  (conv => whnf); refine (fits_ok (r := 0) h hc (if_neg hf)).use ?_
  have dlc := lc_len cs
  have dgf := gf_len gifts
  have d0 : (l32 (gifts.getD 0 [])).length = (gifts.getD 0 []).length := List.length_map _
  (conv => whnf); refine And.intro (by first | omega | (dsimp only [List.length, cond]; omega) | (show (-9223372036854775808 : Int) ≤ _ ∧ _ ≤ (9223372036854775807 : Int); omega) | decide) ?_
  (conv => whnf); refine Idx.mk _ (gf_get (i := 0) hg0) ?_
  (conv => whnf); refine Idx.mk _ rfl ?_
  have hs := rSum_ct gifts n (fun k hk => by rw [hn]; exact (hgn k hk).1) hn2 hgl
  rw [hn, ← d0] at hs
  obtain ⟨v, hv⟩ : ∃ v, v = colV gifts (l32 (gifts.getD 0 [])).length := ⟨_, rfl⟩
  rw [← hv] at hs
  have hvl : v.length = n := by rw [hv, colV_len]; omega
  refine hs.use ?_
  (conv => whnf); refine LoopI.mk (fun q vs os => ∃ i : Nat, vs = [LI shared, LI gave, .ptr 0 0, .sl 1, LC cs, i64 cs.length, i64 i]
    ∧ (givenL gave (cs.take i) = [] ∧ os = [.vec 71 [i64 e, LI openers, OPS ops, R32 v, .d .nils], .row 41 3 (lc (restL shared gave (cs.take i)))]
      ∨ givenL gave (cs.take i) ≠ [] ∧ os = [.vec 71 [i64 e, LI openers, OPS ops, R32 v, .sl 2], .row 41 3 (lc (restL shared gave (cs.take i))), .row 41 3 (lc (givenL gave (cs.take i)))])
    ∧ i ≤ cs.length ∧ q = cs.length - i) cs.length ⟨0, by rw [dlc]; rfl, .inl ⟨rfl, rfl⟩, Nat.zero_le _, rfl⟩ ?_
  rintro q _ _ ⟨i, rfl, hos, h1, rfl⟩
  have hgl2 : (lc (givenL gave (cs.take i))).length ≤ i := by
    rw [lc_len]
    exact Nat.le_trans (List.length_filter_le _ _) (by rw [List.length_take]; omega)
  have hrl2 : (lc (restL shared gave (cs.take i))).length ≤ i := by
    rw [lc_len]
    exact Nat.le_trans (List.length_filter_le _ _) (by rw [List.length_take]; omega)
  rcases hos with ⟨hgi, rfl⟩ | ⟨hgi, rfl⟩
  · (conv => whnf); refine cond_d (fun h2 => ?_) (fun h2 => ?_)
    · obtain ⟨x, hx⟩ := get_some (l := cs) (i := i) (by omega)
      have hgx : (lc cs)[((i : Nat) : Int).toNat]? = some (cdD x) := map_at hx
      have hga := given_at (gave := gave) hx
      have hra := rest_at (shared := shared) (gave := gave) hx
      (conv => whnf); refine And.intro (by first | omega | (dsimp only [List.length, cond]; omega) | (show (-9223372036854775808 : Int) ≤ _ ∧ _ ≤ (9223372036854775807 : Int); omega) | decide) ?_
      (conv => whnf); refine Idx.mk _ hgx ?_
      (conv => whnf); refine (iHas_ct gave x.1).use ?_
      (conv => whnf); refine cond_i (fun h3 => ?_) (fun h3 => ?_)
      · rw [h3, if_pos rfl] at hga
        rw [h3, if_neg (by simp), List.append_nil] at hra
        (conv => whnf); refine DrawI.mkTF 7 [[17], [17], [68], [69], [70], [20], [72]] [(0, 67, 17), (8, 75, 67)] (by decide +kernel) ?_
        repeat (first | refine DrawO.mkF _ (And.intro rfl rfl) ?_ | refine DrawO.mkF _ (Idx.mk _ rfl (And.intro rfl rfl)) ?_)
        refine DrawO.roF [cdD x] 41 3 (And.intro rfl rfl) ?_
        (conv => whnf); refine And.intro ⟨by dsimp only [List.length]; omega, fun y hy => by cases hy with | head => rfl | tail _ h => cases h⟩ ?_
        (conv => whnf); refine And.intro (by first | omega | (dsimp only [List.length, cond]; omega) | (show (-9223372036854775808 : Int) ≤ _ ∧ _ ≤ (9223372036854775807 : Int); omega) | decide) ?_
        (conv => whnf)
        refine ⟨cs.length - (i + 1), by omega, i + 1, rfl, .inr ⟨by rw [hga]; simp, ?_⟩, by omega, rfl⟩
        rw [hga, hra, hgi]; rfl
      · rw [h3, if_neg (by simp), List.append_nil] at hga
        (conv => whnf); refine (iHas_ct shared x.1).use ?_
        (conv => whnf); refine cond_i (fun h4 => ?_) (fun h4 => ?_)
        · rw [h3, h4, if_pos (show (!false && true) = true from rfl)] at hra
          (conv => whnf); refine And.intro ⟨by dsimp only [List.length]; omega, fun y hy => by cases hy with | head => rfl | tail _ h => cases h⟩ ?_
          (conv => whnf); refine And.intro (by first | omega | (dsimp only [List.length, cond]; omega) | (show (-9223372036854775808 : Int) ≤ _ ∧ _ ≤ (9223372036854775807 : Int); omega) | decide) ?_
          (conv => whnf)
          refine ⟨cs.length - (i + 1), by omega, i + 1, rfl, .inl ⟨by rw [hga]; exact hgi, ?_⟩, by omega, rfl⟩
          rw [hra]; unfold lc; rw [List.map_append]; rfl
        · rw [h3, h4, if_neg (by simp), List.append_nil] at hra
          (conv => whnf); refine And.intro (by first | omega | (dsimp only [List.length, cond]; omega) | (show (-9223372036854775808 : Int) ≤ _ ∧ _ ≤ (9223372036854775807 : Int); omega) | decide) ?_
          (conv => whnf)
          refine ⟨cs.length - (i + 1), by omega, i + 1, rfl, .inl ⟨by rw [hga]; exact hgi, ?_⟩, by omega, rfl⟩
          rw [hra]; rfl
    · obtain rfl : i = cs.length := by omega
      rw [List.take_length] at hgi
      exact absurd hgi (ex_given h.gs h.sc hne)
  · (conv => whnf); refine cond_d (fun h2 => ?_) (fun h2 => ?_)
    · obtain ⟨x, hx⟩ := get_some (l := cs) (i := i) (by omega)
      have hgx : (lc cs)[((i : Nat) : Int).toNat]? = some (cdD x) := map_at hx
      have hga := given_at (gave := gave) hx
      have hra := rest_at (shared := shared) (gave := gave) hx
      (conv => whnf); refine And.intro (by first | omega | (dsimp only [List.length, cond]; omega) | (show (-9223372036854775808 : Int) ≤ _ ∧ _ ≤ (9223372036854775807 : Int); omega) | decide) ?_
      (conv => whnf); refine Idx.mk _ hgx ?_
      (conv => whnf); refine (iHas_ct gave x.1).use ?_
      (conv => whnf); refine cond_i (fun h3 => ?_) (fun h3 => ?_)
      · rw [h3, if_pos rfl] at hga
        rw [h3, if_neg (by simp), List.append_nil] at hra
        (conv => whnf); refine DrawI.mkTF 7 [[17], [17], [68], [69], [70], [20], [72]] [(0, 67, 17), (8, 75, 67)] (by decide +kernel) ?_
        repeat (first | refine DrawO.mkF _ (And.intro rfl rfl) ?_ | refine DrawO.mkF _ (Idx.mk _ rfl (And.intro rfl rfl)) ?_)
        refine DrawO.roF [cdD x] 41 3 (And.intro rfl rfl) ?_
        (conv => whnf); refine And.intro ⟨by dsimp only [List.length]; omega, fun y hy => by cases hy with | head => rfl | tail _ h => cases h⟩ ?_
        (conv => whnf); refine And.intro (by first | omega | (dsimp only [List.length, cond]; omega) | (show (-9223372036854775808 : Int) ≤ _ ∧ _ ≤ (9223372036854775807 : Int); omega) | decide) ?_
        (conv => whnf)
        refine ⟨cs.length - (i + 1), by omega, i + 1, rfl, .inr ⟨by rw [hga]; simp, ?_⟩, by omega, rfl⟩
        rw [hga, hra]; unfold lc; rw [List.map_append]; rfl
      · rw [h3, if_neg (by simp), List.append_nil] at hga
        (conv => whnf); refine (iHas_ct shared x.1).use ?_
        (conv => whnf); refine cond_i (fun h4 => ?_) (fun h4 => ?_)
        · rw [h3, h4, if_pos (show (!false && true) = true from rfl)] at hra
          (conv => whnf); refine And.intro ⟨by dsimp only [List.length]; omega, fun y hy => by cases hy with | head => rfl | tail _ h => cases h⟩ ?_
          (conv => whnf); refine And.intro (by first | omega | (dsimp only [List.length, cond]; omega) | (show (-9223372036854775808 : Int) ≤ _ ∧ _ ≤ (9223372036854775807 : Int); omega) | decide) ?_
          (conv => whnf)
          refine ⟨cs.length - (i + 1), by omega, i + 1, rfl, .inr ⟨by rw [hga]; exact hgi, ?_⟩, by omega, rfl⟩
          rw [hga, hra]; unfold lc; rw [List.map_append]; rfl
        · rw [h3, h4, if_neg (by simp), List.append_nil] at hra
          (conv => whnf); refine And.intro (by first | omega | (dsimp only [List.length, cond]; omega) | (show (-9223372036854775808 : Int) ≤ _ ∧ _ ≤ (9223372036854775807 : Int); omega) | decide) ?_
          (conv => whnf)
          refine ⟨cs.length - (i + 1), by omega, i + 1, rfl, .inr ⟨by rw [hga]; exact hgi, ?_⟩, by omega, rfl⟩
          rw [hga, hra]; rfl
    · obtain rfl : i = cs.length := by omega
      rw [List.take_length] at hgi
      rw [List.take_length]
      have dg := lc_len (givenL gave cs)
      have dr := lc_len (restL shared gave cs)
      rw [List.take_length] at hgl2 hrl2
      (conv => whnf); refine LoopI.mk (fun q vs os => ∃ i : Nat, vs = [.ptr 0 0, LC (restL shared gave cs), LC (givenL gave cs), i64 (givenL gave cs).length, i64 i] ∧ os = [wkO e openers ops (ownN e openers ops (givenL gave cs) v i) (givenL gave cs)] ∧ i ≤ (givenL gave cs).length ∧ q = (givenL gave cs).length - i) (givenL gave cs).length ⟨0, by rw [dg]; rfl, rfl, Nat.zero_le _, rfl⟩ ?_
      rintro q _ _ ⟨i, rfl, rfl, h5, rfl⟩
      have hol := ownN_len e openers ops (givenL gave cs) v i
      (conv => whnf); refine cond_d (fun h6 => ?_) (fun h6 => ?_)
      · obtain ⟨x, hx⟩ := get_some (l := givenL gave cs) (i := i) (by omega)
        have hgx : (lc (givenL gave cs))[((i : Nat) : Int).toNat]? = some (cdD x) := map_at hx
        have hxg : (givenL gave cs).getD i (0, 0, 0) = x := by rw [List.getD_eq_getElem?_getD, hx]; rfl
        obtain ⟨q1, q2⟩ := hG.seed x (List.mem_of_getElem? hx)
        (conv => whnf); refine And.intro (by first | omega | (dsimp only [List.length, cond]; omega) | (show (-9223372036854775808 : Int) ≤ _ ∧ _ ≤ (9223372036854775807 : Int); omega) | decide) ?_
        (conv => whnf); refine Idx.mk _ hgx ?_
        (conv => whnf); refine (gave_ct e x openers ops (ownN e openers ops (givenL gave cs) v i) (givenL gave cs) (by rw [h.lo]; omega) ho (by omega) q1 q2).use ?_
        (conv => whnf); refine And.intro (by first | omega | (dsimp only [List.length, cond]; omega) | (show (-9223372036854775808 : Int) ≤ _ ∧ _ ≤ (9223372036854775807 : Int); omega) | decide) ?_
        (conv => whnf)
        refine ⟨(givenL gave cs).length - (i + 1), by omega, i + 1, rfl, ?_, by omega, rfl⟩
        have es : ownN e openers ops (givenL gave cs) v (i + 1) = subV (ownN e openers ops (givenL gave cs) v i) (vecL (gl (limL e x.1 openers ops) 32) 4 (ownN e openers ops (givenL gave cs) v i).length) := by
          rw [hol, ← hxg]; rfl
        rw [es]
      obtain rfl : i = (givenL gave cs).length := by omega
      obtain ⟨w, hw⟩ : ∃ w, w = ownN e openers ops (givenL gave cs) v (givenL gave cs).length := ⟨_, rfl⟩
      rw [← hw] at hol
      rw [← hw]
      (conv => whnf); refine LoopI.mk (fun q vs os => ∃ i : Nat, vs = [.ptr 0 0, LC (restL shared gave cs), i64 (restL shared gave cs).length, i64 i] ∧ os = [wkO e openers ops (goneN e openers ops (givenL gave cs) (restL shared gave cs) w i) (givenL gave cs)] ∧ i ≤ (restL shared gave cs).length ∧ q = (restL shared gave cs).length - i) (restL shared gave cs).length ⟨0, by rw [dr]; rfl, rfl, Nat.zero_le _, rfl⟩ ?_
      rintro q _ _ ⟨i, rfl, rfl, h7, rfl⟩
      have hol2 := goneN_len e openers ops (givenL gave cs) (restL shared gave cs) w i
      (conv => whnf); refine cond_d (fun h8 => ?_) (fun h8 => ?_)
      · obtain ⟨x, hx⟩ := get_some (l := restL shared gave cs) (i := i) (by omega)
        have hgx : (lc (restL shared gave cs))[((i : Nat) : Int).toNat]? = some (cdD x) := map_at hx
        have hxg : (restL shared gave cs).getD i (0, 0, 0) = x := by rw [List.getD_eq_getElem?_getD, hx]; rfl
        obtain ⟨q1, q2, q3, q4⟩ := hG.key x (List.mem_of_getElem? hx)
        (conv => whnf); refine And.intro (by first | omega | (dsimp only [List.length, cond]; omega) | (show (-9223372036854775808 : Int) ≤ _ ∧ _ ≤ (9223372036854775807 : Int); omega) | decide) ?_
        (conv => whnf); refine Idx.mk _ hgx ?_
        (conv => whnf); refine (gone_ct e x openers ops (goneN e openers ops (givenL gave cs) (restL shared gave cs) w i) (givenL gave cs) (by rw [h.lo]; omega) ho (by omega) q1 q2 q3 (by rw [hol2, hol, hvl, hn]; exact q4)).use ?_
        (conv => whnf); refine And.intro (by first | omega | (dsimp only [List.length, cond]; omega) | (show (-9223372036854775808 : Int) ≤ _ ∧ _ ≤ (9223372036854775807 : Int); omega) | decide) ?_
        (conv => whnf)
        refine ⟨(restL shared gave cs).length - (i + 1), by omega, i + 1, rfl, ?_, by omega, rfl⟩
        have es : goneN e openers ops (givenL gave cs) (restL shared gave cs) w (i + 1) = subV (goneN e openers ops (givenL gave cs) (restL shared gave cs) w i) (leftV x.1 (keyT e x.1 openers ops) (givenL gave cs) (goneN e openers ops (givenL gave cs) (restL shared gave cs) w i).length true) := by
          rw [hol2, ← hxg]; rfl
        rw [es]
      obtain rfl : i = (restL shared gave cs).length := by omega
      have e1 : sumV e cs shared gave gifts openers ops = goneN e openers ops (givenL gave cs) (restL shared gave cs) w (restL shared gave cs).length := by
        unfold sumV; rw [hw, hv, d0]
      rw [e1]
      exact Is2.mk rfl
end Go.Proofs.YtofkdfodehfpdaaGreat.Mnd

/- The reference's masks. -/
namespace Go.Proofs.YtofkdfodehfpdaaGreat.Ring
open Go.V Go.Num
open Go.Eng (wr)
set_option maxRecDepth 100000
set_option maxHeartbeats 4000000
theorem rRise_ct (cs : List Cd) : Ct Tryz.prog 20 [LC cs] [] (Is2 (.d (.bool (riB cs cs.length))) []) := by
  refine Ct.introF (E := E 42 0 [.tmp 2] [] [(2, [0, 3])] []) tab_ok Tryz.call20 Tryz.func20 rfl rfl rfl rfl rfl (fun hin => ?_)
  have hlc := lc_len cs
  have hcl := hin.1.1
  (conv => whnf); refine LoopI.mk (fun q ws os => ∃ i : Nat, ws = [LC cs, i64 i] ∧ os = [] ∧ i ≤ cs.length ∧ riB cs i = true ∧ q = cs.length - i) cs.length ⟨0, rfl, rfl, Nat.zero_le _, rfl, rfl⟩ ?_
  rintro q _ _ ⟨i, rfl, rfl, h5, h6, rfl⟩
  (conv => whnf); refine cond_d (fun h7 => ?_) (fun h7 => ?_)
  · have hn : riB cs (i + 1) = (decide (lastW cs i < wAt cs i) && decide (wAt cs i ≤ 64)) := by
      show (riB cs i && _) = _
      rw [h6, Bool.true_and]
    have hlast := riB_last cs i h6
    have bad : ¬ (lastW cs i < wAt cs i ∧ wAt cs i ≤ 64) → riB cs cs.length = false := fun h => by
      refine riB_false cs (k := i + 1) ?_ (by omega)
      rw [hn]
      by_cases e : lastW cs i < wAt cs i
      · rw [decide_eq_false (p := wAt cs i ≤ 64) (fun h2 => h ⟨e, h2⟩), Bool.and_false]
      · rw [decide_eq_false e, Bool.false_and]
    (conv => whnf); refine DrawI.mkF 31 [[0], [3], [10, 11], [12], [13], [14], [15], [0, 16], [3, 16], [16, 17, 18], [16, 19], [16, 20], [16, 21], [16, 22], [23], [3, 24], [24, 25], [24, 26], [0, 27], [3, 27], [27, 28, 29], [27, 30], [27, 31], [0, 27], [3, 27], [27, 34], [27, 33, 35], [27, 36], [27, 37], [27, 32, 38], [24, 27, 39]] (by decide +kernel) ?_
    repeat (first | refine DrawO.mkF _ (And.intro rfl rfl) ?_ | refine DrawO.mkF _ (Idx.mk _ rfl (And.intro rfl rfl)) ?_)
    refine DrawO.mkF _ (And.intro (by omega) (Idx.mk _ (lc_get (by omega)) (And.intro rfl rfl))) ?_
    repeat (first | refine DrawO.mkF _ (And.intro rfl rfl) ?_ | refine DrawO.mkF _ (Idx.mk _ rfl (And.intro rfl rfl)) ?_)
    (conv => whnf); refine cond_d (fun h8 => ?_) (fun h8 => ?_)
    · have h8' : wAt cs i < 1 := h8
      repeat (first | refine DrawO.mkF _ (And.intro rfl rfl) ?_ | refine DrawO.mkF _ (Idx.mk _ rfl (And.intro rfl rfl)) ?_)
      refine isBool ?_
      rw [bad (by omega)]
    have h8' : ¬ wAt cs i < 1 := h8
    repeat (first | refine DrawO.mkF _ (And.intro rfl rfl) ?_ | refine DrawO.mkF _ (Idx.mk _ rfl (And.intro rfl rfl)) ?_)
    refine DrawO.mkF _ (And.intro (by omega) (Idx.mk _ (lc_get (by omega)) (And.intro rfl rfl))) ?_
    repeat (first | refine DrawO.mkF _ (And.intro rfl rfl) ?_ | refine DrawO.mkF _ (Idx.mk _ rfl (And.intro rfl rfl)) ?_)
    (conv => whnf); refine cond_d (fun h9 => ?_) (fun h9 => ?_)
    · have h9' : 64 < wAt cs i := h9
      repeat (first | refine DrawO.mkF _ (And.intro rfl rfl) ?_ | refine DrawO.mkF _ (Idx.mk _ rfl (And.intro rfl rfl)) ?_)
      refine isBool ?_
      rw [bad (by omega)]
    have h9' : ¬ 64 < wAt cs i := h9
    repeat (first | refine DrawO.mkF _ (And.intro rfl rfl) ?_ | refine DrawO.mkF _ (Idx.mk _ rfl (And.intro rfl rfl)) ?_)
    (conv => whnf); refine cond_d (fun h10 => ?_) (fun h10 => ?_)
    · obtain ⟨j, rfl⟩ : ∃ j, i = j + 1 := ⟨i - 1, by omega⟩
      repeat (first | refine DrawO.mkF _ (And.intro rfl rfl) ?_ | refine DrawO.mkF _ (Idx.mk _ rfl (And.intro rfl rfl)) ?_)
      refine DrawO.mkF _ (And.intro (by omega) (Idx.mk _ (lc_get (by omega)) (And.intro rfl rfl))) ?_
      repeat (first | refine DrawO.mkF _ (And.intro rfl rfl) ?_ | refine DrawO.mkF _ (Idx.mk _ rfl (And.intro rfl rfl)) ?_)
      refine DrawO.mkF _ (And.intro (by first | omega | (dsimp only [List.length, cond]; omega) | decide) (And.intro rfl rfl)) ?_
      have hg : (lc cs)[(((j + 1 : Nat) : Int) - 1).toNat]? = some (cdD (cs.getD j (0, 0, 0))) := by
        rw [show (((j + 1 : Nat) : Int) - 1).toNat = (j : Int).toNat from by omega]; exact lc_get (by omega)
      refine DrawO.mkF _ (And.intro (by omega) (Idx.mk _ hg (And.intro rfl rfl))) ?_
      repeat (first | refine DrawO.mkF _ (And.intro rfl rfl) ?_ | refine DrawO.mkF _ (Idx.mk _ rfl (And.intro rfl rfl)) ?_)
      (conv => whnf); refine cond_d (fun h11 => ?_) (fun h11 => ?_)
      · have h11' : wAt cs (j + 1) ≤ wAt cs j := h11
        refine isBool ?_
        rw [bad (fun h => by have : wAt cs j < wAt cs (j + 1) := h.1; omega)]
      · have h11' : ¬ wAt cs (j + 1) ≤ wAt cs j := h11
        have hl : lastW cs (j + 1) = wAt cs j := rfl
        (conv => whnf); refine And.intro (by first | omega | (dsimp only [List.length, cond]; omega) | (show (-9223372036854775808 : Int) ≤ _ ∧ _ ≤ (9223372036854775807 : Int); omega) | decide) ?_
        (conv => whnf)
        exact ⟨cs.length - (j + 1 + 1), by omega, j + 1 + 1, rfl, rfl, by omega, by rw [hn, decide_eq_true (by omega), decide_eq_true (by omega)]; rfl, rfl⟩
    · obtain rfl : i = 0 := by omega
      have hl : lastW cs 0 = 0 := rfl
      repeat (first | refine DrawO.mkF _ (And.intro rfl rfl) ?_ | refine DrawO.mkF _ (Idx.mk _ rfl (And.intro rfl rfl)) ?_)
      (conv => whnf); refine And.intro (by first | omega | (dsimp only [List.length, cond]; omega) | (show (-9223372036854775808 : Int) ≤ _ ∧ _ ≤ (9223372036854775807 : Int); omega) | decide) ?_
      (conv => whnf)
      exact ⟨cs.length - (0 + 1), by omega, 0 + 1, rfl, rfl, by omega, by rw [hn, decide_eq_true (by omega), decide_eq_true (by omega)]; rfl, rfl⟩
  · obtain rfl : i = cs.length := by omega
    refine isBool ?_
    rw [h6]
theorem mErr_keep (who s : Int) (cs : List Cd) {k m : Nat} (h : mErrN who s cs k ≠ 0) (hm : k ≤ m) : mErrN who s cs m = mErrN who s cs k := by
  induction m with
  | zero => have : k = 0 := by omega
            subst this; rfl
  | succ m ih =>
    by_cases e : k = m + 1
    · subst e; rfl
    · have := ih (by omega)
      show (if mErrN who s cs m ≠ 0 then mErrN who s cs m else _) = _
      rw [if_pos (by rw [this]; exact h), this]
theorem Masks_ct (t : Bool) (who s : Int) (cs : List Cd) (n : Int) : Ct Tryz.prog 9 [i64 who, u64 s, LC cs, i64 n, .d (.bool t)] [] (Is2 (.tup [R32 (if hideE who n s cs = 0 then leftV who s cs n.toNat t else []), i64 (hideE who n s cs)]) []) := by
  refine Ct.introF (E := E 103 0 [.tmp 10, .tmp 11] [(6, [0, 1, 2, 3, 4, 12, 13])] [(5, [0, 1, 2, 3, 4, 12, 13]), (13, [0, 1, 2, 3, 4, 12, 13, 16, 17])] [(1000002, [.nl 10]), (1000010, [.nl 10]), (1000018, [.fz 10])]) tab_ok Tryz.call9 Tryz.func9 rfl rfl rfl rfl rfl (fun hin => ?_)
  have hlc := lc_len cs
  have hcl := hin.2.2.1.1
  have hku : ∀ i, 0 ≤ (cs.getD i (0, 0, 0)).2.2 ∧ (cs.getD i (0, 0, 0)).2.2 ≤ 18446744073709551615 := fun i => by
    rw [List.getD_eq_getElem?_getD]
    cases hx : cs[i]? with
    | none => exact ⟨by simp, by simp⟩
    | some c =>
      have := hin.2.2.1.2 (.int .u64 c.2.2) (by
        unfold cellsOf
        rw [List.mem_flatMap]
        exact ⟨cdD c, List.mem_map_of_mem (List.mem_of_getElem? hx), by simp [cdD, D.cells]⟩)
      exact this
  have bad : ¬ ((1 ≤ who ∧ who ≤ 64) ∧ 0 ≤ n ∧ n ≤ 256) → hideE who n s cs = 1 := fun h => by
    unfold hideE sndB; rw [decide_eq_false h]; rfl
  (conv => whnf); refine cond_d (fun h1 => ?_) (fun h1 => ?_)
  · rw [bad (by omega)]; exact Is2.mk rfl
  (conv => whnf); refine cond_d (fun h2 => ?_) (fun h2 => ?_)
  · rw [bad (by omega)]; exact Is2.mk rfl
  (conv => whnf); refine cond_d (fun h3 => ?_) (fun h3 => ?_)
  · rw [bad (by omega)]; exact Is2.mk rfl
  (conv => whnf); refine cond_d (fun h4 => ?_) (fun h4 => ?_)
  · rw [bad (by omega)]; exact Is2.mk rfl
  (conv => whnf); refine (rRise_ct cs).use ?_
  (conv => whnf); refine cond_i (fun h => ?_) (fun h => ?_)
  · have h' : riB cs cs.length = false := by simpa using h
    have e : hideE who n s cs = 1 := by unfold hideE sndB; rw [h', Bool.and_false]; rfl
    rw [e]; exact Is2.mk rfl
  have h' : riB cs cs.length = true := by simpa using h
  have e : hideE who n s cs = mErrN who s cs cs.length := by unfold hideE sndB; rw [h', decide_eq_true (by omega)]; rfl
  rw [e]
  obtain ⟨m, rfl⟩ := Int.eq_ofNat_of_zero_le (show 0 ≤ n by omega)
  rw [Int.toNat_natCast]
  have hm256 : m ≤ 256 := by omega
  (conv => whnf); refine And.intro (by first | omega | (dsimp only [List.length, cond]; omega) | (show (-9223372036854775808 : Int) ≤ _ ∧ _ ≤ (9223372036854775807 : Int); omega) | decide) ?_
  (conv => whnf); refine LoopI.mk (fun q ws os => ∃ (k : Nat) (w : List Int), ws = [i64 who, u64 s, LC cs, i64 m, .d (.bool t), .sl 0, i64 k] ∧ os = [.row 31 1 (l32 w)] ∧ k ≤ cs.length ∧ w.length = m ∧ mErrN who s cs k = 0 ∧ (∀ i, i < m → w.getD i 0 = wr .u32 (mSumN t who s m cs i k)) ∧ q = cs.length - k) cs.length ⟨0, List.replicate m 0, rfl, ?_, Nat.zero_le _, by simp, rfl, fun i hi => by rw [rep0]; rfl, rfl⟩ ?_
  · show [Obj.row _ _ (List.replicate (m : Int).toNat (D.int .u32 0))] = _
    rw [Int.toNat_natCast, l32_rep]
  rintro q _ _ ⟨k, w, rfl, rfl, h5, hwl, he, hw, rfl⟩
  (conv => whnf); refine cond_d (fun h7 => ?_) (fun h7 => ?_)
  · have hk : k < cs.length := by omega
    obtain ⟨c, hc⟩ : ∃ z, z = cs.getD k (0, 0, 0) := ⟨_, rfl⟩
    have hg : (lc cs)[(k : Int).toNat]? = some (cdD c) := by rw [hc]; exact lc_get hk
    have hcu : 0 ≤ c.2.2 ∧ c.2.2 ≤ 18446744073709551615 := by rw [hc]; exact hku k
    have hE : mErrN who s cs (k + 1) = if c.1 = who then 0 else agE s c.2.2 := by
      rw [hc]; show (if mErrN who s cs k ≠ 0 then _ else _) = _
      rw [if_neg (fun h => h he)]
    have hS : ∀ i, mSumN t who s m cs i (k + 1) = mSumN t who s m cs i k + mTerm t who s m c i := fun i => by rw [hc]; rfl
    (conv => whnf); refine JoinI.mk (fun ws os => ∃ w : List Int, ws = [i64 who, u64 s, LC cs, i64 m, .d (.bool t), .sl 0, i64 k] ∧ os = [.row 31 1 (l32 w)] ∧ w.length = m ∧ mErrN who s cs (k + 1) = 0 ∧ (∀ i, i < m → w.getD i 0 = wr .u32 (mSumN t who s m cs i (k + 1)))) ?_ ?_
    · (conv => whnf); refine And.intro (by omega) (Idx.mk _ hg ?_)
      (conv => whnf); refine Idx.mk _ rfl ?_
      (conv => whnf); refine cond_d (fun h8 => ?_) (fun h8 => ?_)
      · have h8' : c.1 = who := h8
        (conv => whnf)
        refine ⟨w, rfl, rfl, hwl, by rw [hE, if_pos h8'], fun i hi => ?_⟩
        have ht : mTerm t who s m c i = 0 := by unfold mTerm; rw [if_pos h8']
        rw [hw i hi, hS, ht, Int.add_zero]
      have h8' : ¬ c.1 = who := h8
      rw [if_neg h8'] at hE
      (conv => whnf); refine And.intro (by omega) (Idx.mk _ hg ?_)
      (conv => whnf); refine Idx.mk _ rfl ?_
      (conv => whnf); refine (rAgree_ct s c.2.2 hcu).use ?_
      (conv => whnf); refine cond_d (fun h9 => ?_) (fun h9 => ?_)
      · have h9' : ¬ agE s c.2.2 = 0 := h9
        have e2 : mErrN who s cs cs.length = agE s c.2.2 := by
          rw [mErr_keep who s cs (k := k + 1) (by rw [hE]; exact h9') (by omega), hE]
        rw [e2, if_neg h9']
        exact Is2.mk rfl
      have h9' : agE s c.2.2 = 0 := Decidable.of_not_not h9
      (conv => whnf); refine (rPair_ct (agV s c.2.2) m).use ?_
      obtain ⟨M, hM⟩ : ∃ z, z = vecL (derL (agV s c.2.2) 2) 3 (m : Nat) := ⟨_, rfl⟩
      have hMk : M = mkV s c.2.2 m := hM
      have hMl : M.length = m := by rw [hMk, mkV_len _ _ hm256]
      rw [← hM]
      (conv => whnf); refine LoopI.mk (fun q ws os => ∃ (j : Nat) (y : List Int), ws = [i64 who, u64 s, LC cs, i64 m, .d (.bool t), .sl 0, i64 k, R32 M, i64 j] ∧ os = [.row 31 1 (l32 y)] ∧ j ≤ m ∧ y.length = m ∧ (∀ i, i < m → y.getD i 0 = wr .u32 (mSumN t who s m cs i (if i < j then k + 1 else k))) ∧ q = m - j) m ⟨0, w, rfl, rfl, Nat.zero_le _, hwl, fun i hi => by rw [if_neg (by omega)]; exact hw i hi, rfl⟩ ?_
      rintro q _ _ ⟨j, y, rfl, rfl, h10, hyl, hy, rfl⟩
      have hly := l32_len y
      have hlM := l32_len M
      (conv => whnf); refine cond_d (fun h11 => ?_) (fun h11 => ?_)
      · have hj : j < m := by omega
        have ht : mTerm t who s m c j = if (decide (who < c.1) != t) = true then M.getD j 0 else -M.getD j 0 := by unfold mTerm; rw [if_neg h8', hMk]
        have next : ∀ z : Int, z = wr .u32 (mSumN t who s m cs j (k + 1)) → ∀ i, i < m → (y.set j z).getD i 0 = wr .u32 (mSumN t who s m cs i (if i < j + 1 then k + 1 else k)) := fun z hz i hi => by
          rw [getD_set]
          by_cases e : j = i
          · subst e; rw [if_pos ⟨rfl, by omega⟩, if_pos (by omega), hz]
          · rw [if_neg (fun h => e h.1), hy i hi]
            by_cases e2 : i < j
            · rw [if_pos e2, if_pos (by omega)]
            · rw [if_neg e2, if_neg (by omega)]
        have hyj : y.getD j 0 = wr .u32 (mSumN t who s m cs j k) := by rw [hy j hj, if_neg (by omega)]
        (conv => whnf); refine And.intro (by omega) (Idx.mk _ hg ?_)
        (conv => whnf); refine Idx.mk _ rfl ?_
        (conv => whnf); refine cond_i (fun h12 => ?_) (fun h12 => ?_)
        · have h12' : (decide (who < c.1) != t) = true := h12
          (conv => whnf); refine DrawI.mkF 8 [[12], [17], [82, 83], [84], [16], [17], [86, 87], [88]] (by decide +kernel) ?_
          repeat (first | refine DrawO.mkF _ (And.intro rfl rfl) ?_ | refine DrawO.mkF _ (Idx.mk _ rfl (And.intro rfl rfl)) ?_)
          refine DrawO.mkF _ (And.intro (by first | omega | (dsimp only [List.length, cond]; omega) | decide) (And.intro rfl rfl)) ?_
          refine DrawO.mkF (u32 (y.getD j 0)) (Idx.mk _ (l32_geti (by omega)) (Idx.mk _ rfl (And.intro rfl rfl))) ?_
          repeat (first | refine DrawO.mkF _ (And.intro rfl rfl) ?_ | refine DrawO.mkF _ (Idx.mk _ rfl (And.intro rfl rfl)) ?_)
          refine DrawO.mkF _ (And.intro (by omega) (Idx.mk _ (l32_geti (by omega)) (And.intro rfl rfl))) ?_
          repeat (first | refine DrawO.mkF _ (And.intro rfl rfl) ?_ | refine DrawO.mkF _ (Idx.mk _ rfl (And.intro rfl rfl)) ?_)
          (conv => whnf); refine And.intro (by first | omega | (dsimp only [List.length, cond]; omega) | (show (-9223372036854775808 : Int) ≤ _ ∧ _ ≤ (9223372036854775807 : Int); omega) | decide) ?_
          (conv => whnf); refine Idx.mk _ (l32_geti (by omega)) ?_
          (conv => whnf); refine And.intro (by first | omega | (dsimp only [List.length, cond]; omega) | (show (-9223372036854775808 : Int) ≤ _ ∧ _ ≤ (9223372036854775807 : Int); omega) | decide) ?_
          (conv => whnf)
          refine ⟨m - (j + 1), by omega, j + 1, y.set j (wr .u32 (y.getD j 0 + M.getD j 0)), rfl, ?_, by omega, by rw [List.length_set]; exact hyl, next _ ?_, rfl⟩
          · rw [← l32_setr]; rfl
          · rw [hyj, hS, ht, if_pos h12']; simp only [wr]; omega
        · have h12' : ¬ (decide (who < c.1) != t) = true := fun h => by
            have h12'' : (decide (who < c.1) != t) = false := h12
            rw [h12''] at h; cases h
          (conv => whnf); refine DrawI.mkF 8 [[12], [17], [92, 93], [94], [16], [17], [96, 97], [98]] (by decide +kernel) ?_
          repeat (first | refine DrawO.mkF _ (And.intro rfl rfl) ?_ | refine DrawO.mkF _ (Idx.mk _ rfl (And.intro rfl rfl)) ?_)
          refine DrawO.mkF _ (And.intro (by first | omega | (dsimp only [List.length, cond]; omega) | decide) (And.intro rfl rfl)) ?_
          refine DrawO.mkF (u32 (y.getD j 0)) (Idx.mk _ (l32_geti (by omega)) (Idx.mk _ rfl (And.intro rfl rfl))) ?_
          repeat (first | refine DrawO.mkF _ (And.intro rfl rfl) ?_ | refine DrawO.mkF _ (Idx.mk _ rfl (And.intro rfl rfl)) ?_)
          refine DrawO.mkF _ (And.intro (by omega) (Idx.mk _ (l32_geti (by omega)) (And.intro rfl rfl))) ?_
          repeat (first | refine DrawO.mkF _ (And.intro rfl rfl) ?_ | refine DrawO.mkF _ (Idx.mk _ rfl (And.intro rfl rfl)) ?_)
          (conv => whnf); refine And.intro (by first | omega | (dsimp only [List.length, cond]; omega) | (show (-9223372036854775808 : Int) ≤ _ ∧ _ ≤ (9223372036854775807 : Int); omega) | decide) ?_
          (conv => whnf); refine Idx.mk _ (l32_geti (by omega)) ?_
          (conv => whnf); refine And.intro (by first | omega | (dsimp only [List.length, cond]; omega) | (show (-9223372036854775808 : Int) ≤ _ ∧ _ ≤ (9223372036854775807 : Int); omega) | decide) ?_
          (conv => whnf)
          refine ⟨m - (j + 1), by omega, j + 1, y.set j (wr .u32 (y.getD j 0 - M.getD j 0)), rfl, ?_, by omega, by rw [List.length_set]; exact hyl, next _ ?_, rfl⟩
          · rw [← l32_setr]; rfl
          · rw [hyj, hS, ht, if_neg h12']; simp only [wr]; omega
      · obtain rfl : j = m := by omega
        (conv => whnf)
        refine ⟨y, rfl, rfl, hyl, by rw [hE, h9'], fun i hi => ?_⟩
        rw [hy i hi, if_pos hi]
    rintro _ _ ⟨w, rfl, rfl, hwl, he, hw⟩
    (conv => whnf); refine And.intro (by first | omega | (dsimp only [List.length, cond]; omega) | (show (-9223372036854775808 : Int) ≤ _ ∧ _ ≤ (9223372036854775807 : Int); omega) | decide) ?_
    (conv => whnf)
    exact ⟨cs.length - (k + 1), by omega, k + 1, w, rfl, rfl, by omega, hwl, he, hw, rfl⟩
  · obtain rfl : k = cs.length := by omega
    have ew : w = leftV who s cs m t := ext_getD (by rw [leftV_len, hwl]) (fun j hj => by
      rw [leftV_at _ _ _ _ (by omega), hw j (by omega)])
    rw [he, if_pos rfl, ew]
    exact Is2.mk rfl
end Go.Proofs.YtofkdfodehfpdaaGreat.Ring

/- Mend's laws: the fixed fact; numbers. -/
namespace Go.Proofs.YtofkdfodehfpdaaGreat.Mnd
open Go.V Go.Num
open Go.Eng (wr)
open Go.Proofs.YtofkdfodehfpdaaGreat.Wrd
open Go.Proofs.YtofkdfodehfpdaaGreat.Ring
set_option maxRecDepth 100000
set_option maxHeartbeats 4000000
abbrev awO : List (List Opng) := [[(1, true, [0, 0, 0, 0, 0])]]
theorem aw_num : joinV 2 [(1, 11), (2, 15)] = 7 ∧ someE 2 [(1, 11), (2, 15)] = 0 := by decide +kernel
theorem aw_pts {k : Nat} (h : k < 5) : ptsN 1 true 5 k [1] awO 1 = [(1, 0)] := by
  have : ([0, 0, 0, 0, 0] : List Int).getD k 0 = 0 := by
    rcases k with _ | _ | _ | _ | _ | k <;> first | rfl | omega
  show [] ++ [((1 : Int), ([0, 0, 0, 0, 0] : List Int).getD k 0)] = _
  rw [this]; rfl
theorem aw_one : joinV 1 [(1, 0)] = 0 ∧ someE 1 [(1, 0)] = 0 := by decide +kernel
theorem aw_lim : limL 1 1 [1] awO = [0, 0, 0, 0, 0] := by
  have h : ∀ k, k < 5 → limT 1 1 [1] awO k = 0 := fun k hk => by
    unfold limT
    show joinV 1 (ptsN 1 true 5 k [1] awO 1) = 0
    rw [aw_pts hk]; exact aw_one.1
  show [limT 1 1 [1] awO 0, limT 1 1 [1] awO 1, limT 1 1 [1] awO 2, limT 1 1 [1] awO 3, limT 1 1 [1] awO 4] = _
  rw [h 0 (by decide), h 1 (by decide), h 2 (by decide), h 3 (by decide), h 4 (by decide)]
theorem aw_gl : gl [0, 0, 0, 0, 0] 32 = List.replicate 32 0 := by decide +kernel
theorem aw_fit (y : Int) : Fit [(1, 0, 0)] [1] [1] [[y]] [1] awO := ⟨rfl, rfl, rfl, rfl, rfl, rfl, rfl, rfl, rfl⟩
theorem aw_good : Good 1 [(1, 0, 0)] [1] [1] 1 [1] awO := ⟨fun c hc => by
    have : c = (1, 0, 0) := by simpa [givenL] using hc
    subst this
    refine ⟨fun k hk => ?_, ?_⟩
    · show someE 1 (ptsN 1 true 5 k [1] awO 1) = 0
      rw [aw_pts hk]; exact aw_one.2
    · show GlOk (limL 1 1 [1] awO)
      rw [aw_lim]
      refine ⟨rfl, fun n hn => ?_⟩
      have : ([0, 0, 0, 0, 0] : List Int).getD n 0 = 0 := by
        rcases n with _ | _ | _ | _ | _ | n <;> first | rfl | omega
      rw [this]; exact ⟨by decide, by decide, by simp⟩, fun c hc => by
    have : c ∈ ([] : List Cd) := hc
    cases this⟩
theorem aw_sum {z : Int} (hv : vecL (List.replicate 32 0) 4 1 = [z]) : sumV 1 [(1, 0, 0)] [1] [1] [[wr .u32 (z + 9)]] [1] awO = [9] := by
  show subV (colV [[wr .u32 (z + 9)]] 1) (vecL (gl (limL 1 1 [1] awO) 32) 4 ((colV [[wr .u32 (z + 9)]] 1).length : Nat)) = [9]
  rw [colV_len, aw_lim, aw_gl]
  show subV _ (vecL (List.replicate 32 0) 4 1) = _
  rw [hv]
  show [wr .u32 (wr .u32 (0 + wr .u32 (z + 9)) - z)] = [9]
  simp only [wr]
  congr 1
  omega
theorem awake_ct : Ct Tryz.prog 7 [] [] (Is2 (.d (.bool true)) []) := by
  refine Ct.introF (E := E 57 0 [.tmp 0] [] [] []) tab_ok Tryz.call7 Tryz.func7 rfl rfl rfl rfl rfl (fun hin => ?_)
  (conv => whnf); refine (Number_ct 2 [(1, 11), (2, 15)]).use ?_
  rw [aw_num.1, aw_num.2]
  obtain ⟨w, hw⟩ : ∃ w, vecL (List.replicate 32 0) 4 1 = w := ⟨_, rfl⟩
  have hwl : w.length = 1 := by rw [← hw, vecL_len]; rfl
  have hu : U4 w := by rw [← hw]; exact vecL_u4 _ _ _
  obtain ⟨z, rfl⟩ : ∃ z, w = [z] := by
    cases w with
    | nil => cases hwl
    | cons a t => cases t with
      | nil => exact ⟨a, rfl⟩
      | cons b t => simp at hwl
  have ho := rOwn_ct (List.replicate 32 0) 1 rfl
  rw [hw] at ho
  refine ho.use ?_
  (conv => whnf); refine And.intro ⟨by decide, by decide, by decide⟩ ?_
  (conv => whnf); refine And.intro (by show (0 : Int) ≤ 0; decide) ?_
  (conv => whnf); refine Idx.mk _ rfl ?_
  (conv => whnf); refine Idx.mk _ rfl ?_
  have hS := Sum_ct 1 [(1, 0, 0)] [1] [1] [[wr .u32 (z + 9)]] [1] awO (aw_fit _) (by decide) (by decide) (by show 1 ≤ 1000000; decide) (by decide) (by decide) aw_good
  rw [aw_sum hw] at hS
  refine hS.use ?_
  (conv => whnf); refine And.intro (by show (0 : Int) ≤ 0; decide) (Idx.mk _ rfl ?_)
  (conv => whnf); refine Idx.mk _ rfl ?_
  exact Is2.mk rfl
theorem pv_pos : ∀ {ps : List (Int × Int)}, (∀ i, i < ps.length → 0 ≤ (ps.getD i (0, 0)).2) → ∀ i, i < (ps.take 9).length → 0 ≤ ((ps.take 9).getD i (0, 0)).2 := fun {ps} h i hi => by
  rw [List.length_take] at hi
  rw [List.getD_eq_getElem?_getD, List.getElem?_take, if_pos (by omega), ← List.getD_eq_getElem?_getD]
  exact h i (by omega)
theorem MendNumbers_ct (k : Int) (ps : List (Int × Int)) : Ct Tryz.prog 3 [i64 k, LP ps] [] (Is2 (.d (.bool true)) []) := by
  refine Ct.introF (E := E 42 0 [.tmp 4] [] [] []) tab_ok Tryz.call3 Tryz.func3 rfl rfl rfl rfl rfl (fun hin => ?_)
  have hq := lp_rng hin.2.1.2
  have hl := lp_len ps
  have e9 : (lp ps).take 9 = lp (ps.take 9) := List.map_take.symm
  (conv => whnf); refine cond_d (fun h1 => ?_) (fun h1 => ?_)
  · (conv => whnf); refine cond_d (fun h2 => ?_) (fun h2 => ?_)
    · (conv => whnf); refine And.intro (by first | omega | (dsimp only [List.length, cond]; omega) | (show (-9223372036854775808 : Int) ≤ _ ∧ _ ≤ (9223372036854775807 : Int); omega) | decide) ?_
      have hN := Number_ct k (ps.take 9)
      have hJ := rJoin_ct k (ps.take 9) (pv_pos hq)
      rw [show LP (ps.take 9) = .d (.ro ((lp ps).take (Int.toNat 9))) by rw [show Int.toNat 9 = 9 from rfl, e9]] at hN hJ
      refine hN.use ?_
      refine hJ.use ?_
      (conv => whnf); refine (awake_ct).use ?_
      (conv => whnf); refine cond_y rfl ?_
      refine isBool ?_
      simp
    · (conv => whnf); refine (Number_ct k ps).use ?_
      (conv => whnf); refine (rJoin_ct k ps hq).use ?_
      (conv => whnf); refine (awake_ct).use ?_
      (conv => whnf); refine cond_y rfl ?_
      refine isBool ?_
      simp
  · (conv => whnf); refine (Number_ct k ps).use ?_
    (conv => whnf); refine (rJoin_ct k ps hq).use ?_
    (conv => whnf); refine (awake_ct).use ?_
    (conv => whnf); refine cond_y rfl ?_
    refine isBool ?_
    simp
end Go.Proofs.YtofkdfodehfpdaaGreat.Mnd
