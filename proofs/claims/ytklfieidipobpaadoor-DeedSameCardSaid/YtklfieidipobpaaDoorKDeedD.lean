/- Texts: is a text plain? -/
import Derived.Test.YtklfieidipobpaaDoorKDeedC
import Derived.Lib.OthersKept
import Derived.Lib.RuneLoops
import Derived.Laws.RangeAny
import Derived.Laws.BitsLemmas
import Derived.WalkKit
set_option linter.unusedVariables false
set_option linter.unusedSimpArgs false
set_option linter.unnecessarySimpa false
set_option linter.unusedSectionVars false
set_option linter.all false
/- Texts: is a text plain? -/
namespace Go.Proofs.YtklfieidipobpaaDoor.Txt
open Go.V Go.Num
open Go.Eng (wr HS Imm Ent strOf strOf_size strOf_data)
open Go.RowKit
set_option maxRecDepth 1000000
set_option maxHeartbeats 6400000
def goodB (b : UInt8) : Bool := decide (b.toNat = 45) || (decide (48 ≤ b.toNat) && decide (b.toNat ≤ 57))
def plainB (s : List UInt8) : Bool := s.all goodB && !s.isEmpty
theorem width_pos (s : ByteArray) (pos : Nat) (h : pos < s.size) : 1 ≤ (Utf8.decode s pos).2 := by
  by_cases ha : (s[pos]'h).toNat < 128
  · rw [decode_ascii s pos h ha]
    exact Nat.le_refl _
  · exact (decode_high s pos h (by omega)).2
theorem plain_walk (s : ByteArray) (w : World) :
    Calls Tryd.prog 27 #[.string s] w fun e w' => e = .returned (.bool (plainB s.data.toList)) ∧ Below w.heap.size w w' := by
  go_enter Tryd.func27, Tryd.ntmps27
  go_wp2
  go_loopw [4] (fun _ wr => ∃ (pos : Nat), wr.heap[w.heap.size]? = some (.stringIter s pos) ∧ Below w.heap.size w wr ∧ pos ≤ s.size ∧ ∀ j (h : j < s.size), j < pos → goodB s[j] = true) (fun _ wr => s.size - wr.iterPos w.heap.size)
  case atStart =>
    refine ⟨0, ?_, (Below.refl _ w).alloc (Nat.le_refl _) _, Nat.zero_le _, fun j _ h => by omega⟩
    have := World.iter_heap w s 0
    simpa using this
  case round =>
    obtain ⟨pos, hit, hbw, hps, hgood⟩ := hrel
    have hsz : w.heap.size < wr.heap.size := (Array.getElem?_eq_some_iff.1 hit).1
    by_cases hp : pos < s.size
    · have hnx : ∀ ty, (Instr.next (.pointer (some ⟨w.heap.size, 0, none⟩)) true ty).run Tryd.prog wr = _ := fun ty => Lib.run_next_any_at wr w.heap.size s pos ty hit hp
      have hwd := width_pos s pos hp
      have hd1 := decode_le s pos
      have hit2 := Lib.iterAt_heap wr w.heap.size s pos (pos + (Utf8.decode s pos).2) hit
      have hbw2 := Lib.below_iterAt hbw (k := w.heap.size) (by omega) s (pos + (Utf8.decode s pos).2)
      have hA : ((Utf8.decode s pos).1 = 45 ∨ (48 ≤ (Utf8.decode s pos).1 ∧ (Utf8.decode s pos).1 ≤ 57)) → (Utf8.decode s pos).2 = 1 ∧ goodB s[pos] = true := fun hr => by
        by_cases ha : (s[pos]'hp).toNat < 128
        · have e := decode_ascii s pos hp ha
          rw [e] at hr ⊢
          refine ⟨rfl, ?_⟩
          unfold goodB
          rcases hr with hr | ⟨hr1, hr2⟩
          · rw [decide_eq_true (show (s[pos]'hp).toNat = 45 from hr)]; rfl
          · rw [decide_eq_true (show 48 ≤ (s[pos]'hp).toNat from hr1), decide_eq_true (show (s[pos]'hp).toNat ≤ 57 from hr2)]; simp
        · have := (decode_high s pos hp (by omega)).1
          omega
      have hB : ¬ ((Utf8.decode s pos).1 = 45 ∨ (48 ≤ (Utf8.decode s pos).1 ∧ (Utf8.decode s pos).1 ≤ 57)) → plainB s.data.toList = false := fun hr => by
        have hg : goodB s[pos] = false := by
          by_cases ha : (s[pos]'hp).toNat < 128
          · have e := decode_ascii s pos hp ha
            rw [e] at hr
            have hr' : ¬ ((s[pos]'hp).toNat = 45 ∨ (48 ≤ (s[pos]'hp).toNat ∧ (s[pos]'hp).toNat ≤ 57)) := hr
            unfold goodB
            by_cases h1 : 48 ≤ (s[pos]'hp).toNat
            · rw [decide_eq_false (show ¬ (s[pos]'hp).toNat = 45 by omega), decide_eq_false (show ¬ (s[pos]'hp).toNat ≤ 57 by omega)]; simp
            · rw [decide_eq_false (show ¬ (s[pos]'hp).toNat = 45 by omega), decide_eq_false h1]; rfl
          · unfold goodB
            rw [decide_eq_false (show ¬ (s[pos]'hp).toNat = 45 by omega), decide_eq_false (show ¬ (s[pos]'hp).toNat ≤ 57 by omega)]; simp
        have : s.data.toList.all goodB = false := by
          rw [List.all_eq_false]
          exact ⟨s[pos], by rw [Array.mem_toList_iff]; exact Array.getElem_mem _, by rw [hg]; simp⟩
        unfold plainB; rw [this]; rfl
      have hgo : ∀ j (h : j < s.size), goodB s[pos] = true → j < pos + 1 → goodB s[j] = true := fun j h hg hj => by
        by_cases e : j = pos
        · subst e; exact hg
        · exact hgood j h (by omega)
      have hm : (wr.iterAt w.heap.size s (pos + (Utf8.decode s pos).2)).iterPos w.heap.size = pos + (Utf8.decode s pos).2 := by unfold World.iterPos; rw [hit2]
      have hm0 : wr.iterPos w.heap.size = pos := by unfold World.iterPos; rw [hit]
      by_cases hq : ((Utf8.decode s pos).1 = 45 ∨ (48 ≤ (Utf8.decode s pos).1 ∧ (Utf8.decode s pos).1 ≤ 57))
      · obtain ⟨e1, e2⟩ := hA hq
        have hrel2 : (∃ p2, (wr.iterAt w.heap.size s (pos + (Utf8.decode s pos).2)).heap[w.heap.size]? = some (.stringIter s p2) ∧ Below w.heap.size w (wr.iterAt w.heap.size s (pos + (Utf8.decode s pos).2)) ∧ p2 ≤ s.size ∧ ∀ j (h : j < s.size), j < p2 → goodB s[j] = true) ∧ s.size - (wr.iterAt w.heap.size s (pos + (Utf8.decode s pos).2)).iterPos w.heap.size < s.size - wr.iterPos w.heap.size := by
          rw [hm, hm0]
          exact ⟨⟨pos + (Utf8.decode s pos).2, hit2, hbw2, by omega, fun j h hj => hgo j h e2 (by omega)⟩, by omega⟩
        clear hA hB hgo hgood
        go_wp2
        all_goals first
          | exact hrel2
          | (rw [e1] at hrel2; exact hrel2)
          | (exfalso; omega)
          | (exfalso; simp only [bne_iff_ne, ne_eq] at *; omega)
      · have hb := hB hq
        clear hA hB hgo hgood
        go_wp2
        all_goals first
          | (exfalso; omega)
          | (exfalso; simp only [bne_iff_ne, ne_eq] at *; omega)
          | (go_ret; refine And.intro ?_ hbw2; first | rfl | (rw [hb]; rfl))
          | (exfalso; rename_i hz; rcases hz with hz | hz
             · rw [bne_eq_false_iff_eq] at hz; omega
             · omega)
    · have hnx : ∀ ty, (Instr.next (.pointer (some ⟨w.heap.size, 0, none⟩)) true ty).run Tryd.prog wr = _ := fun ty => Lib.run_next_end_at wr w.heap.size s pos ty hit hp
      have hall : s.data.toList.all goodB = true := by
        rw [List.all_eq_true]
        intro b hb
        obtain ⟨j, hj, rfl⟩ := List.getElem_of_mem hb
        exact hgood j hj (by have : j < s.size := hj; omega)
      go_wp2
      go_ret
      refine ⟨?_, hbw⟩
      unfold plainB
      rw [hall, ByteArray.toList_eq]; rfl
end Go.Proofs.YtklfieidipobpaaDoor.Txt

/- Texts: the step that a line is. -/
namespace Go.Proofs.YtklfieidipobpaaDoor.Txt
open Go.V Go.Num
open Go.Eng (wr HS Imm Ent strOf strOf_size strOf_data)
set_option maxRecDepth 100000
set_option maxHeartbeats 4000000
theorem plain_ct (s : List UInt8) : Ct Tryd.prog 27 [S s] [] (Is2 (.d (.bool (plainB s))) []) := by
  refine Ct.ofD (ds := [.str s]) Tryd.call27 (fun I us F w hu g hw => ?_)
  obtain ⟨u, rfl, h1⟩ := one_arg hu
  obtain ⟨rfl, h3⟩ := str_of h1
  refine (plain_walk (strOf s) w).mono fun e w' ⟨he, hb⟩ => ?_
  rw [strOf_data] at he
  exact ⟨_, I, he, Imm.le_refl _, .d .bool, hw.below hb⟩
/-- The i-th number behind a line's word. -/
def numS (s : List UInt8) (i : Nat) : Int := atoiV ((spS s).getD (i + 1) [])
def valS (k : Int) (s : List UInt8) (i : Nat) : Int := if i < fSize k then numS s i else 0
def plnS (s : List UInt8) : Nat → Bool
  | 0 => true
  | i + 1 => plnS s i && plainB ((spS s).getD (i + 1) [])
/-- Is it a line of this kind? -/
def hitS (k : Int) (s : List UInt8) : Bool := decide (fWord k = (spS s).getD 0 []) && decide ((spS s).length = fSize k + 1) && plnS s (fSize k) && decide (lineN (fWord k) ([valS k s 0, valS k s 1].take (fSize k)) = s)
def firstS (s : List UInt8) : Nat → Option Nat
  | 0 => none
  | n + 1 => match firstS s n with
    | some k => some k
    | none => if hitS ((n + 1 : Nat) : Int) s = true then some (n + 1) else none
theorem spl_ne (sep s : List UInt8) (n : Nat) : 0 < (Lib.splitK sep 0 n s).length := by
  cases n with
  | zero => exact Nat.zero_lt_one
  | succ n =>
    unfold Lib.splitK
    split
    · exact Nat.zero_lt_one
    · simp
abbrev resD : Option Nat → List UInt8 → D
  | some k, s => stepD k (valS k s 0) (valS k s 1)
  | none, _ => stepD 0 0 0
abbrev resE : Option Nat → Int
  | some _ => 0
  | none => 5
theorem atoiV_rng (s : List UInt8) : -9223372036854775808 ≤ atoiV s ∧ atoiV s ≤ 9223372036854775807 := by
  unfold atoiV
  match h : Lib.atoiAll s with
  | .ok v => exact Lib.atoiAll_bounds h
  | Lib.NumEnd.syntax => exact ⟨show (-9223372036854775808 : Int) ≤ 0 by decide, show (0 : Int) ≤ 9223372036854775807 by decide⟩
  | .range => exact Lib.atoiSat_bounds s
theorem strs_get {l : List (List UInt8)} {i : Nat} (h : i < l.length) : (l.map D.str)[i]? = some (.str (l.getD i [])) := by
  rw [List.getElem?_map, List.getD_eq_getElem?_getD, List.getElem?_eq_getElem h]; rfl
theorem first_no {s : List UInt8} {k : Nat} (h1 : firstS s k = none) (h : hitS ((k + 1 : Nat) : Int) s = false) : firstS s (k + 1) = none := by
  show (match firstS s k with | some k => some k | none => if hitS ((k + 1 : Nat) : Int) s = true then some (k + 1) else none) = none
  rw [h1]
  show (if hitS ((k + 1 : Nat) : Int) s = true then some (k + 1) else none) = none
  rw [if_neg (by rw [h]; simp)]
theorem first_yes {s : List UInt8} {k : Nat} (h1 : firstS s k = none) (h : hitS ((k + 1 : Nat) : Int) s = true) : firstS s (k + 1) = some (k + 1) := by
  show (match firstS s k with | some k => some k | none => if hitS ((k + 1 : Nat) : Int) s = true then some (k + 1) else none) = _
  rw [h1]
  show (if hitS ((k + 1 : Nat) : Int) s = true then some (k + 1) else none) = _
  rw [if_pos h]
theorem first_stay {s : List UInt8} {k j : Nat} (h : firstS s k = some j) : ∀ d, firstS s (k + d) = some j
  | 0 => h
  | d + 1 => by
    show (match firstS s (k + d) with | some k => some k | none => if hitS ((k + d + 1 : Nat) : Int) s = true then some (k + d + 1) else none) = _
    rw [first_stay h d]
theorem hit_no1 {k : Int} {s : List UInt8} (h : ¬ fWord k = (spS s).getD 0 []) : hitS k s = false := by unfold hitS; rw [decide_eq_false h]; rfl
theorem hit_no2 {k : Int} {s : List UInt8} (h : ¬ (spS s).length = fSize k + 1) : hitS k s = false := by unfold hitS; rw [decide_eq_false h]; simp
theorem hit_no3 {k : Int} {s : List UInt8} (h : plnS s (fSize k) = false) : hitS k s = false := by unfold hitS; rw [h]; simp
theorem Step_ct (s : List UInt8) (hs : s.length ≤ 2000000) : Ct Tryd.prog 13 [S s] [] (Is2 (.tup [.d (resD (firstS s 7) s), i64 (resE (firstS s 7))]) []) := by
  refine Ct.introF (E := E 73 0 [.cell 2 23, .tmp 3] [] [(3, [0, 2, 4, 5]), (10, [0, 2, 4, 5, 6, 8, 9, 38, 39, 40])] []) tab_ok Tryd.call13 Tryd.func13 rfl rfl rfl rfl rfl (fun hin => ?_)
  (conv => whnf); refine (Split_ct s (by omega)).use ?_
  obtain ⟨l, hl⟩ : ∃ l, l = spS s := ⟨_, rfl⟩
  have hl0 : 0 < l.length := by rw [hl]; exact spl_ne _ _ _
  have hlen : ∀ i, (l.getD i []).length ≤ s.length := fun i => by
    by_cases hi : i < l.length
    · have : l.getD i [] ∈ l := by rw [List.getD_eq_getElem?_getD, List.getElem?_eq_getElem hi]; exact List.getElem_mem hi
      rw [hl] at this
      have := splitK_le _ _ _ _ this
      rw [hl]; exact this
    · rw [List.getD_eq_getElem?_getD, List.getElem?_eq_none (by omega)]; exact Nat.zero_le _
  rw [← hl]
  (conv => whnf); refine LoopI.mk (fun q ws os => ∃ k : Nat, ws = [S s, .ptr 0 0, .d (.ro (l.map D.str)), i64 ((k : Int) + 1)] ∧ os = [.vec 23 [i64 0, i64 0, i64 0]] ∧ firstS s k = none ∧ k ≤ 7 ∧ q = 7 - k) 7 ⟨0, rfl, rfl, rfl, by decide, rfl⟩ ?_
  rintro q _ _ ⟨k, rfl, rfl, h1, h2, rfl⟩
  have hml : (l.map D.str).length = l.length := List.length_map _
  have hg0 : (l.map D.str)[(0 : Int).toNat]? = some (.str (l.getD 0 [])) := strs_get hl0
  (conv => whnf); refine cond_d (fun h3 => ?_) (fun h3 => ?_)
  · (conv => whnf); refine (forms_ct ((k : Int) + 1)).use ?_
    (conv => whnf); refine DrawI.mkF 13 [[6], [23], [4], [25], [26], [24, 27], [28], [4, 29], [29, 30], [6, 29], [29, 32], [29, 33], [29, 31, 34]] (by decide +kernel) ?_
    repeat (first | refine DrawO.mkF _ (And.intro rfl rfl) ?_ | refine DrawO.mkF _ (Idx.mk _ rfl (And.intro rfl rfl)) ?_)
    refine DrawO.mkF _ (And.intro (by omega) (Idx.mk _ hg0 (And.intro rfl rfl))) ?_
    repeat (first | refine DrawO.mkF _ (And.intro rfl rfl) ?_ | refine DrawO.mkF _ (Idx.mk _ rfl (And.intro rfl rfl)) ?_)
    obtain ⟨sz, hsz⟩ : ∃ z, z = fSize ((k : Int) + 1) := ⟨_, rfl⟩
    have hz2 := fSize_le ((k : Int) + 1)
    rw [← hsz] at hz2 ⊢
    (conv => whnf); refine cond_nd (fun h4 => ?_) (fun h4 => ?_)
    · (conv => whnf); refine And.intro (by first | omega | (dsimp only [List.length, cond]; omega) | (show (-9223372036854775808 : Int) ≤ _ ∧ _ ≤ (9223372036854775807 : Int); omega) | decide) ?_
      (conv => whnf)
      exact ⟨7 - (k + 1), by omega, k + 1, rfl, rfl, first_no h1 (hit_no1 (by rw [← hl]; exact h4)), by omega, rfl⟩
    · repeat (first | refine DrawO.mkF _ (And.intro rfl rfl) ?_ | refine DrawO.mkF _ (Idx.mk _ rfl (And.intro rfl rfl)) ?_)
      refine DrawO.mkF _ (And.intro (by first | omega | (dsimp only [List.length, cond]; omega) | decide) (And.intro rfl rfl)) ?_
      repeat (first | refine DrawO.mkF _ (And.intro rfl rfl) ?_ | refine DrawO.mkF _ (Idx.mk _ rfl (And.intro rfl rfl)) ?_)
      (conv => whnf); refine cond_d (fun h5 => ?_) (fun h5 => ?_)
      · (conv => whnf); refine And.intro (by first | omega | (dsimp only [List.length, cond]; omega) | (show (-9223372036854775808 : Int) ≤ _ ∧ _ ≤ (9223372036854775807 : Int); omega) | decide) ?_
        (conv => whnf)
        refine ⟨7 - (k + 1), by omega, k + 1, rfl, rfl, first_no h1 (hit_no2 ?_), by omega, rfl⟩
        rw [← hl]
        show ¬ l.length = fSize ((k : Int) + 1) + 1
        rw [← hsz]; omega
      · have h6 : l.length = sz + 1 := by have h5 := Decidable.of_not_not h5; omega
        (conv => whnf); refine And.intro ⟨⟨by omega, by omega⟩, fun x hx => ?_⟩ ?_
        · obtain ⟨y, _, rfl⟩ := List.mem_map.1 hx; rfl
        have hdl : ((l.map D.str).drop (1 : Int).toNat).length = sz := by rw [List.length_drop, hml]; show l.length - 1 = _; omega
        (conv => whnf); refine LoopI.mk (fun q ws os => ∃ i : Nat, ws = [S s, .ptr 0 0, .d (.ro (l.map D.str)), i64 ((k : Int) + 1), .ptr 1 0, .ptr 2 0, .d (.bool (plnS s i)), .d (.ro ((l.map D.str).drop (1 : Int).toNat)), i64 ((l.map D.str).drop (1 : Int).toNat).length, i64 i] ∧ os = [.vec 23 [i64 0, i64 0, i64 0], .vec 51 [S (fWord ((k : Int) + 1)), i64 sz], .arr 54 [.int .i64 (if 0 < i then numS s 0 else 0), .int .i64 (if 1 < i then numS s 1 else 0)]] ∧ i ≤ sz ∧ q = sz - i) sz ⟨0, rfl, rfl, Nat.zero_le _, rfl⟩ ?_
        rintro q _ _ ⟨i, rfl, rfl, h7, rfl⟩
        obtain ⟨c, hc⟩ : ∃ c, c = plnS s i := ⟨_, rfl⟩
        rw [← hc]
        (conv => whnf); refine cond_d (fun h8 => ?_) (fun h8 => ?_)
        · have hi : i < sz := by omega
          have hgi : ((l.map D.str).drop (1 : Int).toNat)[(i : Int).toNat]? = some (.str (l.getD (i + 1) [])) := by
            rw [List.getElem?_drop, show (1 : Int).toNat + (i : Int).toNat = i + 1 by omega]
            exact strs_get (by omega)
          have hnv : atoiV (l.getD (i + 1) []) = numS s i := by rw [hl]; rfl
          have hps : plnS s (i + 1) = (c && plainB (l.getD (i + 1) [])) := by rw [hc, hl]; rfl
          have harr : setV [D.int .i64 (if 0 < i then numS s 0 else 0), .int .i64 (if 1 < i then numS s 1 else 0)] (0 + (i : Int).toNat * 1) [.int .i64 (numS s i)] = [D.int .i64 (if 0 < i + 1 then numS s 0 else 0), .int .i64 (if 1 < i + 1 then numS s 1 else 0)] := by
            rcases i with _ | _ | i
            · rfl
            · rfl
            · omega
          (conv => whnf); refine And.intro (by omega) ?_
          (conv => whnf); refine Idx.mk _ hgi ?_
          (conv => whnf); refine Idx.mk _ rfl ?_
          (conv => whnf); refine (Atoi_ct (l.getD (i + 1) []) (by have := hlen (i + 1); omega)).use ?_
          rw [hnv]
          cases c with
          | true =>
            (conv => whnf); refine And.intro (by first | omega | (dsimp only [List.length, cond]; omega) | (show (-9223372036854775808 : Int) ≤ _ ∧ _ ≤ (9223372036854775807 : Int); omega) | decide) ?_
            (conv => whnf); refine And.intro ⟨rfl, show 0 + (i : Int).toNat * 1 + 1 ≤ 2 by omega⟩ ?_
            (conv => whnf); refine (plain_ct (l.getD (i + 1) [])).use ?_
            (conv => whnf); refine And.intro (by first | omega | (dsimp only [List.length, cond]; omega) | (show (-9223372036854775808 : Int) ≤ _ ∧ _ ≤ (9223372036854775807 : Int); omega) | decide) ?_
            (conv => whnf)
            refine ⟨sz - (i + 1), by omega, i + 1, ?_, ?_, by omega, rfl⟩
            · rw [hps]; rfl
            · rw [← harr]; rfl
          | false =>
            (conv => whnf); refine And.intro (by first | omega | (dsimp only [List.length, cond]; omega) | (show (-9223372036854775808 : Int) ≤ _ ∧ _ ≤ (9223372036854775807 : Int); omega) | decide) ?_
            (conv => whnf); refine And.intro ⟨rfl, show 0 + (i : Int).toNat * 1 + 1 ≤ 2 by omega⟩ ?_
            (conv => whnf); refine And.intro (by first | omega | (dsimp only [List.length, cond]; omega) | (show (-9223372036854775808 : Int) ≤ _ ∧ _ ≤ (9223372036854775807 : Int); omega) | decide) ?_
            (conv => whnf)
            refine ⟨sz - (i + 1), by omega, i + 1, ?_, ?_, by omega, rfl⟩
            · rw [hps]; rfl
            · rw [← harr]; rfl
        · obtain rfl : i = sz := by omega
          cases c with
          | true =>
            have hok : fOk ((k : Int) + 1) = true := by unfold fOk; exact decide_eq_true (by omega)
            obtain ⟨hw, hwl⟩ := fWord_ne hok
            obtain ⟨a, ha⟩ : ∃ a, a = (if 0 < i then numS s 0 else 0) := ⟨_, rfl⟩
            obtain ⟨b, hb⟩ : ∃ b, b = (if 1 < i then numS s 1 else 0) := ⟨_, rfl⟩
            have hra : -9223372036854775808 ≤ a ∧ a ≤ 9223372036854775807 := by rw [ha]; split; exact atoiV_rng _; exact ⟨by decide, by decide⟩
            have hrb : -9223372036854775808 ≤ b ∧ b ≤ 9223372036854775807 := by rw [hb]; split; exact atoiV_rng _; exact ⟨by decide, by decide⟩
            have hva : valS ((k : Int) + 1) s 0 = a := by unfold valS; rw [← hsz, ha]
            have hvb : valS ((k : Int) + 1) s 1 = b := by unfold valS; rw [← hsz, hb]
            rw [← ha, ← hb]
            (conv => whnf); refine And.intro rfl ?_
            (conv => whnf); refine (write_ct (fWord ((k : Int) + 1)) i a b hw hwl hz2 hra hrb).use ?_
            (conv => whnf); refine cond_d (fun h9 => ?_) (fun h9 => ?_)
            · (conv => whnf); refine And.intro (by decide) ?_
              (conv => whnf); refine Idx.mk _ rfl ?_
              (conv => whnf); refine And.intro (by decide) ?_
              (conv => whnf); refine Idx.mk _ rfl ?_
              have hh : hitS ((k + 1 : Nat) : Int) s = true := by
                show hitS ((k : Int) + 1) s = true
                unfold hitS
                rw [hva, hvb, ← hsz, ← hl, decide_eq_true h9, decide_eq_true h4, decide_eq_true h6, ← hc]; rfl
              have hf : firstS s 7 = some (k + 1) := by
                have := first_stay (first_yes h1 hh) (7 - (k + 1))
                rwa [show k + 1 + (7 - (k + 1)) = 7 by omega] at this
              refine Is2.mk ?_
              rw [hf]
              show AV.tup [.d (stepD ((k : Int) + 1) (valS ((k : Int) + 1) s 0) (valS ((k : Int) + 1) s 1)), i64 0] = _
              rw [hva, hvb]
            · (conv => whnf); refine And.intro (by first | omega | (dsimp only [List.length, cond]; omega) | (show (-9223372036854775808 : Int) ≤ _ ∧ _ ≤ (9223372036854775807 : Int); omega) | decide) ?_
              (conv => whnf)
              refine ⟨7 - (k + 1), by omega, k + 1, rfl, rfl, first_no h1 ?_, by omega, rfl⟩
              show hitS ((k : Int) + 1) s = false
              unfold hitS
              rw [hva, hvb, ← hsz, decide_eq_false h9]; simp
          | false =>
            (conv => whnf); refine And.intro (by first | omega | (dsimp only [List.length, cond]; omega) | (show (-9223372036854775808 : Int) ≤ _ ∧ _ ≤ (9223372036854775807 : Int); omega) | decide) ?_
            (conv => whnf)
            refine ⟨7 - (k + 1), by omega, k + 1, rfl, rfl, first_no h1 (hit_no3 ?_), by omega, rfl⟩
            show plnS s (fSize ((k : Int) + 1)) = false
            rw [← hsz, ← hc]
  · obtain rfl : k = 7 := by omega
    refine Is2.mk ?_
    rw [h1]
end Go.Proofs.YtklfieidipobpaaDoor.Txt
