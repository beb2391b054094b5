/- Texts, the plain part: numerals are read again; a line's words. -/
import Derived.Test.YtklfieidipobpaaDoorKDeedD
import Derived.Lib.SplitLaws
set_option linter.unusedVariables false
set_option linter.unusedSimpArgs false
set_option linter.unnecessarySimpa false
set_option linter.unusedSectionVars false
set_option linter.all false
/- Texts, the plain part: numerals are read again; a line's words. -/
namespace Go.Proofs.YtklfieidipobpaaDoor.Txt
open Go.V Go.Num
set_option maxRecDepth 100000
set_option maxHeartbeats 4000000
theorem u8_of {d : Nat} (h : d < 10) : (UInt8.ofNat (48 + d)).toNat = 48 + d := by
  rw [UInt8.toNat_ofNat']; omega
theorem par_step {acc d : Nat} {r : List UInt8} (hd : d < 10) (h : acc * 10 + d < 18446744073709551616) : Lib.parseUint10 acc (UInt8.ofNat (48 + d) :: r) = Lib.parseUint10 (acc * 10 + d) r := by
  have e := u8_of hd
  rw [Lib.parseUint10, if_pos (by omega), if_neg (by omega), if_neg (by rw [e]; omega), e]
  congr 1
  omega
theorem par_dec : ∀ (u : Nat), u < 18446744073709551616 → ∀ r, Lib.parseUint10 0 (Lib.decDigits u ++ r) = Lib.parseUint10 u r := by
  intro u
  induction u using Nat.strongRecOn with
  | ind u ih =>
    intro h r
    by_cases h10 : u < 10
    · rw [dec_small h10]
      have := par_step (acc := 0) (d := u) (r := r) h10 (by omega)
      rw [show 0 * 10 + u = u by omega] at this
      exact this
    · rw [dec_big h10, List.append_assoc, ih (u / 10) (by omega) (by omega)]
      have := par_step (acc := u / 10) (d := u % 10) (r := r) (by omega) (by omega)
      rw [show u / 10 * 10 + u % 10 = u by omega] at this
      exact this
theorem dec_good (u : Nat) : ∀ b ∈ Lib.decDigits u, 48 ≤ b.toNat ∧ b.toNat ≤ 57 := by
  induction u using Nat.strongRecOn with
  | ind u ih =>
    intro b hb
    by_cases h10 : u < 10
    · rw [dec_small h10] at hb
      rw [List.mem_singleton.1 hb, u8_of h10]; omega
    · rw [dec_big h10] at hb
      rcases List.mem_append.1 hb with hb | hb
      · exact ih (u / 10) (by omega) b hb
      · rw [List.mem_singleton.1 hb, u8_of (by omega)]; omega
theorem dec_cons (u : Nat) : ∃ b t, Lib.decDigits u = b :: t := by
  by_cases h10 : u < 10
  · exact ⟨_, _, dec_small h10⟩
  · rw [dec_big h10]
    cases h : Lib.decDigits (u / 10) with
    | nil => exact ⟨_, _, rfl⟩
    | cons b t => exact ⟨_, _, rfl⟩
theorem mag_dec {u : Nat} (h : u < 18446744073709551616) : Lib.parseMag (Lib.decDigits u) = .ok u := by
  obtain ⟨b, t, e⟩ := dec_cons u
  unfold Lib.parseMag
  rw [if_neg (by rw [e]; simp)]
  have := par_dec u h []
  rw [List.append_nil] at this
  rw [this]; rfl
theorem atoi_itoa {n : Int} (h0 : -9223372036854775808 ≤ n) (h1 : n ≤ 9223372036854775807) : Lib.atoiAll (Lib.itoa n) = .ok n := by
  unfold Lib.itoa
  by_cases hn : n < 0
  · rw [if_pos hn]
    have hm := mag_dec (u := n.natAbs) (by omega)
    show (match Lib.parseMag (if ((45 : UInt8).toNat = 43 ∨ (45 : UInt8).toNat = 45) then Lib.decDigits n.natAbs else (45 :: Lib.decDigits n.natAbs)) with
      | Lib.NumEnd.syntax => Lib.NumEnd.syntax
      | .range => .range
      | .ok u => if ¬ (45 : UInt8).toNat = 45 ∧ 9223372036854775808 ≤ u then .range else if (45 : UInt8).toNat = 45 ∧ 9223372036854775808 < u then .range else .ok (if (45 : UInt8).toNat = 45 then -(u : Int) else u)) = _
    rw [if_pos (by decide), hm]
    show (if ¬ (45 : UInt8).toNat = 45 ∧ 9223372036854775808 ≤ n.natAbs then Lib.NumEnd.range else if (45 : UInt8).toNat = 45 ∧ 9223372036854775808 < n.natAbs then .range else .ok (if (45 : UInt8).toNat = 45 then -(n.natAbs : Int) else n.natAbs)) = _
    rw [if_neg (by intro h; exact h.1 rfl), if_neg (by omega)]
    show Lib.NumEnd.ok (-(n.natAbs : Int)) = _
    congr 1; omega
  · rw [if_neg hn]
    have hm := mag_dec (u := n.toNat) (by omega)
    obtain ⟨b, t, e⟩ := dec_cons n.toNat
    have hb := dec_good n.toNat b (by rw [e]; exact List.mem_cons_self ..)
    rw [e] at hm ⊢
    show (match Lib.parseMag (if (b.toNat = 43 ∨ b.toNat = 45) then t else (b :: t)) with
      | Lib.NumEnd.syntax => Lib.NumEnd.syntax
      | .range => .range
      | .ok u => if ¬ b.toNat = 45 ∧ 9223372036854775808 ≤ u then .range else if b.toNat = 45 ∧ 9223372036854775808 < u then .range else .ok (if b.toNat = 45 then -(u : Int) else u)) = _
    rw [if_neg (by omega), hm]
    show (if ¬ b.toNat = 45 ∧ 9223372036854775808 ≤ n.toNat then Lib.NumEnd.range else if b.toNat = 45 ∧ 9223372036854775808 < n.toNat then .range else .ok (if b.toNat = 45 then -(n.toNat : Int) else n.toNat)) = _
    rw [if_neg (by omega), if_neg (by omega), if_neg (by omega)]
    congr 1; omega
theorem atoiV_itoa {n : Int} (h0 : -9223372036854775808 ≤ n) (h1 : n ≤ 9223372036854775807) : atoiV (Lib.itoa n) = n := by
  unfold atoiV; rw [atoi_itoa h0 h1]
theorem itoa_good (n : Int) : ∀ b ∈ Lib.itoa n, b.toNat = 45 ∨ (48 ≤ b.toNat ∧ b.toNat ≤ 57) := by
  intro b hb
  unfold Lib.itoa at hb
  split at hb
  · rcases List.mem_cons.1 hb with rfl | hb
    · exact .inl rfl
    · exact .inr (dec_good _ b hb)
  · exact .inr (dec_good _ b hb)
theorem itoa_ne (n : Int) : Lib.itoa n ≠ [] := by
  unfold Lib.itoa
  split
  · simp
  · obtain ⟨b, t, e⟩ := dec_cons n.toNat
    rw [e]; simp
theorem plain_itoa (n : Int) : plainB (Lib.itoa n) = true := by
  unfold plainB
  have h1 : (Lib.itoa n).all goodB = true := by
    rw [List.all_eq_true]
    intro b hb
    unfold goodB
    rcases itoa_good n b hb with h | ⟨h, h2⟩
    · rw [decide_eq_true h]; rfl
    · rw [decide_eq_true h, decide_eq_true h2]; simp
  rw [h1]
  cases h : Lib.itoa n with
  | nil => exact absurd h (itoa_ne n)
  | cons b t => rfl
theorem itoa_sp (n : Int) : (32 : UInt8) ∉ Lib.itoa n := fun h => by
  rcases itoa_good n _ h with h | h
  · exact absurd h (by decide)
  · exact absurd h.1 (by decide)
theorem word_sp (k : Int) : (32 : UInt8) ∉ fWord k := by
  unfold fWord
  split
  · decide
  · split
    · decide
    · split
      · decide
      · split
        · decide
        · split
          · decide
          · split
            · decide
            · split
              · decide
              · simp
/-! ## Splitting at blanks -/
theorem idx_at : ∀ (w r : List UInt8), (32 : UInt8) ∉ w → Lib.index (w ++ 32 :: r) [32] = (w.length : Int)
  | [], r, _ => by
    show Lib.index (32 :: r) [32] = 0
    rw [Lib.index, if_pos (by simp [List.isPrefixOf])]
  | b :: w, r, h => by
    have hb : b ≠ 32 := fun e => h (by rw [e]; exact List.mem_cons_self ..)
    have ih := idx_at w r (fun hm => h (List.mem_cons_of_mem _ hm))
    show Lib.index (b :: (w ++ 32 :: r)) [32] = _
    rw [Lib.index, if_neg (by simp [List.isPrefixOf]; exact fun e => hb e.symm), ih, if_neg (by simp), List.length_cons]; rfl
theorem idx_no : ∀ (w : List UInt8), (32 : UInt8) ∉ w → Lib.index w [32] = -1
  | [], _ => rfl
  | b :: w, h => by
    have hb : b ≠ 32 := fun e => h (by rw [e]; exact List.mem_cons_self ..)
    rw [Lib.index, if_neg (by simp [List.isPrefixOf]; exact fun e => hb e.symm), idx_no w (fun hm => h (List.mem_cons_of_mem _ hm)), if_pos (by decide)]
theorem sp_at (w r : List UInt8) (h : (32 : UInt8) ∉ w) : spS (w ++ 32 :: r) = w :: spS r := by
  have hi := idx_at w r h
  have hc : Lib.count (w ++ 32 :: r) [32] = Lib.count r [32] + 1 := by
    rw [Lib.count_hit (by simp) hi]
    have : (w ++ 32 :: r).drop (w.length + ([32] : List UInt8).length) = r := by
      show (w ++ 32 :: r).drop (w.length + 1) = r
      rw [List.drop_append]; simp
    rw [this]; omega
  unfold spS Lib.split
  rw [hc]
  show (if Lib.index (w ++ 32 :: r) [32] == -1 then [w ++ 32 :: r] else (w ++ 32 :: r).take ((Lib.index (w ++ 32 :: r) [32]).toNat + 0) :: Lib.splitK [32] 0 (Lib.count r [32]) ((w ++ 32 :: r).drop ((Lib.index (w ++ 32 :: r) [32]).toNat + 1))) = _
  rw [hi, if_neg (by simp), Int.toNat_natCast, Nat.add_zero]
  have h1 : (w ++ 32 :: r).take w.length = w := by rw [List.take_append]; simp
  have h2 : (w ++ 32 :: r).drop (w.length + 1) = r := by rw [List.drop_append]; simp
  rw [h1, h2]
theorem sp_no (w : List UInt8) (h : (32 : UInt8) ∉ w) : spS w = [w] := by
  unfold spS Lib.split
  rw [Lib.count_miss (idx_no w h)]; rfl
theorem sp_line (w : List UInt8) (hw : (32 : UInt8) ∉ w) : ∀ (l : List Int), spS (lineN w l) = w :: l.map Lib.itoa := by
  have key : ∀ (l : List Int) (v : List UInt8), (32 : UInt8) ∉ v → spS (v ++ l.flatMap fun n => 32 :: Lib.itoa n) = v :: l.map Lib.itoa := by
    intro l
    induction l with
    | nil => intro v hv; rw [List.flatMap_nil, List.append_nil, sp_no v hv]; rfl
    | cons n l ih =>
      intro v hv
      rw [List.flatMap_cons, List.cons_append, sp_at v _ hv, ih _ (itoa_sp n)]; rfl
  intro l
  exact key l w hw
/-! ## A line is read again -/
theorem words_inj : ∀ j k : Fin 8, 1 ≤ j.val → 1 ≤ k.val → fWord (j.val : Int) = fWord (k.val : Int) → j = k := by decide
theorem first_none {s : List UInt8} : ∀ {m : Nat}, (∀ j : Nat, 1 ≤ j → j ≤ m → hitS (j : Int) s = false) → firstS s m = none
  | 0, _ => rfl
  | m + 1, h => first_no (first_none (fun j h1 h2 => h j h1 (by omega))) (h (m + 1) (by omega) (Nat.le_refl _))
theorem first_at {s : List UInt8} {k : Nat} (h1 : 1 ≤ k) (h7 : k ≤ 7) (hk : hitS (k : Int) s = true) (hn : ∀ j : Nat, 1 ≤ j → j < k → hitS (j : Int) s = false) : firstS s 7 = some k := by
  obtain ⟨m, rfl⟩ : ∃ m, k = m + 1 := ⟨k - 1, by omega⟩
  have h := first_stay (first_yes (first_none (m := m) (fun j a b => hn j a (by omega))) hk) (7 - (m + 1))
  rwa [show m + 1 + (7 - (m + 1)) = 7 by omega] at h
theorem line_num {w : List UInt8} (hw : (32 : UInt8) ∉ w) {a b : Int} (ha : -9223372036854775808 ≤ a ∧ a ≤ 9223372036854775807) (hb : -9223372036854775808 ≤ b ∧ b ≤ 9223372036854775807) {sz : Nat} (hz : sz ≤ 2) :
    (∀ i, i < sz → numS (lineN w ([a, b].take sz)) i = [a, b].getD i 0) ∧ plnS (lineN w ([a, b].take sz)) sz = true ∧ (spS (lineN w ([a, b].take sz))).getD 0 [] = w ∧ (spS (lineN w ([a, b].take sz))).length = sz + 1 := by
  have hs := sp_line w hw ([a, b].take sz)
  obtain ⟨s, hS⟩ : ∃ s, s = lineN w ([a, b].take sz) := ⟨_, rfl⟩
  rw [← hS] at hs ⊢
  have hp := plain_itoa a
  have hq := plain_itoa b
  rcases sz with _ | _ | _ | sz
  · exact ⟨fun i hi => by omega, rfl, by rw [hs]; rfl, by rw [hs]; rfl⟩
  · refine ⟨fun i hi => ?_, ?_, by rw [hs]; rfl, by rw [hs]; rfl⟩
    · obtain rfl : i = 0 := by omega
      unfold numS; rw [hs]; exact atoiV_itoa ha.1 ha.2
    · show (true && plainB ((spS s).getD 1 [])) = true
      rw [hs]; show (true && plainB (Lib.itoa a)) = true
      rw [hp]; rfl
  · refine ⟨fun i hi => ?_, ?_, by rw [hs]; rfl, by rw [hs]; rfl⟩
    · unfold numS; rw [hs]
      rcases i with _ | _ | i
      · exact atoiV_itoa ha.1 ha.2
      · exact atoiV_itoa hb.1 hb.2
      · omega
    · show ((true && plainB ((spS s).getD 1 [])) && plainB ((spS s).getD 2 [])) = true
      rw [hs]; show ((true && plainB (Lib.itoa a)) && plainB (Lib.itoa b)) = true
      rw [hp, hq]; rfl
  · omega
/-- What a step's line says is that step. -/
theorem line_back {k a b : Int} (hok : okL k a b = true) (ha : -9223372036854775808 ≤ a ∧ a ≤ 9223372036854775807) (hb : -9223372036854775808 ≤ b ∧ b ≤ 9223372036854775807) :
    firstS (lineN (fWord k) ([a, b].take (fSize k))) 7 = some k.toNat ∧ valS k (lineN (fWord k) ([a, b].take (fSize k))) 0 = a ∧ valS k (lineN (fWord k) ([a, b].take (fSize k))) 1 = b ∧ (1 ≤ k ∧ k ≤ 7) := by
  have hf : fOk k = true := okA_down hok
  have hk : 1 ≤ k ∧ k ≤ 7 := of_decide_eq_true hf
  obtain ⟨n1, n2, n3, n4⟩ := line_num (word_sp k) ha hb (fSize_le k)
  obtain ⟨s, hS⟩ : ∃ s, s = lineN (fWord k) ([a, b].take (fSize k)) := ⟨_, rfl⟩
  rw [← hS] at n1 n2 n3 n4 ⊢
  have hok' : (okA k a b 0 && (decide (((0 : Nat) : Int) < fSize k) || decide (a = 0)) && (decide (((1 : Nat) : Int) < fSize k) || decide (b = 0))) = true := hok
  simp only [Bool.and_eq_true, Bool.or_eq_true, decide_eq_true_eq] at hok'
  have v0 : valS k s 0 = a := by
    unfold valS
    split
    · exact n1 0 (by assumption)
    · have := hok'.1.2
      omega
  have v1 : valS k s 1 = b := by
    unfold valS
    split
    · exact n1 1 (by assumption)
    · have := hok'.2
      omega
  have hit : hitS k s = true := by
    unfold hitS
    rw [v0, v1, n3, n4, n2, ← hS, decide_eq_true rfl, decide_eq_true rfl, decide_eq_true rfl]; rfl
  refine ⟨first_at (by omega) (by omega) (by rw [Int.toNat_of_nonneg (by omega)]; exact hit) (fun j h1 h2 => hit_no1 ?_), v0, v1, hk⟩
  intro e
  rw [n3] at e
  have := words_inj ⟨j, by omega⟩ ⟨k.toNat, by omega⟩ h1 (by show 1 ≤ k.toNat; omega) (by show fWord (j : Int) = fWord (k.toNat : Int); rw [Int.toNat_of_nonneg (by omega)]; exact e)
  simp at this
  omega
/-- What a line is found to be is a step whose line it is. -/
theorem first_hit {s : List UInt8} : ∀ {m k : Nat}, firstS s m = some k → 1 ≤ k ∧ k ≤ m ∧ hitS (k : Int) s = true
  | 0, _, h => by cases h
  | m + 1, k, h => by
    cases h1 : firstS s m with
    | some j =>
      have h2 := first_stay h1 1
      rw [h] at h2
      cases h2
      obtain ⟨a, b, c⟩ := first_hit h1
      exact ⟨a, by omega, c⟩
    | none =>
      by_cases hh : hitS ((m + 1 : Nat) : Int) s = true
      · rw [first_yes h1 hh] at h
        cases h
        exact ⟨by omega, Nat.le_refl _, hh⟩
      · rw [first_no h1 (by simpa using hh)] at h; cases h
theorem hit_line {k : Nat} {s : List UInt8} (h1 : 1 ≤ k) (h7 : k ≤ 7) (h : hitS (k : Int) s = true) : okL k (valS k s 0) (valS k s 1) = true ∧ lineN (fWord k) ([valS k s 0, valS k s 1].take (fSize k)) = s := by
  unfold hitS at h
  simp only [Bool.and_eq_true, decide_eq_true_eq] at h
  refine ⟨?_, h.2⟩
  show (fOk k && (decide (((0 : Nat) : Int) < fSize k) || decide (valS k s 0 = 0)) && (decide (((1 : Nat) : Int) < fSize k) || decide (valS k s 1 = 0))) = true
  have hf : fOk (k : Int) = true := decide_eq_true (by omega)
  have g : ∀ i : Nat, (decide ((i : Int) < fSize k) || decide (valS k s i = 0)) = true := fun i => by
    by_cases hi : i < fSize (k : Int)
    · rw [decide_eq_true (by omega)]; rfl
    · have : valS k s i = 0 := by unfold valS; rw [if_neg hi]
      rw [decide_eq_true this]; simp
  rw [hf, g 0, g 1]; rfl
end Go.Proofs.YtklfieidipobpaaDoor.Txt

/- Texts: steps as a text. -/
namespace Go.Proofs.YtklfieidipobpaaDoor.Txt
open Go.V Go.Num
open Go.Eng (wr HS Imm Ent strOf strOf_size strOf_data)
set_option maxRecDepth 100000
set_option maxHeartbeats 4000000
abbrev St3 := Int × Int × Int
abbrev stD (x : St3) : D := stepD x.1 x.2.1 x.2.2
def lineOf (x : St3) : List UInt8 := lineN (fWord x.1) ([x.2.1, x.2.2].take (fSize x.1))
def okOf (x : St3) : Bool := okL x.1 x.2.1 x.2.2
def txt (l : List St3) : List UInt8 := l.flatMap fun x => lineOf x ++ [10]
def In64 (x : St3) : Prop := (-9223372036854775808 ≤ x.2.1 ∧ x.2.1 ≤ 9223372036854775807) ∧ (-9223372036854775808 ≤ x.2.2 ∧ x.2.2 ≤ 9223372036854775807)
theorem lineOf_len {x : St3} (h : In64 x) : (lineOf x).length ≤ 150 := by
  have h1 := Lib.itoa_length_le x.2.1 h.1.1 h.1.2
  have h2 := Lib.itoa_length_le x.2.2 h.2.1 h.2.2
  have hw : (fWord x.1).length ≤ 100 := by
    unfold fWord
    repeat' split
    all_goals decide
  have hz := fSize_le x.1
  unfold lineOf lineN
  obtain ⟨sz, hsz⟩ : ∃ z, z = fSize x.1 := ⟨_, rfl⟩
  rw [← hsz] at hz ⊢
  rcases sz with _ | _ | _ | sz
  · simp; omega
  · simp; omega
  · simp; omega
  · omega
theorem txt_len {l : List St3} (h : ∀ x ∈ l, In64 x) : (txt l).length ≤ 151 * l.length := by
  induction l with
  | nil => exact Nat.le_refl _
  | cons x l ih =>
    have h1 := lineOf_len (h x (List.mem_cons_self ..))
    have h2 := ih (fun y hy => h y (List.mem_cons_of_mem _ hy))
    unfold txt at *
    rw [List.flatMap_cons, List.length_append, List.length_append, List.length_cons]
    simp only [List.length_cons, List.length_nil]
    omega
theorem txt_snoc (l : List St3) (x : St3) : txt (l ++ [x]) = txt l ++ (lineOf x ++ [10]) := by unfold txt; rw [List.flatMap_append]; simp
theorem txt_ne {l : List St3} (h : l ≠ []) : txt l ≠ [] := by
  cases l with
  | nil => exact absurd rfl h
  | cons x l => unfold txt; rw [List.flatMap_cons]; simp
theorem Steps_ct (l : List St3) (hr : ∀ x ∈ l, In64 x) (hl : l.length ≤ 1100000) : Ct Tryd.prog 21 [.d (.ro (l.map stD))] [] (Is2 (.tup [S (if l.all okOf = true ∧ l.length ≤ 4096 ∧ (txt l).length ≤ 131072 then txt l else []), i64 (if l.all okOf = true then (if l.length ≤ 4096 ∧ (txt l).length ≤ 131072 then 0 else 6) else 1)]) []) := by
  refine Ct.introF (E := E 35 0 [.tmp 2, .tmp 3] [] [(3, [0, 4, 9, 10, 11])] []) tab_ok Tryd.call21 Tryd.func21 rfl rfl rfl rfl rfl (fun hin => ?_)
  have hml : (l.map stD).length = l.length := List.length_map _
  (conv => whnf); refine LoopI.mk (fun q ws os => ∃ i : Nat, ws = [.d (.ro (l.map stD)), .ptr 0 0, .d (.ro (l.map stD)), i64 (l.map stD).length, i64 i] ∧ ((i = 0 ∧ os = [.vec 85 [.d .nilp, .d .nils]]) ∨ (0 < i ∧ os = bld (txt (l.take i)))) ∧ i ≤ l.length ∧ (l.take i).all okOf = true ∧ q = l.length - i) l.length ⟨0, rfl, .inl ⟨rfl, rfl⟩, Nat.zero_le _, rfl, rfl⟩ ?_
  rintro q _ os ⟨i, rfl, hos, h1, h2, rfl⟩
  have hti : (l.take i).length = i := by rw [List.length_take]; omega
  have htl := txt_len (l := l.take i) (fun x hx => hr x (List.mem_of_mem_take hx))
  rw [hti] at htl
  rcases hos with ⟨h0, rfl⟩ | ⟨h0, rfl⟩
  · (conv => whnf); refine cond_d (fun h3 => ?_) (fun h3 => ?_)
    · have hi : i < l.length := by omega
      obtain ⟨x, hx⟩ : ∃ x, l[i]? = some x := ⟨_, List.getElem?_eq_getElem hi⟩
      have hg : (l.map stD)[(i : Int).toNat]? = some (stD x) := by rw [show (i : Int).toNat = i by omega, List.getElem?_map, hx]; rfl
      have hxm := List.mem_of_getElem? hx
      have hxr := hr x hxm
      have hll := lineOf_len hxr
      have hst : l.take (i + 1) = l.take i ++ [x] := by rw [List.take_add_one, hx]; rfl
      have hline := Line_ct x.1 x.2.1 x.2.2
      by_cases hok : okOf x = true
      · have hok' : okL x.1 x.2.1 x.2.2 = true := hok
        rw [if_pos hok', if_pos hok'] at hline
        have hall : (l.take (i + 1)).all okOf = true := by rw [hst, List.all_append, h2]; simp [hok]
        (conv => whnf); refine And.intro (by omega) ?_
        (conv => whnf); refine Idx.mk _ hg ?_
        (conv => whnf); refine (hline).use ?_
        (conv => whnf); refine And.intro (show (lineOf x).length + 1 ≤ _ by omega) ?_
        (conv => whnf); refine (WriteF_ct (lineOf x ++ [10]) (by rw [List.length_append]; show _ + 1 ≤ _; omega)).use ?_
        (conv => whnf); refine And.intro (by first | omega | (dsimp only [List.length, cond]; omega) | (show (-9223372036854775808 : Int) ≤ _ ∧ _ ≤ (9223372036854775807 : Int); omega) | decide) ?_
        (conv => whnf)
        refine ⟨l.length - (i + 1), by omega, i + 1, rfl, .inr ⟨by omega, ?_⟩, by omega, hall, rfl⟩
        have e : txt (l.take (i + 1)) = lineOf x ++ [10] := by
          rw [hst, txt_snoc, show l.take i = [] by rw [h0]; rfl]; rfl
        rw [e]; rfl
      · have hok' : ¬ okL x.1 x.2.1 x.2.2 = true := hok
        rw [if_neg hok', if_neg hok'] at hline
        have hall : ¬ l.all okOf = true := fun h => hok (List.all_eq_true.1 h x hxm)
        (conv => whnf); refine And.intro (by omega) ?_
        (conv => whnf); refine Idx.mk _ hg ?_
        (conv => whnf); refine (hline).use ?_
        refine Is2.mk ?_
        rw [if_neg (fun h => hall h.1), if_neg hall]
    · have hil : i = l.length := by omega
      have htk : l.take i = l := List.take_of_length_le (by omega)
      rw [htk] at h2 
      rw [if_pos h2]
      (conv => whnf); refine cond_d (fun h4 => ?_) (fun h4 => ?_)
      · have hn : ¬ (l.length ≤ 4096 ∧ (txt l).length ≤ 131072) := fun h => by omega
        refine Is2.mk ?_
        rw [if_neg (fun h => hn h.2), if_neg hn]
      · have hl0 : l = [] := by
          apply List.length_eq_zero_iff.1; omega
        (conv => whnf); refine (LenF_ct).use ?_
        (conv => whnf); refine (StringF_ct).use ?_
        refine Is2.mk ?_
        rw [hl0, if_pos ⟨rfl, by decide, by decide⟩, if_pos ⟨by decide, by decide⟩]; rfl
  · (conv => whnf); refine cond_d (fun h3 => ?_) (fun h3 => ?_)
    · have hi : i < l.length := by omega
      obtain ⟨x, hx⟩ : ∃ x, l[i]? = some x := ⟨_, List.getElem?_eq_getElem hi⟩
      have hg : (l.map stD)[(i : Int).toNat]? = some (stD x) := by rw [show (i : Int).toNat = i by omega, List.getElem?_map, hx]; rfl
      have hxm := List.mem_of_getElem? hx
      have hxr := hr x hxm
      have hll := lineOf_len hxr
      have hst : l.take (i + 1) = l.take i ++ [x] := by rw [List.take_add_one, hx]; rfl
      have hline := Line_ct x.1 x.2.1 x.2.2
      by_cases hok : okOf x = true
      · have hok' : okL x.1 x.2.1 x.2.2 = true := hok
        rw [if_pos hok', if_pos hok'] at hline
        have hall : (l.take (i + 1)).all okOf = true := by rw [hst, List.all_append, h2]; simp [hok]
        (conv => whnf); refine And.intro (by omega) ?_
        (conv => whnf); refine Idx.mk _ hg ?_
        (conv => whnf); refine (hline).use ?_
        (conv => whnf); refine And.intro (show (lineOf x).length + 1 ≤ _ by omega) ?_
        (conv => whnf); refine (Write_ct (txt (l.take i)) (lineOf x ++ [10]) (by rw [List.length_append]; show _ + (_ + 1) ≤ _; omega)).use ?_
        (conv => whnf); refine And.intro (by first | omega | (dsimp only [List.length, cond]; omega) | (show (-9223372036854775808 : Int) ≤ _ ∧ _ ≤ (9223372036854775807 : Int); omega) | decide) ?_
        (conv => whnf)
        refine ⟨l.length - (i + 1), by omega, i + 1, rfl, .inr ⟨by omega, ?_⟩, by omega, hall, rfl⟩
        have e : txt (l.take (i + 1)) = txt (l.take i) ++ (lineOf x ++ [10]) := by rw [hst, txt_snoc]
        rw [e]; rfl
      · have hok' : ¬ okL x.1 x.2.1 x.2.2 = true := hok
        rw [if_neg hok', if_neg hok'] at hline
        have hall : ¬ l.all okOf = true := fun h => hok (List.all_eq_true.1 h x hxm)
        (conv => whnf); refine And.intro (by omega) ?_
        (conv => whnf); refine Idx.mk _ hg ?_
        (conv => whnf); refine (hline).use ?_
        refine Is2.mk ?_
        rw [if_neg (fun h => hall h.1), if_neg hall]
    · have hil : i = l.length := by omega
      have htk : l.take i = l := List.take_of_length_le (by omega)
      rw [htk] at h2 htl ⊢
      rw [if_pos h2]
      (conv => whnf); refine cond_d (fun h4 => ?_) (fun h4 => ?_)
      · have hn : ¬ (l.length ≤ 4096 ∧ (txt l).length ≤ 131072) := fun h => by omega
        refine Is2.mk ?_
        rw [if_neg (fun h => hn h.2), if_neg hn]
      · have hne : l ≠ [] := by intro h; rw [h] at hil; simp at hil; omega
        (conv => whnf); refine (Len_ct (txt l)).use ?_
        (conv => whnf); refine cond_d (fun h5 => ?_) (fun h5 => ?_)
        · have hn : ¬ (l.length ≤ 4096 ∧ (txt l).length ≤ 131072) := fun h => by omega
          refine Is2.mk ?_
          rw [if_neg (fun h => hn h.2), if_neg hn]
        · have hn : l.length ≤ 4096 ∧ (txt l).length ≤ 131072 := by omega
          (conv => whnf); refine (String_ct (txt l) (txt_ne hne)).use ?_
          refine Is2.mk ?_
          rw [if_pos ⟨h2, hn⟩, if_pos hn]
end Go.Proofs.YtklfieidipobpaaDoor.Txt
