/- Texts: a world in which the law's variables lie. -/
import Derived.Test.YtklfieidipobpaaDoorKDeedI
import Derived.Test.YtklfieidipobpaaDoorTie
import Derived.Lay
import Derived.LaidMore
import Derived.Deep.DeepLaidRun
import Derived.Test.YtklfieidipobpaaDoorKDeedE
set_option linter.unusedVariables false
set_option linter.unusedSimpArgs false
set_option linter.unnecessarySimpa false
set_option linter.unusedSectionVars false
set_option linter.all false
/- Texts: a world in which the law's variables lie. -/
namespace Go.Proofs.YtklfieidipobpaaDoor.Txt
open Go.V Go.RowKit
set_option maxRecDepth 100000
theorem laid_lines (os : Os) (args : Array Value) : laidMet Tryd.prog Rows.taleLinesRow.laid ((World.laidAll Tryd.prog os Rows.taleLinesRow.laid).forCall (fun _ _ => 0) ⟨#[], args, []⟩).memory :=
  laidMet_of_run3 8 (by kernel_rfl) (by kernel_rfl) (by kernel_rfl)
theorem str_bulk {I : Go.Eng.Imm} {H : Type} {b : ByteArray} {s : List UInt8} {d : DataW H} (h : RelD I (.string b) (.str s)) (hd : d = .lit (.string b.data.toList)) (hb : Rows.uptoBulkAll ([d] ++ []) ≤ 1048576) : s.length ≤ 2000000 := by
  cases h
  subst hd
  have e : (Go.Eng.strOf s).data.toList = s := Go.Eng.strOf_data s
  rw [e] at hb
  have e2 : Rows.uptoBulkAll ([DataW.lit (H := H) (.string s)] ++ []) = s.length + 1 := by simp [Rows.uptoBulkAll, Rows.uptoBulk]
  omega
theorem len_le {H : Type} : ∀ (l : List (DataW H)), l.length ≤ Rows.uptoBulkAll l
  | [] => Nat.zero_le _
  | x :: r => by
    have h1 : 1 ≤ Rows.uptoBulk x := by
      cases x with
      | lit y => cases y <;> simp [Rows.uptoBulk]
      | nil => simp [Rows.uptoBulk]
      | ptr d => simp [Rows.uptoBulk]
      | slice elems spare => simp [Rows.uptoBulk]
      | agg parts => simp [Rows.uptoBulk]
      | iface t d => simp [Rows.uptoBulk]
      | map entries => simp [Rows.uptoBulk]
      | held h => simp [Rows.uptoBulk]
    have h2 := len_le r
    simp only [Rows.uptoBulkAll, List.length_cons]; omega
theorem slice_bulk {P : Program} {I : Go.Eng.Imm} {H : Type} {enc : TypeId × Value → H} {W : World} {sp : Nat → Bool} {held : Bool} {t e : TypeId} {v : Value} {xs : List D} {d : DataW H} {ps : List MemPlace} (ht : P.underlying t = some (.slice e)) (hv : v.cells = #[v])
    (hd : DataW.Trod enc P W 0 sp held t v d ps) (h : RelD I v (.ro xs)) (hb : Rows.uptoBulkAll ([d] ++ []) ≤ 1048576) : xs.length ≤ 1048576 := by
  obtain ⟨fuel, hf⟩ := hd
  rw [hv] at hf
  rcases Deep.open_slice ht hf with ⟨h1, _⟩ | ⟨a, len, cap, m, n, D, Pl, h1, _, _, _, _, h2, _⟩
  · obtain rfl : v = .slice none 0 0 := by simpa using h1
    cases h with
    | ro hn => omega
  · obtain rfl : v = .slice (some a) len cap := by simpa using h1
    cases h with
    | ro hn =>
      rw [(Prod.mk.inj h2).1] at hb
      have h3 := len_le ((List.range len).map D)
      rw [List.length_map, List.length_range] at h3
      simp only [List.append_nil, Rows.uptoBulkAll, Rows.uptoBulk] at hb
      omega
end Go.Proofs.YtklfieidipobpaaDoor.Txt

/- Setups as lines: the fields of a setup, the reader's steps. -/
namespace Go.Proofs.YtklfieidipobpaaDoor.Txt
open Go.V Go.Num
open Go.Eng (wr HS Imm Ent strOf strOf_size strOf_data)
set_option maxRecDepth 100000
set_option maxHeartbeats 4000000
/-- A setup. -/
structure Su where
  d : Int
  e : Int
  w : Int
  lo : Int
  hi : Int
  mo : Int
  ed : List Int
abbrev suD (s : Su) : D := .agg [.int .i64 s.d, .int .i64 s.e, .int .i64 s.w, .int .i64 s.lo, .int .i64 s.hi, .int .i64 s.mo, .ro (s.ed.map (.int .i64))]
/-- The words of the fields. -/
def wDonors : List UInt8 := [100, 111, 110, 111, 114, 115]
def wEnough : List UInt8 := [101, 110, 111, 117, 103, 104]
def wWait : List UInt8 := [119, 97, 105, 116]
def wLow : List UInt8 := [108, 111, 119]
def wHigh : List UInt8 := [104, 105, 103, 104]
def wMost : List UInt8 := [109, 111, 115, 116]
def wEdges : List UInt8 := [101, 100, 103, 101, 115]
def fldC : List AV := [S wDonors, .ptr 0 0, S wEnough, .ptr 0 1, S wWait, .ptr 0 2, S wLow, .ptr 0 3, S wHigh, .ptr 0 4, S wMost, .ptr 0 5]
theorem fields_ct (c0 c1 c2 c3 c4 c5 c6 : D) : Ct Tryd.prog 30 [.ptr 0 0] [.vec 41 [.d c0, .d c1, .d c2, .d c3, .d c4, .d c5, .d c6]] (Is2 (.av 1 2 0 6) [.vec 41 [.d c0, .d c1, .d c2, .d c3, .d c4, .d c5, .d c6], .vec 72 fldC]) := by
  refine Ct.introF (E := E 31 1 [.tmp 2] [] [] []) tab_ok Tryd.call30 Tryd.func30 rfl rfl rfl rfl rfl (fun hin => ?_)
  (conv => whnf); refine DrawI.mkF 27 [[0], [3], [4], [5], [0], [7], [8], [9], [0], [11], [12], [13], [0], [15], [16], [17], [18], [0], [20], [21], [22], [23], [0], [25], [26], [27], [28]] (by decide +kernel) ?_
  repeat (first | refine DrawO.mkF _ (And.intro rfl rfl) ?_ | refine DrawO.mkF _ (Idx.mk _ rfl (And.intro rfl rfl)) ?_)
  exact Is2.mk rfl
abbrev rdO (ws : List (List UInt8)) (b : Bool) : V.Obj := .vec 76 [.d (.ro (ws.map D.str)), .d (.bool b)]
theorem next0_ct (b : Bool) : Ct Tryd.prog 50 [.ptr 0 0] [rdO [] b] (Is2 (S []) [rdO [] true]) := by
  refine Ct.introF (E := E 28 1 [.tmp 2] [] [] []) tab_ok Tryd.call50 Tryd.func50 rfl rfl rfl rfl rfl (fun hin => ?_)
  exact Is2.mk rfl
theorem next1_ct (w : List UInt8) (ws : List (List UInt8)) (b : Bool) (hl : ws.length ≤ 1000000000000) : Ct Tryd.prog 50 [.ptr 0 0] [rdO (w :: ws) b] (Is2 (S w) [rdO ws b]) := by
  refine Ct.introF (E := E 28 1 [.tmp 2] [] [] []) tab_ok Tryd.call50 Tryd.func50 rfl rfl rfl rfl rfl (fun hin => ?_)
  have hml : ((w :: ws).map D.str).length = ws.length + 1 := by rw [List.length_map, List.length_cons]
  (conv => whnf); refine And.intro (by decide) ?_
  (conv => whnf); refine Idx.mk _ rfl ?_
  (conv => whnf); refine Idx.mk _ rfl ?_
  (conv => whnf); refine And.intro ⟨⟨by omega, by omega⟩, fun x hx => ?_⟩ ?_
  · obtain ⟨y, _, rfl⟩ := List.mem_map.1 hx; rfl
  exact Is2.mk rfl
/-- The next word, and what is left. -/
def nxW (ws : List (List UInt8)) : List UInt8 := ws.headD []
def numW (s : List UInt8) : Bool := decide (Lib.itoa (atoiV s) = s)
theorem next_ct (ws : List (List UInt8)) (b : Bool) (hl : ws.length ≤ 1000000000000) : Ct Tryd.prog 50 [.ptr 0 0] [rdO ws b] (Is2 (S (nxW ws)) [rdO ws.tail (b || ws.isEmpty)]) := by
  cases ws with
  | nil =>
    have := next0_ct b
    rw [show (b || List.isEmpty ([] : List (List UInt8))) = true by cases b <;> rfl]
    exact this
  | cons w ws =>
    have := next1_ct w ws b (by simpa using Nat.le_of_succ_le hl)
    rw [show (b || List.isEmpty (w :: ws)) = b by cases b <;> rfl]
    exact this
theorem word_ct (ws : List (List UInt8)) (b : Bool) (s : List UInt8) (hl : ws.length ≤ 1000000000000) (hs : s ≠ []) : Ct Tryd.prog 34 [.ptr 0 0, S s] [rdO ws b] (Is2 (.tup []) [rdO ws.tail (b || !decide (nxW ws = s))]) := by
  refine Ct.introF (E := E 17 1 [] [] [] []) tab_ok Tryd.call34 Tryd.func34 rfl rfl rfl rfl rfl (fun hin => ?_)
  (conv => whnf); refine (next_ct ws b hl).use ?_
  (conv => whnf); refine cond_nd (fun h => ?_) (fun h => ?_)
  · (conv => whnf)
    refine Is2.mk' rfl ?_
    rw [decide_eq_false h]; simp
  · (conv => whnf)
    refine Is2.mk' rfl ?_
    rw [decide_eq_true h]
    have : ws.isEmpty = false := by
      cases ws with
      | nil => exact absurd h.symm hs
      | cons w ws => rfl
    rw [this]; simp
theorem num_ok {s : List UInt8} (h : numW s = true) : atoiB s = true := by
  have h1 : Lib.itoa (atoiV s) = s := of_decide_eq_true h
  obtain ⟨h2, h3⟩ := atoiV_rng s
  have h4 := atoi_itoa h2 h3
  rw [h1] at h4
  unfold atoiB; rw [h4]
theorem num_nil : numW [] = false := by
  unfold numW
  apply decide_eq_false
  intro h
  have h1 := num_ok (s := []) (decide_eq_true h)
  unfold atoiB at h1
  simp [Lib.atoiAll] at h1
theorem number_ct (ws : List (List UInt8)) (b : Bool) (hl : ws.length ≤ 1000000000000) (hn : (nxW ws).length ≤ 281474976710656) : Ct Tryd.prog 33 [.ptr 0 0] [rdO ws b] (Is2 (i64 (atoiV (nxW ws))) [rdO ws.tail (b || !numW (nxW ws))]) := by
  have hrng := atoiV_rng (nxW ws)
  have hI := Itoa_ct (atoiV (nxW ws))
  have hnum : ∀ c, c = (b || ws.isEmpty) → numW (nxW ws) = true → c = b := by
    rintro c rfl h
    cases ws with
    | nil => rw [show nxW [] = [] from rfl, num_nil] at h; cases h
    | cons w ws => simp
  have hA := Atoi_ct (nxW ws) hn
  obtain ⟨ab, hab⟩ : ∃ ab, ab = atoiB (nxW ws) := ⟨_, rfl⟩
  rw [← hab] at hA
  obtain ⟨c, hc⟩ : ∃ c, c = (b || ws.isEmpty) := ⟨_, rfl⟩
  have hN := next_ct ws b hl
  rw [← hc] at hN
  obtain ⟨nw, hnw⟩ : ∃ nw, nw = nxW ws := ⟨_, rfl⟩
  rw [← hnw] at hA hI hN hnum hrng ⊢
  have fin : ∀ c' : Bool, (c = true ∨ ab = false ∨ Lib.itoa (atoiV nw) ≠ nw) → (b || !numW nw) = true := by
    intro _ h
    cases hq : numW nw with
    | false => simp
    | true =>
      rcases h with h | h | h
      · rw [← hnum c hc hq, h]; rfl
      · rw [hnw] at hq; rw [num_ok hq] at hab; rw [hab] at h; cases h
      · exact absurd (of_decide_eq_true hq) h
  refine Ct.introF (E := E 31 1 [.tmp 2] [] [] []) tab_ok Tryd.call33 Tryd.func33 rfl rfl rfl rfl rfl (fun hin => ?_)
  refine hN.use ?_
  refine hA.use ?_
  cases c with
  | true =>
    (conv => whnf)
    refine Is2.mk' rfl ?_
    rw [fin true (.inl rfl)]
  | false =>
    cases ab with
    | false =>
      (conv => whnf)
      refine Is2.mk' rfl ?_
      rw [fin true (.inr (.inl rfl))]
    | true =>
      (conv => whnf); refine (hI).use ?_
      (conv => whnf)
      refine Is2.mk' rfl ?_
      have e : (!decide (Lib.itoa (atoiV nw) = nw)) = (b || !numW nw) := by
        cases hq : numW nw with
        | true =>
          have := hnum false hc hq
          rw [← this, decide_eq_true (of_decide_eq_true hq)]; rfl
        | false =>
          rw [decide_eq_false (of_decide_eq_false hq)]; simp
      rw [← e]
end Go.Proofs.YtklfieidipobpaaDoor.Txt

/- Plain laws of texts that are split at blanks. -/
namespace Go.Proofs.YtklfieidipobpaaDoor.Txt
open Go.V Go.Num
set_option maxRecDepth 100000
theorem sp_cut : ∀ (s : List UInt8), (32 : UInt8) ∉ s ∨ ∃ w r, (32 : UInt8) ∉ w ∧ s = w ++ 32 :: r
  | [] => .inl (by simp)
  | c :: s => by
    by_cases hc : c = 32
    · exact .inr ⟨[], s, by simp, by rw [hc]; rfl⟩
    · rcases sp_cut s with h | ⟨w, r, h, e⟩
      · left
        intro hm
        rcases List.mem_cons.1 hm with h1 | h1
        · exact hc h1.symm
        · exact h h1
      · refine .inr ⟨c :: w, r, fun hm => ?_, by rw [e]; rfl⟩
        rcases List.mem_cons.1 hm with h1 | h1
        · exact hc h1.symm
        · exact h h1
theorem sp_ind {P : List UInt8 → Prop} (h1 : ∀ w, (32 : UInt8) ∉ w → P w) (h2 : ∀ w r, (32 : UInt8) ∉ w → P r → P (w ++ 32 :: r)) (s : List UInt8) : P s := by
  obtain ⟨n, hn⟩ : ∃ n, s.length = n := ⟨_, rfl⟩
  induction n using Nat.strongRecOn generalizing s with
  | ind n ih =>
    rcases sp_cut s with h | ⟨w, r, h, rfl⟩
    · exact h1 s h
    · refine h2 w r h (ih r.length ?_ r rfl)
      rw [← hn, List.length_append, List.length_cons]; omega
theorem spS_len (s : List UInt8) : (spS s).length ≤ s.length + 1 := by
  refine sp_ind (P := fun s => (spS s).length ≤ s.length + 1) (fun w h => ?_) (fun w r h ih => ?_) s
  · rw [sp_no w h]; simp
  · rw [sp_at w r h]
    simp only [List.length_cons, List.length_append]
    omega
theorem spS_at (s : List UInt8) (i : Nat) : ((spS s).getD i []).length ≤ s.length := by
  by_cases hi : i < (spS s).length
  · have : (spS s).getD i [] ∈ spS s := by rw [List.getD_eq_getElem?_getD, List.getElem?_eq_getElem hi]; exact List.getElem_mem hi
    exact splitK_le _ _ _ _ this
  · rw [List.getD_eq_getElem?_getD, List.getElem?_eq_none (by omega)]; exact Nat.zero_le _
theorem spS_ne (s : List UInt8) : spS s ≠ [] := by
  intro h
  have := spl_ne [32] s (Lib.count s [32])
  rw [show Lib.splitK [32] 0 (Lib.count s [32]) s = spS s from rfl, h] at this
  cases this
/-- What was split is joined again. -/
theorem join_sp (s : List UInt8) : Lib.join (spS s) [32] = s := by
  refine sp_ind (P := fun s => Lib.join (spS s) [32] = s) (fun w h => ?_) (fun w r h ih => ?_) s
  · rw [sp_no w h, Lib.join_one]
  · rw [sp_at w r h, Lib.join_cons]
    cases hr : spS r with
    | nil => exact absurd hr (spS_ne r)
    | cons x xs =>
      rw [hr, Lib.join_cons] at ih
      show w ++ ([32] ++ x ++ Lib.joinTail [32] xs) = _
      rw [List.append_assoc, ih]; rfl
/-- What was joined is split again. -/
theorem sp_join : ∀ (ws : List (List UInt8)), ws ≠ [] → (∀ w ∈ ws, (32 : UInt8) ∉ w) → spS (Lib.join ws [32]) = ws
  | [], h, _ => absurd rfl h
  | [w], _, h => by rw [Lib.join_one, sp_no w (h w (List.mem_cons_self ..))]
  | w :: x :: xs, _, h => by
    have ih := sp_join (x :: xs) (by simp) (fun v hv => h v (List.mem_cons_of_mem _ hv))
    have e : Lib.join (w :: x :: xs) [32] = w ++ 32 :: Lib.join (x :: xs) [32] := by
      rw [Lib.join_cons, Lib.join_cons]
      show w ++ ([32] ++ x ++ Lib.joinTail [32] xs) = _
      rw [List.append_assoc]; rfl
    rw [e, sp_at w _ (h w (List.mem_cons_self ..)), ih]
end Go.Proofs.YtklfieidipobpaaDoor.Txt

/- Setups as lines: a line is read. -/
namespace Go.Proofs.YtklfieidipobpaaDoor.Txt
open Go.V Go.Num
open Go.Eng (wr HS Imm Ent strOf strOf_size strOf_data)
set_option maxRecDepth 100000
set_option maxHeartbeats 4000000
/-- Nil slices within a struct that is given back beside a number, as empty ones. -/
theorem Ct.nlR {P : Program} {f : FuncId} {vs : List AV} {x y : D} (h : Ct P f vs [] (Is2 (.tup [.d x, .d y]) [])) : Ct P f vs [] (Is2 (.tup [.d (nlD x), .d y]) []) := by
  refine ⟨h.call, fun I ρ us L a b c w F hw => (h.run I ρ us L a b c w F hw).mono fun ex w' ⟨v, I', L', he, hle, hp, hs⟩ => ?_⟩
  obtain ⟨ρ', r, os', r1, r2, r3, r4, r5, h1, h2⟩ := hp
  subst h1; subst h2
  refine ⟨v, I', L', he, hle, ⟨ρ', _, [], ?_, r2, r3, r4, r5, rfl, rfl⟩, hs⟩
  cases r1 with
  | @tup us' _ hl hx =>
    refine .tup hl (fun j u z hj hz => ?_)
    match j, hj, hz with
    | 0, hj, hz =>
      have := hx 0 u (.d x) hj rfl
      cases hz
      cases this with | d this => exact .d (nlD_ok this)
    | 1, hj, hz => exact hx 1 u z hj hz
    | j + 2, _, hz => simp at hz
theorem nx_drop (ws : List (List UInt8)) (n : Nat) : nxW (ws.drop n) = ws.getD n [] := by
  unfold nxW
  rw [List.headD_eq_head?_getD, List.head?_drop, List.getD_eq_getElem?_getD]
theorem tl_drop (ws : List (List UInt8)) (n : Nat) : (ws.drop n).tail = ws.drop (n + 1) := by rw [List.tail_drop]
/-- The word of a field, and whether a field is there as it should be. -/
def fwS : Nat → List UInt8
  | 0 => wDonors
  | 1 => wEnough
  | 2 => wWait
  | 3 => wLow
  | 4 => wHigh
  | _ => wMost
def okK (ws : List (List UInt8)) : Nat → Bool
  | 0 => true
  | k + 1 => okK ws k && (decide (ws.getD (2 * k) [] = fwS k) && numW (ws.getD (2 * k + 1) []))
def nmW (ws : List (List UInt8)) (i : Nat) : Int := atoiV (ws.getD i [])
def ok13 (ws : List (List UInt8)) : Bool := okK ws 6 && decide (ws.getD 12 [] = wEdges)
def nE (ws : List (List UInt8)) (j : Nat) : Bool := ok13 ws && ((ws.drop 13).take j).all numW
abbrev zeroO : V.Obj := .vec 41 [i64 0, i64 0, i64 0, i64 0, i64 0, i64 0, .d .nils]
/-- The fields that are read: as many as k. -/
abbrev outC (ws : List (List UInt8)) (k : Nat) (e : AV) : V.Obj := .vec 41 [i64 (if 0 < k then nmW ws 1 else 0), i64 (if 1 < k then nmW ws 3 else 0), i64 (if 2 < k then nmW ws 5 else 0), i64 (if 3 < k then nmW ws 7 else 0), i64 (if 4 < k then nmW ws 9 else 0), i64 (if 5 < k then nmW ws 11 else 0), e]
abbrev fldV (l : Nat) : V.Obj := .vec 72 [S wDonors, .ptr l 0, S wEnough, .ptr l 1, S wWait, .ptr l 2, S wLow, .ptr l 3, S wHigh, .ptr l 4, S wMost, .ptr l 5]
theorem step_ok (ws : List (List UInt8)) (k : Nat) : ((!okK ws k || !decide (nxW (ws.drop (2 * k)) = fwS k)) || !numW (nxW (ws.drop (2 * k)).tail)) = !okK ws (k + 1) := by
  rw [tl_drop, nx_drop, nx_drop]
  show _ = !(okK ws k && (decide _ && numW _))
  cases okK ws k <;> simp
def goodW (ws : List (List UInt8)) : Bool := ok13 ws && (decide ((ws.drop 13).length ≤ 64) && (ws.drop 13).all numW)
def edL (ws : List (List UInt8)) : List Int := (ws.drop 13).map atoiV
def edD (ws : List (List UInt8)) : D := match edL ws with
  | [] => .nils
  | l => .ro (l.map (.int .i64))
/-- The setup that words say. -/
def suW (ws : List (List UInt8)) : Su := ⟨nmW ws 1, nmW ws 3, nmW ws 5, nmW ws 7, nmW ws 9, nmW ws 11, edL ws⟩
def su0 : Su := ⟨0, 0, 0, 0, 0, 0, []⟩
abbrev z0 : D := .agg [.int .i64 0, .int .i64 0, .int .i64 0, .int .i64 0, .int .i64 0, .int .i64 0, .nils]
abbrev r0 (ws : List (List UInt8)) (e : D) : D := .agg [.int .i64 (nmW ws 1), .int .i64 (nmW ws 3), .int .i64 (nmW ws 5), .int .i64 (nmW ws 7), .int .i64 (nmW ws 9), .int .i64 (nmW ws 11), e]
theorem nE_succ {ws : List (List UInt8)} {j : Nat} (h : 13 + j < ws.length) : nE ws (j + 1) = (nE ws j && numW (ws.getD (13 + j) [])) := by
  unfold nE
  rw [List.take_add_one, List.all_append, List.getElem?_drop, List.getElem?_eq_getElem h, List.getD_eq_getElem?_getD, List.getElem?_eq_getElem h]
  cases ok13 ws <;> simp
theorem nE_bad {ws : List (List UInt8)} {j : Nat} (h : nE ws j = false) : goodW ws = false := by
  cases hg : goodW ws with
  | false => rfl
  | true =>
    unfold goodW at hg
    simp only [Bool.and_eq_true] at hg
    have : nE ws j = true := by
      unfold nE
      rw [hg.1, Bool.true_and, List.all_eq_true]
      exact fun x hx => List.all_eq_true.1 hg.2.2 x (List.mem_of_mem_take hx)
    rw [this] at h; cases h
theorem nE_good {ws : List (List UInt8)} {j : Nat} (h : nE ws j = true) (hj : (ws.drop 13).length ≤ j) (h64 : (ws.drop 13).length ≤ 64) : goodW ws = true := by
  unfold nE at h
  rw [List.take_of_length_le hj, Bool.and_eq_true] at h
  unfold goodW
  rw [h.1, h.2, decide_eq_true h64]; rfl
theorem ed_take {ws : List (List UInt8)} {j : Nat} (h : 13 + j < ws.length) : (edL ws).take (j + 1) = (edL ws).take j ++ [atoiV (ws.getD (13 + j) [])] := by
  unfold edL
  rw [List.take_add_one, List.getElem?_map, List.getElem?_drop, List.getElem?_eq_getElem h, List.getD_eq_getElem?_getD, List.getElem?_eq_getElem h]; rfl
theorem Read_w (s : List UInt8) (hs : s.length < 4294967281) : Ct Tryd.prog 17 [S s] [] (fun r os => ∃ x : D, r = .tup [.d x, i64 (if goodW (spS s) = true then 0 else 5)] ∧ os = [] ∧ x = if goodW (spS s) = true then r0 (spS s) (edD (spS s)) else z0) := by
  refine Ct.introF (E := E 68 0 [.cell 2 41, .tmp 3] [(10, [2, 4, 5, 6])] [(5, [2, 4, 5, 6, 15, 16, 17]), (13, [2, 4, 5, 6])] []) tab_ok Tryd.call17 Tryd.func17 rfl rfl rfl rfl rfl (fun hin => ?_)
  (conv => whnf); refine (Split_ct s hs).use ?_
  obtain ⟨ws, hws⟩ : ∃ ws, ws = spS s := ⟨_, rfl⟩
  have hwl : ws.length ≤ 4294967296 := by rw [hws]; exact Nat.le_trans (spS_len s) (by omega)
  have hlen : ∀ i, (ws.getD i []).length ≤ s.length := fun i => by rw [hws]; exact spS_at s i
  rw [← hws]
  (conv => whnf); refine JoinI.mk (fun vs os => vs = [.ptr 0 0, .ptr 1 0, .ptr 2 0, .fn 33 [.ptr 1 0] []] ∧ os = [zeroO, rdO (ws.drop 12) (!okK ws 6), outC ws 6 (.d .nils)]) ?_ ?_
  · (conv => whnf); refine (fields_ct (.int .i64 0) (.int .i64 0) (.int .i64 0) (.int .i64 0) (.int .i64 0) (.int .i64 0) .nils).use ?_
    (conv => whnf); refine LoopI.mk (fun q vs os => ∃ k : Nat, vs = [.ptr 0 0, .ptr 1 0, .ptr 2 0, .fn 33 [.ptr 1 0] [], .av 3 2 0 6, i64 6, i64 k] ∧ os = [zeroO, rdO (ws.drop (2 * k)) (!okK ws k), outC ws k (.d .nils), fldV 2] ∧ k ≤ 6 ∧ q = 6 - k) 6 ⟨0, rfl, rfl, by decide, rfl⟩ ?_
    rintro q vs os ⟨k, hvs, hos, hk, hq⟩
    have hw1 : (ws.drop (2 * k)).length ≤ 1000000000000 := by rw [List.length_drop]; omega
    have hw2 : (ws.drop (2 * k)).tail.length ≤ 1000000000000 := by rw [tl_drop, List.length_drop]; omega
    have hn : (nxW (ws.drop (2 * k)).tail).length ≤ 281474976710656 := by rw [tl_drop, nx_drop]; have := hlen (2 * k + 1); omega
    have hnv : atoiV (nxW (ws.drop (2 * k)).tail) = nmW ws (2 * k + 1) := by rw [tl_drop, nx_drop]; rfl
    have hst := step_ok ws k
    have htl : (ws.drop (2 * k)).tail.tail = ws.drop (2 * (k + 1)) := by rw [tl_drop, tl_drop]; rfl
    have hW := word_ct (ws.drop (2 * k)) (!okK ws k) (fwS k) hw1 (by unfold fwS; split <;> decide)
    have hN := number_ct (ws.drop (2 * k)).tail (!okK ws k || !decide (nxW (ws.drop (2 * k)) = fwS k)) hw2 hn
    rw [hnv, hst, htl] at hN
    have hk' : k = 0 ∨ k = 1 ∨ k = 2 ∨ k = 3 ∨ k = 4 ∨ k = 5 ∨ k = 6 := by omega
    rcases hk' with rfl | rfl | rfl | rfl | rfl | rfl | rfl
    all_goals (subst hvs; subst hos; subst hq)
    · (conv => whnf); refine And.intro (by decide) ?_
      (conv => whnf); refine (hW).use ?_
      (conv => whnf); refine DrawI.mixF [⟨[(0, true, [8]), (1, true, [25]), (2, true, [6])], [], some (3, [27])⟩, ⟨[(0, false, [8]), (1, false, [25]), (4, true, [26])], [], some (5, [28, 29])⟩, ⟨[], [], none⟩] [] (by decide +kernel) ?_
      repeat (first | refine DrawO.mkF _ (And.intro rfl rfl) ?_ | refine DrawO.mkF _ (Idx.mk _ rfl (And.intro rfl rfl)) ?_ | refine And.intro rfl ?_)
      (conv => whnf); refine (hN).use ?_
      repeat (first | refine DrawO.mkF _ (And.intro rfl rfl) ?_ | refine DrawO.mkF _ (Idx.mk _ rfl (And.intro rfl rfl)) ?_ | refine And.intro rfl ?_)
      (conv => whnf); refine And.intro (by first | omega | (dsimp only [List.length, cond]; omega) | (show (-9223372036854775808 : Int) ≤ _ ∧ _ ≤ (9223372036854775807 : Int); omega) | decide) ?_
      (conv => whnf)
      exact ⟨5, by decide, 1, rfl, rfl, by decide, rfl⟩
    · (conv => whnf); refine And.intro (by decide) ?_
      (conv => whnf); refine (hW).use ?_
      (conv => whnf); refine DrawI.mixF [⟨[(0, true, [8]), (1, true, [25]), (2, true, [6])], [], some (3, [27])⟩, ⟨[(0, false, [8]), (1, false, [25]), (4, true, [26])], [], some (5, [28, 29])⟩, ⟨[], [], none⟩] [] (by decide +kernel) ?_
      repeat (first | refine DrawO.mkF _ (And.intro rfl rfl) ?_ | refine DrawO.mkF _ (Idx.mk _ rfl (And.intro rfl rfl)) ?_ | refine And.intro rfl ?_)
      (conv => whnf); refine (hN).use ?_
      repeat (first | refine DrawO.mkF _ (And.intro rfl rfl) ?_ | refine DrawO.mkF _ (Idx.mk _ rfl (And.intro rfl rfl)) ?_ | refine And.intro rfl ?_)
      (conv => whnf); refine And.intro (by first | omega | (dsimp only [List.length, cond]; omega) | (show (-9223372036854775808 : Int) ≤ _ ∧ _ ≤ (9223372036854775807 : Int); omega) | decide) ?_
      (conv => whnf)
      exact ⟨4, by decide, 2, rfl, rfl, by decide, rfl⟩
    · (conv => whnf); refine And.intro (by decide) ?_
      (conv => whnf); refine (hW).use ?_
      (conv => whnf); refine DrawI.mixF [⟨[(0, true, [8]), (1, true, [25]), (2, true, [6])], [], some (3, [27])⟩, ⟨[(0, false, [8]), (1, false, [25]), (4, true, [26])], [], some (5, [28, 29])⟩, ⟨[], [], none⟩] [] (by decide +kernel) ?_
      repeat (first | refine DrawO.mkF _ (And.intro rfl rfl) ?_ | refine DrawO.mkF _ (Idx.mk _ rfl (And.intro rfl rfl)) ?_ | refine And.intro rfl ?_)
      (conv => whnf); refine (hN).use ?_
      repeat (first | refine DrawO.mkF _ (And.intro rfl rfl) ?_ | refine DrawO.mkF _ (Idx.mk _ rfl (And.intro rfl rfl)) ?_ | refine And.intro rfl ?_)
      (conv => whnf); refine And.intro (by first | omega | (dsimp only [List.length, cond]; omega) | (show (-9223372036854775808 : Int) ≤ _ ∧ _ ≤ (9223372036854775807 : Int); omega) | decide) ?_
      (conv => whnf)
      exact ⟨3, by decide, 3, rfl, rfl, by decide, rfl⟩
    · (conv => whnf); refine And.intro (by decide) ?_
      (conv => whnf); refine (hW).use ?_
      (conv => whnf); refine DrawI.mixF [⟨[(0, true, [8]), (1, true, [25]), (2, true, [6])], [], some (3, [27])⟩, ⟨[(0, false, [8]), (1, false, [25]), (4, true, [26])], [], some (5, [28, 29])⟩, ⟨[], [], none⟩] [] (by decide +kernel) ?_
      repeat (first | refine DrawO.mkF _ (And.intro rfl rfl) ?_ | refine DrawO.mkF _ (Idx.mk _ rfl (And.intro rfl rfl)) ?_ | refine And.intro rfl ?_)
      (conv => whnf); refine (hN).use ?_
      repeat (first | refine DrawO.mkF _ (And.intro rfl rfl) ?_ | refine DrawO.mkF _ (Idx.mk _ rfl (And.intro rfl rfl)) ?_ | refine And.intro rfl ?_)
      (conv => whnf); refine And.intro (by first | omega | (dsimp only [List.length, cond]; omega) | (show (-9223372036854775808 : Int) ≤ _ ∧ _ ≤ (9223372036854775807 : Int); omega) | decide) ?_
      (conv => whnf)
      exact ⟨2, by decide, 4, rfl, rfl, by decide, rfl⟩
    · (conv => whnf); refine And.intro (by decide) ?_
      (conv => whnf); refine (hW).use ?_
      (conv => whnf); refine DrawI.mixF [⟨[(0, true, [8]), (1, true, [25]), (2, true, [6])], [], some (3, [27])⟩, ⟨[(0, false, [8]), (1, false, [25]), (4, true, [26])], [], some (5, [28, 29])⟩, ⟨[], [], none⟩] [] (by decide +kernel) ?_
      repeat (first | refine DrawO.mkF _ (And.intro rfl rfl) ?_ | refine DrawO.mkF _ (Idx.mk _ rfl (And.intro rfl rfl)) ?_ | refine And.intro rfl ?_)
      (conv => whnf); refine (hN).use ?_
      repeat (first | refine DrawO.mkF _ (And.intro rfl rfl) ?_ | refine DrawO.mkF _ (Idx.mk _ rfl (And.intro rfl rfl)) ?_ | refine And.intro rfl ?_)
      (conv => whnf); refine And.intro (by first | omega | (dsimp only [List.length, cond]; omega) | (show (-9223372036854775808 : Int) ≤ _ ∧ _ ≤ (9223372036854775807 : Int); omega) | decide) ?_
      (conv => whnf)
      exact ⟨1, by decide, 5, rfl, rfl, by decide, rfl⟩
    · (conv => whnf); refine And.intro (by decide) ?_
      (conv => whnf); refine (hW).use ?_
      (conv => whnf); refine DrawI.mixF [⟨[(0, true, [8]), (1, true, [25]), (2, true, [6])], [], some (3, [27])⟩, ⟨[(0, false, [8]), (1, false, [25]), (4, true, [26])], [], some (5, [28, 29])⟩, ⟨[], [], none⟩] [] (by decide +kernel) ?_
      repeat (first | refine DrawO.mkF _ (And.intro rfl rfl) ?_ | refine DrawO.mkF _ (Idx.mk _ rfl (And.intro rfl rfl)) ?_ | refine And.intro rfl ?_)
      (conv => whnf); refine (hN).use ?_
      repeat (first | refine DrawO.mkF _ (And.intro rfl rfl) ?_ | refine DrawO.mkF _ (Idx.mk _ rfl (And.intro rfl rfl)) ?_ | refine And.intro rfl ?_)
      (conv => whnf); refine And.intro (by first | omega | (dsimp only [List.length, cond]; omega) | (show (-9223372036854775808 : Int) ≤ _ ∧ _ ≤ (9223372036854775807 : Int); omega) | decide) ?_
      (conv => whnf)
      exact ⟨0, by decide, 6, rfl, rfl, by decide, rfl⟩
    · (conv => whnf)
      exact ⟨rfl, rfl⟩
  · rintro _ _ ⟨rfl, rfl⟩
    have hW := word_ct (ws.drop 12) (!okK ws 6) wEdges (by rw [List.length_drop]; omega) (by decide)
    have hb13 : (!okK ws 6 || !decide (nxW (ws.drop 12) = wEdges)) = !ok13 ws := by
      rw [nx_drop]
      unfold ok13
      cases okK ws 6 <;> simp
    rw [hb13, tl_drop, show 12 + 1 = 13 from rfl] at hW
    (conv => whnf); refine (hW).use ?_
    have hdl : (ws.drop 13).length = ws.length - 13 := List.length_drop ..
    have hml : ((ws.drop 13).map D.str).length = (ws.drop 13).length := List.length_map _
    (conv => whnf); refine cond_d (fun h3 => ?_) (fun h3 => ?_)
    · have hg : goodW ws = false := by
        unfold goodW
        rw [decide_eq_false (by omega)]; simp
      (conv => whnf)
      rw [hg]
      exact ⟨_, rfl, rfl, rfl⟩
    have hml2 : ∀ j, ((ws.drop j).map D.str).length = ws.length - j := fun j => by rw [List.length_map, List.length_drop]
    have hed : (edL ws).length = ws.length - 13 := by unfold edL; rw [List.length_map, hdl]
    (conv => whnf); refine LoopI.mk (fun q vs os => ∃ j : Nat, vs = [.ptr 0 0, .ptr 1 0, .ptr 2 0, .fn 33 [.ptr 1 0] []] ∧ ((j = 0 ∧ os = [zeroO, rdO (ws.drop 13) (!ok13 ws), outC ws 6 (.d .nils)]) ∨
      (0 < j ∧ os = [zeroO, rdO (ws.drop (13 + j)) (!nE ws j), outC ws 6 (.sl 3), .row 3 1 (((edL ws).take j).map (.int .i64))])) ∧ j ≤ ws.length - 13 ∧ q = ws.length - 13 - j) (ws.length - 13) ⟨0, rfl, .inl ⟨rfl, rfl⟩, Nat.zero_le _, rfl⟩ ?_
    rintro q vs os ⟨j, rfl, hos, h4, rfl⟩
    have hn := nx_drop ws (13 + j)
    have hN := number_ct (ws.drop (13 + j)) (!nE ws j) (by rw [List.length_drop]; omega) (by rw [hn]; have := hlen (13 + j); omega)
    rw [tl_drop, hn] at hN
    obtain ⟨g, hg⟩ : ∃ g, g = nE ws j := ⟨_, rfl⟩
    rw [← hg] at hN
    rcases hos with ⟨h0, rfl⟩ | ⟨h0, rfl⟩
    · have hg13 : ok13 ws = g := by rw [hg, h0]; unfold nE; simp
      rw [show ws.drop (13 + j) = ws.drop 13 by rw [h0]] at hN
      rw [hg13]
      (conv => whnf); refine cond_d (fun h5 => ?_) (fun h5 => ?_)
      · have hjl : 13 + j < ws.length := by have := hml2 13; omega
        cases g with
        | true =>
          have hs1 := nE_succ hjl
          rw [← hg, Bool.true_and] at hs1
          rw [Bool.not_true, Bool.false_or, ← hs1] at hN
          (conv => whnf); refine DrawI.mixF [⟨[(0, true, [5]), (1, true, [53]), (2, true, [54]), (3, true, [6])], [], some (4, [56])⟩, ⟨[(0, false, [5]), (1, false, [53]), (2, false, [54])], [], some (5, [57])⟩, ⟨[(0, false, [5]), (1, false, [53]), (2, false, [54])], [], some (6, [55, 58])⟩, ⟨[(7, true, [5]), (8, true, [60])], [], some (9, [59, 61])⟩, ⟨[], [], none⟩] [] (by decide +kernel) ?_
          repeat (first | refine DrawO.mkF _ (And.intro rfl rfl) ?_ | refine DrawO.mkF _ (Idx.mk _ rfl (And.intro rfl rfl)) ?_ | refine And.intro rfl ?_)
          (conv => whnf); refine (hN).use ?_
          repeat (first | refine DrawO.mkF _ (And.intro rfl rfl) ?_ | refine DrawO.mkF _ (Idx.mk _ rfl (And.intro rfl rfl)) ?_ | refine And.intro rfl ?_)
          repeat (first | refine DrawO.mkF _ (And.intro rfl rfl) ?_ | refine DrawO.mkF _ (Idx.mk _ rfl (And.intro rfl rfl)) ?_ | refine And.intro rfl ?_)
          repeat (first | refine DrawO.mkF _ (And.intro rfl rfl) ?_ | refine DrawO.mkF _ (Idx.mk _ rfl (And.intro rfl rfl)) ?_ | refine And.intro rfl ?_)
          (conv => whnf); refine And.intro ⟨show (0 + 1) * 8 ≤ 140737488355328 by decide, fun y hy => by rw [List.mem_singleton.1 hy]; rfl⟩ ?_
          repeat (first | refine DrawO.mkF _ (And.intro rfl rfl) ?_ | refine DrawO.mkF _ (Idx.mk _ rfl (And.intro rfl rfl)) ?_ | refine And.intro rfl ?_)
          (conv => whnf)
          have e : ((edL ws).take (j + 1)).map (D.int .i64) = [D.int .i64 (atoiV (ws.getD (13 + j) []))] := by rw [ed_take hjl, show (edL ws).take j = [] by rw [h0]; rfl]; rfl
          refine ⟨ws.length - 13 - (j + 1), by omega, j + 1, rfl, .inr ⟨by omega, ?_⟩, by omega, rfl⟩
          rw [e]; rfl
        | false =>
          have hgw := nE_bad hg.symm
          (conv => whnf)
          rw [hgw]
          exact ⟨_, rfl, rfl, rfl⟩
      · have hjl : ws.length - 13 ≤ j := by have := hml2 13; omega
        have hedn : edL ws = [] := List.eq_nil_of_length_eq_zero (by omega)
        cases g with
        | true =>
          have hgw := nE_good hg.symm (by omega) (by have := hml2 13; omega)
          (conv => whnf)
          rw [hgw]
          exact ⟨_, rfl, rfl, by unfold edD; rw [hedn]; rfl⟩
        | false =>
          have hgw := nE_bad hg.symm
          (conv => whnf)
          rw [hgw]
          exact ⟨_, rfl, rfl, rfl⟩
    · have hmj := hml2 (13 + j)
      rw [← hg]
      (conv => whnf); refine cond_d (fun h5 => ?_) (fun h5 => ?_)
      · have hjl : 13 + j < ws.length := by omega
        cases g with
        | true =>
          have hs1 := nE_succ hjl
          rw [← hg, Bool.true_and] at hs1
          rw [Bool.not_true, Bool.false_or, ← hs1] at hN
          have htl : (((edL ws).take j).map (D.int .i64)).length = j := by rw [List.length_map, List.length_take]; omega
          (conv => whnf); refine DrawI.mixF [⟨[(0, true, [5]), (1, true, [53]), (2, true, [54]), (3, true, [6])], [], some (4, [56])⟩, ⟨[(0, false, [5]), (1, false, [53]), (2, false, [54])], [], some (5, [57])⟩, ⟨[(0, false, [5]), (1, false, [53]), (2, false, [54])], [], some (6, [55, 58])⟩, ⟨[(7, true, [5]), (8, true, [60])], [], some (9, [59, 61])⟩, ⟨[], [], none⟩] [] (by decide +kernel) ?_
          repeat (first | refine DrawO.mkF _ (And.intro rfl rfl) ?_ | refine DrawO.mkF _ (Idx.mk _ rfl (And.intro rfl rfl)) ?_ | refine And.intro rfl ?_)
          (conv => whnf); refine (hN).use ?_
          repeat (first | refine DrawO.mkF _ (And.intro rfl rfl) ?_ | refine DrawO.mkF _ (Idx.mk _ rfl (And.intro rfl rfl)) ?_ | refine And.intro rfl ?_)
          repeat (first | refine DrawO.mkF _ (And.intro rfl rfl) ?_ | refine DrawO.mkF _ (Idx.mk _ rfl (And.intro rfl rfl)) ?_ | refine And.intro rfl ?_)
          repeat (first | refine DrawO.mkF _ (And.intro rfl rfl) ?_ | refine DrawO.mkF _ (Idx.mk _ rfl (And.intro rfl rfl)) ?_ | refine And.intro rfl ?_)
          (conv => whnf); refine And.intro ⟨show ((((edL ws).take j).map (D.int .i64)).length + 1) * 8 ≤ 140737488355328 by omega, fun y hy => by rw [List.mem_singleton.1 hy]; rfl⟩ ?_
          repeat (first | refine DrawO.mkF _ (And.intro rfl rfl) ?_ | refine DrawO.mkF _ (Idx.mk _ rfl (And.intro rfl rfl)) ?_ | refine And.intro rfl ?_)
          (conv => whnf)
          have e : ((edL ws).take (j + 1)).map (D.int .i64) = ((edL ws).take j).map (D.int .i64) ++ [D.int .i64 (atoiV (ws.getD (13 + j) []))] := by rw [ed_take hjl, List.map_append]; rfl
          refine ⟨ws.length - 13 - (j + 1), by omega, j + 1, rfl, .inr ⟨by omega, ?_⟩, by omega, rfl⟩
          rw [e]; rfl
        | false =>
          have hgw := nE_bad hg.symm
          (conv => whnf)
          rw [hgw]
          exact ⟨_, rfl, rfl, rfl⟩
      · have hjl : ws.length - 13 ≤ j := by omega
        have hta : (edL ws).take j = edL ws := List.take_of_length_le (by omega)
        have hedn : edD ws = .ro ((edL ws).map (.int .i64)) := by
          unfold edD
          cases he : edL ws with
          | nil => rw [he] at hed; simp at hed; omega
          | cons a b => rfl
        cases g with
        | true =>
          have hgw := nE_good hg.symm (by omega) (by have := hml2 13; omega)
          (conv => whnf)
          rw [hgw]
          exact ⟨_, rfl, rfl, by rw [hedn, hta]; rfl⟩
        | false =>
          have hgw := nE_bad hg.symm
          (conv => whnf)
          rw [hgw]
          exact ⟨_, rfl, rfl, rfl⟩
/-- The setup that a line is. -/
theorem Read30_ct (s : List UInt8) (hs : s.length < 4294967281) : Ct Tryd.prog 17 [S s] [] (Is2 (.tup [.d (suD (if goodW (spS s) = true then suW (spS s) else su0)), i64 (if goodW (spS s) = true then 0 else 5)]) []) := by
  have h : Ct Tryd.prog 17 [S s] [] (Is2 (.tup [.d (if goodW (spS s) = true then r0 (spS s) (edD (spS s)) else z0), i64 (if goodW (spS s) = true then 0 else 5)]) []) := by
    refine (Read_w s hs).mono ?_
    rintro r os ⟨x, rfl, rfl, rfl⟩
    exact ⟨rfl, rfl⟩
  have h2 := Ct.nlR h
  have e : nlD (if goodW (spS s) = true then r0 (spS s) (edD (spS s)) else z0) = suD (if goodW (spS s) = true then suW (spS s) else su0) := by
    split
    · show D.agg _ = D.agg _
      unfold edD suW
      cases he : edL (spS s) <;> rfl
    · rfl
  rw [e] at h2
  exact h2
end Go.Proofs.YtklfieidipobpaaDoor.Txt

/- Setups as lines: a setup is written. -/
namespace Go.Proofs.YtklfieidipobpaaDoor.Txt
open Go.V Go.Num
open Go.Eng (wr HS Imm Ent strOf strOf_size strOf_data)
set_option maxRecDepth 100000
set_option maxHeartbeats 4000000
theorem cells_strs : ∀ ws : List (List UInt8), cellsOf (ws.map D.str) = ws.map D.str
  | [] => rfl
  | x :: ws => by
    show [D.str x] ++ cellsOf (ws.map D.str) = _
    rw [cells_strs ws]; rfl
theorem Join_ct (ws : List (List UInt8)) (hne : ws ≠ []) (hl : ws.length ≤ 100000000) (hj : (Lib.join ws [32]).length ≤ 140737488355328) : Ct Tryd.prog 32 [.d (.ro (ws.map D.str)), S [32]] [] (Is2 (S (Lib.join ws [32])) []) := by
  refine Ct.ofD (ds := [.ro (ws.map D.str), .str [32]]) Tryd.call32 (fun I us F w hu g hw => ?_)
  obtain ⟨u, v, rfl, h1, h2⟩ := two_arg hu
  obtain ⟨rfl, h3⟩ := str_of h2
  cases h1 with
  | @ro A n c sz us _ hn hcc hm hz hr hlu ho hxx =>
    have hco := cells_strs ws
    rw [hco] at hlu hxx
    rw [List.length_map] at hn hlu
    have hus : ∀ (j : Nat) (x : List UInt8), ws[j]? = some x → us[j]? = some (.string (strOf x)) ∧ ∃ a, A = some a ∧ I.cell (a.add j) = some (.string (strOf x)) := by
      intro j x hx
      have hjl : j < us.length := by rw [hlu]; exact (List.getElem?_eq_some_iff.1 hx).1
      have h4 := hxx j us[j] (.str x) (List.getElem?_eq_getElem hjl) (by rw [List.getElem?_map, hx]; rfl)
      have h5 := (str_of h4).1
      have h6 : us[j]? = some (.string (strOf x)) := by rw [List.getElem?_eq_getElem hjl, h5]
      exact ⟨h6, hr j _ h6⟩
    have h0 : 0 < ws.length := List.length_pos_iff.2 hne
    obtain ⟨_, a, hA, hc0⟩ := hus 0 ws[0] (List.getElem?_eq_getElem h0)
    have hspot : a.spot = none := by
      unfold Imm.cell at hc0
      have e : a.add 0 = a := by simp [Addr.add]
      rw [e] at hc0
      cases hs : a.spot with
      | none => rfl
      | some k =>
        rw [hs] at hc0
        split at hc0 <;> simp at hc0
    have hadd : ∀ j, a.add j = ⟨a.block, a.off + j, none⟩ := by
      intro j
      unfold Addr.add
      split
      · next h => obtain ⟨b, o, s⟩ := a; simp only at hspot; subst hspot; subst h; rfl
      · rfl
    have ha : a = ⟨a.block, a.off, none⟩ := by have := hadd 0; rwa [show a.add 0 = a by simp [Addr.add]] at this
    have hcell : ∀ (j : Nat) (x : ByteArray), (ws.map strOf)[j]? = some x → w.cell? ⟨a.block, a.off + j, none⟩ = some (.string x) := by
      intro j x hx
      rw [List.getElem?_map] at hx
      cases hj2 : ws[j]? with
      | none => rw [hj2] at hx; cases hx
      | some y =>
        rw [hj2] at hx
        simp at hx
        subst hx
        obtain ⟨_, a', hA', hc⟩ := hus j y hj2
        rw [hA] at hA'
        cases hA'
        rw [hadd j] at hc
        exact hw.cell hc
    have hblk : a.block < w.heap.size := by
      have := hcell 0 (strOf ws[0]) (by rw [List.getElem?_map, List.getElem?_eq_getElem h0]; rfl)
      unfold World.cell? at this
      simp only at this
      cases hb : w.heap[a.block]? with
      | none => rw [hb] at this; simp at this
      | some o => exact (Array.getElem?_eq_some_iff.1 hb).1
    have hmap : (ws.map strOf).map (·.data.toList) = ws := by
      rw [List.map_map]
      have : ((fun x : ByteArray => x.data.toList) ∘ strOf) = id := funext fun x => strOf_data x
      rw [this, List.map_id]
    have hrun := Tryd.strings_Join a.block a.off c (ws.map strOf) (strOf [32]) w hcell hblk (by rw [List.length_map]; omega) (by rw [List.length_map]; omega) (by rw [hmap, strOf_data]; exact hj)
    rw [hmap, strOf_data, List.length_map] at hrun
    subst hA
    rw [ha]
    subst hn
    refine hrun.mono fun e w' ⟨he, hb⟩ => ?_
    exact ⟨_, I, he, Imm.le_refl _, .d (.str (s := Lib.join ws [32]) (by omega)), hw.below hb⟩
def fN (s : Su) : Nat → Int
  | 0 => s.d
  | 1 => s.e
  | 2 => s.w
  | 3 => s.lo
  | 4 => s.hi
  | _ => s.mo
/-- The words of a setup's first fields; all of them. -/
def wsK (s : Su) : Nat → List (List UInt8)
  | 0 => []
  | k + 1 => wsK s k ++ [fwS k, Lib.itoa (fN s k)]
def wsA (s : Su) : List (List UInt8) := (wsK s 6 ++ [wEdges]) ++ s.ed.map Lib.itoa
theorem wsK_len (s : Su) : ∀ k, (wsK s k).length = 2 * k
  | 0 => rfl
  | k + 1 => by unfold wsK; rw [List.length_append, wsK_len s k]; rfl
abbrev suC (s : Su) : V.Obj := .vec 41 [i64 s.d, i64 s.e, i64 s.w, i64 s.lo, i64 s.hi, i64 s.mo, .d (.ro (s.ed.map (.int .i64)))]
/-- All numbers of a setup are int's. -/
def SuIn (s : Su) : Prop := ∀ n ∈ [s.d, s.e, s.w, s.lo, s.hi, s.mo] ++ s.ed, -9223372036854775808 ≤ n ∧ n ≤ 9223372036854775807
theorem wsA_word {s : Su} (h : SuIn s) : ∀ w ∈ wsA s, w.length ≤ 30 := by
  have hi : ∀ n ∈ [s.d, s.e, s.w, s.lo, s.hi, s.mo] ++ s.ed, (Lib.itoa n).length ≤ 30 := fun n hn => by
    have := Lib.itoa_length_le n (h n hn).1 (h n hn).2
    omega
  have hf : ∀ k, (fwS k).length ≤ 30 := by intro k; unfold fwS; split <;> decide
  have hN : ∀ k, fN s k ∈ [s.d, s.e, s.w, s.lo, s.hi, s.mo] ++ s.ed := by intro k; unfold fN; split <;> simp
  have hK : ∀ k, ∀ w ∈ wsK s k, w.length ≤ 30 := by
    intro k
    induction k with
    | zero => intro w hw; cases hw
    | succ k ih =>
      intro w hw
      rcases List.mem_append.1 hw with hw | hw
      · exact ih w hw
      · rcases List.mem_cons.1 hw with rfl | hw
        · exact hf k
        · rw [List.mem_singleton.1 hw]; exact hi _ (hN k)
  intro w hw
  unfold wsA at hw
  rcases List.mem_append.1 hw with hw | hw
  · rcases List.mem_append.1 hw with hw | hw
    · exact hK 6 w hw
    · rw [List.mem_singleton.1 hw]; decide
  · obtain ⟨n, hn, rfl⟩ := List.mem_map.1 hw
    exact hi n (List.mem_append_right _ hn)
theorem lens_le : ∀ {l : List (List UInt8)}, (∀ w ∈ l, w.length ≤ 30) → Lib.lens l ≤ 30 * l.length
  | [], _ => Nat.le_refl _
  | w :: l, h => by
    have h1 := h w (List.mem_cons_self ..)
    have h2 := lens_le (l := l) (fun v hv => h v (List.mem_cons_of_mem _ hv))
    have e : Lib.lens (w :: l) = w.length + Lib.lens l := by simp [Lib.lens]
    rw [e, List.length_cons]; omega
theorem join_le {l : List (List UInt8)} (h : ∀ w ∈ l, w.length ≤ 30) : (Lib.join l [32]).length ≤ 31 * l.length := by
  cases l with
  | nil => exact Nat.zero_le _
  | cons x r =>
    have h1 := lens_le h
    rw [Lib.join_length]
    simp only [List.length_cons, List.length_nil] at h1 ⊢
    omega
theorem wsA_len (s : Su) : (wsA s).length = 13 + s.ed.length := by
  unfold wsA
  rw [List.length_append, List.length_append, wsK_len, List.length_map]; rfl
theorem wsA_ne (s : Su) : wsA s ≠ [] := by
  intro h
  have := wsA_len s
  rw [h] at this
  simp only [List.length_nil] at this
  omega
theorem Write30_ct (s : Su) (hl : s.ed.length ≤ 64) (hs : SuIn s) : Ct Tryd.prog 15 [.d (suD s)] [] (Is2 (.tup [S (Lib.join (wsA s) [32]), i64 0]) []) := by
  refine Ct.introF (E := E 50 0 [.tmp 2, .tmp 3] [] [(5, [1, 4, 14, 15, 16]), (11, [4, 36, 37, 38])] []) tab_ok Tryd.call15 Tryd.func15 rfl rfl rfl rfl rfl (fun hin => ?_)
  have hml : (s.ed.map (D.int .i64)).length = s.ed.length := List.length_map _
  (conv => whnf); refine cond_d (fun h3 => ?_) (fun h3 => ?_)
  · exfalso; omega
  (conv => whnf); refine (fields_ct (.int .i64 s.d) (.int .i64 s.e) (.int .i64 s.w) (.int .i64 s.lo) (.int .i64 s.hi) (.int .i64 s.mo) (.ro (s.ed.map (.int .i64)))).use ?_
  (conv => whnf); refine LoopI.mk (fun q vs os => ∃ k : Nat, ((k = 0 ∧ vs = [.ptr 0 0, .d .nils, .av 1 2 0 6, i64 6, i64 k] ∧ os = [suC s, fldV 0]) ∨ (0 < k ∧ vs = [.ptr 0 0, .sl 1, .av 2 2 0 6, i64 6, i64 k] ∧ os = [suC s, .row 9 1 ((wsK s k).map D.str), fldV 0])) ∧ k ≤ 6 ∧ q = 6 - k) 6 ⟨0, .inl ⟨rfl, rfl, rfl⟩, by decide, rfl⟩ ?_
  rintro q vs os ⟨k, hvo, hk, hq⟩
  have hk' : k = 0 ∨ k = 1 ∨ k = 2 ∨ k = 3 ∨ k = 4 ∨ k = 5 ∨ k = 6 := by omega
  have hI := Itoa_ct (fN s k)
  have hwk := wsK_len s k
  have hmk : ((wsK s k).map D.str).length = 2 * k := by rw [List.length_map, hwk]
  have hone : ∀ (a b : List UInt8), ∀ y ∈ [D.str a, D.str b], y.cells.length = 1 := fun a b y hy => by
    rcases List.mem_cons.1 hy with rfl | hy
    · rfl
    · rw [List.mem_singleton.1 hy]; rfl
  rcases hk' with rfl | rfl | rfl | rfl | rfl | rfl | rfl
  · rcases hvo with ⟨_, hvs, hos⟩ | ⟨h0, _, _⟩
    · subst hvs; subst hos; subst hq
      (conv => whnf); refine And.intro (by decide) ?_
      (conv => whnf); refine DrawI.mixF [⟨[(0, true, [4]), (1, true, [6]), (2, true, [21]), (3, true, [6]), (4, true, [23]), (5, true, [24]), (6, true, [25])], [], some (7, [26])⟩, ⟨[(0, false, [4]), (1, false, [6]), (2, false, [21])], [], some (8, [22, 27])⟩, ⟨[(0, false, [4])], [], some (9, [20, 28])⟩, ⟨[], [], some (10, [29])⟩, ⟨[], [], none⟩] [] (by decide +kernel) ?_
      repeat (first | refine DrawO.mkF _ (And.intro rfl rfl) ?_ | refine DrawO.mkF _ (Idx.mk _ rfl (And.intro rfl rfl)) ?_ | refine And.intro rfl ?_)
      (conv => whnf); refine (hI).use ?_
      repeat (first | refine DrawO.mkF _ (And.intro rfl rfl) ?_ | refine DrawO.mkF _ (Idx.mk _ rfl (And.intro rfl rfl)) ?_ | refine And.intro rfl ?_)
      repeat (first | refine DrawO.mkF _ (And.intro rfl rfl) ?_ | refine DrawO.mkF _ (Idx.mk _ rfl (And.intro rfl rfl)) ?_ | refine And.intro rfl ?_)
      (conv => whnf); refine And.intro ⟨show (0 + 2) * 16 ≤ 140737488355328 by decide, hone _ _⟩ ?_
      (conv => whnf); refine And.intro (by first | omega | (dsimp only [List.length, cond]; omega) | (show (-9223372036854775808 : Int) ≤ _ ∧ _ ≤ (9223372036854775807 : Int); omega) | decide) ?_
      (conv => whnf)
      exact ⟨5, by decide, 1, .inr ⟨by decide, rfl, rfl⟩, by decide, rfl⟩
    · omega
  · rcases hvo with ⟨h0, _, _⟩ | ⟨_, hvs, hos⟩
    · omega
    · subst hvs; subst hos; subst hq
      (conv => whnf); refine And.intro (by decide) ?_
      (conv => whnf); refine DrawI.mixF [⟨[(0, true, [4]), (1, true, [6]), (2, true, [21]), (3, true, [6]), (4, true, [23]), (5, true, [24]), (6, true, [25])], [], some (7, [26])⟩, ⟨[(0, false, [4]), (1, false, [6]), (2, false, [21])], [], some (8, [22, 27])⟩, ⟨[(0, false, [4])], [], some (9, [20, 28])⟩, ⟨[], [], some (10, [29])⟩, ⟨[], [], none⟩] [] (by decide +kernel) ?_
      repeat (first | refine DrawO.mkF _ (And.intro rfl rfl) ?_ | refine DrawO.mkF _ (Idx.mk _ rfl (And.intro rfl rfl)) ?_ | refine And.intro rfl ?_)
      (conv => whnf); refine (hI).use ?_
      repeat (first | refine DrawO.mkF _ (And.intro rfl rfl) ?_ | refine DrawO.mkF _ (Idx.mk _ rfl (And.intro rfl rfl)) ?_ | refine And.intro rfl ?_)
      repeat (first | refine DrawO.mkF _ (And.intro rfl rfl) ?_ | refine DrawO.mkF _ (Idx.mk _ rfl (And.intro rfl rfl)) ?_ | refine And.intro rfl ?_)
      (conv => whnf); refine And.intro ⟨show (((wsK s 1).map D.str).length + 2) * 16 ≤ 140737488355328 by omega, hone _ _⟩ ?_
      (conv => whnf); refine And.intro (by first | omega | (dsimp only [List.length, cond]; omega) | (show (-9223372036854775808 : Int) ≤ _ ∧ _ ≤ (9223372036854775807 : Int); omega) | decide) ?_
      (conv => whnf)
      refine ⟨4, by decide, 2, .inr ⟨by decide, rfl, ?_⟩, by decide, rfl⟩
      rw [show wsK s 2 = wsK s 1 ++ [fwS 1, Lib.itoa (fN s 1)] from rfl, List.map_append]; rfl
  · rcases hvo with ⟨h0, _, _⟩ | ⟨_, hvs, hos⟩
    · omega
    · subst hvs; subst hos; subst hq
      (conv => whnf); refine And.intro (by decide) ?_
      (conv => whnf); refine DrawI.mixF [⟨[(0, true, [4]), (1, true, [6]), (2, true, [21]), (3, true, [6]), (4, true, [23]), (5, true, [24]), (6, true, [25])], [], some (7, [26])⟩, ⟨[(0, false, [4]), (1, false, [6]), (2, false, [21])], [], some (8, [22, 27])⟩, ⟨[(0, false, [4])], [], some (9, [20, 28])⟩, ⟨[], [], some (10, [29])⟩, ⟨[], [], none⟩] [] (by decide +kernel) ?_
      repeat (first | refine DrawO.mkF _ (And.intro rfl rfl) ?_ | refine DrawO.mkF _ (Idx.mk _ rfl (And.intro rfl rfl)) ?_ | refine And.intro rfl ?_)
      (conv => whnf); refine (hI).use ?_
      repeat (first | refine DrawO.mkF _ (And.intro rfl rfl) ?_ | refine DrawO.mkF _ (Idx.mk _ rfl (And.intro rfl rfl)) ?_ | refine And.intro rfl ?_)
      repeat (first | refine DrawO.mkF _ (And.intro rfl rfl) ?_ | refine DrawO.mkF _ (Idx.mk _ rfl (And.intro rfl rfl)) ?_ | refine And.intro rfl ?_)
      (conv => whnf); refine And.intro ⟨show (((wsK s 2).map D.str).length + 2) * 16 ≤ 140737488355328 by omega, hone _ _⟩ ?_
      (conv => whnf); refine And.intro (by first | omega | (dsimp only [List.length, cond]; omega) | (show (-9223372036854775808 : Int) ≤ _ ∧ _ ≤ (9223372036854775807 : Int); omega) | decide) ?_
      (conv => whnf)
      refine ⟨3, by decide, 3, .inr ⟨by decide, rfl, ?_⟩, by decide, rfl⟩
      rw [show wsK s 3 = wsK s 2 ++ [fwS 2, Lib.itoa (fN s 2)] from rfl, List.map_append]; rfl
  · rcases hvo with ⟨h0, _, _⟩ | ⟨_, hvs, hos⟩
    · omega
    · subst hvs; subst hos; subst hq
      (conv => whnf); refine And.intro (by decide) ?_
      (conv => whnf); refine DrawI.mixF [⟨[(0, true, [4]), (1, true, [6]), (2, true, [21]), (3, true, [6]), (4, true, [23]), (5, true, [24]), (6, true, [25])], [], some (7, [26])⟩, ⟨[(0, false, [4]), (1, false, [6]), (2, false, [21])], [], some (8, [22, 27])⟩, ⟨[(0, false, [4])], [], some (9, [20, 28])⟩, ⟨[], [], some (10, [29])⟩, ⟨[], [], none⟩] [] (by decide +kernel) ?_
      repeat (first | refine DrawO.mkF _ (And.intro rfl rfl) ?_ | refine DrawO.mkF _ (Idx.mk _ rfl (And.intro rfl rfl)) ?_ | refine And.intro rfl ?_)
      (conv => whnf); refine (hI).use ?_
      repeat (first | refine DrawO.mkF _ (And.intro rfl rfl) ?_ | refine DrawO.mkF _ (Idx.mk _ rfl (And.intro rfl rfl)) ?_ | refine And.intro rfl ?_)
      repeat (first | refine DrawO.mkF _ (And.intro rfl rfl) ?_ | refine DrawO.mkF _ (Idx.mk _ rfl (And.intro rfl rfl)) ?_ | refine And.intro rfl ?_)
      (conv => whnf); refine And.intro ⟨show (((wsK s 3).map D.str).length + 2) * 16 ≤ 140737488355328 by omega, hone _ _⟩ ?_
      (conv => whnf); refine And.intro (by first | omega | (dsimp only [List.length, cond]; omega) | (show (-9223372036854775808 : Int) ≤ _ ∧ _ ≤ (9223372036854775807 : Int); omega) | decide) ?_
      (conv => whnf)
      refine ⟨2, by decide, 4, .inr ⟨by decide, rfl, ?_⟩, by decide, rfl⟩
      rw [show wsK s 4 = wsK s 3 ++ [fwS 3, Lib.itoa (fN s 3)] from rfl, List.map_append]; rfl
  · rcases hvo with ⟨h0, _, _⟩ | ⟨_, hvs, hos⟩
    · omega
    · subst hvs; subst hos; subst hq
      (conv => whnf); refine And.intro (by decide) ?_
      (conv => whnf); refine DrawI.mixF [⟨[(0, true, [4]), (1, true, [6]), (2, true, [21]), (3, true, [6]), (4, true, [23]), (5, true, [24]), (6, true, [25])], [], some (7, [26])⟩, ⟨[(0, false, [4]), (1, false, [6]), (2, false, [21])], [], some (8, [22, 27])⟩, ⟨[(0, false, [4])], [], some (9, [20, 28])⟩, ⟨[], [], some (10, [29])⟩, ⟨[], [], none⟩] [] (by decide +kernel) ?_
      repeat (first | refine DrawO.mkF _ (And.intro rfl rfl) ?_ | refine DrawO.mkF _ (Idx.mk _ rfl (And.intro rfl rfl)) ?_ | refine And.intro rfl ?_)
      (conv => whnf); refine (hI).use ?_
      repeat (first | refine DrawO.mkF _ (And.intro rfl rfl) ?_ | refine DrawO.mkF _ (Idx.mk _ rfl (And.intro rfl rfl)) ?_ | refine And.intro rfl ?_)
      repeat (first | refine DrawO.mkF _ (And.intro rfl rfl) ?_ | refine DrawO.mkF _ (Idx.mk _ rfl (And.intro rfl rfl)) ?_ | refine And.intro rfl ?_)
      (conv => whnf); refine And.intro ⟨show (((wsK s 4).map D.str).length + 2) * 16 ≤ 140737488355328 by omega, hone _ _⟩ ?_
      (conv => whnf); refine And.intro (by first | omega | (dsimp only [List.length, cond]; omega) | (show (-9223372036854775808 : Int) ≤ _ ∧ _ ≤ (9223372036854775807 : Int); omega) | decide) ?_
      (conv => whnf)
      refine ⟨1, by decide, 5, .inr ⟨by decide, rfl, ?_⟩, by decide, rfl⟩
      rw [show wsK s 5 = wsK s 4 ++ [fwS 4, Lib.itoa (fN s 4)] from rfl, List.map_append]; rfl
  · rcases hvo with ⟨h0, _, _⟩ | ⟨_, hvs, hos⟩
    · omega
    · subst hvs; subst hos; subst hq
      (conv => whnf); refine And.intro (by decide) ?_
      (conv => whnf); refine DrawI.mixF [⟨[(0, true, [4]), (1, true, [6]), (2, true, [21]), (3, true, [6]), (4, true, [23]), (5, true, [24]), (6, true, [25])], [], some (7, [26])⟩, ⟨[(0, false, [4]), (1, false, [6]), (2, false, [21])], [], some (8, [22, 27])⟩, ⟨[(0, false, [4])], [], some (9, [20, 28])⟩, ⟨[], [], some (10, [29])⟩, ⟨[], [], none⟩] [] (by decide +kernel) ?_
      repeat (first | refine DrawO.mkF _ (And.intro rfl rfl) ?_ | refine DrawO.mkF _ (Idx.mk _ rfl (And.intro rfl rfl)) ?_ | refine And.intro rfl ?_)
      (conv => whnf); refine (hI).use ?_
      repeat (first | refine DrawO.mkF _ (And.intro rfl rfl) ?_ | refine DrawO.mkF _ (Idx.mk _ rfl (And.intro rfl rfl)) ?_ | refine And.intro rfl ?_)
      repeat (first | refine DrawO.mkF _ (And.intro rfl rfl) ?_ | refine DrawO.mkF _ (Idx.mk _ rfl (And.intro rfl rfl)) ?_ | refine And.intro rfl ?_)
      (conv => whnf); refine And.intro ⟨show (((wsK s 5).map D.str).length + 2) * 16 ≤ 140737488355328 by omega, hone _ _⟩ ?_
      (conv => whnf); refine And.intro (by first | omega | (dsimp only [List.length, cond]; omega) | (show (-9223372036854775808 : Int) ≤ _ ∧ _ ≤ (9223372036854775807 : Int); omega) | decide) ?_
      (conv => whnf)
      refine ⟨0, by decide, 6, .inr ⟨by decide, rfl, ?_⟩, by decide, rfl⟩
      rw [show wsK s 6 = wsK s 5 ++ [fwS 5, Lib.itoa (fN s 5)] from rfl, List.map_append]; rfl
  · rcases hvo with ⟨h0, _, _⟩ | ⟨_, hvs, hos⟩
    · omega
    · subst hvs; subst hos; subst hq
      (conv => whnf); refine And.intro ⟨show (((wsK s 6).map D.str).length + 1) * 16 ≤ 140737488355328 by omega, fun y hy => by rw [List.mem_singleton.1 hy]; rfl⟩ ?_
      have hr0 : (wsK s 6).map D.str ++ [.str wEdges] = (wsK s 6 ++ [wEdges] ++ (s.ed.take 0).map Lib.itoa).map D.str := by
        rw [List.map_append, List.map_append]; simp
      (conv => whnf); refine LoopI.mk (fun q vs os => ∃ j : Nat, vs = [.sl 0, .d (.ro (s.ed.map (.int .i64))), i64 s.ed.length, i64 j] ∧ os = [.row 9 1 ((wsK s 6 ++ [wEdges] ++ (s.ed.take j).map Lib.itoa).map D.str)] ∧ j ≤ s.ed.length ∧ q = s.ed.length - j) s.ed.length ⟨0, ?_, ?_, Nat.zero_le _, rfl⟩ ?_
      · rw [hml]; rfl
      · rw [← hr0]; rfl
      rintro q _ _ ⟨j, rfl, rfl, h1, rfl⟩
      have hrl : ((wsK s 6 ++ [wEdges] ++ (s.ed.take j).map Lib.itoa).map D.str).length = 13 + j := by
        rw [List.length_map, List.length_append, List.length_append, hwk, List.length_map, List.length_take]
        simp only [List.length_cons, List.length_nil]; omega
      (conv => whnf); refine cond_d (fun h5 => ?_) (fun h5 => ?_)
      · have hj : j < s.ed.length := by omega
        obtain ⟨n, hn⟩ : ∃ n, s.ed[j]? = some n := ⟨_, List.getElem?_eq_getElem hj⟩
        have hg : (s.ed.map (D.int .i64))[(j : Int).toNat]? = some (.int .i64 n) := by rw [show (j : Int).toNat = j by omega, List.getElem?_map, hn]; rfl
        (conv => whnf); refine And.intro (by omega) ?_
        (conv => whnf); refine Idx.mk _ hg ?_
        (conv => whnf); refine Idx.mk _ rfl ?_
        (conv => whnf); refine (Itoa_ct n).use ?_
        (conv => whnf); refine And.intro ⟨show (((wsK s 6 ++ [wEdges] ++ (s.ed.take j).map Lib.itoa).map D.str).length + 1) * 16 ≤ 140737488355328 by omega, fun y hy => by rw [List.mem_singleton.1 hy]; rfl⟩ ?_
        (conv => whnf); refine And.intro (by first | omega | (dsimp only [List.length, cond]; omega) | (show (-9223372036854775808 : Int) ≤ _ ∧ _ ≤ (9223372036854775807 : Int); omega) | decide) ?_
        (conv => whnf)
        refine ⟨s.ed.length - (j + 1), by omega, j + 1, rfl, ?_, by omega, rfl⟩
        have e : (wsK s 6 ++ [wEdges] ++ (s.ed.take (j + 1)).map Lib.itoa).map D.str = (wsK s 6 ++ [wEdges] ++ (s.ed.take j).map Lib.itoa).map D.str ++ [.str (Lib.itoa n)] := by
          rw [List.take_add_one, hn]
          simp [List.map_append, List.append_assoc]
        rw [e]; rfl
      · rw [List.take_of_length_le (by omega)]
        have hJ := Join_ct (wsA s) (wsA_ne s) (by rw [wsA_len]; omega) (by have := join_le (wsA_word hs); rw [wsA_len] at this; omega)
        (conv => whnf); refine (hJ).use ?_
        exact Is2.mk rfl
theorem WriteNo_ct (s : Su) (hl : ¬ s.ed.length ≤ 64) : Ct Tryd.prog 15 [.d (suD s)] [] (Is2 (.tup [S [], i64 6]) []) := by
  refine Ct.introF (E := E 50 0 [.tmp 2, .tmp 3] [] [(5, [1, 4, 14, 15, 16]), (11, [4, 36, 37, 38])] []) tab_ok Tryd.call15 Tryd.func15 rfl rfl rfl rfl rfl (fun hin => ?_)
  have hml : (s.ed.map (D.int .i64)).length = s.ed.length := List.length_map _
  (conv => whnf); refine cond_d (fun h3 => ?_) (fun h3 => ?_)
  · exact Is2.mk rfl
  · exfalso; omega
end Go.Proofs.YtklfieidipobpaaDoor.Txt

/- Setups as lines: the law's own digits, its own line, and sameness. -/
namespace Go.Proofs.YtklfieidipobpaaDoor.Txt
open Go.V Go.Num
open Go.Eng (wr HS Imm Ent strOf strOf_size strOf_data)
set_option maxRecDepth 100000
set_option maxHeartbeats 4000000
theorem digits30_ct (n : Int) : Ct Tryd.prog 35 [i64 n] [] (Is2 (S (Lib.itoa n)) []) := by
  refine Ct.introF (E := E 28 0 [.tmp 2] [(5, [0, 3, 4])] [(5, [0, 3, 4])] []) tab_ok Tryd.call35 Tryd.func35 rfl rfl rfl rfl rfl (fun hin => ?_)
  have hn : -9223372036854775808 ≤ n ∧ n ≤ 9223372036854775807 := hin.1
  (conv => whnf); refine JoinI.mk (fun ws os => ws = [i64 n, S [], .d (.int .u64 (n.natAbs : Nat))] ∧ os = []) ?_ ?_
  · (conv => whnf); refine cond_d (fun h1 => ?_) (fun h1 => ?_)
    · (conv => whnf)
      refine ⟨?_, rfl⟩
      rw [show wr .u64 (0 - wr .u64 n) = (n.natAbs : Int) by simp only [wr]; omega]
    · (conv => whnf)
      refine ⟨?_, rfl⟩
      rw [show wr .u64 n = (n.natAbs : Int) by simp only [wr]; omega]
  rintro _ _ ⟨rfl, rfl⟩
  (conv => whnf); refine LoopI.mk (fun q ws os => ∃ (r : Nat) (out : List UInt8), ws = [i64 n, S out, .d (.int .u64 r)] ∧ os = [] ∧ Lib.decDigits n.natAbs = Lib.decDigits r ++ out ∧ out.length * 2 + r ≤ 9223372036854775808 ∧ q = r) n.natAbs ⟨n.natAbs, [], rfl, rfl, by simp, by simp; omega, rfl⟩ ?_
  rintro q _ _ ⟨r, out, rfl, rfl, h1, h2, rfl⟩
  have hd : wr .u8 (wr .u64 (48 + (q : Int) % 10)) = ((UInt8.ofNat (48 + q % 10)).toNat : Int) := by
    rw [UInt8.toNat_ofNat']; simp only [wr]; omega
  (conv => whnf); refine And.intro (by decide) ?_
  (conv => whnf)
  refine ⟨[UInt8.ofNat (48 + q % 10)], ?_, ?_⟩
  · show [D.int .u8 (wr .u8 (wr .u64 (48 + (q : Int) % 10)))] = _
    rw [hd]; rfl
  (conv => whnf); refine And.intro (show 1 + out.length ≤ _ by omega) ?_
  (conv => whnf); refine And.intro (by decide) ?_
  (conv => whnf); refine cond_d (fun h3 => ?_) (fun h3 => ?_)
  · have h4 : q < 10 := by omega
    have h5 : Lib.decDigits n.natAbs = UInt8.ofNat (48 + q % 10) :: out := by
      rw [h1, dec_small h4, Nat.mod_eq_of_lt h4]; rfl
    (conv => whnf); refine cond_d (fun h6 => ?_) (fun h6 => ?_)
    · (conv => whnf); refine And.intro (by show 1 + ([UInt8.ofNat (48 + q % 10)] ++ out).length ≤ 9223372036854775807; rw [List.length_append]; show 1 + (1 + out.length) ≤ _; omega) ?_
      refine Is2.mk ?_
      unfold Lib.itoa; rw [if_pos h6, h5]; rfl
    · refine Is2.mk ?_
      unfold Lib.itoa; rw [if_neg h6, show n.toNat = n.natAbs by omega, h5]; rfl
  · have h4 : ¬ q < 10 := by omega
    (conv => whnf)
    refine ⟨q / 10, by omega, q / 10, UInt8.ofNat (48 + q % 10) :: out, rfl, rfl, ?_, by rw [List.length_cons]; omega, rfl⟩
    rw [h1, dec_big h4, List.append_assoc]; rfl
/-- Are two setups one? -/
def eqS (a b : Su) : Bool := decide (a.d = b.d ∧ a.e = b.e ∧ a.w = b.w ∧ a.lo = b.lo ∧ a.hi = b.hi ∧ a.mo = b.mo ∧ a.ed = b.ed)
theorem eqS_iff {a b : Su} : eqS a b = true ↔ a = b := by
  unfold eqS
  rw [decide_eq_true_iff]
  obtain ⟨a1, a2, a3, a4, a5, a6, a7⟩ := a
  obtain ⟨b1, b2, b3, b4, b5, b6, b7⟩ := b
  simp
theorem eqS_no {a b : Su} (h : a.d ≠ b.d ∨ a.e ≠ b.e ∨ a.w ≠ b.w ∨ a.lo ≠ b.lo ∨ a.hi ≠ b.hi ∨ a.mo ≠ b.mo ∨ a.ed ≠ b.ed) : eqS a b = false := by
  unfold eqS
  apply decide_eq_false
  rintro ⟨h1, h2, h3, h4, h5, h6, h7⟩
  rcases h with h | h | h | h | h | h | h
  · exact h h1
  · exact h h2
  · exact h h3
  · exact h h4
  · exact h h5
  · exact h h6
  · exact h h7
theorem ints_get {l : List Int} {i : Nat} (h : i < l.length) : (l.map (D.int .i64))[((i : Nat) : Int).toNat]? = some (.int .i64 (l.getD i 0)) := by
  rw [show ((i : Nat) : Int).toNat = i by omega, List.getElem?_map, List.getD_eq_getElem?_getD, List.getElem?_eq_getElem h]; rfl
theorem take_eq {a b : List Int} {i : Nat} (h : a.take i = b.take i) (ha : i < a.length) (hb : i < b.length) (he : a.getD i 0 = b.getD i 0) : a.take (i + 1) = b.take (i + 1) := by
  rw [List.take_add_one, List.take_add_one, h, List.getElem?_eq_getElem ha, List.getElem?_eq_getElem hb]
  rw [List.getD_eq_getElem?_getD, List.getElem?_eq_getElem ha, List.getD_eq_getElem?_getD, List.getElem?_eq_getElem hb] at he
  rw [show a[i] = b[i] from he]
theorem eqInts_ct (a b : List Int) : Ct Tryd.prog 36 [.d (.ro (a.map (.int .i64))), .d (.ro (b.map (.int .i64)))] [] (Is2 (.d (.bool (decide (a = b)))) []) := by
  refine Ct.introF (E := E 26 0 [.tmp 4] [] [(4, [0, 1, 12, 13])] []) tab_ok Tryd.call36 Tryd.func36 rfl rfl rfl rfl rfl (fun hin => ?_)
  have hla : (a.map (D.int .i64)).length = a.length := List.length_map _
  have hlb : (b.map (D.int .i64)).length = b.length := List.length_map _
  have hbd : a.length ≤ 9223372036854775807 := by have := hin.1.1; omega
  (conv => whnf); refine cond_d (fun h1 => ?_) (fun h1 => ?_)
  · refine isBool ?_
    rw [decide_eq_false]
    intro h
    exact h1 (by rw [hla, hlb, h])
  have hab : a.length = b.length := by have := Decidable.of_not_not h1; omega
  (conv => whnf); refine LoopI.mk (fun q ws os => ∃ i : Nat, ws = [.d (.ro (a.map (.int .i64))), .d (.ro (b.map (.int .i64))), i64 a.length, i64 i] ∧ os = [] ∧ i ≤ a.length ∧ a.take i = b.take i ∧ q = a.length - i) a.length ⟨0, by rw [hla]; rfl, rfl, Nat.zero_le _, rfl, rfl⟩ ?_
  rintro q _ _ ⟨i, rfl, rfl, h2, h3, rfl⟩
  (conv => whnf); refine cond_d (fun h4 => ?_) (fun h4 => ?_)
  · have hi : i < a.length := by omega
    have hi2 : i < b.length := by omega
    (conv => whnf); refine DrawI.mkF 8 [[0], [5], [16, 17], [18], [1], [5], [20, 21], [22]] (by decide +kernel) ?_
    repeat (first | refine DrawO.mkF _ (And.intro rfl rfl) ?_ | refine DrawO.mkF _ (Idx.mk _ rfl (And.intro rfl rfl)) ?_)
    refine DrawO.mkF _ (And.intro (by omega) (Idx.mk _ (ints_get hi) (And.intro rfl rfl))) ?_
    repeat (first | refine DrawO.mkF _ (And.intro rfl rfl) ?_ | refine DrawO.mkF _ (Idx.mk _ rfl (And.intro rfl rfl)) ?_)
    refine DrawO.mkF _ (And.intro (by omega) (Idx.mk _ (ints_get hi2) (And.intro rfl rfl))) ?_
    repeat (first | refine DrawO.mkF _ (And.intro rfl rfl) ?_ | refine DrawO.mkF _ (Idx.mk _ rfl (And.intro rfl rfl)) ?_)
    (conv => whnf); refine cond_d (fun h5 => ?_) (fun h5 => ?_)
    · refine isBool ?_
      rw [decide_eq_false]
      intro h
      exact h5 (by rw [h])
    · (conv => whnf); refine And.intro (by first | omega | (dsimp only [List.length, cond]; omega) | (show (-9223372036854775808 : Int) ≤ _ ∧ _ ≤ (9223372036854775807 : Int); omega) | decide) ?_
      (conv => whnf)
      exact ⟨a.length - (i + 1), by omega, i + 1, rfl, rfl, by omega, take_eq h3 hi hi2 (Decidable.of_not_not h5), rfl⟩
  · refine isBool ?_
    rw [decide_eq_true]
    rw [List.take_of_length_le (by omega), List.take_of_length_le (by omega)] at h3
    exact h3
theorem same30_ct (a b : Su) : Ct Tryd.prog 19 [.d (suD a), .d (suD b)] [] (Is2 (.d (.bool (eqS a b))) []) := by
  refine Ct.introF (E := E 84 0 [.tmp 4] [] [(4, [2, 3, 5])] []) tab_ok Tryd.call19 Tryd.func19 rfl rfl rfl rfl rfl (fun hin => ?_)
  have hla : (a.ed.map (D.int .i64)).length = a.ed.length := List.length_map _
  have hlb : (b.ed.map (D.int .i64)).length = b.ed.length := List.length_map _
  have hbd : a.ed.length ≤ 9223372036854775807 := by
    have h : (a.ed.map (D.int .i64)).length ≤ 9223372036854775807 := hin.1 (.ro (a.ed.map (D.int .i64))) (by simp)
    omega
  (conv => whnf); refine cond_d (fun h0 => ?_) (fun h0 => ?_)
  · exact isBool (eqS_no (.inl h0)).symm
  (conv => whnf); refine cond_d (fun h1 => ?_) (fun h1 => ?_)
  · exact isBool (eqS_no (.inr (.inl h1))).symm
  (conv => whnf); refine cond_d (fun h2 => ?_) (fun h2 => ?_)
  · exact isBool (eqS_no (.inr (.inr (.inl h2)))).symm
  (conv => whnf); refine cond_d (fun h3 => ?_) (fun h3 => ?_)
  · exact isBool (eqS_no (.inr (.inr (.inr (.inl h3))))).symm
  (conv => whnf); refine cond_d (fun h4 => ?_) (fun h4 => ?_)
  · exact isBool (eqS_no (.inr (.inr (.inr (.inr (.inl h4)))))).symm
  (conv => whnf); refine cond_d (fun h5 => ?_) (fun h5 => ?_)
  · exact isBool (eqS_no (.inr (.inr (.inr (.inr (.inr (.inl h5))))))).symm
  (conv => whnf); refine cond_d (fun h6 => ?_) (fun h6 => ?_)
  · exact isBool (eqS_no (.inr (.inr (.inr (.inr (.inr (.inr (fun h => h6 (by rw [hla, hlb, h]))))))))).symm
  have hab : a.ed.length = b.ed.length := by have := Decidable.of_not_not h6; omega
  (conv => whnf); refine LoopI.mk (fun q ws os => ∃ i : Nat, ws = [.ptr 0 0, .ptr 1 0, i64 i] ∧ os = [suC a, suC b] ∧ i ≤ a.ed.length ∧ a.ed.take i = b.ed.take i ∧ q = a.ed.length - i) a.ed.length ⟨0, rfl, rfl, Nat.zero_le _, rfl, rfl⟩ ?_
  rintro q _ _ ⟨i, rfl, rfl, j2, j3, rfl⟩
  (conv => whnf); refine cond_d (fun j4 => ?_) (fun j4 => ?_)
  · have hi : i < a.ed.length := by omega
    have hi2 : i < b.ed.length := by omega
    (conv => whnf); refine DrawI.mkF 12 [[2], [71], [72], [5], [73, 74], [75], [3], [77], [78], [5], [79, 80], [81]] (by decide +kernel) ?_
    repeat (first | refine DrawO.mkF _ (And.intro rfl rfl) ?_ | refine DrawO.mkF _ (Idx.mk _ rfl (And.intro rfl rfl)) ?_)
    refine DrawO.mkF _ (And.intro (by omega) (Idx.mk _ (ints_get hi) (And.intro rfl rfl))) ?_
    repeat (first | refine DrawO.mkF _ (And.intro rfl rfl) ?_ | refine DrawO.mkF _ (Idx.mk _ rfl (And.intro rfl rfl)) ?_)
    refine DrawO.mkF _ (And.intro (by omega) (Idx.mk _ (ints_get hi2) (And.intro rfl rfl))) ?_
    repeat (first | refine DrawO.mkF _ (And.intro rfl rfl) ?_ | refine DrawO.mkF _ (Idx.mk _ rfl (And.intro rfl rfl)) ?_)
    (conv => whnf); refine cond_d (fun j5 => ?_) (fun j5 => ?_)
    · exact isBool (eqS_no (.inr (.inr (.inr (.inr (.inr (.inr (fun h => j5 (by rw [h]))))))))).symm
    · (conv => whnf); refine And.intro (by first | omega | (dsimp only [List.length, cond]; omega) | (show (-9223372036854775808 : Int) ≤ _ ∧ _ ≤ (9223372036854775807 : Int); omega) | decide) ?_
      (conv => whnf)
      exact ⟨a.ed.length - (i + 1), by omega, i + 1, rfl, rfl, by omega, take_eq j3 hi hi2 (Decidable.of_not_not j5), rfl⟩
  · refine isBool ?_
    rw [List.take_of_length_le (by omega), List.take_of_length_le (by omega)] at j3
    unfold eqS
    rw [decide_eq_true ⟨Decidable.of_not_not h0, Decidable.of_not_not h1, Decidable.of_not_not h2, Decidable.of_not_not h3, Decidable.of_not_not h4, Decidable.of_not_not h5, j3⟩]
end Go.Proofs.YtklfieidipobpaaDoor.Txt

/- Setups as lines: are two setups one? -/
namespace Go.Proofs.YtklfieidipobpaaDoor.Txt
open Go.V Go.Num
open Go.Eng (wr HS Imm Ent strOf strOf_size strOf_data)
set_option maxRecDepth 100000
set_option maxHeartbeats 4000000
theorem Same1_ct (a b : Su) (w v : List UInt8) (i : Nat) (hi : i < 6) : Ct Tryd.prog 38 [.agg [S w, .ptr 0 i], .agg [S v, .ptr 1 i]] [suC a, suC b] (Is2 (.d (.bool (decide (fN a i = fN b i)))) [suC a, suC b]) := by
  have h6 : i = 0 ∨ i = 1 ∨ i = 2 ∨ i = 3 ∨ i = 4 ∨ i = 5 := by omega
  rcases h6 with rfl | rfl | rfl | rfl | rfl | rfl
  all_goals
    refine Ct.introF (E := E 14 2 [.tmp 4] [] [] []) tab_ok Tryd.call38 Tryd.func38 rfl rfl rfl rfl rfl (fun hin => ?_)
    (conv => whnf); refine DrawI.mkF 8 [[2], [5], [6], [7], [3], [9], [10], [11]] (by decide +kernel) ?_
    repeat (first | refine DrawO.mkF _ (And.intro rfl rfl) ?_ | refine DrawO.mkF _ (Idx.mk _ rfl (And.intro rfl rfl)) ?_)
    exact Is2.mk rfl
def eqK (a b : Su) : Nat → Bool
  | 0 => true
  | k + 1 => eqK a b k && decide (fN a k = fN b k)
theorem EqF_ct (a b : Su) : Ct Tryd.prog 37 [.av 0 2 0 6, .av 1 2 0 6, .fn 38 [] []] [fldV 2, fldV 3, suC a, suC b] (Is2 (.d (.bool (eqK a b 6))) [fldV 2, fldV 3, suC a, suC b]) := by
  refine Ct.introF (E := E 32 4 [.tmp 6] [] [(4, [1, 2, 15, 16, 17])] []) tab_ok Tryd.call37 Tryd.func37 rfl rfl rfl rfl rfl (fun hin => ?_)
  (conv => whnf); refine LoopI.mk (fun q vs os => ∃ k : Nat, vs = [.av 1 2 0 6, .fn 38 [] [], .av 0 2 0 6, i64 6, i64 k] ∧ os = [fldV 2, fldV 3, suC a, suC b] ∧ k ≤ 6 ∧ eqK a b k = true ∧ q = 6 - k) 6 ⟨0, rfl, rfl, by decide, rfl, rfl⟩ ?_
  rintro q vs os ⟨k, hvs, hos, hk, hb, hq⟩
  have hk' : k = 0 ∨ k = 1 ∨ k = 2 ∨ k = 3 ∨ k = 4 ∨ k = 5 ∨ k = 6 := by omega
  have hS := fun w v h => Same1_ct a b w v k h
  have hno : ¬ fN a k = fN b k → k < 6 → eqK a b 6 = false := by
    intro hne hk6
    have h1 : ∀ j, k + 1 ≤ j → eqK a b j = false := by
      intro j
      induction j with
      | zero => intro h; omega
      | succ j ih =>
        intro h
        unfold eqK
        by_cases e : j = k
        · rw [e, decide_eq_false hne]; simp
        · rw [ih (by omega)]; rfl
    exact h1 6 (by omega)
  have hyes : fN a k = fN b k → eqK a b (k + 1) = true := by
    intro h
    unfold eqK
    rw [hb, decide_eq_true h]; rfl
  rcases hk' with rfl | rfl | rfl | rfl | rfl | rfl | rfl
  all_goals (subst hvs; subst hos; subst hq)
  · (conv => whnf); refine And.intro (by decide) ?_
    (conv => whnf); refine And.intro (by decide) ?_
    (conv => whnf); refine (hS (fwS 0) (fwS 0) (by decide)).use ?_
    (conv => whnf); refine cond_nd (fun h => ?_) (fun h => ?_)
    · exact Is2.mk (by rw [hno h (by decide)])
    · (conv => whnf); refine And.intro (by first | omega | (dsimp only [List.length, cond]; omega) | (show (-9223372036854775808 : Int) ≤ _ ∧ _ ≤ (9223372036854775807 : Int); omega) | decide) ?_
      (conv => whnf)
      exact ⟨5, by decide, 1, rfl, rfl, by decide, hyes h, rfl⟩
  · (conv => whnf); refine And.intro (by decide) ?_
    (conv => whnf); refine And.intro (by decide) ?_
    (conv => whnf); refine (hS (fwS 1) (fwS 1) (by decide)).use ?_
    (conv => whnf); refine cond_nd (fun h => ?_) (fun h => ?_)
    · exact Is2.mk (by rw [hno h (by decide)])
    · (conv => whnf); refine And.intro (by first | omega | (dsimp only [List.length, cond]; omega) | (show (-9223372036854775808 : Int) ≤ _ ∧ _ ≤ (9223372036854775807 : Int); omega) | decide) ?_
      (conv => whnf)
      exact ⟨4, by decide, 2, rfl, rfl, by decide, hyes h, rfl⟩
  · (conv => whnf); refine And.intro (by decide) ?_
    (conv => whnf); refine And.intro (by decide) ?_
    (conv => whnf); refine (hS (fwS 2) (fwS 2) (by decide)).use ?_
    (conv => whnf); refine cond_nd (fun h => ?_) (fun h => ?_)
    · exact Is2.mk (by rw [hno h (by decide)])
    · (conv => whnf); refine And.intro (by first | omega | (dsimp only [List.length, cond]; omega) | (show (-9223372036854775808 : Int) ≤ _ ∧ _ ≤ (9223372036854775807 : Int); omega) | decide) ?_
      (conv => whnf)
      exact ⟨3, by decide, 3, rfl, rfl, by decide, hyes h, rfl⟩
  · (conv => whnf); refine And.intro (by decide) ?_
    (conv => whnf); refine And.intro (by decide) ?_
    (conv => whnf); refine (hS (fwS 3) (fwS 3) (by decide)).use ?_
    (conv => whnf); refine cond_nd (fun h => ?_) (fun h => ?_)
    · exact Is2.mk (by rw [hno h (by decide)])
    · (conv => whnf); refine And.intro (by first | omega | (dsimp only [List.length, cond]; omega) | (show (-9223372036854775808 : Int) ≤ _ ∧ _ ≤ (9223372036854775807 : Int); omega) | decide) ?_
      (conv => whnf)
      exact ⟨2, by decide, 4, rfl, rfl, by decide, hyes h, rfl⟩
  · (conv => whnf); refine And.intro (by decide) ?_
    (conv => whnf); refine And.intro (by decide) ?_
    (conv => whnf); refine (hS (fwS 4) (fwS 4) (by decide)).use ?_
    (conv => whnf); refine cond_nd (fun h => ?_) (fun h => ?_)
    · exact Is2.mk (by rw [hno h (by decide)])
    · (conv => whnf); refine And.intro (by first | omega | (dsimp only [List.length, cond]; omega) | (show (-9223372036854775808 : Int) ≤ _ ∧ _ ≤ (9223372036854775807 : Int); omega) | decide) ?_
      (conv => whnf)
      exact ⟨1, by decide, 5, rfl, rfl, by decide, hyes h, rfl⟩
  · (conv => whnf); refine And.intro (by decide) ?_
    (conv => whnf); refine And.intro (by decide) ?_
    (conv => whnf); refine (hS (fwS 5) (fwS 5) (by decide)).use ?_
    (conv => whnf); refine cond_nd (fun h => ?_) (fun h => ?_)
    · exact Is2.mk (by rw [hno h (by decide)])
    · (conv => whnf); refine And.intro (by first | omega | (dsimp only [List.length, cond]; omega) | (show (-9223372036854775808 : Int) ≤ _ ∧ _ ≤ (9223372036854775807 : Int); omega) | decide) ?_
      (conv => whnf)
      exact ⟨0, by decide, 6, rfl, rfl, by decide, hyes h, rfl⟩
  · exact Is2.mk (by rw [hb])
theorem eqK6 (a b : Su) : (decide (a.ed = b.ed) && eqK a b 6) = eqS a b := by
  show (decide (a.ed = b.ed) && ((((((true && decide (a.d = b.d)) && decide (a.e = b.e)) && decide (a.w = b.w)) && decide (a.lo = b.lo)) && decide (a.hi = b.hi)) && decide (a.mo = b.mo))) = _
  by_cases h : a.ed = b.ed
  · unfold eqS
    rw [decide_eq_true h]
    simp only [Bool.true_and, Bool.decide_and, decide_eq_true h, Bool.and_true, Bool.and_assoc]
  · rw [decide_eq_false h, Bool.false_and]
    exact (eqS_no (.inr (.inr (.inr (.inr (.inr (.inr h))))))).symm
theorem Same30_ct (a b : Su) : Ct Tryd.prog 20 [.d (suD a), .d (suD b)] [] (Is2 (.d (.bool (eqS a b))) []) := by
  refine Ct.introF (E := E 21 0 [.tmp 4] [] [] []) tab_ok Tryd.call20 Tryd.func20 rfl rfl rfl rfl rfl (fun hin => ?_)
  (conv => whnf); refine (fields_ct (.int .i64 a.d) (.int .i64 a.e) (.int .i64 a.w) (.int .i64 a.lo) (.int .i64 a.hi) (.int .i64 a.mo) (.ro (a.ed.map (.int .i64)))).use ?_
  (conv => whnf); refine (fields_ct (.int .i64 b.d) (.int .i64 b.e) (.int .i64 b.w) (.int .i64 b.lo) (.int .i64 b.hi) (.int .i64 b.mo) (.ro (b.ed.map (.int .i64)))).use ?_
  (conv => whnf); refine (eqInts_ct a.ed b.ed).use ?_
  (conv => whnf); refine cond_d (fun h => ?_) (fun h => ?_)
  · (conv => whnf)
    (conv => whnf); refine (EqF_ct a b).use ?_
    refine isBool ?_
    rw [← eqK6, decide_eq_true h]; rfl
  · refine isBool ?_
    rw [← eqK6, decide_eq_false h]; rfl
end Go.Proofs.YtklfieidipobpaaDoor.Txt

/- Setups as lines: the law's own line. -/
namespace Go.Proofs.YtklfieidipobpaaDoor.Txt
open Go.V Go.Num
open Go.Eng (wr HS Imm Ent strOf strOf_size strOf_data)
set_option maxRecDepth 100000
set_option maxHeartbeats 4000000
def edT (l : List Int) : List UInt8 := l.flatMap fun n => [32] ++ Lib.itoa n
/-- The line, as the law puts it together. -/
def lineT (s : Su) : List UInt8 := [100, 111, 110, 111, 114, 115, 32] ++ Lib.itoa s.d ++ [32, 101, 110, 111, 117, 103, 104, 32] ++ Lib.itoa s.e ++ [32, 119, 97, 105, 116, 32] ++ Lib.itoa s.w ++ [32, 108, 111, 119, 32] ++ Lib.itoa s.lo ++ [32, 104, 105, 103, 104, 32] ++ Lib.itoa s.hi ++ [32, 109, 111, 115, 116, 32] ++ Lib.itoa s.mo ++ [32, 101, 100, 103, 101, 115]
theorem line_join (s : Su) : Lib.join (wsA s) [32] = lineT s ++ edT s.ed := by
  have hT : ∀ l : List Int, Lib.joinTail [32] (l.map Lib.itoa) = edT l := by
    intro l
    unfold Lib.joinTail edT
    rw [List.map_map, List.flatMap_def]; rfl
  have h1 : ∀ (l r : List (List UInt8)), Lib.joinTail [32] (l ++ r) = Lib.joinTail [32] l ++ Lib.joinTail [32] r := by
    intro l r; unfold Lib.joinTail; rw [List.map_append, List.flatten_append]
  have e : wsA s = wDonors :: ([Lib.itoa s.d, wEnough, Lib.itoa s.e, wWait, Lib.itoa s.w, wLow, Lib.itoa s.lo, wHigh, Lib.itoa s.hi, wMost, Lib.itoa s.mo, wEdges] ++ s.ed.map Lib.itoa) := rfl
  rw [e, Lib.join_cons, h1, hT, ← List.append_assoc]
  congr 1
  unfold Lib.joinTail lineT wDonors wEnough wWait wLow wHigh wMost wEdges
  simp
theorem edT_len {l : List Int} (h : ∀ n ∈ l, -9223372036854775808 ≤ n ∧ n ≤ 9223372036854775807) : (edT l).length ≤ 30 * l.length := by
  induction l with
  | nil => exact Nat.le_refl _
  | cons n l ih =>
    have h1 := Lib.itoa_length_le n (h n (List.mem_cons_self ..)).1 (h n (List.mem_cons_self ..)).2
    have h2 := ih (fun m hm => h m (List.mem_cons_of_mem _ hm))
    unfold edT at *
    rw [List.flatMap_cons, List.length_append, List.length_append, List.length_cons]
    simp only [List.length_cons, List.length_nil]
    omega
theorem line30_ct (s : Su) (hs : SuIn s) (hl : s.ed.length ≤ 100000000000000) : Ct Tryd.prog 18 [.d (suD s)] [] (Is2 (S (Lib.join (wsA s) [32])) []) := by
  have i0 := Lib.itoa_length_le s.d (hs s.d (by simp)).1 (hs s.d (by simp)).2
  have i1 := Lib.itoa_length_le s.e (hs s.e (by simp)).1 (hs s.e (by simp)).2
  have i2 := Lib.itoa_length_le s.w (hs s.w (by simp)).1 (hs s.w (by simp)).2
  have i3 := Lib.itoa_length_le s.lo (hs s.lo (by simp)).1 (hs s.lo (by simp)).2
  have i4 := Lib.itoa_length_le s.hi (hs s.hi (by simp)).1 (hs s.hi (by simp)).2
  have i5 := Lib.itoa_length_le s.mo (hs s.mo (by simp)).1 (hs s.mo (by simp)).2
  have hml : (s.ed.map (D.int .i64)).length = s.ed.length := List.length_map _
  rw [line_join]
  refine Ct.introF (E := E 57 0 [.tmp 2] [] [(3, [1, 3, 4])] []) tab_ok Tryd.call18 Tryd.func18 rfl rfl rfl rfl rfl (fun hin => ?_)
  (conv => whnf); refine DrawI.mkF 31 [[1], [5], [6], [7], [8], [1], [10], [11], [9, 12], [13], [1], [15], [16], [14, 17], [18], [1], [20], [21], [22], [19, 23], [24], [1], [26], [27], [28], [25, 29], [30], [1], [32], [33], [34]] (by decide +kernel) ?_
  repeat (first | refine DrawO.mkF _ (And.intro rfl rfl) ?_ | refine DrawO.mkF _ (Idx.mk _ rfl (And.intro rfl rfl)) ?_)
  refine DrawO.mkF _ ((digits30_ct s.d).use (And.intro rfl rfl)) ?_
  refine DrawO.mkF _ (And.intro (by simp; omega) (And.intro rfl rfl)) ?_
  refine DrawO.mkF _ (And.intro (by simp; omega) (And.intro rfl rfl)) ?_
  repeat (first | refine DrawO.mkF _ (And.intro rfl rfl) ?_ | refine DrawO.mkF _ (Idx.mk _ rfl (And.intro rfl rfl)) ?_)
  refine DrawO.mkF _ ((digits30_ct s.e).use (And.intro rfl rfl)) ?_
  refine DrawO.mkF _ (And.intro (by simp; omega) (And.intro rfl rfl)) ?_
  refine DrawO.mkF _ (And.intro (by simp; omega) (And.intro rfl rfl)) ?_
  repeat (first | refine DrawO.mkF _ (And.intro rfl rfl) ?_ | refine DrawO.mkF _ (Idx.mk _ rfl (And.intro rfl rfl)) ?_)
  refine DrawO.mkF _ ((digits30_ct s.w).use (And.intro rfl rfl)) ?_
  refine DrawO.mkF _ (And.intro (by simp; omega) (And.intro rfl rfl)) ?_
  refine DrawO.mkF _ (And.intro (by simp; omega) (And.intro rfl rfl)) ?_
  repeat (first | refine DrawO.mkF _ (And.intro rfl rfl) ?_ | refine DrawO.mkF _ (Idx.mk _ rfl (And.intro rfl rfl)) ?_)
  refine DrawO.mkF _ ((digits30_ct s.lo).use (And.intro rfl rfl)) ?_
  refine DrawO.mkF _ (And.intro (by simp; omega) (And.intro rfl rfl)) ?_
  refine DrawO.mkF _ (And.intro (by simp; omega) (And.intro rfl rfl)) ?_
  repeat (first | refine DrawO.mkF _ (And.intro rfl rfl) ?_ | refine DrawO.mkF _ (Idx.mk _ rfl (And.intro rfl rfl)) ?_)
  refine DrawO.mkF _ ((digits30_ct s.hi).use (And.intro rfl rfl)) ?_
  refine DrawO.mkF _ (And.intro (by simp; omega) (And.intro rfl rfl)) ?_
  refine DrawO.mkF _ (And.intro (by simp; omega) (And.intro rfl rfl)) ?_
  repeat (first | refine DrawO.mkF _ (And.intro rfl rfl) ?_ | refine DrawO.mkF _ (Idx.mk _ rfl (And.intro rfl rfl)) ?_)
  refine DrawO.mkF _ ((digits30_ct s.mo).use (And.intro rfl rfl)) ?_
  (conv => whnf); refine And.intro (by simp; omega) ?_
  (conv => whnf); refine And.intro (by simp; omega) ?_
  (conv => whnf); refine LoopI.mk (fun q ws os => ∃ i : Nat, ws = [.ptr 0 0, S (lineT s ++ edT (s.ed.take i)), i64 i] ∧ os = [suC s] ∧ i ≤ s.ed.length ∧ q = s.ed.length - i) s.ed.length ⟨0, ?_, rfl, Nat.zero_le _, rfl⟩ ?_
  · rw [show edT (s.ed.take 0) = [] from rfl, List.append_nil]; rfl
  rintro q _ _ ⟨i, rfl, rfl, h1, rfl⟩
  (conv => whnf); refine cond_d (fun h2 => ?_) (fun h2 => ?_)
  · have hi : i < s.ed.length := by omega
    obtain ⟨n, hn⟩ : ∃ n, s.ed[i]? = some n := ⟨_, List.getElem?_eq_getElem hi⟩
    have hg : (s.ed.map (D.int .i64))[(i : Int).toNat]? = some (.int .i64 n) := by rw [show (i : Int).toNat = i by omega, List.getElem?_map, hn]; rfl
    have hnm : n ∈ s.ed := List.mem_of_getElem? hn
    have hln := Lib.itoa_length_le n (hs n (List.mem_append_right _ hnm)).1 (hs n (List.mem_append_right _ hnm)).2
    have hel := edT_len (l := s.ed.take i) (fun m hm => hs m (List.mem_append_right _ (List.mem_of_mem_take hm)))
    rw [List.length_take] at hel
    have htl : (lineT s).length ≤ 1000 := by unfold lineT; simp; omega
    (conv => whnf); refine And.intro (by omega) ?_
    (conv => whnf); refine Idx.mk _ hg ?_
    (conv => whnf); refine Idx.mk _ rfl ?_
    (conv => whnf); refine (digits30_ct n).use ?_
    (conv => whnf); refine And.intro (show 1 + _ ≤ _ by omega) ?_
    (conv => whnf); refine And.intro (by rw [List.length_append, List.length_append]; show _ + _ + (1 + _) ≤ _; omega) ?_
    (conv => whnf); refine And.intro (by first | omega | (dsimp only [List.length, cond]; omega) | (show (-9223372036854775808 : Int) ≤ _ ∧ _ ≤ (9223372036854775807 : Int); omega) | decide) ?_
    (conv => whnf)
    refine ⟨s.ed.length - (i + 1), by omega, i + 1, ?_, rfl, by omega, rfl⟩
    have e : edT (s.ed.take (i + 1)) = edT (s.ed.take i) ++ ([32] ++ Lib.itoa n) := by
      rw [List.take_add_one, hn]
      unfold edT
      rw [List.flatMap_append]; simp
    have e2 : lineT s ++ edT (s.ed.take (i + 1)) = (lineT s ++ edT (s.ed.take i)) ++ ([32] ++ Lib.itoa n) := by rw [e]; simp only [List.append_assoc]
    rw [e2]; rfl
  · rw [List.take_of_length_le (by omega)]
    exact Is2.mk rfl
end Go.Proofs.YtklfieidipobpaaDoor.Txt

/- Setups as lines: plain laws of written and read setups. -/
namespace Go.Proofs.YtklfieidipobpaaDoor.Txt
open Go.V Go.Num
set_option maxRecDepth 100000
theorem wsA_sp (s : Su) : ∀ w ∈ wsA s, (32 : UInt8) ∉ w := by
  have hf : ∀ k, (32 : UInt8) ∉ fwS k := by intro k; unfold fwS; split <;> decide
  have hK : ∀ k, ∀ w ∈ wsK s k, (32 : UInt8) ∉ w := by
    intro k
    induction k with
    | zero => intro w hw; cases hw
    | succ k ih =>
      intro w hw
      rcases List.mem_append.1 hw with hw | hw
      · exact ih w hw
      · rcases List.mem_cons.1 hw with rfl | hw
        · exact hf k
        · rw [List.mem_singleton.1 hw]; exact itoa_sp _
  intro w hw
  unfold wsA at hw
  rcases List.mem_append.1 hw with hw | hw
  · rcases List.mem_append.1 hw with hw | hw
    · exact hK 6 w hw
    · rw [List.mem_singleton.1 hw]; decide
  · obtain ⟨n, hn, rfl⟩ := List.mem_map.1 hw
    exact itoa_sp n
/-- A setup that was written is read again. -/
theorem sp_wsA (s : Su) : spS (Lib.join (wsA s) [32]) = wsA s := sp_join _ (wsA_ne s) (wsA_sp s)
theorem num_itoa {n : Int} (h : -9223372036854775808 ≤ n ∧ n ≤ 9223372036854775807) : numW (Lib.itoa n) = true ∧ atoiV (Lib.itoa n) = n := by
  have := atoiV_itoa h.1 h.2
  refine ⟨?_, this⟩
  unfold numW
  rw [this]; simp
theorem good_wsA {s : Su} (hs : SuIn s) (hl : s.ed.length ≤ 64) : goodW (wsA s) = true ∧ suW (wsA s) = s := by
  have e : wsA s = [wDonors, Lib.itoa s.d, wEnough, Lib.itoa s.e, wWait, Lib.itoa s.w, wLow, Lib.itoa s.lo, wHigh, Lib.itoa s.hi, wMost, Lib.itoa s.mo, wEdges] ++ s.ed.map Lib.itoa := rfl
  have hd : (wsA s).drop 13 = s.ed.map Lib.itoa := by rw [e]; rfl
  have g : ∀ i, i < 13 → (wsA s).getD i [] = [wDonors, Lib.itoa s.d, wEnough, Lib.itoa s.e, wWait, Lib.itoa s.w, wLow, Lib.itoa s.lo, wHigh, Lib.itoa s.hi, wMost, Lib.itoa s.mo, wEdges].getD i [] := by
    intro i hi
    rw [e, List.getD_eq_getElem?_getD, List.getElem?_append_left (by simpa using hi), ← List.getD_eq_getElem?_getD]
  have n0 := num_itoa (hs s.d (by simp))
  have n1 := num_itoa (hs s.e (by simp))
  have n2 := num_itoa (hs s.w (by simp))
  have n3 := num_itoa (hs s.lo (by simp))
  have n4 := num_itoa (hs s.hi (by simp))
  have n5 := num_itoa (hs s.mo (by simp))
  have hE : (s.ed.map Lib.itoa).all numW = true := by
    rw [List.all_eq_true]
    intro w hw
    obtain ⟨n, hn, rfl⟩ := List.mem_map.1 hw
    exact (num_itoa (hs n (List.mem_append_right _ hn))).1
  have hEd : edL (wsA s) = s.ed := by
    unfold edL
    rw [hd, List.map_map]
    have : ∀ n ∈ s.ed, (atoiV ∘ Lib.itoa) n = n := fun n hn => (num_itoa (hs n (List.mem_append_right _ hn))).2
    rw [List.map_congr_left this, List.map_id']
  have hok : okK (wsA s) 6 = true := by
    show ((((((true && (decide ((wsA s).getD 0 [] = wDonors) && numW ((wsA s).getD 1 []))) && (decide ((wsA s).getD 2 [] = wEnough) && numW ((wsA s).getD 3 []))) && (decide ((wsA s).getD 4 [] = wWait) && numW ((wsA s).getD 5 []))) && (decide ((wsA s).getD 6 [] = wLow) && numW ((wsA s).getD 7 []))) && (decide ((wsA s).getD 8 [] = wHigh) && numW ((wsA s).getD 9 []))) && (decide ((wsA s).getD 10 [] = wMost) && numW ((wsA s).getD 11 []))) = true
    rw [g 0 (by decide), g 1 (by decide), g 2 (by decide), g 3 (by decide), g 4 (by decide), g 5 (by decide), g 6 (by decide), g 7 (by decide), g 8 (by decide), g 9 (by decide), g 10 (by decide), g 11 (by decide)]
    show ((((((true && (decide (wDonors = wDonors) && numW (Lib.itoa s.d))) && (decide (wEnough = wEnough) && numW (Lib.itoa s.e))) && (decide (wWait = wWait) && numW (Lib.itoa s.w))) && (decide (wLow = wLow) && numW (Lib.itoa s.lo))) && (decide (wHigh = wHigh) && numW (Lib.itoa s.hi))) && (decide (wMost = wMost) && numW (Lib.itoa s.mo))) = true
    rw [n0.1, n1.1, n2.1, n3.1, n4.1, n5.1]; simp
  refine ⟨?_, ?_⟩
  · unfold goodW ok13
    rw [hok, g 12 (by decide), hd, hE, List.length_map, decide_eq_true hl]; rfl
  · unfold suW nmW
    rw [hEd, g 1 (by decide), g 3 (by decide), g 5 (by decide), g 7 (by decide), g 9 (by decide), g 11 (by decide)]
    show (⟨atoiV (Lib.itoa s.d), atoiV (Lib.itoa s.e), atoiV (Lib.itoa s.w), atoiV (Lib.itoa s.lo), atoiV (Lib.itoa s.hi), atoiV (Lib.itoa s.mo), s.ed⟩ : Su) = s
    rw [n0.2, n1.2, n2.2, n3.2, n4.2, n5.2]
theorem suW_in (ws : List (List UInt8)) : SuIn (suW ws) := by
  intro n hn
  rcases List.mem_append.1 hn with hn | hn
  · simp only [List.mem_cons, List.not_mem_nil, or_false] at hn
    rcases hn with rfl | rfl | rfl | rfl | rfl | rfl
    all_goals exact atoiV_rng _
  · obtain ⟨w, _, rfl⟩ := List.mem_map.1 hn
    exact atoiV_rng w
/-- What is read as a setup is written as it was. -/
theorem good_line {ws : List (List UInt8)} (h : goodW ws = true) : wsA (suW ws) = ws ∧ (suW ws).ed.length ≤ 64 := by
  unfold goodW ok13 at h
  simp only [Bool.and_eq_true, decide_eq_true_eq] at h
  obtain ⟨⟨h1, h2⟩, h3, h4⟩ := h
  have hn : ∀ w : List UInt8, numW w = true → Lib.itoa (atoiV w) = w := fun w h => of_decide_eq_true h
  have hx : ((((((true = true ∧ (ws.getD 0 [] = wDonors ∧ numW (ws.getD 1 []) = true)) ∧ (ws.getD 2 [] = wEnough ∧ numW (ws.getD 3 []) = true)) ∧ (ws.getD 4 [] = wWait ∧ numW (ws.getD 5 []) = true)) ∧ (ws.getD 6 [] = wLow ∧ numW (ws.getD 7 []) = true)) ∧ (ws.getD 8 [] = wHigh ∧ numW (ws.getD 9 []) = true)) ∧ (ws.getD 10 [] = wMost ∧ numW (ws.getD 11 []) = true)) := by
    have h1' : ((((((true && (decide (ws.getD 0 [] = wDonors) && numW (ws.getD 1 []))) && (decide (ws.getD 2 [] = wEnough) && numW (ws.getD 3 []))) && (decide (ws.getD 4 [] = wWait) && numW (ws.getD 5 []))) && (decide (ws.getD 6 [] = wLow) && numW (ws.getD 7 []))) && (decide (ws.getD 8 [] = wHigh) && numW (ws.getD 9 []))) && (decide (ws.getD 10 [] = wMost) && numW (ws.getD 11 []))) = true := h1
    simpa only [Bool.and_eq_true, decide_eq_true_eq] using h1'
  obtain ⟨⟨⟨⟨⟨⟨_, a0, b0⟩, a1, b1⟩, a2, b2⟩, a3, b3⟩, a4, b4⟩, a5, b5⟩ := hx
  have hlen : 13 ≤ ws.length := by
    by_cases hl : 13 ≤ ws.length
    · exact hl
    · exfalso
      rw [List.getD_eq_getElem?_getD, List.getElem?_eq_none (by omega)] at h2
      cases h2
  have hsplit : ws = (List.range 13).map (fun i => ws.getD i []) ++ ws.drop 13 := by
    have ht : ws.take 13 = (List.range 13).map (fun i => ws.getD i []) := by
      apply List.ext_getElem (by rw [List.length_take, List.length_map, List.length_range]; omega)
      intro i h5 h6
      have hi : i < ws.length := by rw [List.length_take] at h5; omega
      rw [List.getElem_take, List.getElem_map, List.getElem_range, List.getD_eq_getElem?_getD, List.getElem?_eq_getElem hi]; rfl
    rw [← ht, List.take_append_drop]
  refine ⟨?_, ?_⟩
  · have e : wsA (suW ws) = [wDonors, Lib.itoa (nmW ws 1), wEnough, Lib.itoa (nmW ws 3), wWait, Lib.itoa (nmW ws 5), wLow, Lib.itoa (nmW ws 7), wHigh, Lib.itoa (nmW ws 9), wMost, Lib.itoa (nmW ws 11), wEdges] ++ (edL ws).map Lib.itoa := rfl
    rw [e]
    unfold nmW
    rw [hn _ b0, hn _ b1, hn _ b2, hn _ b3, hn _ b4, hn _ b5, ← a0, ← a1, ← a2, ← a3, ← a4, ← a5, ← h2]
    have he : (edL ws).map Lib.itoa = ws.drop 13 := by
      unfold edL
      rw [List.map_map]
      have : ∀ w ∈ ws.drop 13, (Lib.itoa ∘ atoiV) w = w := fun w hw => hn w (List.all_eq_true.1 h4 w hw)
      rw [List.map_congr_left this, List.map_id']
    rw [he]
    exact hsplit.symm
  · show (edL ws).length ≤ 64
    unfold edL
    rw [List.length_map]; exact h3
theorem suIn_mk {s : Su} (h0 : -9223372036854775808 ≤ s.d ∧ s.d ≤ 9223372036854775807) (h1 : -9223372036854775808 ≤ s.e ∧ s.e ≤ 9223372036854775807) (h2 : -9223372036854775808 ≤ s.w ∧ s.w ≤ 9223372036854775807) (h3 : -9223372036854775808 ≤ s.lo ∧ s.lo ≤ 9223372036854775807)
    (h4 : -9223372036854775808 ≤ s.hi ∧ s.hi ≤ 9223372036854775807) (h5 : -9223372036854775808 ≤ s.mo ∧ s.mo ≤ 9223372036854775807) (h6 : ∀ n ∈ s.ed, -9223372036854775808 ≤ n ∧ n ≤ 9223372036854775807) : SuIn s := by
  intro n hn
  rcases List.mem_append.1 hn with hn | hn
  · simp only [List.mem_cons, List.not_mem_nil, or_false] at hn
    rcases hn with rfl | rfl | rfl | rfl | rfl | rfl
    · exact h0
    · exact h1
    · exact h2
    · exact h3
    · exact h4
    · exact h5
  · exact h6 n hn
end Go.Proofs.YtklfieidipobpaaDoor.Txt

/- Setups as lines: the laws of setups. -/
namespace Go.Proofs.YtklfieidipobpaaDoor.Txt
open Go.V Go.Num
open Go.Eng (wr HS Imm Ent strOf strOf_size strOf_data)
set_option maxRecDepth 100000
set_option maxHeartbeats 4000000
def suA : Su := ⟨3, 2, 5, -4, 11, 6, [0, 5]⟩
def litA : List UInt8 := [100, 111, 110, 111, 114, 115, 32, 51, 32, 101, 110, 111, 117, 103, 104, 32, 50, 32, 119, 97, 105, 116, 32, 53, 32, 108, 111, 119, 32, 45, 52, 32, 104, 105, 103, 104, 32, 49, 49, 32, 109, 111, 115, 116, 32, 54, 32, 101, 100, 103, 101, 115, 32, 48, 32, 53]
theorem awl : Lib.join (wsA suA) [32] = litA := by decide +kernel
theorem suA_in : SuIn suA := by
  intro n hn
  have h : n ∈ [(3 : Int), 2, 5, -4, 11, 6, 0, 5] := hn
  simp only [List.mem_cons, List.not_mem_nil, or_false] at h
  omega
theorem read_back {s : Su} (hs : SuIn s) (hl : s.ed.length ≤ 64) : Ct Tryd.prog 17 [S (Lib.join (wsA s) [32])] [] (Is2 (.tup [.d (suD s), i64 0]) []) := by
  have hj := join_le (wsA_word hs)
  rw [wsA_len] at hj
  have h := Read30_ct (Lib.join (wsA s) [32]) (by omega)
  obtain ⟨h1, h2⟩ := good_wsA hs hl
  rw [sp_wsA, if_pos h1, if_pos h1, h2] at h
  exact h
theorem eqS_refl (s : Su) : eqS s s = true := eqS_iff.2 rfl
theorem awake30_ct : Ct Tryd.prog 16 [] [] (Is2 (.d (.bool true)) []) := by
  have hw := Write30_ct suA (by decide) suA_in
  have hr := read_back suA_in (by decide)
  rw [awl] at hw hr
  have hS := Same30_ct suA suA
  rw [eqS_refl] at hS
  refine Ct.introF (E := E 34 0 [.tmp 0] [] [] [(1000001, [.fzF 1 6])]) tab_ok Tryd.call16 Tryd.func16 rfl rfl rfl rfl rfl (fun hin => ?_)
  (conv => whnf); refine (hw).use ?_
  (conv => whnf); refine (hr).use ?_
  (conv => whnf); refine (hS).use ?_
  exact Is2.mk rfl
theorem writesNo_law (s : Su) (hl : ¬ s.ed.length ≤ 64) : Ct Tryd.prog 6 [.d (suD s)] [] (Is2 (.d (.bool true)) []) := by
  refine Ct.introF (E := E 51 0 [.tmp 2] [] [] []) tab_ok Tryd.call6 Tryd.func6 rfl rfl rfl rfl rfl (fun hin => ?_)
  have hml : (s.ed.map (D.int .i64)).length = s.ed.length := List.length_map _
  (conv => whnf); refine (WriteNo_ct s hl).use ?_
  (conv => whnf); refine cond_d (fun h => ?_) (fun h => ?_)
  · (conv => whnf); refine (awake30_ct).use ?_
    exact Is2.mk rfl
  · exfalso; omega
theorem writesYes_law (s : Su) (hs : SuIn s) (hl : s.ed.length ≤ 64) : Ct Tryd.prog 6 [.d (suD s)] [] (Is2 (.d (.bool true)) []) := by
  have hS := same30_ct s s
  rw [eqS_refl] at hS
  refine Ct.introF (E := E 51 0 [.tmp 2] [] [] []) tab_ok Tryd.call6 Tryd.func6 rfl rfl rfl rfl rfl (fun hin => ?_)
  have hml : (s.ed.map (D.int .i64)).length = s.ed.length := List.length_map _
  (conv => whnf); refine (Write30_ct s hl hs).use ?_
  (conv => whnf); refine cond_d (fun h => ?_) (fun h => ?_)
  · exfalso; omega
  (conv => whnf); refine (read_back hs hl).use ?_
  (conv => whnf); refine (awake30_ct).use ?_
  (conv => whnf); refine (line30_ct s hs (by omega)).use ?_
  (conv => whnf); refine cond_d (fun h => ?_) (fun h => ?_)
  · (conv => whnf); refine (hS).use ?_
    exact Is2.mk rfl
  · exact absurd rfl h
theorem writes_law (s : Su) (hs : SuIn s) : Ct Tryd.prog 6 [.d (suD s)] [] (Is2 (.d (.bool true)) []) := by
  by_cases hl : s.ed.length ≤ 64
  · exact writesYes_law s hs hl
  · exact writesNo_law s hl
theorem reads30_law (l : List UInt8) (hl : l.length ≤ 2000000) : Ct Tryd.prog 7 [S l] [] (Is2 (.d (.bool true)) []) := by
  have hR := Read30_ct l (by omega)
  cases hg : goodW (spS l) with
  | false =>
    rw [hg, if_neg (by simp), if_neg (by simp)] at hR
    have hS : Ct Tryd.prog 19 [.d (suD su0), .d z0] [] (Is2 (.d (.bool true)) []) := by
      have h := same30_ct su0 su0
      rw [eqS_refl] at h
      exact Ct.nlD h
    refine Ct.introF (E := E 36 0 [.tmp 2] [] [] []) tab_ok Tryd.call7 Tryd.func7 rfl rfl rfl rfl rfl (fun hin => ?_)
    (conv => whnf); refine (hR).use ?_
    (conv => whnf); refine (awake30_ct).use ?_
    (conv => whnf); refine (hS).use ?_
    exact Is2.mk rfl
  | true =>
    rw [hg, if_pos rfl, if_pos rfl] at hR
    obtain ⟨h1, h2⟩ := good_line hg
    have hL := line30_ct (suW (spS l)) (suW_in _) (by omega)
    rw [h1, join_sp] at hL
    obtain ⟨s, hs⟩ : ∃ s, s = suW (spS l) := ⟨_, rfl⟩
    rw [← hs] at hR hL h2
    have hml : (s.ed.map (D.int .i64)).length = s.ed.length := List.length_map _
    refine Ct.introF (E := E 36 0 [.tmp 2] [] [] []) tab_ok Tryd.call7 Tryd.func7 rfl rfl rfl rfl rfl (fun hin => ?_)
    (conv => whnf); refine (hR).use ?_
    (conv => whnf); refine (awake30_ct).use ?_
    (conv => whnf); refine cond_d (fun h => ?_) (fun h => ?_)
    · (conv => whnf); refine (hL).use ?_
      exact isBool (by simp)
    · exfalso; omega
theorem line_inj {a b : Su} (ha : SuIn a) (hb : SuIn b) (la : a.ed.length ≤ 64) (lb : b.ed.length ≤ 64) : decide (Lib.join (wsA a) [32] = Lib.join (wsA b) [32]) = eqS a b := by
  cases h : eqS a b with
  | true => rw [eqS_iff.1 h]; simp
  | false =>
    apply decide_eq_false
    intro he
    have h1 := congrArg spS he
    rw [sp_wsA, sp_wsA] at h1
    have h2 := (good_wsA ha la).2
    rw [h1, (good_wsA hb lb).2] at h2
    rw [h2, eqS_refl] at h
    cases h
theorem sameW_law (a b : Su) (X Y : List UInt8) (e f : Int) (hA : Ct Tryd.prog 15 [.d (suD a)] [] (Is2 (.tup [S X, i64 e]) [])) (hB : Ct Tryd.prog 15 [.d (suD b)] [] (Is2 (.tup [S Y, i64 f]) []))
    (h : (e = 6) ∨ (e = 0 ∧ f = 6) ∨ (e = 0 ∧ f = 0 ∧ decide (X = Y) = eqS a b)) : Ct Tryd.prog 8 [.d (suD a), .d (suD b)] [] (Is2 (.d (.bool true)) []) := by
  have h1 := Same30_ct a b
  have h2 := same30_ct a b
  obtain ⟨g, hg⟩ : ∃ g, g = eqS a b := ⟨_, rfl⟩
  rw [← hg] at h1 h2 h
  rcases h with rfl | ⟨rfl, rfl⟩ | ⟨rfl, rfl, h⟩
  · clear hg
    refine Ct.introF (E := E 46 0 [.tmp 4] [] [] []) tab_ok Tryd.call8 Tryd.func8 rfl rfl rfl rfl rfl (fun hin => ?_)
    (conv => whnf); refine (hA).use ?_
    (conv => whnf); refine (hB).use ?_
    cases g with
    | true =>
      (conv => whnf); refine DrawI.mkF 26 [[], [19], [2, 20], [3, 20], [20, 21, 22], [2, 20], [3, 20], [20, 24, 25], [20, 23, 26], [20, 27], [28], [6, 29], [29, 30], [29, 31], [8, 32], [32, 33], [29, 32, 34], [29, 35], [5, 36], [7, 36], [36, 37, 38], [2, 36], [3, 36], [36, 40, 41], [36, 39, 42], [29, 36, 43]] (by decide +kernel) ?_
      refine DrawO.mkF _ ((awake30_ct).use (And.intro rfl rfl)) ?_
      repeat (first | refine DrawO.mkF _ (And.intro rfl rfl) ?_ | refine DrawO.mkF _ (Idx.mk _ rfl (And.intro rfl rfl)) ?_)
      refine DrawO.mkF _ ((h1).use (And.intro rfl rfl)) ?_
      repeat (first | refine DrawO.mkF _ (And.intro rfl rfl) ?_ | refine DrawO.mkF _ (Idx.mk _ rfl (And.intro rfl rfl)) ?_)
      refine DrawO.mkF _ ((h2).use (And.intro rfl rfl)) ?_
      repeat (first | refine DrawO.mkF _ (And.intro rfl rfl) ?_ | refine DrawO.mkF _ (Idx.mk _ rfl (And.intro rfl rfl)) ?_)
      exact Is2.mk rfl
    | false =>
      (conv => whnf); refine DrawI.mkF 26 [[], [19], [2, 20], [3, 20], [20, 21, 22], [2, 20], [3, 20], [20, 24, 25], [20, 23, 26], [20, 27], [28], [6, 29], [29, 30], [29, 31], [8, 32], [32, 33], [29, 32, 34], [29, 35], [5, 36], [7, 36], [36, 37, 38], [2, 36], [3, 36], [36, 40, 41], [36, 39, 42], [29, 36, 43]] (by decide +kernel) ?_
      refine DrawO.mkF _ ((awake30_ct).use (And.intro rfl rfl)) ?_
      repeat (first | refine DrawO.mkF _ (And.intro rfl rfl) ?_ | refine DrawO.mkF _ (Idx.mk _ rfl (And.intro rfl rfl)) ?_)
      refine DrawO.mkF _ ((h1).use (And.intro rfl rfl)) ?_
      repeat (first | refine DrawO.mkF _ (And.intro rfl rfl) ?_ | refine DrawO.mkF _ (Idx.mk _ rfl (And.intro rfl rfl)) ?_)
      refine DrawO.mkF _ ((h2).use (And.intro rfl rfl)) ?_
      repeat (first | refine DrawO.mkF _ (And.intro rfl rfl) ?_ | refine DrawO.mkF _ (Idx.mk _ rfl (And.intro rfl rfl)) ?_)
      exact Is2.mk rfl
  · clear hg
    refine Ct.introF (E := E 46 0 [.tmp 4] [] [] []) tab_ok Tryd.call8 Tryd.func8 rfl rfl rfl rfl rfl (fun hin => ?_)
    (conv => whnf); refine (hA).use ?_
    (conv => whnf); refine (hB).use ?_
    cases g with
    | true =>
      (conv => whnf); refine DrawI.mkF 26 [[], [19], [2, 20], [3, 20], [20, 21, 22], [2, 20], [3, 20], [20, 24, 25], [20, 23, 26], [20, 27], [28], [6, 29], [29, 30], [29, 31], [8, 32], [32, 33], [29, 32, 34], [29, 35], [5, 36], [7, 36], [36, 37, 38], [2, 36], [3, 36], [36, 40, 41], [36, 39, 42], [29, 36, 43]] (by decide +kernel) ?_
      refine DrawO.mkF _ ((awake30_ct).use (And.intro rfl rfl)) ?_
      repeat (first | refine DrawO.mkF _ (And.intro rfl rfl) ?_ | refine DrawO.mkF _ (Idx.mk _ rfl (And.intro rfl rfl)) ?_)
      refine DrawO.mkF _ ((h1).use (And.intro rfl rfl)) ?_
      repeat (first | refine DrawO.mkF _ (And.intro rfl rfl) ?_ | refine DrawO.mkF _ (Idx.mk _ rfl (And.intro rfl rfl)) ?_)
      refine DrawO.mkF _ ((h2).use (And.intro rfl rfl)) ?_
      repeat (first | refine DrawO.mkF _ (And.intro rfl rfl) ?_ | refine DrawO.mkF _ (Idx.mk _ rfl (And.intro rfl rfl)) ?_)
      exact Is2.mk rfl
    | false =>
      (conv => whnf); refine DrawI.mkF 26 [[], [19], [2, 20], [3, 20], [20, 21, 22], [2, 20], [3, 20], [20, 24, 25], [20, 23, 26], [20, 27], [28], [6, 29], [29, 30], [29, 31], [8, 32], [32, 33], [29, 32, 34], [29, 35], [5, 36], [7, 36], [36, 37, 38], [2, 36], [3, 36], [36, 40, 41], [36, 39, 42], [29, 36, 43]] (by decide +kernel) ?_
      refine DrawO.mkF _ ((awake30_ct).use (And.intro rfl rfl)) ?_
      repeat (first | refine DrawO.mkF _ (And.intro rfl rfl) ?_ | refine DrawO.mkF _ (Idx.mk _ rfl (And.intro rfl rfl)) ?_)
      refine DrawO.mkF _ ((h1).use (And.intro rfl rfl)) ?_
      repeat (first | refine DrawO.mkF _ (And.intro rfl rfl) ?_ | refine DrawO.mkF _ (Idx.mk _ rfl (And.intro rfl rfl)) ?_)
      refine DrawO.mkF _ ((h2).use (And.intro rfl rfl)) ?_
      repeat (first | refine DrawO.mkF _ (And.intro rfl rfl) ?_ | refine DrawO.mkF _ (Idx.mk _ rfl (And.intro rfl rfl)) ?_)
      exact Is2.mk rfl
  · clear hg
    refine Ct.introF (E := E 46 0 [.tmp 4] [] [] []) tab_ok Tryd.call8 Tryd.func8 rfl rfl rfl rfl rfl (fun hin => ?_)
    (conv => whnf); refine (hA).use ?_
    (conv => whnf); refine (hB).use ?_
    cases g with
    | true =>
      (conv => whnf); refine DrawI.mkF 26 [[], [19], [2, 20], [3, 20], [20, 21, 22], [2, 20], [3, 20], [20, 24, 25], [20, 23, 26], [20, 27], [28], [6, 29], [29, 30], [29, 31], [8, 32], [32, 33], [29, 32, 34], [29, 35], [5, 36], [7, 36], [36, 37, 38], [2, 36], [3, 36], [36, 40, 41], [36, 39, 42], [29, 36, 43]] (by decide +kernel) ?_
      refine DrawO.mkF _ ((awake30_ct).use (And.intro rfl rfl)) ?_
      repeat (first | refine DrawO.mkF _ (And.intro rfl rfl) ?_ | refine DrawO.mkF _ (Idx.mk _ rfl (And.intro rfl rfl)) ?_)
      refine DrawO.mkF _ ((h1).use (And.intro rfl rfl)) ?_
      repeat (first | refine DrawO.mkF _ (And.intro rfl rfl) ?_ | refine DrawO.mkF _ (Idx.mk _ rfl (And.intro rfl rfl)) ?_)
      refine DrawO.mkF _ ((h2).use (And.intro rfl rfl)) ?_
      repeat (first | refine DrawO.mkF _ (And.intro rfl rfl) ?_ | refine DrawO.mkF _ (Idx.mk _ rfl (And.intro rfl rfl)) ?_)
      refine DrawO.mkF _ ((h2).use (And.intro rfl rfl)) ?_
      repeat (first | refine DrawO.mkF _ (And.intro rfl rfl) ?_ | refine DrawO.mkF _ (Idx.mk _ rfl (And.intro rfl rfl)) ?_)
      exact isBool (by rw [h]; rfl)
    | false =>
      (conv => whnf); refine DrawI.mkF 26 [[], [19], [2, 20], [3, 20], [20, 21, 22], [2, 20], [3, 20], [20, 24, 25], [20, 23, 26], [20, 27], [28], [6, 29], [29, 30], [29, 31], [8, 32], [32, 33], [29, 32, 34], [29, 35], [5, 36], [7, 36], [36, 37, 38], [2, 36], [3, 36], [36, 40, 41], [36, 39, 42], [29, 36, 43]] (by decide +kernel) ?_
      refine DrawO.mkF _ ((awake30_ct).use (And.intro rfl rfl)) ?_
      repeat (first | refine DrawO.mkF _ (And.intro rfl rfl) ?_ | refine DrawO.mkF _ (Idx.mk _ rfl (And.intro rfl rfl)) ?_)
      refine DrawO.mkF _ ((h1).use (And.intro rfl rfl)) ?_
      repeat (first | refine DrawO.mkF _ (And.intro rfl rfl) ?_ | refine DrawO.mkF _ (Idx.mk _ rfl (And.intro rfl rfl)) ?_)
      refine DrawO.mkF _ ((h2).use (And.intro rfl rfl)) ?_
      repeat (first | refine DrawO.mkF _ (And.intro rfl rfl) ?_ | refine DrawO.mkF _ (Idx.mk _ rfl (And.intro rfl rfl)) ?_)
      refine DrawO.mkF _ ((h2).use (And.intro rfl rfl)) ?_
      repeat (first | refine DrawO.mkF _ (And.intro rfl rfl) ?_ | refine DrawO.mkF _ (Idx.mk _ rfl (And.intro rfl rfl)) ?_)
      exact isBool (by rw [h]; rfl)
theorem same_law (a b : Su) (ha : SuIn a) (hb : SuIn b) : Ct Tryd.prog 8 [.d (suD a), .d (suD b)] [] (Is2 (.d (.bool true)) []) := by
  by_cases la : a.ed.length ≤ 64
  · by_cases lb : b.ed.length ≤ 64
    · exact sameW_law a b _ _ 0 0 (Write30_ct a la ha) (Write30_ct b lb hb) (.inr (.inr ⟨rfl, rfl, line_inj ha hb la lb⟩))
    · exact sameW_law a b _ _ 0 6 (Write30_ct a la ha) (WriteNo_ct b lb) (.inr (.inl ⟨rfl, rfl⟩))
  · by_cases lb : b.ed.length ≤ 64
    · exact sameW_law a b _ _ 6 0 (WriteNo_ct a la) (Write30_ct b lb hb) (.inl rfl)
    · exact sameW_law a b _ _ 6 6 (WriteNo_ct a la) (WriteNo_ct b lb) (.inl rfl)
end Go.Proofs.YtklfieidipobpaaDoor.Txt
