/- Texts: a text is read. -/
import Derived.Test.YtklfieidipobpaaDoorKDeedG
import Derived.Maps.AppendAt
import Derived.Deep.DeepMust
set_option linter.unusedVariables false
set_option linter.unusedSimpArgs false
set_option linter.unnecessarySimpa false
set_option linter.unusedSectionVars false
set_option linter.all false
/- Texts: a text is read. -/
namespace Go.Proofs.YtklfieidipobpaaDoor.Txt
open Go.RowKit Go.Shelf Go.V
open Go.Eng (strOf strOf_size strOf_data HS Imm Ent)
attribute [local go_sem] Oper.semAt_some
set_option maxRecDepth 100000
set_option maxHeartbeats 4000000
/-- Whatever lies stays as it lies. -/
structure Still (W W' : World) : Prop where
  heap : ∀ (b : Nat) (o : Go.Obj), W.heap[b]? = some o → W'.heap[b]? = some o
  os : W'.os = W.os
  tape : W'.tape = W.tape
  output : W'.output = W.output
theorem Still.size {W W' : World} (h : Still W W') : W.heap.size ≤ W'.heap.size := by
  rcases Nat.eq_zero_or_pos W.heap.size with e | e
  · omega
  · have h1 : W.heap[W.heap.size - 1]? = some W.heap[W.heap.size - 1] := Array.getElem?_eq_getElem (by omega)
    have := (Array.getElem?_eq_some_iff.1 (h.heap _ _ h1)).1
    omega
theorem Still.grown {W W' : World} (h : Still W W') : W.grownBy W' none :=
  ⟨h.os, h.tape, h.output, h.size, fun k hk _ => by rw [Array.getElem?_eq_getElem hk]; exact h.heap _ _ (Array.getElem?_eq_getElem hk)⟩
def immOf (w : World) : Imm := ⟨fun b => w.heap[b]?, w.os, w.tape, w.output⟩
/-- A contract over data, called anywhere. -/
theorem Ct.still {P : Program} {f : FuncId} {vs : List AV} {r : AV} (h : Ct P f vs [] (Is2 r [])) (us : List Value) (w : World) (hus : ∀ I ρ, All2 (RelA I ρ) us vs) (hg : Glob (immOf w)) :
    Calls P f us.toArray w (fun e w' => (∃ v I ρ, e = .returned v ∧ RelA I ρ v r) ∧ Still w w') := by
  have := h.run (immOf w) (fun _ => .nilFunc) us [] (hus _ _) (.nil hg) (fun _ _ => rfl) w [] ⟨fun b o h => h, fun _ h => (by cases h), .nil, fun _ h => (by cases h), rfl, rfl, rfl⟩
  refine this.mono ?_
  rintro e w' ⟨v, I', L', rfl, hle, ⟨ρ', r', os', q1, _, _, _, _, q6⟩, hs⟩
  obtain ⟨rfl, rfl⟩ := q6
  exact ⟨⟨v, I', ρ', rfl, q1⟩, fun b o hb => hs.sat b o (hle.1 b o hb), hs.os.trans hle.2.1, hs.tape.trans hle.2.2.1, hs.output.trans hle.2.2.2⟩
abbrev trimL (x : List UInt8) : List UInt8 := Lib.trimSuffix x [10]
/-- The step that a line says. -/
def stpT (t : List UInt8) : St3 := match firstS t 7 with
  | some k => (k, valS k t 0, valS k t 1)
  | none => (0, 0, 0)
theorem resD_stp (t : List UInt8) : resD (firstS t 7) t = stD (stpT t) := by
  unfold stpT
  cases firstS t 7 <;> rfl
def errT (x : LnT) : Int := resE (firstS (trimL x.1) 7)
def stpX (x : LnT) : St3 := stpT (trimL x.1)
def encX (x : LnT) : List Value := [.int .i64 (stpX x).1, .int .i64 (stpX x).2.1, .int .i64 (stpX x).2.2]
theorem step_val {I : Imm} {ρ : Nat → Value} {v : Value} {k a b e : Int} (h : RelA I ρ v (.tup [.d (stepD k a b), i64 e])) : v = .tuple #[.agg #[.int .i64 k, .int .i64 a, .int .i64 b], .int .i64 e] := by
  cases h with
  | @tup us _ hl hx =>
    match us, hl, hx with
    | [u0, u1], _, hx =>
      have h0 := hx 0 u0 _ rfl rfl
      have h1 := hx 1 u1 _ rfl rfl
      cases h0 with
      | d h0 =>
        cases h1 with
        | d h1 =>
          cases h1
          cases h0 with
          | @agg ws _ hl2 _ hx2 =>
            match ws, hl2, hx2 with
            | [w0, w1, w2], _, hx2 =>
              have g0 := hx2 0 w0 _ rfl rfl
              have g1 := hx2 1 w1 _ rfl rfl
              have g2 := hx2 2 w2 _ rfl rfl
              cases g0
              cases g1
              cases g2
              rfl
theorem Lines_in (n : Nat) (s : ByteArray) (w : World) :
    CallsIn Fence.wide n Tryd.prog 28 #[.string s] w fun e w' => e = .returned (.func (.func 45) #[] #[.pointer (some ⟨w.heap.size, 0, none⟩)]) ∧ w' = w.alloc (.cells #[.string s] 9) := by
  refine callsIn_of_wp Tryd.func28 rfl trivial ?_ rfl
  simp only [Tryd.ntmps28, List.size_toArray, List.length_cons, List.length_nil, Nat.reduceAdd, Nat.reduceSub, Array.replicate_succ, Array.replicate_zero, List.push_toArray, List.append_toArray, List.nil_append, List.cons_append]
  gi_wp2
  go_ret
  exact ⟨rfl, rfl⟩
theorem trim_hT (x : LnT) (W : World) : Calls Tryd.prog 29 #[.string (strOf x.1), .string ⟨#[10]⟩] W fun e w' => e = .returned (.string (strOf (trimL x.1))) ∧ w' = W :=
  Tryd.strings_TrimSuffix (strOf x.1) ⟨#[10]⟩ W (by rw [strOf_size]; have := x.2; omega)
theorem step_hS (x : LnT) (W : World) (hg : Glob (immOf W)) : Calls Tryd.prog 13 #[.string (strOf (trimL x.1))] W fun e w' =>
    e = .returned (.tuple #[.agg #[.int .i64 (stpX x).1, .int .i64 (stpX x).2.1, .int .i64 (stpX x).2.2], .int .i64 (errT x)]) ∧ Still W w' := by
  have hl : (trimL x.1).length ≤ 1000000 := Nat.le_trans (trim_le x.1 [10]) x.2
  refine (Ct.still (Step_ct (trimL x.1) (by omega)) [.string (strOf (trimL x.1))] W (fun I ρ => .one (.d (.str (by omega)))) hg).mono ?_
  rintro e w' ⟨⟨v, I, ρ, rfl, h⟩, hst⟩
  rw [resD_stp] at h
  exact ⟨by rw [step_val h]; rfl, hst⟩
abbrev rI (n₀ : Nat) (w : World) (pre : List LnT) (W : World) : Prop :=
  ((((((∃ v, Boxed W (n₀ + 1 + 1 + 1 + 1) 34 v ∧ W.ownsRow n₀ 23 3 v pre.length (pre.flatMap encX) ∧ True) ∧ ∃ b, Boxed W (n₀ + 1 + 1 + 1 + 1 + 1) 9 b) ∧ Boxed W n₀ 34 (.slice none 0 0)) ∧ Boxed W (n₀ + 1) 3 (.int .i64 0)) ∧ Boxed W (n₀ + 1 + 1) 24 (.int .i64 0)) ∧ (∀ x ∈ pre, errT x = 0)) ∧ Below n₀ w W
theorem rI_own (n₀ : Nat) (w : World) (hw : w.heap.size = n₀) (B : Nat) (hB : n₀ ≤ B) : OwnFrom B (rI n₀ w) := by
  refine OwnFrom.and (Own.from ?_ _) (ownFrom_below (by omega) hB)
  intro t X Y row ⟨⟨⟨⟨⟨h1, b, h2⟩, h3⟩, h4⟩, h5⟩, h6⟩ hg hr
  exact ⟨⟨⟨⟨⟨holdsRow_own n₀ (n₀ + 1 + 1 + 1 + 1) 34 23 3 (fun pre : List LnT => pre.length) (fun pre => pre.flatMap encX) (fun _ _ => True) t X Y row h1 hg hr, b, boxed_own (n₀ + 1 + 1 + 1 + 1 + 1) 9 (fun _ : List LnT => b) t X Y row h2 hg hr⟩,
    boxed_own n₀ 34 (fun _ : List LnT => _) t X Y row h3 hg hr⟩, boxed_own (n₀ + 1) 3 (fun _ : List LnT => _) t X Y row h4 hg hr⟩, boxed_own (n₀ + 1 + 1) 24 (fun _ : List LnT => _) t X Y row h5 hg hr⟩, h6⟩
theorem rI_put (n₀ : Nat) (w : World) (hw : w.heap.size = n₀) (pre : List LnT) (A : World) (v : Value) (h : rI n₀ w pre A) : rI n₀ w pre (A.setCell ⟨n₀ + 1 + 1 + 1 + 1 + 1, 0, none⟩ v) := by
  obtain ⟨⟨⟨⟨⟨⟨⟨u, h1, hr, _⟩, b, h2⟩, h3⟩, h4⟩, h5⟩, h6⟩, hB⟩ := h
  exact ⟨⟨⟨⟨⟨⟨⟨u, h1.other (by omega) v, hr.kept (grownBy_setCell' A (n₀ + 1 + 1 + 1 + 1 + 1) v) (.inr (h2.not_row (by decide) hr).symm), trivial⟩, v, h2.set v⟩, h3.other (by omega) v⟩, h4.other (by omega) v⟩, h5.other (by omega) v⟩, h6⟩, hB.setCell (p := ⟨n₀ + 1 + 1 + 1 + 1 + 1, 0, none⟩) (by show n₀ ≤ n₀ + 1 + 1 + 1 + 1 + 1; omega) v⟩
abbrev rX (n₀ : Nat) (w : World) (pre : List LnT) (W : World) : Prop :=
  (∃ (q : List LnT) (x : LnT), (pre = q ++ [x] ∧ (∀ y ∈ q, errT y = 0) ∧ errT x ≠ 0) ∧ Boxed W n₀ 34 (.slice none 0 0) ∧ Boxed W (n₀ + 1) 3 (.int .i64 ((q.length : Int) + 1)) ∧ Boxed W (n₀ + 1 + 1) 24 (.int .i64 (errT x))) ∧ Below n₀ w W
theorem rX_own (n₀ : Nat) (w : World) (hw : w.heap.size = n₀) (B : Nat) (hB : n₀ ≤ B) : OwnFrom B (rX n₀ w) := by
  refine OwnFrom.and (Own.from ?_ _) (ownFrom_below (by omega) hB)
  intro t X Y row ⟨q, x, h1, h2, h3, h4⟩ hg hr
  exact ⟨q, x, h1, boxed_own n₀ 34 (fun _ : List LnT => _) t X Y row h2 hg hr, boxed_own (n₀ + 1) 3 (fun _ : List LnT => _) t X Y row h3 hg hr, boxed_own (n₀ + 1 + 1) 24 (fun _ : List LnT => _) t X Y row h4 hg hr⟩
theorem info23 : (Tryd.prog.info? 23).map (fun i => (i.zero, i.size, i.bytes)) = some (some (.agg #[.int .i64 0, .int .i64 0, .int .i64 0]), 3, 24) := by kernel_rfl
theorem glob_below {w W : World} (h : Glob (immOf w)) (hb : Below w.heap.size w W) : Glob (immOf W) := fun x hx => by
  obtain ⟨cs, t, fz, h1, h2⟩ := h x hx
  exact ⟨cs, t, fz, (hb.block _ (Array.getElem?_eq_some_iff.1 h1).1).trans h1, h2⟩
theorem cells3 (W : World) (t : TypeId) (a b c : Value) (j : Nat) (u : Value) (h : [a, b, c][j]? = some u) : (W.alloc (.cells #[a, b, c] t)).cell? (Addr.add ⟨W.heap.size, 0, none⟩ j) = some u := by
  have hn := World.alloc_heap_new W (.cells #[a, b, c] t)
  have e : Addr.add ⟨W.heap.size, 0, none⟩ j = ⟨W.heap.size, j, none⟩ := by
    unfold Addr.add
    by_cases hj : j = 0
    · rw [if_pos hj, hj]
    · rw [if_neg hj, Nat.zero_add]
  rw [e]
  unfold World.cell?
  rw [show (⟨W.heap.size, j, none⟩ : Addr).block = W.heap.size from rfl, hn]
  simpa using h
theorem row_still {W W' : World} (h : Still W W') {n₀ : Nat} {e : TypeId} {sz k : Nat} {v : Value} {xs : List Value} (hr : W.ownsRow n₀ e sz v k xs) : W'.ownsRow n₀ e sz v k xs := by
  refine hr.kept h.grown ?_
  rcases hr.2 with ⟨e, _⟩ | ⟨g, cap, cur, e, _⟩
  · exact .inl (by rw [e]; rfl)
  · exact .inr (by rw [e]; simp [Value.ownBlock])
/-- What a reading leaves behind. -/
def rdPost (s : List UInt8) (w : World) (e : Ending) (W : World) : Prop :=
  ((∃ ys : List LnT, ys.map (·.1) = lns s ∧ (∀ y ∈ ys, errT y = 0) ∧ ((ys.length ≤ 4096 ∧ ∃ v, e = .returned (.tuple #[v, .int .i64 0, .int .i64 0]) ∧ W.ownsRow w.heap.size 23 3 v ys.length (ys.flatMap encX)) ∨ (4096 < ys.length ∧ e = .returned (.tuple #[.slice none 0 0, .int .i64 0, .int .i64 6])))) ∨
   (∃ (q : List LnT) (x : LnT), (q ++ [x]).map (·.1) <+: lns s ∧ (∀ y ∈ q, errT y = 0) ∧ errT x ≠ 0 ∧ e = .returned (.tuple #[.slice none 0 0, .int .i64 ((q.length : Int) + 1), .int .i64 (errT x)]))) ∧ Below w.heap.size w W
theorem Read_in (n : Nat) (hn : n = 6) (s : List UInt8) (hs : s.length ≤ 131072) (w : World) (hg : Glob (immOf w)) :
    CallsIn Fence.wide n Tryd.prog 14 #[.string (strOf s)] w (rdPost s w) := by
  have hsz := strOf_size s
  refine callsIn_of_wp_marks Tryd.func14 rfl trivial ?_ rfl
  simp only [Tryd.ntmps14, List.size_toArray, List.length_cons, List.length_nil, Nat.reduceAdd, Nat.reduceSub, Array.replicate_succ, Array.replicate_zero, List.push_toArray, List.append_toArray, List.nil_append, List.cons_append]
  gi_wp2_with (refine ⟨trivial, ?_⟩; gi_at_call 28; refine (Lines_in _ _ _).mono ?_; rintro e w' ⟨rfl, rfl⟩)
  obtain ⟨n₀, hn₀⟩ : ∃ n₀, n₀ = w.heap.size := ⟨_, rfl⟩
  have b2 := Boxed.new w 34 (.slice none 0 0)
  obtain ⟨w2, hw2⟩ : ∃ w2, w2 = w.alloc (.cells #[.slice none 0 0] 34) := ⟨_, rfl⟩
  have z2 : w2.heap.size = n₀ + 1 := by rw [hw2, hn₀]; simp
  have b3 := Boxed.new w2 3 (.int .i64 0)
  obtain ⟨w3, hw3⟩ : ∃ w3, w3 = w2.alloc (.cells #[.int .i64 0] 3) := ⟨_, rfl⟩
  have z3 : w3.heap.size = n₀ + 1 + 1 := by rw [hw3]; simp [z2]
  have b4 := Boxed.new w3 24 (.int .i64 0)
  obtain ⟨w4, hw4⟩ : ∃ w4, w4 = w3.alloc (.cells #[.int .i64 0] 24) := ⟨_, rfl⟩
  have z4 : w4.heap.size = n₀ + 1 + 1 + 1 := by rw [hw4]; simp [z3]
  have b5 : (w4.alloc (.cells #[] 23)).heap[n₀ + 1 + 1 + 1]? = some (.cells #[] 23) := by rw [← z4]; exact World.alloc_heap_new _ _
  obtain ⟨w5, hw5⟩ : ∃ w5, w5 = w4.alloc (.cells #[] 23) := ⟨_, rfl⟩
  have z5 : w5.heap.size = n₀ + 1 + 1 + 1 + 1 := by rw [hw5]; simp [z4]
  have b6 := Boxed.new w5 34 (.slice (some ⟨n₀ + 1 + 1 + 1, 0, none⟩) 0 0)
  obtain ⟨w6, hw6⟩ : ∃ w6, w6 = w5.alloc (.cells #[.slice (some ⟨n₀ + 1 + 1 + 1, 0, none⟩) 0 0] 34) := ⟨_, rfl⟩
  have z6 : w6.heap.size = n₀ + 1 + 1 + 1 + 1 + 1 := by rw [hw6]; simp [z5]
  have b7 := Boxed.new w6 9 (.string (strOf s))
  obtain ⟨w7, hw7⟩ : ∃ w7, w7 = w6.alloc (.cells #[.string (strOf s)] 9) := ⟨_, rfl⟩
  have z7 : w7.heap.size = n₀ + 1 + 1 + 1 + 1 + 1 + 1 := by rw [hw7]; simp [z6]
  rw [← hn₀] at b2 ⊢
  rw [← hw2, ← hw3, ← hw4, ← hw5, ← hw6, ← hw7]
  rw [← hw2] at b2
  rw [← hw3, z2] at b3
  rw [← hw4, z3] at b4
  rw [← hw5] at b5
  rw [← hw6, z5] at b6
  rw [← hw7, z6] at b7
  have hB7 : Below n₀ w w7 := by
    have h2 : Below n₀ w w2 := by rw [hw2]; exact (Below.refl _ w).alloc (by omega) _
    have h3 : Below n₀ w w3 := by rw [hw3]; exact h2.alloc (by omega) _
    have h4 : Below n₀ w w4 := by rw [hw4]; exact h3.alloc (by omega) _
    have h5 : Below n₀ w w5 := by rw [hw5]; exact h4.alloc (by omega) _
    have h6 : Below n₀ w w6 := by rw [hw6]; exact h5.alloc (by omega) _
    rw [hw7]; exact h6.alloc (by omega) _
  have hI7 : rI n₀ w [] w7 := by
    refine ⟨⟨⟨⟨⟨⟨⟨.slice (some ⟨n₀ + 1 + 1 + 1, 0, none⟩) 0 0, ?_, ?_, trivial⟩, _, b7⟩, ?_⟩, ?_⟩, ?_⟩, fun x hx => by cases hx⟩, hB7⟩
    · rw [hw7]; exact b6.alloc _
    · refine ⟨rfl, .inr ⟨n₀ + 1 + 1 + 1, 0, #[], rfl, by omega, ?_, Nat.le_refl _, by decide, rfl, rfl⟩⟩
      have g6 : w6.heap[n₀ + 1 + 1 + 1]? = some (.cells #[] 23) := by rw [hw6]; exact (Below.heap_alloc _ _ _ (by omega)).trans b5
      rw [hw7]; exact (Below.heap_alloc _ _ _ (by omega)).trans g6
    · rw [hw7, hw6, hw5, hw4, hw3]; exact ((((b2.alloc _).alloc _).alloc _).alloc _).alloc _
    · rw [hw7, hw6, hw5, hw4]; exact (((b3.alloc _).alloc _).alloc _).alloc _
    · rw [hw7, hw6, hw5]; exact ((b4.alloc _).alloc _).alloc _
  have hn₁ : w.heap.size = n₀ := hn₀.symm
  clear hn₀
  clear hw2 hw3 hw4 hw5 hw6 hw7 b2 b3 b4 b5 b6 z2 z3 z4 z5 z6
  refine wpIn_rangeBox rfl (by omega) (gf := 45) (lb := #[.pointer (some ⟨n₀ + 1 + 1 + 1 + 1 + 1, 0, none⟩)]) rfl trivial (enters_of Tryd.func45 (by kernel_rfl) rfl)
    (lines_box _ (by omega) (n₀ + 1 + 1 + 1 + 1 + 1) s (by omega) w7 b7) (fun _ => rfl) (rI n₀ w) (rX n₀ w) (rI_own n₀ w hn₁ _ (by omega)) (rX_own n₀ w hn₁ _ (by omega)) (rI_put n₀ w hn₁) hI7
    (fun x => { tmps := #[.string (strOf s), undef, .pointer (some ⟨n₀, 0, none⟩), .pointer (some ⟨n₀ + 1, 0, none⟩), .pointer (some ⟨n₀ + 1 + 1, 0, none⟩), .pointer (some ⟨n₀ + 1 + 1 + 1 + 1, 0, none⟩), .string (strOf x.1), undef, undef,
      .string (strOf s), .int .i64 (s.length : Int), .bool (decide ((131072 : Int) < (s.length : Int))), .slice (some ⟨n₀ + 1 + 1 + 1, 0, none⟩) 0 0, .string (strOf s), .func (.func 45) #[] #[.pointer (some ⟨n₀ + 1 + 1 + 1 + 1 + 1, 0, none⟩)], .string (strOf x.1),
      undef, undef, undef, undef, undef, undef, undef, undef, undef, undef, undef, undef, undef, undef, undef, undef, undef, undef, undef, undef], defers := [] }) ?assign ?body ?done ?stop
  case assign =>
    intro l x W K hK
    gi_wp2
    exact hK
  case body =>
    rintro l pre x W hl ⟨⟨⟨⟨⟨⟨⟨v, hv, hrow, _⟩, b, hbs⟩, h2⟩, h3⟩, h4⟩, hok⟩, hB⟩ hlt
    have hbs' := hbs.lt
    obtain ⟨A, c, rfl⟩ : ∃ A c, v = .slice A pre.length c := by
      rcases hrow.2 with ⟨e, e2⟩ | ⟨g, cap, cur, e, _⟩
      · exact ⟨none, 0, by rw [e, e2]⟩
      · exact ⟨_, _, e⟩
    have hm1 : pre.length + 1 ≤ maxLen := by unfold maxLen; omega
    have hm2 : (pre.length + 1) * 24 ≤ 140737488355328 := by omega
    obtain ⟨i0, hi, hz0, hz1, hz2⟩ := info_parts info23
    have hgW := glob_below hg (hn₁.symm ▸ hB)
    have hT := trim_hT x W
    have hS := step_hS x W hgW
    by_cases he : errT x = 0
    · rw [he] at hS
      gi_wp2_with (first
        | (refine ⟨trivial, ?_⟩; gi_at_call 29; refine (CallsIn.inRound l (callsIn_wide.2 hT)).mono ?_; rintro e W1 ⟨rfl, rfl⟩)
        | (refine ⟨trivial, ?_⟩; gi_at_call 13; refine (CallsIn.inRound l (callsIn_wide.2 hS)).mono ?_; rintro e w' ⟨rfl, hst⟩; have hv' := hv.kept hst.grown (by simp); have hc' := hv'.cell; have hrow2 := (row_still hst hrow).alloc (.cells #[.int .i64 (stpX x).1, .int .i64 (stpX x).2.1, .int .i64 (stpX x).2.2] 23); have hc2 := (hv'.alloc (.cells #[.int .i64 (stpX x).1, .int .i64 (stpX x).2.1, .int .i64 (stpX x).2.2] 23)).cell)
        | (gi_at_builtin; go_must (refine wpListIn_append_own _ rfl _ _ 34 rfl n₀ 23 i0 _ 3 24 Tryd.underlying34 hi hz0 hz1 hz2 rfl (by decide) _ _ _ rfl (hrow2.alloc _) ⟨w'.heap.size + 1, 0, none⟩ 1 1 (encX x) rfl rfl (by rw [← World.size_alloc]; exact cells3 _ _ _ _ _) (by simp [encX, Value.oneCell']) hm1 hm2 (by have := hst.size; have := hB.size; simp; omega) ?_); intro v' w1 hown' hgrow _; obtain ⟨g', cap', rfl⟩ := ownsRow_succ hown'; obtain ⟨hv1, hv3, hr3, hk3, hb3⟩ := (hv'.alloc _).appended (by decide) hrow2 (by have := hst.size; have := hB.size; simp; omega) (by omega) hown' hgrow; have hc1 := hv1.cell; have hf1 := hv1.frozen))
      have thru : ∀ (B : Nat) (t : TypeId) (u : Value), t ≠ 23 → B ≠ n₀ + 1 + 1 + 1 + 1 → Boxed W1 B t u → Boxed (w1.setCell ⟨n₀ + 1 + 1 + 1 + 1, 0, none⟩ (.slice (some ⟨g', 0, none⟩) (pre.length + 1) cap')) B t u := fun B t u ht hne hu => by
        have hu2 := (hu.kept hst.grown (by simp)).alloc (.cells #[.int .i64 (stpX x).1, .int .i64 (stpX x).2.1, .int .i64 (stpX x).2.2] 23)
        exact ((hu2.alloc _).kept hgrow (hu2.not_row ht hrow2)).other hne _
      have hBs : Below n₀ W1 w' := (Below.refl n₀ W1).grown hst.grown (by have := hB.size; omega) (fun k e => by cases e)
      have hBf : Below n₀ W1 (w1.setCell ⟨n₀ + 1 + 1 + 1 + 1, 0, none⟩ (.slice (some ⟨g', 0, none⟩) (pre.length + 1) cap')) := (hBs.alloc (by have := hB.size; have := hst.size; omega) _).trans hb3
      refine ⟨((KeepsOthers.of_grownBy hst.grown (fun j o ej _ => by cases ej)).trans ((KeepsOthers.alloc _ _).trans hk3)).from _, fun u hu => thru _ _ u (by decide) (by omega) hu, ?_⟩
      refine ⟨⟨⟨⟨⟨⟨⟨_, hv3, ?_, trivial⟩, b, thru _ _ _ (by decide) (by omega) hbs⟩, thru _ _ _ (by decide) (by omega) h2⟩, thru _ _ _ (by decide) (by omega) h3⟩, thru _ _ _ (by decide) (by omega) h4⟩, ?_⟩, hB.trans hBf⟩
      · rw [List.length_append, List.flatMap_append]
        simpa using hr3
      · intro y hy
        rcases List.mem_append.1 hy with h | h
        · exact hok y h
        · rw [List.mem_singleton.1 h]; exact he
    · gi_wp2_with (first
        | (refine ⟨trivial, ?_⟩; gi_at_call 29; refine (CallsIn.inRound l (callsIn_wide.2 hT)).mono ?_; rintro e W1 ⟨rfl, rfl⟩)
        | (refine ⟨trivial, ?_⟩; gi_at_call 13; refine (CallsIn.inRound l (callsIn_wide.2 hS)).mono ?_; rintro e w' ⟨rfl, hst⟩))
      obtain ⟨w8, hw8⟩ : ∃ w8, w8 = w'.alloc (.cells #[.int .i64 (stpX x).1, .int .i64 (stpX x).2.1, .int .i64 (stpX x).2.2] 23) := ⟨_, rfl⟩
      have st8 : ∀ {B t u}, Boxed W1 B t u → Boxed w8 B t u := fun hu => by rw [hw8]; exact (hu.kept hst.grown (by simp)).alloc _
      have hk8 : KeepsOthers W1 w8 := by rw [hw8]; exact (KeepsOthers.of_grownBy hst.grown (fun j o ej _ => by cases ej)).trans (KeepsOthers.alloc _ _)
      have hB8 : Below n₀ w w8 := by
        rw [hw8]
        exact (hB.trans ((Below.refl n₀ W1).grown hst.grown (by have := hB.size; omega) (fun k e => by cases e))).alloc (by have := hB.size; have := hst.size; omega) _
      rw [← hw8]
      have k5 := (st8 hv).cell
      have k2 := st8 h2
      have k3 := st8 h3
      have k4 := st8 h4
      clear hw8
      have c2 := k2.cell
      have c3 := k3.cell
      have c4 := k4.cell
      have f2 := k2.frozen
      have f3 := k3.frozen
      have f4 := k4.frozen
      have hwr : IntKind.i64.wrap ((pre.length : Int) + 1) = (pre.length : Int) + 1 := IntWalk.i64_in _ (by omega)
      have hfin : boxPost w7.heap.size (n₀ + 1 + 1 + 1 + 1 + 1) 9 (rI n₀ w) (rX n₀ w) (pre ++ [x]) W1 .ret { tmps := #[], defers := [] } (((w8.setCell ⟨n₀, 0, none⟩ (.slice none 0 0)).setCell ⟨n₀ + 1, 0, none⟩ (.int .i64 ((pre.length : Int) + 1))).setCell ⟨n₀ + 1 + 1, 0, none⟩ (.int .i64 (errT x))).drew := by
        refine ⟨((((hk8.trans (KeepsOthers.setCell _ _ _)).trans (KeepsOthers.setCell _ _ _)).trans (KeepsOthers.setCell _ _ _)).trans (KeepsOthers.drew _)).from _, ⟨pre, x, ⟨rfl, hok, he⟩, ?_, ?_, ?_⟩, ?_⟩
        · exact ((k2.set _).other (by omega) _).other (by omega) _
        · exact ((k3.other (by omega) _).set _).other (by omega) _
        · exact ((k4.other (by omega) _).other (by omega) _).set _
        · exact (((hB8.setCell (p := ⟨n₀, 0, none⟩) (Nat.le_refl _) _).setCell (p := ⟨n₀ + 1, 0, none⟩) (by show n₀ ≤ n₀ + 1; omega) _).setCell (p := ⟨n₀ + 1 + 1, 0, none⟩) (by show n₀ ≤ n₀ + 1 + 1; omega) _).drew
      gi_region
      all_goals gi_wp2
      all_goals exact hfin
  case done =>
    rintro D ys W hD hys ⟨⟨⟨⟨⟨⟨⟨v, hv, hrow, _⟩, b, hbs⟩, h2⟩, h3⟩, h4⟩, hok⟩, hB⟩ hK
    obtain ⟨A, c, rfl⟩ : ∃ A c, v = .slice A ys.length c := by
      rcases hrow.2 with ⟨e, e2⟩ | ⟨g, cap, cur, e, _⟩
      · exact ⟨none, 0, by rw [e, e2]⟩
      · exact ⟨_, _, e⟩
    have c5 := hv.cell
    have c2 := h2.cell
    have c3 := h3.cell
    have c4 := h4.cell
    have f2 := h2.frozen
    have f3 := h3.frozen
    have f4 := h4.frozen
    by_cases hbig : 4096 < ys.length
    · gi_wp2
      obtain ⟨V, hV⟩ : ∃ V, V = (((W.setCell ⟨n₀, 0, none⟩ (.slice none 0 0)).setCell ⟨n₀ + 1, 0, none⟩ (.int .i64 0)).setCell ⟨n₀ + 1 + 1, 0, none⟩ (.int .i64 6)) := ⟨_, rfl⟩
      rw [← hV]
      have g2 : Boxed V n₀ 34 (.slice none 0 0) := by rw [hV]; exact ((h2.set _).other (by omega) _).other (by omega) _
      have g3 : Boxed V (n₀ + 1) 3 (.int .i64 0) := by rw [hV]; exact ((h3.other (by omega) _).set _).other (by omega) _
      have g4 : Boxed V (n₀ + 1 + 1) 24 (.int .i64 6) := by rw [hV]; exact ((h4.other (by omega) _).other (by omega) _).set _
      have kV : KeepsOthers W V := by rw [hV]; exact ((KeepsOthers.setCell _ _ _).trans (KeepsOthers.setCell _ _ _)).trans (KeepsOthers.setCell _ _ _)
      have bV : Below n₀ w V := by rw [hV]; exact ((hB.setCell (p := ⟨n₀, 0, none⟩) (Nat.le_refl _) _).setCell (p := ⟨n₀ + 1, 0, none⟩) (by show n₀ ≤ n₀ + 1; omega) _).setCell (p := ⟨n₀ + 1 + 1, 0, none⟩) (by show n₀ ≤ n₀ + 1 + 1; omega) _
      have kD := kV.same D _ hK rfl
      refine ⟨by simp, .inl ⟨_, _, rfl, run_takeDeferred kD, ?_⟩⟩
      have e2 := cell_kept g2.cell (grownBy_putObj' V D (.deferred none)) (fun r e => by cases e; exact ⟨_, kD, rfl⟩)
      have e3 := cell_kept g3.cell (grownBy_putObj' V D (.deferred none)) (fun r e => by cases e; exact ⟨_, kD, rfl⟩)
      have e4 := cell_kept g4.cell (grownBy_putObj' V D (.deferred none)) (fun r e => by cases e; exact ⟨_, kD, rfl⟩)
      refine ⟨_, (by simp [results, Tryd.f14, go_sem, e2, e3, e4]), .inl ⟨ys, hys, hok, .inr ⟨hbig, rfl⟩⟩, hn₁ ▸ bV.trans (belowK_b (w := w) (by omega) V D _ _ (by omega) kD rfl rfl)⟩
    · gi_wp2
      obtain ⟨V, hV⟩ : ∃ V, V = (((W.setCell ⟨n₀, 0, none⟩ (.slice A ys.length c)).setCell ⟨n₀ + 1, 0, none⟩ (.int .i64 0)).setCell ⟨n₀ + 1 + 1, 0, none⟩ (.int .i64 0)) := ⟨_, rfl⟩
      rw [← hV]
      have g2 : Boxed V n₀ 34 (.slice A ys.length c) := by rw [hV]; exact ((h2.set _).other (by omega) _).other (by omega) _
      have g3 : Boxed V (n₀ + 1) 3 (.int .i64 0) := by rw [hV]; exact ((h3.other (by omega) _).set _).other (by omega) _
      have g4 : Boxed V (n₀ + 1 + 1) 24 (.int .i64 0) := by rw [hV]; exact ((h4.other (by omega) _).other (by omega) _).set _
      have kV : KeepsOthers W V := by rw [hV]; exact ((KeepsOthers.setCell _ _ _).trans (KeepsOthers.setCell _ _ _)).trans (KeepsOthers.setCell _ _ _)
      have bV : Below n₀ w V := by rw [hV]; exact ((hB.setCell (p := ⟨n₀, 0, none⟩) (Nat.le_refl _) _).setCell (p := ⟨n₀ + 1, 0, none⟩) (by show n₀ ≤ n₀ + 1; omega) _).setCell (p := ⟨n₀ + 1 + 1, 0, none⟩) (by show n₀ ≤ n₀ + 1 + 1; omega) _
      have rV : V.ownsRow n₀ 23 3 (.slice A ys.length c) ys.length (ys.flatMap encX) := by
        have r1 := hrow.kept (grownBy_setCell' W n₀ (.slice A ys.length c)) (.inr (h2.not_row (by decide) hrow).symm)
        have r2 := r1.kept (grownBy_setCell' _ (n₀ + 1) (.int .i64 0)) (.inr ((h3.other (by omega) _).not_row (by decide) r1).symm)
        rw [hV]
        exact r2.kept (grownBy_setCell' _ (n₀ + 1 + 1) (.int .i64 0)) (.inr (((h4.other (by omega) _).other (by omega) _).not_row (by decide) r2).symm)
      have kD := kV.same D _ hK rfl
      refine ⟨by simp, .inl ⟨_, _, rfl, run_takeDeferred kD, ?_⟩⟩
      have e2 := cell_kept g2.cell (grownBy_putObj' V D (.deferred none)) (fun r e => by cases e; exact ⟨_, kD, rfl⟩)
      have e3 := cell_kept g3.cell (grownBy_putObj' V D (.deferred none)) (fun r e => by cases e; exact ⟨_, kD, rfl⟩)
      have e4 := cell_kept g4.cell (grownBy_putObj' V D (.deferred none)) (fun r e => by cases e; exact ⟨_, kD, rfl⟩)
      refine ⟨_, (by simp [results, Tryd.f14, go_sem, e2, e3, e4]), .inl ⟨ys, hys, hok, .inl ⟨by omega, _, rfl, hn₁ ▸ ownsRow_putObj rV _ kD rfl⟩⟩, hn₁ ▸ bV.trans (belowK_b (w := w) (by omega) V D _ _ (by omega) kD rfl rfl)⟩
  case stop =>
    rintro D pre W hD hpre ⟨⟨q, x, ⟨rfl, hq, hx⟩, h2, h3, h4⟩, hB⟩ hK
    gi_wp2
    obtain ⟨V, rfl⟩ : ∃ V, V = W := ⟨_, rfl⟩
    have g2 := h2
    have g3 := h3
    have g4 := h4
    have bV := hB
    have kV := KeepsOthers.refl V
    have kD := kV.same D _ hK rfl
    refine ⟨by simp, .inl ⟨_, _, rfl, run_takeDeferred kD, ?_⟩⟩
    have e2 := cell_kept g2.cell (grownBy_putObj' V D (.deferred none)) (fun r e => by cases e; exact ⟨_, kD, rfl⟩)
    have e3 := cell_kept g3.cell (grownBy_putObj' V D (.deferred none)) (fun r e => by cases e; exact ⟨_, kD, rfl⟩)
    have e4 := cell_kept g4.cell (grownBy_putObj' V D (.deferred none)) (fun r e => by cases e; exact ⟨_, kD, rfl⟩)
    refine ⟨_, (by simp [results, Tryd.f14, go_sem, e2, e3, e4]), .inr ⟨q, x, hpre, hq, hx, rfl⟩, hn₁ ▸ bV.trans (belowK_b (w := w) (by omega) V D _ _ (by omega) kD rfl rfl)⟩
end Go.Proofs.YtklfieidipobpaaDoor.Txt
