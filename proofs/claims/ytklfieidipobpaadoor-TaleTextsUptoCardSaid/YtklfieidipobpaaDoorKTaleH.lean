/- Texts: a text is read. -/
import Derived.Test.YtklfieidipobpaaDoorKTaleG
import Derived.Maps.AppendAt
import Derived.Deep.DeepMust
set_option linter.unusedVariables false
set_option linter.unusedSimpArgs false
set_option linter.unnecessarySimpa false
set_option linter.unusedSectionVars false
set_option linter.all false
/- Texts: a text is read. -/
namespace Go.Proofs.YtklfieidipobpaaDoor.Txt
open Go.RowKit Go.Shelf Go.V
open Go.Eng (strOf strOf_size strOf_data HS Imm Ent)
attribute [local go_sem] Oper.semAt_some
set_option maxRecDepth 100000
set_option maxHeartbeats 4000000
/-- Whatever lies stays as it lies. -/
structure Still (W W' : World) : Prop where
  heap : ∀ (b : Nat) (o : Go.Obj), W.heap[b]? = some o → W'.heap[b]? = some o
  os : W'.os = W.os
  tape : W'.tape = W.tape
  output : W'.output = W.output
theorem Still.size {W W' : World} (h : Still W W') : W.heap.size ≤ W'.heap.size := by
  rcases Nat.eq_zero_or_pos W.heap.size with e | e
  · omega
  · have h1 : W.heap[W.heap.size - 1]? = some W.heap[W.heap.size - 1] := Array.getElem?_eq_getElem (by omega)
    have := (Array.getElem?_eq_some_iff.1 (h.heap _ _ h1)).1
    omega
theorem Still.grown {W W' : World} (h : Still W W') : W.grownBy W' none :=
  ⟨h.os, h.tape, h.output, h.size, fun k hk _ => by rw [Array.getElem?_eq_getElem hk]; exact h.heap _ _ (Array.getElem?_eq_getElem hk)⟩
def immOf (w : World) : Imm := ⟨fun b => w.heap[b]?, w.os, w.tape, w.output⟩
/-- A contract over data, called anywhere. -/
theorem Ct.still {P : Program} {f : FuncId} {vs : List AV} {r : AV} (h : Ct P f vs [] (Is2 r [])) (us : List Value) (w : World) (hus : ∀ I ρ, All2 (RelA I ρ) us vs) (hg : Glob (immOf w)) :
    Calls P f us.toArray w (fun e w' => (∃ v I ρ, e = .returned v ∧ RelA I ρ v r) ∧ Still w w') := by
  have := h.run (immOf w) (fun _ => .nilFunc) us [] (hus _ _) (.nil hg) (fun _ _ => rfl) w [] ⟨fun b o h => h, fun _ h => (by cases h), .nil, fun _ h => (by cases h), rfl, rfl, rfl⟩
  refine this.mono ?_
  rintro e w' ⟨v, I', L', rfl, hle, ⟨ρ', r', os', q1, _, _, _, _, q6⟩, hs⟩
  obtain ⟨rfl, rfl⟩ := q6
  exact ⟨⟨v, I', ρ', rfl, q1⟩, fun b o hb => hs.sat b o (hle.1 b o hb), hs.os.trans hle.2.1, hs.tape.trans hle.2.2.1, hs.output.trans hle.2.2.2⟩
abbrev trimL (x : List UInt8) : List UInt8 := Lib.trimSuffix x [10]
/-- The step that a line says. -/
def stpT (t : List UInt8) : St3 := match firstS t 7 with
  | some k => (k, valS k t 0, valS k t 1)
  | none => (0, 0, 0)
theorem resD_stp (t : List UInt8) : resD (firstS t 7) t = stD (stpT t) := by
  unfold stpT
  cases firstS t 7 <;> rfl
def errT (x : LnT) : Int := resE (firstS (trimL x.1) 7)
def stpX (x : LnT) : St3 := stpT (trimL x.1)
def encX (x : LnT) : List Value := [.int .i64 (stpX x).1, .int .i64 (stpX x).2.1, .int .i64 (stpX x).2.2]
theorem step_val {I : Imm} {ρ : Nat → Value} {v : Value} {k a b e : Int} (h : RelA I ρ v (.tup [.d (stepD k a b), i64 e])) : v = .tuple #[.agg #[.int .i64 k, .int .i64 a, .int .i64 b], .int .i64 e] := by
  cases h with
  | @tup us _ hl hx =>
    match us, hl, hx with
    | [u0, u1], _, hx =>
      have h0 := hx 0 u0 _ rfl rfl
      have h1 := hx 1 u1 _ rfl rfl
      cases h0 with
      | d h0 =>
        cases h1 with
        | d h1 =>
          cases h1
          cases h0 with
          | @agg ws _ hl2 _ hx2 =>
            match ws, hl2, hx2 with
            | [w0, w1, w2], _, hx2 =>
              have g0 := hx2 0 w0 _ rfl rfl
              have g1 := hx2 1 w1 _ rfl rfl
              have g2 := hx2 2 w2 _ rfl rfl
              cases g0
              cases g1
              cases g2
              rfl
theorem Lines_in (n : Nat) (s : ByteArray) (w : World) :
    CallsIn Fence.wide n Tryd.prog 28 #[.string s] w fun e w' => e = .returned (.func (.func 45) #[] #[.pointer (some ⟨w.heap.size, 0, none⟩)]) ∧ w' = w.alloc (.cells #[.string s] 9) := by
  refine callsIn_of_wp Tryd.func28 rfl trivial ?_ rfl
  simp only [Tryd.ntmps28, List.size_toArray, List.length_cons, List.length_nil, Nat.reduceAdd, Nat.reduceSub, Array.replicate_succ, Array.replicate_zero, List.push_toArray, List.append_toArray, List.nil_append, List.cons_append]
  gi_wp2
  go_ret
  exact ⟨rfl, rfl⟩
theorem trim_hT (x : LnT) (W : World) : Calls Tryd.prog 29 #[.string (strOf x.1), .string ⟨#[10]⟩] W fun e w' => e = .returned (.string (strOf (trimL x.1))) ∧ w' = W :=
  Tryd.strings_TrimSuffix (strOf x.1) ⟨#[10]⟩ W (by rw [strOf_size]; have := x.2; omega)
theorem step_hS (x : LnT) (W : World) (hg : Glob (immOf W)) : Calls Tryd.prog 13 #[.string (strOf (trimL x.1))] W fun e w' =>
    e = .returned (.tuple #[.agg #[.int .i64 (stpX x).1, .int .i64 (stpX x).2.1, .int .i64 (stpX x).2.2], .int .i64 (errT x)]) ∧ Still W w' := by
  have hl : (trimL x.1).length ≤ 1000000 := Nat.le_trans (trim_le x.1 [10]) x.2
  refine (Ct.still (Step_ct (trimL x.1) (by omega)) [.string (strOf (trimL x.1))] W (fun I ρ => .one (.d (.str (by omega)))) hg).mono ?_
  rintro e w' ⟨⟨v, I, ρ, rfl, h⟩, hst⟩
  rw [resD_stp] at h
  exact ⟨by rw [step_val h]; rfl, hst⟩
abbrev rI (n₀ : Nat) (w : World) (pre : List LnT) (W : World) : Prop :=
  ((((((∃ v, Boxed W (n₀ + 1 + 1 + 1 + 1) 34 v ∧ W.ownsRow n₀ 23 3 v pre.length (pre.flatMap encX) ∧ True) ∧ ∃ b, Boxed W (n₀ + 1 + 1 + 1 + 1 + 1) 9 b) ∧ Boxed W n₀ 34 (.slice none 0 0)) ∧ Boxed W (n₀ + 1) 3 (.int .i64 0)) ∧ Boxed W (n₀ + 1 + 1) 24 (.int .i64 0)) ∧ (∀ x ∈ pre, errT x = 0)) ∧ Below n₀ w W
theorem rI_own (n₀ : Nat) (w : World) (hw : w.heap.size = n₀) (B : Nat) (hB : n₀ ≤ B) : OwnFrom B (rI n₀ w) := by
  refine OwnFrom.and (Own.from ?_ _) (ownFrom_below (by omega) hB)
  intro t X Y row ⟨⟨⟨⟨⟨h1, b, h2⟩, h3⟩, h4⟩, h5⟩, h6⟩ hg hr
  exact ⟨⟨⟨⟨⟨holdsRow_own n₀ (n₀ + 1 + 1 + 1 + 1) 34 23 3 (fun pre : List LnT => pre.length) (fun pre => pre.flatMap encX) (fun _ _ => True) t X Y row h1 hg hr, b, boxed_own (n₀ + 1 + 1 + 1 + 1 + 1) 9 (fun _ : List LnT => b) t X Y row h2 hg hr⟩,
    boxed_own n₀ 34 (fun _ : List LnT => _) t X Y row h3 hg hr⟩, boxed_own (n₀ + 1) 3 (fun _ : List LnT => _) t X Y row h4 hg hr⟩, boxed_own (n₀ + 1 + 1) 24 (fun _ : List LnT => _) t X Y row h5 hg hr⟩, h6⟩
theorem rI_put (n₀ : Nat) (w : World) (hw : w.heap.size = n₀) (pre : List LnT) (A : World) (v : Value) (h : rI n₀ w pre A) : rI n₀ w pre (A.setCell ⟨n₀ + 1 + 1 + 1 + 1 + 1, 0, none⟩ v) := by
  obtain ⟨⟨⟨⟨⟨⟨⟨u, h1, hr, _⟩, b, h2⟩, h3⟩, h4⟩, h5⟩, h6⟩, hB⟩ := h
  exact ⟨⟨⟨⟨⟨⟨⟨u, h1.other (by omega) v, hr.kept (grownBy_setCell' A (n₀ + 1 + 1 + 1 + 1 + 1) v) (.inr (h2.not_row (by decide) hr).symm), trivial⟩, v, h2.set v⟩, h3.other (by omega) v⟩, h4.other (by omega) v⟩, h5.other (by omega) v⟩, h6⟩, hB.setCell (p := ⟨n₀ + 1 + 1 + 1 + 1 + 1, 0, none⟩) (by show n₀ ≤ n₀ + 1 + 1 + 1 + 1 + 1; omega) v⟩
abbrev rX (n₀ : Nat) (w : World) (pre : List LnT) (W : World) : Prop :=
  (∃ (q : List LnT) (x : LnT), (pre = q ++ [x] ∧ (∀ y ∈ q, errT y = 0) ∧ errT x ≠ 0) ∧ Boxed W n₀ 34 (.slice none 0 0) ∧ Boxed W (n₀ + 1) 3 (.int .i64 ((q.length : Int) + 1)) ∧ Boxed W (n₀ + 1 + 1) 24 (.int .i64 (errT x))) ∧ Below n₀ w W
theorem rX_own (n₀ : Nat) (w : World) (hw : w.heap.size = n₀) (B : Nat) (hB : n₀ ≤ B) : OwnFrom B (rX n₀ w) := by
  refine OwnFrom.and (Own.from ?_ _) (ownFrom_below (by omega) hB)
  intro t X Y row ⟨q, x, h1, h2, h3, h4⟩ hg hr
  exact ⟨q, x, h1, boxed_own n₀ 34 (fun _ : List LnT => _) t X Y row h2 hg hr, boxed_own (n₀ + 1) 3 (fun _ : List LnT => _) t X Y row h3 hg hr, boxed_own (n₀ + 1 + 1) 24 (fun _ : List LnT => _) t X Y row h4 hg hr⟩
theorem info23 : (Tryd.prog.info? 23).map (fun i => (i.zero, i.size, i.bytes)) = some (some (.agg #[.int .i64 0, .int .i64 0, .int .i64 0]), 3, 24) := by kernel_rfl
theorem glob_below {w W : World} (h : Glob (immOf w)) (hb : Below w.heap.size w W) : Glob (immOf W) := fun x hx => by
  obtain ⟨cs, t, fz, h1, h2⟩ := h x hx
  exact ⟨cs, t, fz, (hb.block _ (Array.getElem?_eq_some_iff.1 h1).1).trans h1, h2⟩
theorem cells3 (W : World) (t : TypeId) (a b c : Value) (j : Nat) (u : Value) (h : [a, b, c][j]? = some u) : (W.alloc (.cells #[a, b, c] t)).cell? (Addr.add ⟨W.heap.size, 0, none⟩ j) = some u := by
  have hn := World.alloc_heap_new W (.cells #[a, b, c] t)
  have e : Addr.add ⟨W.heap.size, 0, none⟩ j = ⟨W.heap.size, j, none⟩ := by
    unfold Addr.add
    by_cases hj : j = 0
    · rw [if_pos hj, hj]
    · rw [if_neg hj, Nat.zero_add]
  rw [e]
  unfold World.cell?
  rw [show (⟨W.heap.size, j, none⟩ : Addr).block = W.heap.size from rfl, hn]
  simpa using h
theorem row_still {W W' : World} (h : Still W W') {n₀ : Nat} {e : TypeId} {sz k : Nat} {v : Value} {xs : List Value} (hr : W.ownsRow n₀ e sz v k xs) : W'.ownsRow n₀ e sz v k xs := by
  refine hr.kept h.grown ?_
  rcases hr.2 with ⟨e, _⟩ | ⟨g, cap, cur, e, _⟩
  · exact .inl (by rw [e]; rfl)
  · exact .inr (by rw [e]; simp [Value.ownBlock])
/-- What a reading leaves behind. -/
def rdPost (s : List UInt8) (w : World) (e : Ending) (W : World) : Prop :=
  ((∃ ys : List LnT, ys.map (·.1) = lns s ∧ (∀ y ∈ ys, errT y = 0) ∧ ((ys.length ≤ 4096 ∧ ∃ v, e = .returned (.tuple #[v, .int .i64 0, .int .i64 0]) ∧ W.ownsRow w.heap.size 23 3 v ys.length (ys.flatMap encX)) ∨ (4096 < ys.length ∧ e = .returned (.tuple #[.slice none 0 0, .int .i64 0, .int .i64 6])))) ∨
   (∃ (q : List LnT) (x : LnT), (q ++ [x]).map (·.1) <+: lns s ∧ (∀ y ∈ q, errT y = 0) ∧ errT x ≠ 0 ∧ e = .returned (.tuple #[.slice none 0 0, .int .i64 ((q.length : Int) + 1), .int .i64 (errT x)]))) ∧ Below w.heap.size w W
theorem Read_in (n : Nat) (hn : n = 6) (s : List UInt8) (hs : s.length ≤ 131072) (w : World) (hg : Glob (immOf w)) :
    CallsIn Fence.wide n Tryd.prog 14 #[.string (strOf s)] w (rdPost s w) := by
  have hsz := strOf_size s
  refine callsIn_of_wp_marks Tryd.func14 rfl trivial ?_ rfl
  simp only [Tryd.ntmps14, List.size_toArray, List.length_cons, List.length_nil, Nat.reduceAdd, Nat.reduceSub, Array.replicate_succ, Array.replicate_zero, List.push_toArray, List.append_toArray, List.nil_append, List.cons_append]
  gi_wp2_with (refine ⟨trivial, ?_⟩; gi_at_call 28; refine (Lines_in _ _ _).mono ?_; rintro e w' ⟨rfl, rfl⟩)
  obtain ⟨n₀, hn₀⟩ : ∃ n₀, n₀ = w.heap.size := ⟨_, rfl⟩
  have b2 := Boxed.new w 34 (.slice none 0 0)
  obtain ⟨w2, hw2⟩ : ∃ w2, w2 = w.alloc (.cells #[.slice none 0 0] 34) := ⟨_, rfl⟩
  have z2 : w2.heap.size = n₀ + 1 := by rw [hw2, hn₀]; simp
  have b3 := Boxed.new w2 3 (.int .i64 0)
  obtain ⟨w3, hw3⟩ : ∃ w3, w3 = w2.alloc (.cells #[.int .i64 0] 3) := ⟨_, rfl⟩
  have z3 : w3.heap.size = n₀ + 1 + 1 := by rw [hw3]; simp [z2]
  have b4 := Boxed.new w3 24 (.int .i64 0)
  obtain ⟨w4, hw4⟩ : ∃ w4, w4 = w3.alloc (.cells #[.int .i64 0] 24) := ⟨_, rfl⟩
  have z4 : w4.heap.size = n₀ + 1 + 1 + 1 := by rw [hw4]; simp [z3]
  have b5 : (w4.alloc (.cells #[] 23)).heap[n₀ + 1 + 1 + 1]? = some (.cells #[] 23) := by rw [← z4]; exact World.alloc_heap_new _ _
  obtain ⟨w5, hw5⟩ : ∃ w5, w5 = w4.alloc (.cells #[] 23) := ⟨_, rfl⟩
  have z5 : w5.heap.size = n₀ + 1 + 1 + 1 + 1 := by rw [hw5]; simp [z4]
  have b6 := Boxed.new w5 34 (.slice (some ⟨n₀ + 1 + 1 + 1, 0, none⟩) 0 0)
  obtain ⟨w6, hw6⟩ : ∃ w6, w6 = w5.alloc (.cells #[.slice (some ⟨n₀ + 1 + 1 + 1, 0, none⟩) 0 0] 34) := ⟨_, rfl⟩
  have z6 : w6.heap.size = n₀ + 1 + 1 + 1 + 1 + 1 := by rw [hw6]; simp [z5]
  have b7 := Boxed.new w6 9 (.string (strOf s))
  obtain ⟨w7, hw7⟩ : ∃ w7, w7 = w6.alloc (.cells #[.string (strOf s)] 9) := ⟨_, rfl⟩
  have z7 : w7.heap.size = n₀ + 1 + 1 + 1 + 1 + 1 + 1 := by rw [hw7]; simp [z6]
  rw [← hn₀] at b2 ⊢
  rw [← hw2, ← hw3, ← hw4, ← hw5, ← hw6, ← hw7]
  rw [← hw2] at b2
  rw [← hw3, z2] at b3
  rw [← hw4, z3] at b4
  rw [← hw5] at b5
  rw [← hw6, z5] at b6
  rw [← hw7, z6] at b7
  have hB7 : Below n₀ w w7 := by
    have h2 : Below n₀ w w2 := by rw [hw2]; exact (Below.refl _ w).alloc (by omega) _
    have h3 : Below n₀ w w3 := by rw [hw3]; exact h2.alloc (by omega) _
    have h4 : Below n₀ w w4 := by rw [hw4]; exact h3.alloc (by omega) _
    have h5 : Below n₀ w w5 := by rw [hw5]; exact h4.alloc (by omega) _
    have h6 : Below n₀ w w6 := by rw [hw6]; exact h5.alloc (by omega) _
    rw [hw7]; exact h6.alloc (by omega) _
  have hI7 : rI n₀ w [] w7 := by
    refine ⟨⟨⟨⟨⟨⟨⟨.slice (some ⟨n₀ + 1 + 1 + 1, 0, none⟩) 0 0, ?_, ?_, trivial⟩, _, b7⟩, ?_⟩, ?_⟩, ?_⟩, fun x hx => by cases hx⟩, hB7⟩
    · rw [hw7]; exact b6.alloc _
    · refine ⟨rfl, .inr ⟨n₀ + 1 + 1 + 1, 0, #[], rfl, by omega, ?_, Nat.le_refl _, by decide, rfl, rfl⟩⟩
      have g6 : w6.heap[n₀ + 1 + 1 + 1]? = some (.cells #[] 23) := by rw [hw6]; exact (Below.heap_alloc _ _ _ (by omega)).trans b5
      rw [hw7]; exact (Below.heap_alloc _ _ _ (by omega)).trans g6
    · rw [hw7, hw6, hw5, hw4, hw3]; exact ((((b2.alloc _).alloc _).alloc _).alloc _).alloc _
    · rw [hw7, hw6, hw5, hw4]; exact (((b3.alloc _).alloc _).alloc _).alloc _
    · rw [hw7, hw6, hw5]; exact ((b4.alloc _).alloc _).alloc _
  have hn₁ : w.heap.size = n₀ := hn₀.symm
  clear hn₀
  clear hw2 hw3 hw4 hw5 hw6 hw7 b2 b3 b4 b5 b6 z2 z3 z4 z5 z6
  refine wpIn_rangeBox rfl (by omega) (gf := 45) (lb := #[.pointer (some ⟨n₀ + 1 + 1 + 1 + 1 + 1, 0, none⟩)]) rfl trivial (enters_of Tryd.func45 (by kernel_rfl) rfl)
    (lines_box _ (by omega) (n₀ + 1 + 1 + 1 + 1 + 1) s (by omega) w7 b7) (fun _ => rfl) (rI n₀ w) (rX n₀ w) (rI_own n₀ w hn₁ _ (by omega)) (rX_own n₀ w hn₁ _ (by omega)) (rI_put n₀ w hn₁) hI7
    (fun x => { tmps := #[.string (strOf s), undef, .pointer (some ⟨n₀, 0, none⟩), .pointer (some ⟨n₀ + 1, 0, none⟩), .pointer (some ⟨n₀ + 1 + 1, 0, none⟩), .pointer (some ⟨n₀ + 1 + 1 + 1 + 1, 0, none⟩), .string (strOf x.1), undef, undef,
      .string (strOf s), .int .i64 (s.length : Int), .bool (decide ((131072 : Int) < (s.length : Int))), .slice (some ⟨n₀ + 1 + 1 + 1, 0, none⟩) 0 0, .string (strOf s), .func (.func 45) #[] #[.pointer (some ⟨n₀ + 1 + 1 + 1 + 1 + 1, 0, none⟩)], .string (strOf x.1),
      undef, undef, undef, undef, undef, undef, undef, undef, undef, undef, undef, undef, undef, undef, undef, undef, undef, undef, undef, undef], defers := [] }) ?assign ?body ?done ?stop
  case assign =>
    intro l x W K hK
    gi_wp2
    exact hK
  case body =>
    rintro l pre x W hl ⟨⟨⟨⟨⟨⟨⟨v, hv, hrow, _⟩, b, hbs⟩, h2⟩, h3⟩, h4⟩, hok⟩, hB⟩ hlt
    have hbs' := hbs.lt
    obtain ⟨A, c, rfl⟩ : ∃ A c, v = .slice A pre.length c := by
      rcases hrow.2 with ⟨e, e2⟩ | ⟨g, cap, cur, e, _⟩
      · exact ⟨none, 0, by rw [e, e2]⟩
      · exact ⟨_, _, e⟩
    have hm1 : pre.length + 1 ≤ maxLen := by unfold maxLen; omega
    have hm2 : (pre.length + 1) * 24 ≤ 140737488355328 := by omega
    obtain ⟨i0, hi, hz0, hz1, hz2⟩ := info_parts info23
    have hgW := glob_below hg (hn₁.symm ▸ hB)
    have hT := trim_hT x W
    have hS := step_hS x W hgW
    by_cases he : errT x = 0
    · rw [he] at hS
      gi_wp2_with (first
        | (refine ⟨trivial, ?_⟩; gi_at_call 29; refine (CallsIn.inRound l (callsIn_wide.2 hT)).mono ?_; rintro e W1 ⟨rfl, rfl⟩)
        | (refine ⟨trivial, ?_⟩; gi_at_call 13; refine (CallsIn.inRound l (callsIn_wide.2 hS)).mono ?_; rintro e w' ⟨rfl, hst⟩; have hv' := hv.kept hst.grown (by simp); have hc' := hv'.cell; have hrow2 := (row_still hst hrow).alloc (.cells #[.int .i64 (stpX x).1, .int .i64 (stpX x).2.1, .int .i64 (stpX x).2.2] 23); have hc2 := (hv'.alloc (.cells #[.int .i64 (stpX x).1, .int .i64 (stpX x).2.1, .int .i64 (stpX x).2.2] 23)).cell)
        | (gi_at_builtin; go_must (refine wpListIn_append_own _ rfl _ _ 34 rfl n₀ 23 i0 _ 3 24 Tryd.underlying34 hi hz0 hz1 hz2 rfl (by decide) _ _ _ rfl (hrow2.alloc _) ⟨w'.heap.size + 1, 0, none⟩ 1 1 (encX x) rfl rfl (by rw [← World.size_alloc]; exact cells3 _ _ _ _ _) (by simp [encX, Value.oneCell']) hm1 hm2 (by have := hst.size; have := hB.size; simp; omega) ?_); intro v' w1 hown' hgrow _; obtain ⟨g', cap', rfl⟩ := ownsRow_succ hown'; obtain ⟨hv1, hv3, hr3, hk3, hb3⟩ := (hv'.alloc _).appended (by decide) hrow2 (by have := hst.size; have := hB.size; simp; omega) (by omega) hown' hgrow; have hc1 := hv1.cell; have hf1 := hv1.frozen))
      have thru : ∀ (B : Nat) (t : TypeId) (u : Value), t ≠ 23 → B ≠ n₀ + 1 + 1 + 1 + 1 → Boxed W1 B t u → Boxed (w1.setCell ⟨n₀ + 1 + 1 + 1 + 1, 0, none⟩ (.slice (some ⟨g', 0, none⟩) (pre.length + 1) cap')) B t u := fun B t u ht hne hu => by
        have hu2 := (hu.kept hst.grown (by simp)).alloc (.cells #[.int .i64 (stpX x).1, .int .i64 (stpX x).2.1, .int .i64 (stpX x).2.2] 23)
        exact ((hu2.alloc _).kept hgrow (hu2.not_row ht hrow2)).other hne _
      have hBs : Below n₀ W1 w' := (Below.refl n₀ W1).grown hst.grown (by have := hB.size; omega) (fun k e => by cases e)
      have hBf : Below n₀ W1 (w1.setCell ⟨n₀ + 1 + 1 + 1 + 1, 0, none⟩ (.slice (some ⟨g', 0, none⟩) (pre.length + 1) cap')) := (hBs.alloc (by have := hB.size; have := hst.size; omega) _).trans hb3
      refine ⟨((KeepsOthers.of_grownBy hst.grown (fun j o ej _ => by cases ej)).trans ((KeepsOthers.alloc _ _).trans hk3)).from _, fun u hu => thru _ _ u (by decide) (by omega) hu, ?_⟩
      refine ⟨⟨⟨⟨⟨⟨⟨_, hv3, ?_, trivial⟩, b, thru _ _ _ (by decide) (by omega) hbs⟩, thru _ _ _ (by decide) (by omega) h2⟩, thru _ _ _ (by decide) (by omega) h3⟩, thru _ _ _ (by decide) (by omega) h4⟩, ?_⟩, hB.trans hBf⟩
      · rw [List.length_append, List.flatMap_append]
        simpa using hr3
      · intro y hy
        rcases List.mem_append.1 hy with h | h
        · exact hok y h
        · rw [List.mem_singleton.1 h]; exact he
    · gi_wp2_with (first
        | (refine ⟨trivial, ?_⟩; gi_at_call 29; refine (CallsIn.inRound l (callsIn_wide.2 hT)).mono ?_; rintro e W1 ⟨rfl, rfl⟩)
        | (refine ⟨trivial, ?_⟩; gi_at_call 13; refine (CallsIn.inRound l (callsIn_wide.2 hS)).mono ?_; rintro e w' ⟨rfl, hst⟩))
      obtain ⟨w8, hw8⟩ : ∃ w8, w8 = w'.alloc (.cells #[.int .i64 (stpX x).1, .int .i64 (stpX x).2.1, .int .i64 (stpX x).2.2] 23) := ⟨_, rfl⟩
      have st8 : ∀ {B t u}, Boxed W1 B t u → Boxed w8 B t u := fun hu => by rw [hw8]; exact (hu.kept hst.grown (by simp)).alloc _
      have hk8 : KeepsOthers W1 w8 := by rw [hw8]; exact (KeepsOthers.of_grownBy hst.grown (fun j o ej _ => by cases ej)).trans (KeepsOthers.alloc _ _)
      have hB8 : Below n₀ w w8 := by
        rw [hw8]
        exact (hB.trans ((Below.refl n₀ W1).grown hst.grown (by have := hB.size; omega) (fun k e => by cases e))).alloc (by have := hB.size; have := hst.size; omega) _
      rw [← hw8]
      have k5 := (st8 hv).cell
      have k2 := st8 h2
      have k3 := st8 h3
      have k4 := st8 h4
      clear hw8
      have c2 := k2.cell
      have c3 := k3.cell
      have c4 := k4.cell
      have f2 := k2.frozen
      have f3 := k3.frozen
      have f4 := k4.frozen
      have hwr : IntKind.i64.wrap ((pre.length : Int) + 1) = (pre.length : Int) + 1 := IntWalk.i64_in _ (by omega)
      have hfin : boxPost w7.heap.size (n₀ + 1 + 1 + 1 + 1 + 1) 9 (rI n₀ w) (rX n₀ w) (pre ++ [x]) W1 .ret { tmps := #[], defers := [] } (((w8.setCell ⟨n₀, 0, none⟩ (.slice none 0 0)).setCell ⟨n₀ + 1, 0, none⟩ (.int .i64 ((pre.length : Int) + 1))).setCell ⟨n₀ + 1 + 1, 0, none⟩ (.int .i64 (errT x))).drew := by
        refine ⟨((((hk8.trans (KeepsOthers.setCell _ _ _)).trans (KeepsOthers.setCell _ _ _)).trans (KeepsOthers.setCell _ _ _)).trans (KeepsOthers.drew _)).from _, ⟨pre, x, ⟨rfl, hok, he⟩, ?_, ?_, ?_⟩, ?_⟩
        · exact ((k2.set _).other (by omega) _).other (by omega) _
        · exact ((k3.other (by omega) _).set _).other (by omega) _
        · exact ((k4.other (by omega) _).other (by omega) _).set _
        · exact (((hB8.setCell (p := ⟨n₀, 0, none⟩) (Nat.le_refl _) _).setCell (p := ⟨n₀ + 1, 0, none⟩) (by show n₀ ≤ n₀ + 1; omega) _).setCell (p := ⟨n₀ + 1 + 1, 0, none⟩) (by show n₀ ≤ n₀ + 1 + 1; omega) _).drew
      gi_region
      all_goals gi_wp2
      all_goals exact hfin
  case done =>
    rintro D ys W hD hys ⟨⟨⟨⟨⟨⟨⟨v, hv, hrow, _⟩, b, hbs⟩, h2⟩, h3⟩, h4⟩, hok⟩, hB⟩ hK
    obtain ⟨A, c, rfl⟩ : ∃ A c, v = .slice A ys.length c := by
      rcases hrow.2 with ⟨e, e2⟩ | ⟨g, cap, cur, e, _⟩
      · exact ⟨none, 0, by rw [e, e2]⟩
      · exact ⟨_, _, e⟩
    have c5 := hv.cell
    have c2 := h2.cell
    have c3 := h3.cell
    have c4 := h4.cell
    have f2 := h2.frozen
    have f3 := h3.frozen
    have f4 := h4.frozen
    by_cases hbig : 4096 < ys.length
    · gi_wp2
      obtain ⟨V, hV⟩ : ∃ V, V = (((W.setCell ⟨n₀, 0, none⟩ (.slice none 0 0)).setCell ⟨n₀ + 1, 0, none⟩ (.int .i64 0)).setCell ⟨n₀ + 1 + 1, 0, none⟩ (.int .i64 6)) := ⟨_, rfl⟩
      rw [← hV]
      have g2 : Boxed V n₀ 34 (.slice none 0 0) := by rw [hV]; exact ((h2.set _).other (by omega) _).other (by omega) _
      have g3 : Boxed V (n₀ + 1) 3 (.int .i64 0) := by rw [hV]; exact ((h3.other (by omega) _).set _).other (by omega) _
      have g4 : Boxed V (n₀ + 1 + 1) 24 (.int .i64 6) := by rw [hV]; exact ((h4.other (by omega) _).other (by omega) _).set _
      have kV : KeepsOthers W V := by rw [hV]; exact ((KeepsOthers.setCell _ _ _).trans (KeepsOthers.setCell _ _ _)).trans (KeepsOthers.setCell _ _ _)
      have bV : Below n₀ w V := by rw [hV]; exact ((hB.setCell (p := ⟨n₀, 0, none⟩) (Nat.le_refl _) _).setCell (p := ⟨n₀ + 1, 0, none⟩) (by show n₀ ≤ n₀ + 1; omega) _).setCell (p := ⟨n₀ + 1 + 1, 0, none⟩) (by show n₀ ≤ n₀ + 1 + 1; omega) _
      have kD := kV.same D _ hK rfl
      refine ⟨by simp, .inl ⟨_, _, rfl, run_takeDeferred kD, ?_⟩⟩
      have e2 := cell_kept g2.cell (grownBy_putObj' V D (.deferred none)) (fun r e => by cases e; exact ⟨_, kD, rfl⟩)
      have e3 := cell_kept g3.cell (grownBy_putObj' V D (.deferred none)) (fun r e => by cases e; exact ⟨_, kD, rfl⟩)
      have e4 := cell_kept g4.cell (grownBy_putObj' V D (.deferred none)) (fun r e => by cases e; exact ⟨_, kD, rfl⟩)
      refine ⟨_, (by simp [results, Tryd.f14, go_sem, e2, e3, e4]), .inl ⟨ys, hys, hok, .inr ⟨hbig, rfl⟩⟩, hn₁ ▸ bV.trans (belowK_b (w := w) (by omega) V D _ _ (by omega) kD rfl rfl)⟩
    · gi_wp2
      obtain ⟨V, hV⟩ : ∃ V, V = (((W.setCell ⟨n₀, 0, none⟩ (.slice A ys.length c)).setCell ⟨n₀ + 1, 0, none⟩ (.int .i64 0)).setCell ⟨n₀ + 1 + 1, 0, none⟩ (.int .i64 0)) := ⟨_, rfl⟩
      rw [← hV]
      have g2 : Boxed V n₀ 34 (.slice A ys.length c) := by rw [hV]; exact ((h2.set _).other (by omega) _).other (by omega) _
      have g3 : Boxed V (n₀ + 1) 3 (.int .i64 0) := by rw [hV]; exact ((h3.other (by omega) _).set _).other (by omega) _
      have g4 : Boxed V (n₀ + 1 + 1) 24 (.int .i64 0) := by rw [hV]; exact ((h4.other (by omega) _).other (by omega) _).set _
      have kV : KeepsOthers W V := by rw [hV]; exact ((KeepsOthers.setCell _ _ _).trans (KeepsOthers.setCell _ _ _)).trans (KeepsOthers.setCell _ _ _)
      have bV : Below n₀ w V := by rw [hV]; exact ((hB.setCell (p := ⟨n₀, 0, none⟩) (Nat.le_refl _) _).setCell (p := ⟨n₀ + 1, 0, none⟩) (by show n₀ ≤ n₀ + 1; omega) _).setCell (p := ⟨n₀ + 1 + 1, 0, none⟩) (by show n₀ ≤ n₀ + 1 + 1; omega) _
      have rV : V.ownsRow n₀ 23 3 (.slice A ys.length c) ys.length (ys.flatMap encX) := by
        have r1 := hrow.kept (grownBy_setCell' W n₀ (.slice A ys.length c)) (.inr (h2.not_row (by decide) hrow).symm)
        have r2 := r1.kept (grownBy_setCell' _ (n₀ + 1) (.int .i64 0)) (.inr ((h3.other (by omega) _).not_row (by decide) r1).symm)
        rw [hV]
        exact r2.kept (grownBy_setCell' _ (n₀ + 1 + 1) (.int .i64 0)) (.inr (((h4.other (by omega) _).other (by omega) _).not_row (by decide) r2).symm)
      have kD := kV.same D _ hK rfl
      refine ⟨by simp, .inl ⟨_, _, rfl, run_takeDeferred kD, ?_⟩⟩
      have e2 := cell_kept g2.cell (grownBy_putObj' V D (.deferred none)) (fun r e => by cases e; exact ⟨_, kD, rfl⟩)
      have e3 := cell_kept g3.cell (grownBy_putObj' V D (.deferred none)) (fun r e => by cases e; exact ⟨_, kD, rfl⟩)
      have e4 := cell_kept g4.cell (grownBy_putObj' V D (.deferred none)) (fun r e => by cases e; exact ⟨_, kD, rfl⟩)
      refine ⟨_, (by simp [results, Tryd.f14, go_sem, e2, e3, e4]), .inl ⟨ys, hys, hok, .inl ⟨by omega, _, rfl, hn₁ ▸ ownsRow_putObj rV _ kD rfl⟩⟩, hn₁ ▸ bV.trans (belowK_b (w := w) (by omega) V D _ _ (by omega) kD rfl rfl)⟩
  case stop =>
    rintro D pre W hD hpre ⟨⟨q, x, ⟨rfl, hq, hx⟩, h2, h3, h4⟩, hB⟩ hK
    gi_wp2
    obtain ⟨V, rfl⟩ : ∃ V, V = W := ⟨_, rfl⟩
    have g2 := h2
    have g3 := h3
    have g4 := h4
    have bV := hB
    have kV := KeepsOthers.refl V
    have kD := kV.same D _ hK rfl
    refine ⟨by simp, .inl ⟨_, _, rfl, run_takeDeferred kD, ?_⟩⟩
    have e2 := cell_kept g2.cell (grownBy_putObj' V D (.deferred none)) (fun r e => by cases e; exact ⟨_, kD, rfl⟩)
    have e3 := cell_kept g3.cell (grownBy_putObj' V D (.deferred none)) (fun r e => by cases e; exact ⟨_, kD, rfl⟩)
    have e4 := cell_kept g4.cell (grownBy_putObj' V D (.deferred none)) (fun r e => by cases e; exact ⟨_, kD, rfl⟩)
    refine ⟨_, (by simp [results, Tryd.f14, go_sem, e2, e3, e4]), .inr ⟨q, x, hpre, hq, hx, rfl⟩, hn₁ ▸ bV.trans (belowK_b (w := w) (by omega) V D _ _ (by omega) kD rfl rfl)⟩
end Go.Proofs.YtklfieidipobpaaDoor.Txt

/- Texts: the contract of reading. -/
namespace Go.Proofs.YtklfieidipobpaaDoor.Txt
open Go.V Go.Num Go.RowKit
open Go.Eng (wr HS Imm Ent strOf strOf_size strOf_data)
set_option maxRecDepth 100000
set_option maxHeartbeats 4000000
def eT (l : List UInt8) : Int := resE (firstS (trimL l) 7)
/-- The first line that is no step, and what it errs by. -/
def bad : List (List UInt8) → Option (Nat × Int)
  | [] => none
  | l :: ls => if eT l ≠ 0 then some (0, eT l) else (bad ls).map fun p => (p.1 + 1, p.2)
theorem bad_none : ∀ (ys : List LnT), (∀ y ∈ ys, errT y = 0) → bad (ys.map (·.1)) = none
  | [], _ => rfl
  | y :: ys, h => by
    have h1 : eT y.1 = 0 := h y (List.mem_cons_self ..)
    rw [List.map_cons]
    unfold bad
    rw [if_neg (fun c => c h1), bad_none ys (fun z hz => h z (List.mem_cons_of_mem _ hz))]; rfl
theorem bad_some (x : LnT) (hx : errT x ≠ 0) (t : List (List UInt8)) : ∀ (q : List LnT), (∀ y ∈ q, errT y = 0) → bad ((q ++ [x]).map (·.1) ++ t) = some (q.length, errT x)
  | [], _ => by
    show bad (x.1 :: ([] ++ t)) = _
    unfold bad
    rw [if_pos (show eT x.1 ≠ 0 from hx)]; rfl
  | y :: q, h => by
    have h1 : eT y.1 = 0 := h y (List.mem_cons_self ..)
    show bad (y.1 :: ((q ++ [x]).map (·.1) ++ t)) = _
    unfold bad
    rw [if_neg (fun c => c h1), bad_some x hx t q (fun z hz => h z (List.mem_cons_of_mem _ hz))]; rfl
def rdR (s : List UInt8) : AV := if 131072 < s.length then .tup [.d .nils, i64 0, i64 6] else match bad (lns s) with
  | some p => .tup [.d .nils, i64 ((p.1 : Int) + 1), i64 p.2]
  | none => if 4096 < (lns s).length then .tup [.d .nils, i64 0, i64 6] else .tup [.d (.ro ((lns s).map fun l => stD (stpT (trimL l)))), i64 0, i64 0]
theorem first_le7 {s : List UInt8} : ∀ {n k : Nat}, firstS s n = some k → k ≤ n
  | 0, k, h => by cases h
  | n + 1, k, h => by
    unfold firstS at h
    cases h1 : firstS s n with
    | some j =>
      rw [h1] at h
      cases h
      exact Nat.le_succ_of_le (first_le7 h1)
    | none =>
      rw [h1] at h
      simp only at h
      split at h
      · cases h; exact Nat.le_refl _
      · cases h
theorem valS_rng (k : Int) (s : List UInt8) (i : Nat) : -9223372036854775808 ≤ valS k s i ∧ valS k s i ≤ 9223372036854775807 := by
  unfold valS
  split
  · exact atoiV_rng _
  · exact ⟨by decide, by decide⟩
theorem stpT_in (t : List UInt8) : In64 (stpT t) ∧ 0 ≤ (stpT t).1 ∧ (stpT t).1 ≤ 7 := by
  unfold stpT
  cases h : firstS t 7 with
  | none => exact ⟨⟨⟨show (-9223372036854775808 : Int) ≤ 0 by decide, show (0 : Int) ≤ 9223372036854775807 by decide⟩, ⟨show (-9223372036854775808 : Int) ≤ 0 by decide, show (0 : Int) ≤ 9223372036854775807 by decide⟩⟩, Int.le_refl _, show (0 : Int) ≤ 7 by decide⟩
  | some k =>
    have := first_le7 h
    exact ⟨⟨valS_rng _ _ _, valS_rng _ _ _⟩, show (0 : Int) ≤ (k : Int) by omega, show (k : Int) ≤ 7 by omega⟩
theorem eT_in (l : List UInt8) : 0 ≤ eT l ∧ eT l ≤ 5 := by
  unfold eT
  cases firstS (trimL l) 7 with
  | none => exact ⟨by decide, by decide⟩
  | some k => exact ⟨Int.le_refl _, show (0 : Int) ≤ 5 by decide⟩
theorem long_in (n : Nat) (s : List UInt8) (hs : 131072 < s.length) (hs2 : s.length ≤ 9223372036854775807) (w : World) :
    CallsIn Fence.wide n Tryd.prog 14 #[.string (strOf s)] w fun e W' => e = .returned (.tuple #[.slice none 0 0, .int .i64 0, .int .i64 6]) ∧ Below w.heap.size w W' := by
  have hsz := strOf_size s
  refine callsIn_of_wp Tryd.func14 rfl trivial ?_ rfl
  simp only [Tryd.ntmps14, List.size_toArray, List.length_cons, List.length_nil, Nat.reduceAdd, Nat.reduceSub, Array.replicate_succ, Array.replicate_zero, List.push_toArray, List.append_toArray, List.nil_append, List.cons_append]
  gi_wp2
  obtain ⟨n₀, hn₀⟩ : ∃ n₀, w.heap.size = n₀ := ⟨_, rfl⟩
  have b2 := Boxed.new w 34 (.slice none 0 0)
  have b3 := Boxed.new (w.alloc (.cells #[.slice none 0 0] 34)) 3 (.int .i64 0)
  have b4 := Boxed.new ((w.alloc (.cells #[.slice none 0 0] 34)).alloc (.cells #[.int .i64 0] 3)) 24 (.int .i64 6)
  simp only [World.size_alloc] at b3 b4
  have e2 := ((b2.alloc (.cells #[.int .i64 0] 3)).alloc (.cells #[.int .i64 6] 24)).cell
  have e3 := (b3.alloc (.cells #[.int .i64 6] 24)).cell
  have e4 := b4.cell
  refine bodyPost_ret (v := .tuple #[.slice none 0 0, .int .i64 0, .int .i64 6]) ?_ rfl ?_
  · simp [results, Tryd.f14, go_sem, e2, e3, e4]
  · exact ⟨rfl, (((Below.refl _ w).alloc (Nat.le_refl _) _).alloc (by simp) _).alloc (by simp; omega) _⟩
theorem ro_steps {I : Imm} {F : List Ent} {w W : World} (hw : HS I F w) (hB : Below w.heap.size w W) {v : Value} {l : List St3} (hl : l.length ≤ 131072) (hin : ∀ x ∈ l, In64 x ∧ 0 ≤ x.1 ∧ x.1 ≤ 7)
    (hr : W.ownsRow w.heap.size 23 3 v l.length (l.flatMap fun x => [.int .i64 x.1, .int .i64 x.2.1, .int .i64 x.2.2])) : ∃ J, I.le J ∧ RelD J v (.ro (l.map stD)) ∧ HS J F W := by
  have hlen : (l.flatMap fun x : St3 => [Value.int .i64 x.1, .int .i64 x.2.1, .int .i64 x.2.2]).length = l.length * 3 := hr.1
  have hcl : (cellsOf (l.map stD)).length = l.length * 3 := by rw [cellsOf_len (sz := 3) (fun x hx => by obtain ⟨y, _, rfl⟩ := List.mem_map.1 hx; rfl), List.length_map]
  have hon : Ones (l.flatMap fun x : St3 => [Value.int .i64 x.1, .int .i64 x.2.1, .int .i64 x.2.2]) := by
    intro u hu
    obtain ⟨x, _, hx⟩ := List.mem_flatMap.1 hu
    simp only [List.mem_cons, List.not_mem_nil, or_false] at hx
    rcases hx with rfl | rfl | rfl <;> rfl
  have hrel : ∀ (J : Imm) (j : Nat) (u : Value) (y : D), (l.flatMap fun x : St3 => [Value.int .i64 x.1, .int .i64 x.2.1, .int .i64 x.2.2])[j]? = some u → (cellsOf (l.map stD))[j]? = some y → RelD J u y := by
    intro J
    clear hlen hcl hon hr hl
    induction l with
    | nil => intro j u y h _; simp at h
    | cons x l ih =>
      intro j u y h1 h2
      obtain ⟨⟨ha, hb⟩, hk⟩ := hin x (List.mem_cons_self ..)
      rw [List.flatMap_cons] at h1
      rw [List.map_cons] at h2
      rcases j with _ | _ | _ | j
      · simp [D.cells] at h1 h2; subst h1; subst h2; exact .int ⟨show (-9223372036854775808 : Int) ≤ x.1 by omega, show x.1 ≤ 9223372036854775807 by omega⟩
      · simp [D.cells] at h1 h2; subst h1; subst h2; exact .int ha
      · simp [D.cells] at h1 h2; subst h1; subst h2; exact .int hb
      · exact ih (fun z hz => hin z (List.mem_cons_of_mem _ hz)) j u y (by simpa using h1) (by simpa [D.cells] using h2)
  rcases hr.2 with ⟨rfl, h0⟩ | ⟨g, cap, cur, rfl, hg, hgb, hc1, hc2, hc3, hc4⟩
  · obtain rfl : l = [] := List.eq_nil_of_length_eq_zero h0
    exact ⟨I, Imm.le_refl _, .ro (sz := 3) (us := []) rfl (Nat.le_refl _) (Nat.zero_le _) (fun x hx => by cases hx) (fun j u h => by simp at h) rfl (fun u hu => by cases hu) (fun j u y h => by simp at h), hw.below hB⟩
  · have hIg : I.mem g = none := by
      cases h : I.mem g with
      | none => rfl
      | some o =>
        have := (Array.getElem?_eq_some_iff.1 (hw.sat g o h)).1
        omega
    refine ⟨{ I with mem := fun b => if b = g then some (.cells cur 23 (0, 0)) else I.mem b }, ⟨fun b o hb => ?_, rfl, rfl, rfl⟩, .ro (sz := 3) (us := l.flatMap fun x => [.int .i64 x.1, .int .i64 x.2.1, .int .i64 x.2.2]) (List.length_map _) hc1 (by unfold maxLen; omega)
      (fun x hx => by obtain ⟨y, _, rfl⟩ := List.mem_map.1 hx; rfl) (fun j u hj => ⟨_, rfl, ?_⟩) (hlen.trans hcl.symm) hon (hrel _), ?_⟩
    · show (if b = g then some (Go.Obj.cells cur 23 (0, 0)) else I.mem b) = some o
      rw [if_neg (fun e => by rw [e, hIg] at hb; cases hb)]; exact hb
    · have e : Addr.add ⟨g, 0, none⟩ j = ⟨g, j, none⟩ := by
        unfold Addr.add
        by_cases hj0 : j = 0
        · rw [if_pos hj0, hj0]
        · rw [if_neg hj0, Nat.zero_add]
      rw [e]
      unfold Imm.cell
      show (match (if g = g then some (Go.Obj.cells cur 23 (0, 0)) else I.mem g) with | some (.cells c _ _) => if (none : Option Nat).isSome then none else c[j]? | _ => none) = some u
      rw [if_pos rfl]
      show cur[j]? = some u
      rw [← hc4] at hj
      have := (List.getElem?_eq_some_iff.1 hj).1
      rw [List.getElem?_take] at hj
      split at hj
      · simpa using hj
      · cases hj
    · have hb := hw.below hB
      refine ⟨fun b o h => ?_, hb.ents, hb.dis, fun en he b hbe => ?_, hb.os, hb.tape, hb.output⟩
      · have h' : (if b = g then some (Go.Obj.cells cur 23 (0, 0)) else I.mem b) = some o := h
        by_cases e : b = g
        · rw [if_pos e] at h'
          cases h'
          rw [e]; exact hgb
        · rw [if_neg e] at h'
          exact hb.sat b o h'
      · have hlt := (hw.ents en he).lt hbe
        show (if b = g then some (Go.Obj.cells cur 23 (0, 0)) else I.mem b) = none
        rw [if_neg (by omega)]
        exact hw.imm en he b hbe
theorem Read_ct (s : List UInt8) : Ct Tryd.prog 14 [S s] [] (Is2 (rdR s) []) := by
  refine Ct.ofD (ds := [.str s]) Tryd.call14 (fun I us F w hu g hw => ?_)
  obtain ⟨u, rfl, h1⟩ := one_arg hu
  obtain ⟨rfl, h3⟩ := str_of h1
  have tupD : ∀ (J : Imm) (v : Value) (x : D) (a b : Int), RelD J v x → Eng.InR .i64 a → Eng.InR .i64 b → RelA J (fun _ => .nilFunc) (.tuple #[v, .int .i64 a, .int .i64 b]) (.tup [.d x, i64 a, i64 b]) := fun J v x a b hv ha hb =>
    .tup (us := [v, .int .i64 a, .int .i64 b]) rfl (fun j u y hj hy => by
      match j, hj, hy with
      | 0, hj, hy => cases hj; cases hy; exact .d hv
      | 1, hj, hy => cases hj; cases hy; exact .d (.int ha)
      | 2, hj, hy => cases hj; cases hy; exact .d (.int hb)
      | _ + 3, hj, hy => simp at hj)
  have r0 : Eng.InR .i64 0 := ⟨by decide, by decide⟩
  have r6 : Eng.InR .i64 6 := ⟨by decide, by decide⟩
  by_cases hs : 131072 < s.length
  · refine (callsIn_wide.1 (long_in 6 s hs h3 w)).mono fun e W ⟨he, hB⟩ => ?_
    unfold rdR
    rw [if_pos hs]
    exact ⟨_, I, he, Imm.le_refl _, tupD _ _ _ _ _ .nils r0 r6, hw.below hB⟩
  · have hgw : Glob (immOf w) := g.mono ⟨hw.sat, hw.os, hw.tape, hw.output⟩
    refine (callsIn_wide.1 (Read_in 6 rfl s (by omega) w hgw)).mono fun e W ⟨h, hB⟩ => ?_
    unfold rdR
    rw [if_neg hs]
    rcases h with ⟨ys, hys, hok, h⟩ | ⟨q, x, hpre, hq, hx, rfl⟩
    · have hb := bad_none ys hok
      rw [hys] at hb
      rw [hb]
      have hyl : ys.length = (lns s).length := by rw [← hys, List.length_map]
      have hll := lns_len s
      rcases h with ⟨hle, v, rfl, hrow⟩ | ⟨hgt, rfl⟩
      · show ∃ v' I', _ ∧ _ ∧ RelA I' _ v' (if 4096 < (lns s).length then _ else _) ∧ _
        rw [if_neg (by omega)]
        obtain ⟨J, hJ, hrel, hsJ⟩ := ro_steps hw hB (v := v) (l := ys.map stpX) (by rw [List.length_map]; omega) (fun z hz => by obtain ⟨y, _, rfl⟩ := List.mem_map.1 hz; exact stpT_in _) (by rw [List.length_map, List.flatMap_map]; exact hrow)
        refine ⟨_, J, rfl, hJ, tupD _ _ _ _ _ ?_ r0 r0, hsJ⟩
        rw [← hys]
        rw [List.map_map] at hrel ⊢
        exact hrel
      · show ∃ v' I', _ ∧ _ ∧ RelA I' _ v' (if 4096 < (lns s).length then _ else _) ∧ _
        rw [if_pos (by omega)]
        exact ⟨_, I, rfl, Imm.le_refl _, tupD _ _ _ _ _ .nils r0 r6, hw.below hB⟩
    · obtain ⟨t, ht⟩ := hpre
      have hb := bad_some x hx t q hq
      rw [ht] at hb
      rw [hb]
      have hql : q.length < (lns s).length := by
        rw [← ht, List.length_append, List.length_map, List.length_append, List.length_singleton]; omega
      have hll := lns_len s
      have he := eT_in x.1
      exact ⟨_, I, rfl, Imm.le_refl _, tupD _ _ _ _ _ .nils ⟨show (-9223372036854775808 : Int) ≤ (q.length : Int) + 1 by omega, show (q.length : Int) + 1 ≤ 9223372036854775807 by omega⟩ ⟨show (-9223372036854775808 : Int) ≤ eT x.1 by omega, show eT x.1 ≤ 9223372036854775807 by omega⟩, hw.below hB⟩
end Go.Proofs.YtklfieidipobpaaDoor.Txt

/- Texts: is the chapter awake? -/
namespace Go.Proofs.YtklfieidipobpaaDoor.Txt
open Go.V Go.Num
open Go.Eng (wr HS Imm Ent strOf strOf_size strOf_data)
set_option maxRecDepth 100000
set_option maxHeartbeats 4000000
def tBend : List UInt8 := [98, 101, 110, 100, 32, 51, 32, 45, 52]
def tTwo : List UInt8 := [115, 116, 97, 114, 116, 10, 102, 97, 108, 108, 32, 50]
theorem aw1 : firstS tBend 7 = some 5 ∧ valS 5 tBend 0 = 3 ∧ valS 5 tBend 1 = -4 := by decide +kernel
theorem aw2 : okL 6 7 0 = true ∧ lineN (fWord 6) ([(7 : Int), 0].take (fSize 6)) = [116, 105, 99, 107, 32, 55] := by decide +kernel
theorem aw3 : bad (lns tTwo) = none ∧ (lns tTwo).length = 2 := by decide +kernel
theorem step_bend : Ct Tryd.prog 13 [S tBend] [] (Is2 (.tup [.d (stepD 5 3 (-4)), i64 0]) []) := by
  have h := Step_ct tBend (by decide)
  rw [aw1.1] at h
  have e : resD (some 5) tBend = stepD 5 3 (-4) := by
    show stepD ((5 : Nat) : Int) (valS ((5 : Nat) : Int) tBend 0) (valS ((5 : Nat) : Int) tBend 1) = _
    rw [show ((5 : Nat) : Int) = 5 from rfl, aw1.2.1, aw1.2.2]
  rw [e] at h
  exact h
theorem line_tick : Ct Tryd.prog 10 [.d (stepD 6 7 0)] [] (Is2 (.tup [S [116, 105, 99, 107, 32, 55], i64 0]) []) := by
  have h := Line_ct 6 7 0
  rw [aw2.1, aw2.2] at h
  exact h
theorem read_two : ∃ x y : D, Ct Tryd.prog 14 [S tTwo] [] (Is2 (.tup [.d (.ro [x, y]), i64 0, i64 0]) []) := by
  have h := Read_ct tTwo
  have e : rdR tTwo = .tup [.d (.ro ((lns tTwo).map fun l => stD (stpT (trimL l)))), i64 0, i64 0] := by
    unfold rdR
    rw [if_neg (by decide), aw3.1]
    show (if 4096 < (lns tTwo).length then _ else _) = _
    rw [if_neg (by rw [aw3.2]; decide)]
  rw [e] at h
  have hl := aw3.2
  generalize lns tTwo = l at h hl
  match l, hl with
  | [a, b], _ => exact ⟨_, _, h⟩
theorem kInt : KdT Tryd.prog 3 .int := ⟨fun w => by rw [Tryd.isAgg3], _, Tryd.underlying3⟩
theorem eqStep : EqT Tryd.prog 23 [.int, .int, .int] := by
  refine EqT.struct Tryd.underlying23 (by kernel_rfl) (by kernel_rfl) rfl (fun i f k h1 h2 => ?_)
  rcases i with _ | _ | _ | i
  · cases h1; cases h2; exact ⟨by decide, rfl, kInt⟩
  · cases h1; cases h2; exact ⟨by decide, rfl, kInt⟩
  · cases h1; cases h2; exact ⟨by decide, rfl, kInt⟩
  · simp at h2
theorem awake_ct : Ct Tryd.prog 12 [] [] (Is2 (.d (.bool true)) []) := by
  refine Ct.introF (E := E 50 0 [.tmp 0] [] [] []) tab_ok Tryd.call12 Tryd.func12 rfl rfl rfl rfl rfl (fun hin => ?_)
  refine step_bend.use ?_
  refine line_tick.use ?_
  obtain ⟨x, y, hr⟩ := read_two
  refine hr.use ?_
  (conv => whnf)
  refine EqI.mk [.int, .int, .int] _ eqStep rfl ?_
  exact Is2.mk rfl
end Go.Proofs.YtklfieidipobpaaDoor.Txt

/- Texts: the laws of lines and steps. -/
namespace Go.Proofs.YtklfieidipobpaaDoor.Txt
open Go.V Go.Num
open Go.Eng (wr HS Imm Ent strOf strOf_size strOf_data)
set_option maxRecDepth 100000
set_option maxHeartbeats 4000000
theorem linesNo_ct (k a b : Int) (hok : okL k a b = false) : Ct Tryd.prog 3 [.d (stepD k a b)] [] (Is2 (.d (.bool true)) []) := by
  refine Ct.introF (E := E 54 0 [.tmp 2] [] [] []) tab_ok Tryd.call3 Tryd.func3 rfl rfl rfl rfl rfl (fun hin => ?_)
  have h1 := Line_ct k a b
  rw [if_neg (by rw [hok]; simp), if_neg (by rw [hok]; simp)] at h1
  have h2 := line_ct k a b
  rw [hok] at h2
  refine h1.use ?_
  refine h2.use ?_
  refine awake_ct.use ?_
  exact Is2.mk rfl
theorem linesYes_ct (k a b : Int) (t : List UInt8) (h1 : Ct Tryd.prog 10 [.d (stepD k a b)] [] (Is2 (.tup [S t, i64 0]) [])) (h2 : Ct Tryd.prog 11 [.d (stepD k a b)] [] (Is2 (.tup [S t, .d (.bool true)]) []))
    (h3 : Ct Tryd.prog 13 [S t] [] (Is2 (.tup [.d (stepD k a b), i64 0]) [])) : Ct Tryd.prog 3 [.d (stepD k a b)] [] (Is2 (.d (.bool true)) []) := by
  refine Ct.introF (E := E 54 0 [.tmp 2] [] [] []) tab_ok Tryd.call3 Tryd.func3 rfl rfl rfl rfl rfl (fun hin => ?_)
  refine h1.use ?_
  refine h2.use ?_
  refine h3.use ?_
  refine awake_ct.use ?_
  (conv => whnf)
  (conv => whnf); refine cond_d (fun h5 => ?_) (fun h5 => ?_)
  · (conv => whnf)
    refine EqI.mk [.int, .int, .int] _ eqStep rfl ?_
    exact isBool (by simp)
  · exact absurd rfl h5
theorem lines_law (x : St3) (hx : In64 x) : Ct Tryd.prog 3 [.d (stD x)] [] (Is2 (.d (.bool true)) []) := by
  obtain ⟨k, a, b⟩ := x
  by_cases hok : okL k a b = true
  · obtain ⟨p1, p2, p3, p4⟩ := line_back hok hx.1 hx.2
    have hf : fOk k = true := okA_down hok
    have h1 := Line_ct k a b
    rw [if_pos hok, if_pos hok] at h1
    have h2 := line_ct k a b
    rw [hok, if_pos hf] at h2
    have hlen : (lineN (fWord k) ([a, b].take (fSize k))).length ≤ 150 := lineOf_len (x := (k, a, b)) hx
    obtain ⟨t, ht⟩ : ∃ t, t = lineN (fWord k) ([a, b].take (fSize k)) := ⟨_, rfl⟩
    rw [← ht] at p1 p2 p3 h1 h2 hlen
    have h3 := Step_ct t (by omega)
    rw [p1] at h3
    have e : resD (some k.toNat) t = stepD k a b := by
      show stepD ((k.toNat : Nat) : Int) (valS ((k.toNat : Nat) : Int) t 0) (valS ((k.toNat : Nat) : Int) t 1) = _
      rw [Int.toNat_of_nonneg (by omega), p2, p3]
    rw [e] at h3
    exact linesYes_ct k a b t h1 h2 h3
  · exact linesNo_ct k a b (by simpa using hok)
theorem stepsNo_ct (s : List UInt8) (h : Ct Tryd.prog 13 [S s] [] (Is2 (.tup [.d (stepD 0 0 0), i64 5]) [])) : Ct Tryd.prog 4 [S s] [] (Is2 (.d (.bool true)) []) := by
  refine Ct.introF (E := E 38 0 [.tmp 2] [] [] []) tab_ok Tryd.call4 Tryd.func4 rfl rfl rfl rfl rfl (fun hin => ?_)
  refine h.use ?_
  refine awake_ct.use ?_
  (conv => whnf)
  refine EqI.mk [.int, .int, .int] _ eqStep rfl ?_
  exact Is2.mk rfl
theorem stepsYes_ct (s : List UInt8) (k a b : Int) (h : Ct Tryd.prog 13 [S s] [] (Is2 (.tup [.d (stepD k a b), i64 0]) [])) (h2 : Ct Tryd.prog 11 [.d (stepD k a b)] [] (Is2 (.tup [S s, .d (.bool true)]) [])) :
    Ct Tryd.prog 4 [S s] [] (Is2 (.d (.bool true)) []) := by
  refine Ct.introF (E := E 38 0 [.tmp 2] [] [] []) tab_ok Tryd.call4 Tryd.func4 rfl rfl rfl rfl rfl (fun hin => ?_)
  refine h.use ?_
  refine h2.use ?_
  refine awake_ct.use ?_
  exact isBool (by simp)
theorem steps_law (s : List UInt8) (hs : s.length ≤ 2000000) : Ct Tryd.prog 4 [S s] [] (Is2 (.d (.bool true)) []) := by
  have h := Step_ct s hs
  cases hk : firstS s 7 with
  | none =>
    rw [hk] at h
    exact stepsNo_ct s h
  | some k =>
    rw [hk] at h
    obtain ⟨q1, q2, q3⟩ := first_hit hk
    obtain ⟨q4, q5⟩ := hit_line q1 q2 q3
    have h2 := line_ct (k : Int) (valS k s 0) (valS k s 1)
    rw [q4, if_pos (okA_down q4), q5] at h2
    exact stepsYes_ct s k (valS k s 0) (valS k s 1) h h2
end Go.Proofs.YtklfieidipobpaaDoor.Txt
