/- The library's iterator over a slice from its end: what a loop over it owes, and gets. -/
import Derived.RangeFuncBox
import Derived.RangeFuncLeaves
import Derived.RangeFuncCalls
import Derived.Shelf.Abstract
import Derived.WalkKit
import Derived.OwnWalkIn
import Derived.TacticsInMore
import Derived.LoopNIn
import Derived.LoopIn
import Derived.Test.YtofkdfodehfpdaaProg
import Derived.Test.YtofkdfodehfpdaaKMaskGoesA
set_option linter.unusedVariables false
set_option linter.unusedSimpArgs false
set_option linter.unnecessarySimpa false
set_option linter.unusedSectionVars false
set_option linter.all false
/- The library's iterator over a slice from its end: what a loop over it owes, and gets. -/
namespace Go.Proofs.Ytofkdfodehfpdaa
open Go.RowKit Go.Shelf
attribute [local go_sem] Oper.semAt_some

abbrev U64 := { z : Int // 0 ≤ z ∧ z ≤ 18446744073709551615 }
/-- What has come when k rounds are over. -/
def upto {α : Type} (f : Nat → α) (k : Nat) : List α := (List.range k).map f
theorem upto_succ {α : Type} (f : Nat → α) (k : Nat) : upto f (k + 1) = upto f k ++ [f k] := by simp [upto, List.range_succ]
theorem upto_length {α : Type} (f : Nat → α) (k : Nat) : (upto f k).length = k := by simp [upto]

/-- What a round keeps: all below n₀, and one cell beyond. -/
def KeepB (n₀ Bs : Nat) (W W' : World) : Prop := Below n₀ W W' ∧ ∀ v, W.cell? ⟨Bs, 0, none⟩ = some v → W'.cell? ⟨Bs, 0, none⟩ = some v
theorem KeepB.refl (n₀ Bs : Nat) (W : World) : KeepB n₀ Bs W W := ⟨Below.refl _ _, fun _ h => h⟩
theorem KeepB.trans {n₀ Bs : Nat} {A B C : World} (h : KeepB n₀ Bs A B) (k : KeepB n₀ Bs B C) : KeepB n₀ Bs A C := ⟨h.1.trans k.1, fun v hv => k.2 v (h.2 v hv)⟩

set_option maxRecDepth 100000 in
set_option maxHeartbeats 2000000 in
theorem back1_in (F : Fence) (n : Nat) (h7 : F.fn 117) (hro : F.round = none) (hn : 1 ≤ n) (l Bs n₀ b off len cap : Nat) (g : Nat → U64) (hreach : len * 8 ≤ 140737488351232) (hb : b < n₀) (J Jx : List (Nat × U64) → World → Prop)
    (hY : ∀ pre x W, J pre W → pre.length < len → YieldAt F (n - 1) Try.prog l #[.int .i64 (x.1 : Int), .int .u64 x.2.1] W fun e W' =>
      (e = .returned (.bool true) ∧ J (pre ++ [x]) W' ∧ KeepB n₀ Bs W W') ∨ (e = .returned (.bool false) ∧ Jx (pre ++ [x]) W'))
    (W : World) (hBs : W.cell? ⟨Bs, 0, none⟩ = some (.slice (some ⟨b, off, none⟩) len cap)) (hc : ∀ j, j < len → W.cell? ⟨b, off + j, none⟩ = some (.int .u64 (g j).1)) (h0 : J [] W) :
    CallsIn F n Try.prog 117 #[.func (.yield l) #[] #[], .pointer (some ⟨Bs, 0, none⟩)] W fun e W' => (∃ v, e = .returned v) ∧
      ((∃ ys, ys = upto (fun j => (len - 1 - j, g (len - 1 - j))) len ∧ J ys W') ∨ (∃ pre, (∃ k, k ≤ len ∧ pre = upto (fun j => (len - 1 - j, g (len - 1 - j))) k) ∧ Jx pre W')) := by
  refine callsIn_of_wp Try.func117 rfl h7 ?_ hro
  simp only [Try.ntmps117, List.size_toArray, List.length_cons, List.length_nil, Nat.reduceAdd, Nat.reduceSub, Array.replicate_succ, Array.replicate_zero, List.push_toArray, List.append_toArray, List.nil_append, List.cons_append]
  gi_wp2
  gi_loopw [3] (fun i wr => ∃ k m : Nat, k + m = len ∧ i = .int .i64 ((m : Int) - 1) ∧ J (upto (fun j => (len - 1 - j, g (len - 1 - j))) k) wr ∧ KeepB n₀ Bs W wr)
    (fun i _ => (intOf i + 1).toNat)
  case atStart => exact ⟨0, len, by omega, rfl, h0, KeepB.refl _ _ _⟩
  case round =>
    obtain ⟨k, m, hk, rfl, hJs, hnx⟩ := hrel
    cases m with
    | zero =>
      gi_wp2
      go_end0
      obtain rfl : k = len := by omega
      exact ⟨⟨_, rfl⟩, .inl ⟨_, rfl, hJs⟩⟩
    | succ m =>
      have hcx : wr.cell? ⟨b, off + m, none⟩ = some (.int .u64 (g m).1) := (hnx.1.cell (p := ⟨b, off + m, none⟩) hb).trans (hc m (by omega))
      obtain ⟨fn, tmps, assign, body, hy, hR⟩ := hY _ (m, g m) wr hJs (by rw [upto_length]; omega)
      dsimp only at hy
      have hBw := hnx.2 _ hBs
      have e1 : ((m + 1 : Nat) : Int) - 1 = (m : Int) := by omega
      rw [e1]
      gi_wp2
      refine hR.mono ?_
      rintro e W3 (⟨rfl, hJ3, hk3⟩ | ⟨rfl, hJx3⟩)
      · gi_wp2
        go_roundw
        case rel =>
          refine ⟨k + 1, m, by omega, by simp, ?_, hnx.trans hk3⟩
          rw [upto_succ]
          have : len - 1 - k = m := by omega
          rw [this]; exact hJ3
        case measure => simp [intOf]
      · gi_wp2
        refine bodyPost_ret (results_none rfl _ _ _) rfl ?_
        refine ⟨⟨_, rfl⟩, .inr ⟨_, ⟨k + 1, by omega, rfl⟩, ?_⟩⟩
        rw [upto_succ]
        have : len - 1 - k = m := by omega
        rw [this]; exact hJx3

set_option maxRecDepth 100000 in
set_option maxHeartbeats 1000000 in
/-- No round at all. -/
theorem back1_nil_in (F : Fence) (n : Nat) (h7 : F.fn 117) (hro : F.round = none) (l Bs cap : Nat) (A : Option Addr) (J : List (Nat × U64) → World → Prop) (W : World) (hBs : W.cell? ⟨Bs, 0, none⟩ = some (.slice A 0 cap)) (h0 : J [] W) :
    CallsIn F n Try.prog 117 #[.func (.yield l) #[] #[], .pointer (some ⟨Bs, 0, none⟩)] W fun e W' => (∃ v, e = .returned v) ∧ J [] W' := by
  refine callsIn_of_wp Try.func117 rfl h7 ?_ hro
  simp only [Try.ntmps117, List.size_toArray, List.length_cons, List.length_nil, Nat.reduceAdd, Nat.reduceSub, Array.replicate_succ, Array.replicate_zero, List.push_toArray, List.append_toArray, List.nil_append, List.cons_append]
  gi_wp2
  gi_loopw [3] (fun i wr => i = .int .i64 (-1) ∧ J [] wr) (fun _ _ => 0)
  case atStart => exact ⟨rfl, h0⟩
  case round =>
    obtain ⟨rfl, hJs⟩ := hrel
    gi_wp2
    go_end0
    exact ⟨⟨_, rfl⟩, hJs⟩

set_option maxHeartbeats 1000000 in
theorem back_in (F : Fence) (n : Nat) (h5 : F.fn 112) (hro : F.round = none) (a : Option Addr) (len cap : Nat) (w : World) :
    CallsIn F n Try.prog 112 #[.slice a len cap] w fun e w' => e = .returned (.func (.func 117) #[] #[.pointer (some ⟨w.heap.size, 0, none⟩)]) ∧ w' = w.alloc (.cells #[.slice a len cap] 23) := by
  refine callsIn_of_wp Try.func112 rfl h5 ?_ hro
  simp only [Try.ntmps112, List.size_toArray, List.length_cons, List.length_nil, Nat.reduceAdd, Nat.reduceSub, Array.replicate_succ, Array.replicate_zero, List.push_toArray, List.append_toArray, List.nil_append, List.cons_append]
  gi_wp2
  go_ret
  exact ⟨rfl, rfl⟩

/-- Numbers in memory that stays: in a block below n₀; or there are none. -/
def InsB (n₀ : Nat) (W : World) (sv : Value) (len : Nat) (g : Nat → U64) : Prop :=
  ∃ A cap, sv = .slice A len cap ∧ (len = 0 ∨ ∃ b off, A = some ⟨b, off, none⟩ ∧ b < n₀ ∧ ∀ j, j < len → W.cell? ⟨b, off + j, none⟩ = some (.int .u64 (g j).1))
theorem InsB.below {n₀ : Nat} {A B : World} (h : Below n₀ A B) {sv : Value} {len : Nat} {g : Nat → U64} : InsB n₀ A sv len g → InsB n₀ B sv len g
  | ⟨P, cap, e, .inl h0⟩ => ⟨P, cap, e, .inl h0⟩
  | ⟨P, cap, e, .inr ⟨b, off, e2, hb, hc⟩⟩ => ⟨P, cap, e, .inr ⟨b, off, e2, hb, fun j hj => (h.cell (p := ⟨b, off + j, none⟩) hb).trans (hc j hj)⟩⟩

def bk (len : Nat) (g : Nat → U64) (k : Nat) : List (Nat × U64) := upto (fun j => (len - 1 - j, g (len - 1 - j))) k

theorem back_stops (F : Fence) (n : Nat) (h7 : F.fn 117) (hro : F.round = none) (hn : 1 ≤ n) (Bs n₀ : Nat) (sv : Value) (len : Nat) (g : Nat → U64) (hreach : len * 8 ≤ 140737488351232) (w : World) (hBs : Bs < w.heap.size) (hn₀ : n₀ ≤ w.heap.size)
    (hc : w.cell? ⟨Bs, 0, none⟩ = some sv) (hI : InsB n₀ w sv len g) :
    SeqStopsK F n Try.prog 117 #[.pointer (some ⟨Bs, 0, none⟩)] (fun x : Nat × U64 => #[Value.int .i64 (x.1 : Int), Value.int .u64 x.2.1]) (KeepB n₀ Bs) (fun ys => ys = bk len g len)
      (fun pre => ∃ k, k ≤ len ∧ pre = bk len g k) len w := fun l J Jx W hW _ _ hY h0 => by
  have hc' := (hW.cell (p := ⟨Bs, 0, none⟩) hBs).trans hc
  obtain ⟨A, cap, rfl, rfl | ⟨b, off, rfl, hb, hcs⟩⟩ := hI.below (hW.mono hn₀)
  · exact (back1_nil_in F n h7 hro l Bs cap A J W hc' h0).mono fun e W' ⟨he, hj⟩ => ⟨he, .inl ⟨_, rfl, hj⟩⟩
  · exact back1_in F n h7 hro hn l Bs n₀ b off len cap g hreach hb J Jx hY W hc' hcs h0
theorem keepB_b {n₀ Bs : Nat} {w : World} (hn : n₀ ≤ w.heap.size) (W : World) (l : Nat) (o o' : Obj) (hl : w.heap.size ≤ l) (h : W.heap[l]? = some o) (ho : o.isCells = false) (hw : o.isWalk = false) : KeepB n₀ Bs W (W.putObj l o') := by
  refine ⟨belowK_b hn W l o o' hl h ho hw, fun v hv => ?_⟩
  exact cell_kept hv (grownBy_putObj' _ l o') (fun r e => by cases e; exact ⟨_, h, ho⟩)
end Go.Proofs.Ytofkdfodehfpdaa

/- Package poly: the value of a polynomial. -/
namespace Go.Proofs.Ytofkdfodehfpdaa
open Go.V Go.Num Go.RowKit Go.Shelf
open Go.Eng (wr Imm HS add_blk)
attribute [local go_sem] Oper.semAt_some
set_option maxRecDepth 100000
set_option maxHeartbeats 4000000
/-- Whatever lies stays as it lies. -/
structure Still (W W' : World) : Prop where
  heap : ∀ (b : Nat) (o : Go.Obj), W.heap[b]? = some o → W'.heap[b]? = some o
  os : W'.os = W.os
  tape : W'.tape = W.tape
  output : W'.output = W.output
theorem Still.size {W W' : World} (h : Still W W') : W.heap.size ≤ W'.heap.size := by
  rcases Nat.eq_zero_or_pos W.heap.size with e | e
  · omega
  · have h1 : W.heap[W.heap.size - 1]? = some W.heap[W.heap.size - 1] := Array.getElem?_eq_getElem (by omega)
    have := (Array.getElem?_eq_some_iff.1 (h.heap _ _ h1)).1
    omega
theorem Still.block {W W' : World} (h : Still W W') {k : Nat} (hk : k < W.heap.size) : W'.heap[k]? = W.heap[k]? := by
  rw [Array.getElem?_eq_getElem hk]; exact h.heap _ _ (Array.getElem?_eq_getElem hk)
theorem Still.below {W W' : World} (h : Still W W') {B : Nat} (hB : B ≤ W.heap.size) : Below B W W' := ⟨h.os, h.tape, h.output, h.size, fun k hk => h.block (by omega)⟩
theorem Still.others {W W' : World} (h : Still W W') : KeepsOthers W W' := ⟨h.size, fun k o hk _ => h.heap k o hk⟩
theorem Still.cell {W W' : World} (h : Still W W') {p : Addr} {v : Value} (hc : W.cell? p = some v) : W'.cell? p = some v := by
  have hlt : p.block < W.heap.size := by
    rcases Nat.lt_or_ge p.block W.heap.size with h | h
    · exact h
    · unfold World.cell? at hc
      rw [Array.getElem?_eq_none h] at hc; cases hc
  rw [← hc]; exact World.cell?_of_block (h.block hlt)
theorem Still.frozen {W W' : World} (h : Still W W') {p : Addr} (hlt : p.block < W.heap.size) : W'.frozen? p = W.frozen? p := World.frozen?_of_block (h.block hlt)
/-- A contract over numbers alone, called anywhere. -/
theorem Ct.still {P : Program} {f : FuncId} {vs : List AV} {k : IntKind} {r : Int} (h : Ct P f vs [] (Is2 (.d (.int k r)) [])) (us : List Value) (hus : ∀ I ρ, Eng.InR .u64 0 → All2 (RelA I ρ) us vs) (w : World) :
    Calls P f us.toArray w (fun e w' => e = .returned (.int k r) ∧ Still w w') := by
  have := h.run ⟨fun b => w.heap[b]?, w.os, w.tape, w.output⟩ (fun _ => .nilFunc) us [] (hus _ _ ⟨by decide, by decide⟩) .nil (fun _ _ => rfl) w [] ⟨fun b o h => h, fun _ h => (by cases h), .nil, fun _ h => (by cases h), rfl, rfl, rfl⟩
  refine this.mono ?_
  rintro e w' ⟨v, I', L', rfl, hle, ⟨ρ', r', os', q1, _, _, _, _, q6⟩, hs⟩
  obtain ⟨rfl, rfl⟩ := q6
  cases q1 with
  | d q1 =>
    cases q1
    exact ⟨rfl, fun b o hb => hs.sat b o (hle.1 b o hb), hs.os.trans hle.2.1, hs.tape.trans hle.2.2.1, hs.output.trans hle.2.2.2⟩
theorem still_ct {P : Program} {f : FuncId} {a b : Int} {r : Int} (h : Ct P f [u64 a, u64 b] [] (Is2 (u64 r) [])) (ha : 0 ≤ a ∧ a ≤ 18446744073709551615) (hb : 0 ≤ b ∧ b ≤ 18446744073709551615) (w : World) :
    Calls P f #[.int .u64 a, .int .u64 b] w (fun e w' => e = .returned (.int .u64 r) ∧ Still w w') :=
  Ct.still h [.int .u64 a, .int .u64 b] (fun I ρ _ => .cons (.d (.int ha)) (.one (.d (.int hb)))) w
/-- From the highest down. -/
def hor (x : Int) (pre : List (Nat × U64)) : Int := pre.foldl (fun o p => (o * x % 2305843009213693951 + p.2.1) % 2305843009213693951) 0
theorem hor_snoc (x : Int) (pre : List (Nat × U64)) (p : Nat × U64) : hor x (pre ++ [p]) = (hor x pre * x % 2305843009213693951 + p.2.1) % 2305843009213693951 := by unfold hor; rw [List.foldl_append]; rfl
theorem hor_rng (x : Int) (pre : List (Nat × U64)) : 0 ≤ hor x pre ∧ hor x pre < 2305843009213693951 := by
  rcases List.eq_nil_or_concat pre with rfl | ⟨q, p, rfl⟩
  · unfold hor; exact ⟨by simp, by simp⟩
  · rw [List.concat_eq_append, hor_snoc]; omega
theorem At_in (a : Option Addr) (cap : Nat) (len : Nat) (g : Nat → U64) (x : Int) (w : World) (hl : len ≤ 1000000) (hx : 0 ≤ x ∧ x ≤ 18446744073709551615) (hI : InsB w.heap.size w (.slice a len cap) len g) :
    Calls Try.prog 96 #[.slice a len cap, .int .u64 x] w fun e W' => e = .returned (.int .u64 (hor x (bk len g len))) ∧ Below w.heap.size w W' := by
  refine (callsIn_wide (n := 4)).1 ?_
  refine callsIn_of_wp_marks Try.func96 rfl trivial ?_ rfl
  simp only [Try.ntmps96, List.size_toArray, List.length_cons, List.length_nil, Nat.reduceAdd, Nat.reduceSub, Array.replicate_succ, Array.replicate_zero, List.push_toArray, List.append_toArray, List.nil_append, List.cons_append]
  gi_wp2_with (refine ⟨trivial, ?_⟩; gi_at_call 112; refine (back_in Fence.wide _ trivial rfl _ _ _ _).mono ?_; rintro e w' ⟨rfl, rfl⟩)
  have bX := Boxed.new w 22 (.int .u64 x)
  have bS := Boxed.new (w.alloc (.cells #[.int .u64 x] 22)) 22 (.int .u64 0)
  have bN := Boxed.new ((w.alloc (.cells #[.int .u64 x] 22)).alloc (.cells #[.int .u64 0] 22)) 23 (.slice a len cap)
  simp only [World.size_alloc] at bS bN
  have hB0 : Below w.heap.size w (((w.alloc (.cells #[.int .u64 x] 22)).alloc (.cells #[.int .u64 0] 22)).alloc (.cells #[.slice a len cap] 23)) := (((Below.refl _ w).alloc (Nat.le_refl _) _).alloc (by simp) _).alloc (by simp; omega) _
  refine wpIn_rangeFunc_ownG rfl (by omega) (gf := 117) (lb := #[.pointer (some ⟨w.heap.size + 1 + 1, 0, none⟩)]) rfl trivial (enters_of Try.func117 (by kernel_rfl) rfl)
    (back_stops Fence.wide _ trivial rfl (by omega) (w.heap.size + 1 + 1) w.heap.size _ len g (by omega) _ (by simp) (by simp; omega) bN.cell (hI.below hB0)) KeepB.trans (keepB_b (by simp; omega)) (Below.refl _ _) (fun _ => rfl)
    (fun pre W => (W.cell? ⟨w.heap.size, 0, none⟩ = some (.int .u64 x) ∧ W.cell? ⟨w.heap.size + 1, 0, none⟩ = some (.int .u64 (hor x pre)) ∧ W.frozen? ⟨w.heap.size + 1, 0, none⟩ = false) ∧ Below w.heap.size w W)
    (fun _ _ _ => False)
    (OwnFrom.and (Own.from (fun s A B row hs hg hr => ⟨cell_kept hs.1 hg hr, cell_kept hs.2.1 hg hr, (frozen_kept hs.2.1 hg hr).trans hs.2.2⟩) _) (ownFrom_below (Nat.le_refl _) (by simp; omega)))
    (fun _ _ _ _ _ hs _ _ => hs)
    ⟨⟨((bX.alloc _).alloc _).cell, (bS.alloc _).cell, (bS.alloc _).frozen⟩, hB0⟩
    (fun p => { tmps := #[.slice a len cap, .int .u64 x, undef, .pointer (some ⟨w.heap.size, 0, none⟩), .int .u64 0, .pointer (some ⟨w.heap.size + 1, 0, none⟩), undef, .int .u64 p.2.1, .slice a len cap, .func (.func 117) #[] #[.pointer (some ⟨w.heap.size + 1 + 1, 0, none⟩)], .int .i64 (p.1 : Int), .int .u64 p.2.1, undef, undef, undef, undef, undef, undef], defers := [] }) ?assign ?body ?done ?stop
  case assign =>
    intro l x W K hK
    gi_wp2
    exact hK
  case body =>
    rintro l pre p W ⟨⟨hcx, hco, hfo⟩, hB⟩ _
    have hr := hor_rng x pre
    have hsz := hB.size
    have hs1 : w.heap.size + 1 < W.heap.size := by
      rcases Nat.lt_or_ge (w.heap.size + 1) W.heap.size with h | h
      · exact h
      · unfold World.cell? at hco
        rw [Array.getElem?_eq_none h] at hco; cases hco
    have hp := p.2.2
    gi_wp2
    refine ⟨trivial, ?_⟩
    refine (CallsIn.inRound l (callsIn_wide.2 (still_ct (Mul_ct (hor x pre) x) (by omega) hx _))).mono ?_
    rintro e w1 ⟨rfl, s1⟩
    gi_wp2
    refine ⟨trivial, ?_⟩
    refine (CallsIn.inRound l (callsIn_wide.2 (still_ct (Add_ct (hor x pre * x % 2305843009213693951) p.2.1) (by omega) hp _))).mono ?_
    rintro e w2 ⟨rfl, s2⟩
    have hf2 : w2.frozen? ⟨w.heap.size + 1, 0, none⟩ = false := ((s2.frozen (by have := s1.size; simp; omega)).trans (s1.frozen (by simp; omega))).trans hfo
    have hc2 := s2.cell (s1.cell hco)
    gi_wp2
    have hs2 := s2.size
    have hs3 := s1.size
    refine ⟨((s1.others.trans s2.others).trans (KeepsOthers.setCell _ _ _)).from _, ⟨((s1.below (by omega)).trans (s2.below (by omega))).setCell (p := ⟨w.heap.size + 1, 0, none⟩) (by simp) _, fun v hv => ?_⟩, ⟨?_, ?_, ?_⟩, ((hB.trans (s1.below (by omega))).trans (s2.below (by omega))).setCell (p := ⟨w.heap.size + 1, 0, none⟩) (by simp) _⟩
    · rw [World.cell?_setCell_other]
      · exact s2.cell (s1.cell hv)
      · simp
    · rw [World.cell?_setCell_other]
      · exact s2.cell (s1.cell hcx)
      · simp
    · rw [hor_snoc, Int.emod_add_emod]; exact World.cell?_setCell_same' _ _ _ (by rw [hc2]; rfl)
    · rw [World.frozen?_setCell]; exact hf2
  case done =>
    rintro D ys W hD rfl ⟨⟨hx, hc, _⟩, hB⟩ hK
    gi_wp2
    refine ⟨by simp, .inl ⟨_, _, rfl, run_takeDeferred hK, ?_⟩⟩
    exact ⟨_, results_tmp rfl _ _ _, rfl, hB.trans (belowK_b (w := w) (Nat.le_refl _) W D _ _ (by simp at hD; omega) hK rfl rfl)⟩
  case stop =>
    rintro D c pre W _ _ h _
    exact h.elim
def gv (zs : List Int) (j : Nat) : U64 := if h : 0 ≤ zs.getD j 0 ∧ zs.getD j 0 ≤ 18446744073709551615 then ⟨_, h⟩ else ⟨0, by omega, by omega⟩
theorem gv_eq {zs : List Int} {j : Nat} (h : 0 ≤ zs.getD j 0 ∧ zs.getD j 0 ≤ 18446744073709551615) : (gv zs j).1 = zs.getD j 0 := by unfold gv; rw [dif_pos h]
theorem hor_bk {zs : List Int} (hz : ∀ j, j < zs.length → 0 ≤ zs.getD j 0 ∧ zs.getD j 0 ≤ 18446744073709551615) (x : Int) : ∀ k, k ≤ zs.length → hor x (bk zs.length (gv zs) k) = ev (zs.drop (zs.length - k)) x % 2305843009213693951
  | 0, _ => by
    rw [Nat.sub_zero, List.drop_length]; rfl
  | k + 1, h => by
    have hk : zs.length - (k + 1) < zs.length := by omega
    have e : zs.length - 1 - k = zs.length - (k + 1) := by omega
    unfold bk
    rw [upto_succ, hor_snoc]
    have ih := hor_bk hz x k (by omega)
    unfold bk at ih
    rw [ih, List.drop_eq_getElem_cons hk]
    have e2 : zs.length - (k + 1) + 1 = zs.length - k := by omega
    rw [e2, e, gv_eq (hz _ hk), List.getD_eq_getElem?_getD, List.getElem?_eq_getElem hk, Option.getD_some]
    show _ = (zs[zs.length - (k + 1)] + x * ev (zs.drop (zs.length - k)) x) % 2305843009213693951
    generalize ev (zs.drop (zs.length - k)) x = y
    rw [Int.emod_add_emod, Int.add_comm, ← Int.add_emod_emod, emod_mul_l, Int.add_emod_emod, Int.mul_comm]
theorem At_ct (zs : List Int) (x : Int) (hl : zs.length ≤ 1000000) : Ct Try.prog 96 [L zs, u64 x] [] (Is2 (u64 (ev zs x % 2305843009213693951)) []) := by
  refine ⟨Try.call96, fun I ρ us M hargs hh hnew w F hw => ?_⟩
  obtain ⟨v1, us1, rfl, h1, hr1⟩ := hargs.uncons
  obtain ⟨v2, us2, rfl, h2, hr2⟩ := hr1.uncons
  obtain rfl := hr2.unnil
  cases h1 with
  | d h1 =>
    cases h2 with
    | d h2 =>
      cases h2 with
      | int hx =>
        cases hh
        have hok := h1.okX
        cases h1 with
        | @ro A n c sz us' _ hn hc hm hzz hr hlen hone hxx =>
          rw [li_len] at hn
          subst hn
          have hc1 : (cellsOf (li zs)).length = zs.length := by rw [cellsOf_len (li_cells zs), li_len, Nat.mul_one]
          have hget : ∀ j, j < zs.length → (cellsOf (li zs))[j]? = some (.int .u64 (zs.getD j 0)) := fun j hj => by
            have := cellsOf_get (li_cells zs) (i := j) (x := .int .u64 (zs.getD j 0)) (by have := li_get hj; simpa using this) (j := 0) (by omega)
            simpa [D.cells] using this
          have hcell : ∀ j, j < zs.length → ∃ a, A = some a ∧ I.cell (a.add j) = some (.int .u64 (zs.getD j 0)) ∧ 0 ≤ zs.getD j 0 ∧ zs.getD j 0 ≤ 18446744073709551615 := fun j hj => by
            have hj' : j < us'.length := by rw [hlen, hc1]; exact hj
            obtain ⟨a, e1, e2⟩ := hr j _ (List.getElem?_eq_getElem hj')
            have e3 := hxx j _ _ (List.getElem?_eq_getElem hj') (hget j hj)
            generalize us'[j] = u at e2 e3
            cases e3 with
            | int hin => exact ⟨a, e1, e2, hin⟩
          have hI : InsB w.heap.size w (.slice A zs.length c) zs.length (gv zs) := by
            refine ⟨A, c, rfl, ?_⟩
            rcases Nat.eq_zero_or_pos zs.length with h0 | h0
            · exact .inl h0
            · right
              obtain ⟨a, rfl, ha, _⟩ := hcell 0 h0
              obtain ⟨b, off, spot⟩ := a
              have hs : spot = none := by
                unfold Imm.cell at ha
                simp only [Addr.add] at ha
                split at ha
                · cases spot with
                  | none => rfl
                  | some s => simp at ha
                · cases ha
              subst hs
              refine ⟨b, off, rfl, ?_, fun j hj => ?_⟩
              · have := hw.cell ha
                rw [add_blk] at this
                rcases Nat.lt_or_ge b w.heap.size with h | h
                · exact h
                · unfold World.cell? at this
                  simp only [Addr.add] at this
                  rw [Array.getElem?_eq_none h] at this; cases this
              · obtain ⟨a', e1, e2, e3⟩ := hcell j hj
                cases e1
                rw [gv_eq e3]
                rw [add_blk] at e2
                exact hw.cell e2
          refine (At_in A c zs.length (gv zs) x w hl (inr_u64 hx) hI).mono ?_
          rintro e W' ⟨rfl, hB⟩
          have hz : ∀ j, j < zs.length → 0 ≤ zs.getD j 0 ∧ zs.getD j 0 ≤ 18446744073709551615 := fun j hj => by obtain ⟨_, _, _, h⟩ := hcell j hj; exact h
          have hv := hor_bk hz x zs.length (Nat.le_refl _)
          rw [Nat.sub_self, List.drop_zero] at hv
          rw [hv]
          refine ⟨_, I, [], rfl, Imm.le_refl _, ⟨ρ, _, [], .d (.int ?_), .nil, hnew, Nat.le_refl _, fun _ _ => rfl, rfl, rfl⟩, hw.later (fun b hb => hB.block b hb) hB.os hB.tape hB.output⟩
          show 0 ≤ _ ∧ _ ≤ (18446744073709551615 : Int)
          omega
end Go.Proofs.Ytofkdfodehfpdaa

/- Package poly's reference: which points may be, the value of the polynomial through points. -/
namespace Go.Proofs.Ytofkdfodehfpdaa
open Go.V Go.Num
open Go.Eng (wr)
set_option maxRecDepth 100000
set_option maxHeartbeats 4000000
theorem any_take {α : Type} {f : α → Bool} {xs : List α} {i : Nat} {x : α} (h : xs[i]? = some x) : (xs.take (i + 1)).any f = ((xs.take i).any f || f x) := by
  rw [List.take_add_one, List.any_append, h]; simp
theorem getD_get {ps : List (Int × Int)} {i : Nat} (h : i < ps.length) : ps[i]? = some (ps.getD i (0, 0)) := by
  rw [List.getD_eq_getElem?_getD, List.getElem?_eq_getElem h]; rfl
theorem tw_true {ps : List (Int × Int)} {i : Nat} (hi : i < ps.length) (h : fstAt (ps.getD i (0, 0)).1 (ps.take i) = true) : tw ps = true := by
  unfold tw; rw [List.any_eq_true]; exact ⟨i, List.mem_range.2 hi, h⟩
theorem tw_false {ps : List (Int × Int)} (h : ∀ j, j < ps.length → fstAt (ps.getD j (0, 0)).1 (ps.take j) = false) : tw ps = false := by
  cases e : tw ps with
  | false => rfl
  | true =>
    unfold tw at e; rw [List.any_eq_true] at e
    obtain ⟨j, hj, hf⟩ := e
    rw [h j (List.mem_range.1 hj)] at hf; cases hf
theorem fstAt_mem {a : Int} {ps : List (Int × Int)} {k : Nat} {i : Nat} (hk : k < i) (hi : i ≤ ps.length) (h : (ps.getD k (0, 0)).1 = a) : fstAt a (ps.take i) = true := by
  unfold fstAt; rw [List.any_eq_true]
  refine ⟨ps.getD k (0, 0), ?_, decide_eq_true h⟩
  refine List.mem_of_getElem? (i := k) ?_
  rw [List.getElem?_take, if_pos hk]
  exact getD_get (by omega)
theorem Points_ct (ps : List (Int × Int)) : Ct Try.prog 36 [LP ps] [] (Is2 (i64 (soundS ps)) []) := by
  refine Ct.introF (E := E 59 0 [.tmp 2] [(6, [0, 3, 4])] [(5, [0, 3, 4]), (8, [0, 3, 4, 5])] []) tab_ok Try.call36 Try.func36 rfl rfl rfl rfl rfl (fun hin => ?_)
  have hl := lp_len ps
  have hb := hin.1.1
  (conv => whnf); refine cond_d (fun h1 => ?_) (fun h1 => ?_)
  · refine isInt ?_
    unfold soundS; rw [if_pos (by omega)]
  (conv => whnf); refine cond_d (fun h2 => ?_) (fun h2 => ?_)
  · refine isInt ?_
    unfold soundS; rw [if_neg (by omega), if_pos (by omega)]
  (conv => whnf); refine LoopI.mk (fun n vs os => ∃ i : Nat, vs = [LP ps, i64 (if (ps.take i).any badP = true then 4 else 0), i64 i] ∧ os = [] ∧ i ≤ ps.length ∧ (∀ j, j < i → fstAt (ps.getD j (0, 0)).1 (ps.take j) = false) ∧ n = ps.length - i) ps.length ⟨0, rfl, rfl, Nat.zero_le _, fun j h => by omega, rfl⟩ ?_
  rintro n _ _ ⟨i, rfl, rfl, h3, h4, rfl⟩
  (conv => whnf); refine cond_d (fun h5 => ?_) (fun h5 => ?_)
  · have hi : i < ps.length := by omega
    (conv => whnf); refine JoinI.mk (fun vs os => vs = [LP ps, i64 (if (ps.take (i + 1)).any badP = true then 4 else 0), i64 i] ∧ os = [] ∧ fstAt (ps.getD i (0, 0)).1 (ps.take i) = false) ?_ ?_
    · (conv => whnf); refine LoopI.mk (fun n vs os => ∃ k : Nat, vs = [LP ps, i64 (if (ps.take i).any badP = true then 4 else 0), i64 i, i64 k] ∧ os = [] ∧ k ≤ i ∧ fstAt (ps.getD i (0, 0)).1 (ps.take k) = false ∧ n = i - k) i ⟨0, rfl, rfl, Nat.zero_le _, rfl, rfl⟩ ?_
      rintro n _ _ ⟨k, rfl, rfl, k1, k2, rfl⟩
      (conv => whnf); refine cond_d (fun k3 => ?_) (fun k3 => ?_)
      · have hk : k < ps.length := by omega
        (conv => whnf); refine DrawI.mkF 10 [[0], [4], [25, 26], [27], [28], [0], [5], [30, 31], [32], [33]] (by decide +kernel) ?_
        repeat (first | refine DrawO.mkF _ (And.intro rfl rfl) ?_ | refine DrawO.mkF _ (Idx.mk _ rfl (And.intro rfl rfl)) ?_)
        refine DrawO.mkF _ (And.intro (by omega) (Idx.mk _ (lp_get hi) (And.intro rfl rfl))) ?_
        repeat (first | refine DrawO.mkF _ (And.intro rfl rfl) ?_ | refine DrawO.mkF _ (Idx.mk _ rfl (And.intro rfl rfl)) ?_)
        refine DrawO.mkF _ (And.intro (by omega) (Idx.mk _ (lp_get hk) (And.intro rfl rfl))) ?_
        repeat (first | refine DrawO.mkF _ (And.intro rfl rfl) ?_ | refine DrawO.mkF _ (Idx.mk _ rfl (And.intro rfl rfl)) ?_)
        (conv => whnf); refine cond_d (fun k4 => ?_) (fun k4 => ?_)
        · refine isInt ?_
          unfold soundS; rw [if_neg (by omega), if_neg (by omega), if_pos (tw_true hi (fstAt_mem (k := k) (by omega) (by omega) k4.symm))]
        · (conv => whnf); refine And.intro (by first | omega | (dsimp only [List.length, cond]; omega) | decide) ?_
          conv => whnf
          refine ⟨i - (k + 1), by omega, k + 1, rfl, rfl, by omega, ?_, rfl⟩
          rw [fstAt_take hk, k2, decide_eq_false (fun e => k4 e.symm)]; rfl
      · have e : k = i := by omega
        subst e
        have hbad : ∀ b, badP (ps.getD k (0, 0)) = b → (ps.take (k + 1)).any badP = ((ps.take k).any badP || b) := fun b h => by rw [any_take (getD_get hi), h]
        (conv => whnf); refine And.intro (by first | omega | (dsimp only [List.length, cond]; omega) | decide) ?_
        (conv => whnf); refine Idx.mk _ (lp_get hi) ?_; try ((conv => whnf); refine Idx.mk _ rfl ?_)
        (conv => whnf); refine cond_d (fun c1 => ?_) (fun c1 => ?_)
        · conv => whnf
          refine ⟨?_, rfl, k2⟩
          rw [hbad true (by unfold badP; rw [decide_eq_true c1]; rfl)]; simp
        (conv => whnf); refine And.intro (by first | omega | (dsimp only [List.length, cond]; omega) | decide) ?_
        (conv => whnf); refine Idx.mk _ (lp_get hi) ?_; try ((conv => whnf); refine Idx.mk _ rfl ?_)
        (conv => whnf); refine cond_d (fun c2 => ?_) (fun c2 => ?_)
        · conv => whnf
          refine ⟨?_, rfl, k2⟩
          rw [hbad true (by unfold badP; rw [decide_eq_true (p := _ > _) c2]; simp)]; simp
        (conv => whnf); refine And.intro (by first | omega | (dsimp only [List.length, cond]; omega) | decide) ?_
        (conv => whnf); refine Idx.mk _ (lp_get hi) ?_; try ((conv => whnf); refine Idx.mk _ rfl ?_)
        (conv => whnf); refine cond_d (fun c3 => ?_) (fun c3 => ?_)
        · conv => whnf
          refine ⟨?_, rfl, k2⟩
          rw [hbad true (by unfold badP; rw [decide_eq_true (p := _ ≥ _) c3]; simp)]; simp
        · conv => whnf
          refine ⟨?_, rfl, k2⟩
          rw [hbad false (by unfold badP; rw [decide_eq_false c1, decide_eq_false (p := _ > _) c2, decide_eq_false (p := _ ≥ _) c3]; rfl), Bool.or_false]
    · rintro _ _ ⟨rfl, rfl, k2⟩
      (conv => whnf); refine And.intro (by first | omega | (dsimp only [List.length, cond]; omega) | decide) ?_
      conv => whnf
      refine ⟨ps.length - (i + 1), by omega, i + 1, rfl, rfl, by omega, fun j hj => ?_, rfl⟩
      by_cases e : j = i
      · rw [e]; exact k2
      · exact h4 j (by omega)
  · have e : i = ps.length := by omega
    refine isInt ?_
    have hs : soundS ps = if ps.any badP = true then 4 else 0 := by
      unfold soundS
      rw [if_neg (by omega), if_neg (by omega), tw_false (by rw [← e]; exact h4), if_neg (by simp)]
    rw [hs, List.take_of_length_le (by omega)]
def partS (x a y : Int) (rs : List Int) : Int := rs.foldl (fun p r => (p * ((x - r) % 2305843009213693951) % 2305843009213693951 * inv ((a - r) % 2305843009213693951)) % 2305843009213693951) y
theorem partS_app (x a y : Int) (rs : List Int) (r : Int) : partS x a y (rs ++ [r]) = (partS x a y rs * ((x - r) % 2305843009213693951) % 2305843009213693951 * inv ((a - r) % 2305843009213693951)) % 2305843009213693951 := by unfold partS; rw [List.foldl_append]; rfl
theorem partS_nn (x a : Int) {y : Int} (hy : 0 ≤ y) : ∀ rs : List Int, 0 ≤ partS x a y rs := fun rs => by
  rcases List.eq_nil_or_concat rs with rfl | ⟨q, r, rfl⟩
  · exact hy
  · rw [List.concat_eq_append, partS_app]; omega
def valS (ps : List (Int × Int)) (x : Int) (i : Nat) : Int := (List.range i).foldl (fun s j => (s + partS x (ps.getD j (0, 0)).1 (ps.getD j (0, 0)).2 (ot ps j ps.length)) % 2305843009213693951) 0
theorem valS_step (ps : List (Int × Int)) (x : Int) (i : Nat) : valS ps x (i + 1) = (valS ps x i + partS x (ps.getD i (0, 0)).1 (ps.getD i (0, 0)).2 (ot ps i ps.length)) % 2305843009213693951 := by unfold valS; rw [List.range_succ, List.foldl_append]; rfl
end Go.Proofs.Ytofkdfodehfpdaa

/- Package group, seal's reference: what two agree on; large numbers. -/
namespace Go.Proofs.Ytofkdfodehfpdaa
open Go.V Go.Num
open Go.Eng (wr)
set_option maxRecDepth 100000
set_option maxHeartbeats 4000000
theorem rPow_ct (a n : Int) (ha : 0 ≤ a) (hn : 0 ≤ n ∧ n < 18446744073709551616) : Ct Try.prog 21 [u64 a, u64 n] [] (Is2 (u64 (pw a n.toNat)) []) := by
  refine Ct.introF (E := E 24 0 [.tmp 4] [] [(3, [0, 1, 5, 6])] []) tab_ok Try.call21 Try.func21 rfl rfl rfl rfl rfl (fun hin => ?_)
  obtain ⟨m, rfl⟩ := Int.eq_ofNat_of_zero_le hn.1
  have hm : m < 2 ^ 64 := by have := hn.2; omega
  (conv => whnf); refine LoopI.mk (fun q vs os => ∃ i : Int, vs = [u64 a, u64 m, u64 (a ^ (m / 2 ^ (i + 1).toNat) % 2305843009213693951), i64 i] ∧ os = [] ∧ -1 ≤ i ∧ i ≤ 63 ∧ q = (i + 1).toNat) 64 ⟨63, ?_, rfl, by decide, by decide, rfl⟩ ?_
  · have : m / 2 ^ (63 + 1 : Int).toNat = 0 := Nat.div_eq_of_lt hm
    rw [this, Int.pow_zero]; rfl
  rintro q _ _ ⟨i, rfl, rfl, h1, h2, rfl⟩
  (conv => whnf); refine cond_d (fun h => ?_) (fun h => ?_)
  · obtain ⟨k, rfl⟩ := Int.eq_ofNat_of_zero_le h
    have e1 : wr .u64 (k : Int) = k := by simp only [wr]; omega
    have e2 : min (wr .u64 (k : Int)).toNat IntKind.u64.bits = k := by rw [e1]; show min k 64 = k; omega
    have hk1 : ((k : Int) + 1).toNat = k + 1 := by omega
    have hk2 : ((k : Int) - 1 + 1).toNat = k := by omega
    obtain ⟨r, hr⟩ : ∃ r : Nat, r = m / 2 ^ (k + 1) := ⟨_, rfl⟩
    have hstep : m / 2 ^ k = 2 * r + m / 2 ^ k % 2 := by
      have : m / 2 ^ (k + 1) = m / 2 ^ k / 2 := by rw [Nat.pow_succ, Nat.div_div_eq_div_mul]
      omega
    have hbit : ((((m : Int) / 2 ^ (min (wr .u64 (k : Int)).toNat IntKind.u64.bits)).toNat &&& (1 : Int).toNat : Nat) : Int) = ((m / 2 ^ k % 2 : Nat) : Int) := by
      rw [e2]
      have e3 : ((m : Int) / 2 ^ k) = ((m / 2 ^ k : Nat) : Int) := by simp
      rw [e3, Int.toNat_natCast]
      have : (m / 2 ^ k) &&& (1 : Int).toNat = m / 2 ^ k % 2 := Nat.and_one_is_mod _
      rw [this]
    have hr0 : 0 ≤ a ^ (m / 2 ^ ((k : Int) + 1).toNat) % 2305843009213693951 := Int.emod_nonneg _ (by decide)
    (conv => whnf); refine (rMul_ct _ _ hr0 hr0).use ?_
    have hsq : (a ^ (m / 2 ^ ((k : Int) + 1).toNat) % 2305843009213693951 * (a ^ (m / 2 ^ ((k : Int) + 1).toNat) % 2305843009213693951)) % 2305843009213693951 = a ^ (2 * r) % 2305843009213693951 := by
      rw [hk1, ← hr, emod_mul_l, emod_mul_r, ← Int.pow_add, show r + r = 2 * r from by omega]
    (conv => whnf); refine cond_d (fun h3 => ?_) (fun h3 => ?_)
    · (conv => whnf); refine (rMul_ct _ _ (Int.emod_nonneg _ (by decide)) ha).use ?_
      (conv => whnf); refine And.intro (by first | omega | (dsimp only [List.length, cond]; omega) | decide) ?_
      (conv => whnf)
      refine ⟨k, by omega, (k : Int) - 1, ?_, rfl, by omega, by omega, by omega⟩
      have hb : m / 2 ^ k % 2 = 1 := by have := hbit.symm.trans h3; omega
      show [_, _, u64 _, i64 _] = [_, _, u64 _, i64 _]
      rw [hsq, hk2, emod_mul_l, ← Int.pow_succ, show m / 2 ^ k = 2 * r + 1 from by omega]
    · (conv => whnf); refine And.intro (by first | omega | (dsimp only [List.length, cond]; omega) | decide) ?_
      (conv => whnf)
      refine ⟨k, by omega, (k : Int) - 1, ?_, rfl, by omega, by omega, by omega⟩
      have hb : m / 2 ^ k % 2 = 0 := by
        have : ¬ ((m / 2 ^ k % 2 : Nat) : Int) = 1 := fun e => h3 (hbit.trans e)
        omega
      show [_, _, u64 _, i64 _] = [_, _, u64 _, i64 _]
      rw [hsq, hk2, show m / 2 ^ k = 2 * r from by omega]
  · obtain rfl : i = -1 := by omega
    refine isInt ?_
    rw [Int.toNat_natCast, pw_eq a hm]; simp
theorem gGood_ct (n : Int) : Ct Try.prog 80 [u64 n] [] (Is2 (.d (.bool (decide (2 ≤ n ∧ n ≤ 2305843009213693949)))) []) := by
  refine Ct.introF (E := E 9 0 [.tmp 2] [] [] []) tab_ok Try.call80 Try.func80 rfl rfl rfl rfl rfl (fun hin => ?_)
  (conv => whnf); refine cond_d (fun h => ?_) (fun h => ?_)
  · refine isBool ?_
    simp [h]
  · refine isBool ?_
    simp [h]
theorem gSound_ct (n : Int) : Ct Try.prog 79 [u64 n] [] (Is2 (.d (.bool (decide (1 ≤ n ∧ n ≤ 2305843009213693949)))) []) := by
  refine Ct.introF (E := E 9 0 [.tmp 2] [] [] []) tab_ok Try.call79 Try.func79 rfl rfl rfl rfl rfl (fun hin => ?_)
  (conv => whnf); refine cond_d (fun h => ?_) (fun h => ?_)
  · refine isBool ?_
    simp [h]
  · refine isBool ?_
    simp [h]
theorem rSecret_ct (n : Int) : Ct Try.prog 33 [u64 n] [] (Is2 (.d (.bool (decide (1 ≤ n ∧ n ≤ 2305843009213693949)))) []) := by
  refine Ct.introF (E := E 9 0 [.tmp 2] [] [] []) tab_ok Try.call33 Try.func33 rfl rfl rfl rfl rfl (fun hin => ?_)
  (conv => whnf); refine cond_d (fun h => ?_) (fun h => ?_)
  · refine isBool ?_
    simp [h]
  · refine isBool ?_
    simp [h]
theorem rGood_ct (n : Int) : Ct Try.prog 22 [u64 n] [] (Is2 (.d (.bool (decide (2 ≤ n ∧ n ≤ 2305843009213693949)))) []) := by
  refine Ct.introF (E := E 9 0 [.tmp 2] [] [] []) tab_ok Try.call22 Try.func22 rfl rfl rfl rfl rfl (fun hin => ?_)
  (conv => whnf); refine cond_d (fun h => ?_) (fun h => ?_)
  · refine isBool ?_
    simp [h]
  · refine isBool ?_
    simp [h]
/-- What two agree on: the error, the number. -/
def agE (n p : Int) : Int := if ¬ (1 ≤ n ∧ n ≤ 2305843009213693949) then 1 else if ¬ (2 ≤ p ∧ p ≤ 2305843009213693949) then 16 else 0
def agV (n p : Int) : Int := if agE n p = 0 then pw p n.toNat else 0
theorem agE_zero {n p : Int} (h : agE n p = 0) : (1 ≤ n ∧ n ≤ 2305843009213693949) ∧ (2 ≤ p ∧ p ≤ 2305843009213693949) := by
  unfold agE at h
  split at h
  · cases h
  split at h
  · cases h
  omega
theorem of_ct (n p : Int) (hn : 0 ≤ n ∧ n < 18446744073709551616) : Ct Try.prog 78 [u64 n, u64 p] [] (Is2 (u64 (pw p n.toNat)) []) := by
  refine Ct.introF (E := E 8 0 [.tmp 4] [] [] []) tab_ok Try.call78 Try.func78 rfl rfl rfl rfl rfl (fun hin => ?_)
  (conv => whnf); refine (Pow_ct p n hn).use ?_
  exact Is2.mk rfl
theorem Agree_ct (n p : Int) : Ct Try.prog 50 [u64 n, u64 p] [] (Is2 (.tup [u64 (agV n p), i64 (agE n p)]) []) := by
  refine Ct.introF (E := E 22 0 [.tmp 4, .tmp 5] [] [] []) tab_ok Try.call50 Try.func50 rfl rfl rfl rfl rfl (fun hin => ?_)
  (conv => whnf); refine (gSound_ct n).use ?_
  (conv => whnf); refine cond_nd (fun h => ?_) (fun h => ?_)
  · have e : agE n p = 1 := by unfold agE; rw [if_pos h]
    refine Is2.mk ?_
    unfold agV; rw [e]; rfl
  (conv => whnf); refine (gGood_ct p).use ?_
  (conv => whnf); refine cond_nd (fun h2 => ?_) (fun h2 => ?_)
  · have e : agE n p = 16 := by unfold agE; rw [if_neg (fun h3 => h3 h), if_pos h2]
    refine Is2.mk ?_
    unfold agV; rw [e]; rfl
  · have e : agE n p = 0 := by unfold agE; rw [if_neg (fun h3 => h3 h), if_neg (fun h3 => h3 h2)]
    (conv => whnf); refine (of_ct n p (by omega)).use ?_
    refine Is2.mk ?_
    unfold agV; rw [e]; rfl
theorem rAgree_ct (n p : Int) (hp : 0 ≤ p ∧ p ≤ 18446744073709551615) : Ct Try.prog 14 [u64 n, u64 p] [] (Is2 (.tup [u64 (agV n p), i64 (agE n p)]) []) := by
  refine Ct.introF (E := E 15 0 [.tmp 4, .tmp 5] [] [] []) tab_ok Try.call14 Try.func14 rfl rfl rfl rfl rfl (fun hin => ?_)
  (conv => whnf); refine (rSecret_ct n).use ?_
  (conv => whnf); refine cond_nd (fun h => ?_) (fun h => ?_)
  · have e : agE n p = 1 := by unfold agE; rw [if_pos h]
    refine Is2.mk ?_
    unfold agV; rw [e]; rfl
  (conv => whnf); refine (rGood_ct p).use ?_
  (conv => whnf); refine cond_nd (fun h2 => ?_) (fun h2 => ?_)
  · have e : agE n p = 16 := by unfold agE; rw [if_neg (fun h3 => h3 h), if_pos h2]
    refine Is2.mk ?_
    unfold agV; rw [e]; rfl
  · have e : agE n p = 0 := by unfold agE; rw [if_neg (fun h3 => h3 h), if_neg (fun h3 => h3 h2)]
    (conv => whnf); refine (rPow_ct p n (by omega) (by omega)).use ?_
    refine Is2.mk ?_
    unfold agV; rw [e]; rfl
theorem slarge_ct (n : Int) : Ct Try.prog 44 [u64 n] [] (Is2 (.d (.bool (decide (2305843009213693951 ≤ n)))) []) := by
  refine Ct.introF (E := E 5 0 [.tmp 2] [] [] []) tab_ok Try.call44 Try.func44 rfl rfl rfl rfl rfl (fun hin => ?_)
  exact isBool rfl
theorem sBigIdx_ct (xs : List Int) : Ct Try.prog 74 [L xs, .fn 44 [] []] [] (fun r os => ∃ k : Int, r = i64 k ∧ os = [] ∧ -1 ≤ k ∧ (0 ≤ k ↔ xs.any (fun n => decide (2305843009213693951 ≤ n)) = true) ∧ (0 ≤ k → ∃ j : Nat, k = j ∧ j < xs.length ∧ (fun n => decide (2305843009213693951 ≤ n)) (xs.getD j 0) = true ∧ (xs.take j).any (fun n => decide (2305843009213693951 ≤ n)) = false)) := by
  refine Ct.introF (E := E 19 0 [.tmp 4] [] [(2, [0, 1, 7, 8])] []) tab_ok Try.call74 Try.func74 rfl rfl rfl rfl rfl (fun hin => ?_)
  have hl := li_len xs
  have hb := hin.1.1
  (conv => whnf); refine LoopI.mk (fun n vs os => ∃ i : Nat, vs = [L xs, .fn 44 [] [], i64 xs.length, i64 i] ∧ os = [] ∧ i ≤ xs.length ∧ (xs.take i).any (fun n => decide (2305843009213693951 ≤ n)) = false ∧ n = xs.length - i) xs.length ⟨0, by rw [hl]; rfl, rfl, Nat.zero_le _, rfl, rfl⟩ ?_
  rintro n _ _ ⟨i, rfl, rfl, h1, h2, rfl⟩
  (conv => whnf); refine cond_d (fun h7 => ?_) (fun h7 => ?_)
  · have hi : i < xs.length := by omega
    have hg : xs[i]? = some (xs.getD i 0) := by rw [List.getD_eq_getElem?_getD, List.getElem?_eq_getElem hi]; rfl
    have hs : (xs.take (i + 1)).any (fun n => decide (2305843009213693951 ≤ n)) = (fun n => decide (2305843009213693951 ≤ n)) (xs.getD i 0) := by rw [any_take hg, h2]; rfl
    (conv => whnf); refine And.intro (by first | omega | (dsimp only [List.length, cond]; omega) | decide) ?_
    (conv => whnf); refine Idx.mk _ (li_get hi) ?_; try ((conv => whnf); refine Idx.mk _ rfl ?_)
    (conv => whnf); refine (slarge_ct (xs.getD i 0)).use ?_
    (conv => whnf); refine cond_i (fun h8 => ?_) (fun h8 => ?_)
    · conv => whnf
      refine ⟨i, rfl, rfl, by omega, ⟨fun _ => ?_, fun _ => by omega⟩, fun _ => ⟨i, rfl, hi, h8, h2⟩⟩
      rw [List.any_eq_true]
      exact ⟨xs.getD i 0, List.mem_of_getElem? hg, h8⟩
    · (conv => whnf); refine And.intro (by first | omega | (dsimp only [List.length, cond]; omega) | decide) ?_
      conv => whnf
      refine ⟨xs.length - (i + 1), by omega, i + 1, rfl, rfl, by omega, ?_, rfl⟩
      rw [hs]; exact h8
  · rw [List.take_of_length_le (by omega)] at h2
    exact ⟨-1, rfl, rfl, by omega, by rw [h2]; simp, fun h => by omega⟩
theorem sBig_ct (xs : List Int) : Ct Try.prog 43 [L xs, .fn 44 [] []] [] (Is2 (.d (.bool (xs.any (fun n => decide (2305843009213693951 ≤ n))))) []) := by
  refine Ct.introF (E := E 9 0 [.tmp 4] [] [] []) tab_ok Try.call43 Try.func43 rfl rfl rfl rfl rfl (fun hin => ?_)
  refine (sBigIdx_ct xs).mono (fun r os h => ?_)
  obtain ⟨k, rfl, rfl, _, hk, _⟩ := h
  conv => whnf
  refine ⟨?_, rfl⟩
  have : decide (0 ≤ k) = xs.any (fun n => decide (2305843009213693951 ≤ n)) := by
    cases h : xs.any (fun n => decide (2305843009213693951 ≤ n)) with
    | true => exact decide_eq_true (hk.2 h)
    | false => exact decide_eq_false (fun h2 => by rw [hk.1 h2] at h; cases h)
  rw [← this]

end Go.Proofs.Ytofkdfodehfpdaa

/- Package seal and its reference: bytes under the stream of two. -/
namespace Go.Proofs.Ytofkdfodehfpdaa
open Go.V Go.Num
open Go.Eng (wr)
set_option maxRecDepth 100000
set_option maxHeartbeats 4000000
abbrev wayD (f t : Int) : AV := .d (.agg [.int .i64 f, .int .i64 t])
theorem sgood_ct (f t : Int) : Ct Try.prog 42 [wayD f t] [] (Is2 (.d (.bool (decide ((1 ≤ f ∧ f ≤ 64) ∧ 1 ≤ t ∧ t ≤ 64)))) []) := by
  refine Ct.introF (E := E 21 0 [.tmp 2] [] [] []) tab_ok Try.call42 Try.func42 rfl rfl rfl rfl rfl (fun hin => ?_)
  (conv => whnf); refine cond_d (fun h1 => ?_) (fun h1 => ?_)
  · (conv => whnf); refine cond_d (fun h2 => ?_) (fun h2 => ?_)
    · (conv => whnf); refine cond_d (fun h3 => ?_) (fun h3 => ?_)
      · refine isBool ?_
        simp [h1, h2, h3]
      · refine isBool ?_
        simp [h3]
    · refine isBool ?_
      simp [h2]
  · refine isBool ?_
    simp [h1]
def wayN (f t : Int) : Int := wr .u32 (256 * f + t)
def hidL (n f t : Int) (b : List Int) : List Int := xorL (derL n 1) 0 (nonL (wayN f t)) b
theorem hidL_len (n f t : Int) (b : List Int) : (hidL n f t b).length = b.length := xorL_len _ _ _ _
theorem xr_comm (a b : Int) : xr a b = xr b a := by unfold xr; rw [Nat.xor_comm]
theorem xr_zero (a : Int) (h : 0 ≤ a) : xr 0 a = a := by unfold xr; rw [show (0 : Int).toNat = 0 from rfl, Nat.zero_xor]; omega
/-- A stream's bytes, laid on others. -/
theorem xor_bytes (key nonce b : List Int) {i : Nat} (h : i < b.length) : xr ((xorL key 0 nonce (List.replicate b.length 0)).getD i 0) (b.getD i 0) = (xorL key 0 nonce b).getD i 0 := by
  rw [xorL_at _ _ _ _ (by rw [List.length_replicate]; exact h), xorL_at _ _ _ _ h]
  have : (List.replicate b.length (0 : Int)).getD i 0 = 0 := by
    rw [List.getD_eq_getElem?_getD, List.getElem?_replicate]; split <;> rfl
  rw [this, xr_zero _ (blkL_u8 _ _ _ _).1, xr_comm]
def hidV (s p f t : Int) (b : List Int) : List Int := if agE s p = 0 then hidL (agV s p) f t b else []
theorem clamp_len {n : Nat} (h : n ≤ 65536) : clampN (n : Int) 65536 = n := by unfold clampN; omega
theorem hide_ct (f t s p : Int) (b : List Int) (hf : 0 ≤ f ∧ f ≤ 1000) (ht : 0 ≤ t ∧ t ≤ 1000) (hb : b.length ≤ 65536) : Ct Try.prog 45 [wayD f t, u64 s, u64 p, R8 b] [] (Is2 (.tup [R8 (hidV s p f t b), i64 (agE s p)]) []) := by
  refine Ct.introF (E := E 52 0 [.tmp 8, .tmp 9] [] [(6, [3, 12, 36, 37])] [(1000003, [.nl 8]), (1000010, [.fz 8])]) tab_ok Try.call45 Try.func45 rfl rfl rfl rfl rfl (fun hin => ?_)
  have hlb := l8_len b
  (conv => whnf); refine (Agree_ct s p).use ?_
  (conv => whnf); refine cond_d (fun h => ?_) (fun h => ?_)
  · refine Is2.mk ?_
    unfold hidV; rw [if_neg h]; rfl
  have h0 : agE s p = 0 := Decidable.of_not_not h
  (conv => whnf); refine DrawI.mkF 11 [[10], [23], [4], [25], [26], [4], [28], [27, 29], [30], [3], [32]] (by decide +kernel) ?_
  repeat (first | refine DrawO.mkF _ (And.intro rfl rfl) ?_ | refine DrawO.mkF _ (Idx.mk _ rfl (And.intro rfl rfl)) ?_)
  refine DrawO.mkF _ ((Derive_ct (agV s p) 1).use (And.intro rfl rfl)) ?_
  repeat (first | refine DrawO.mkF _ (And.intro rfl rfl) ?_ | refine DrawO.mkF _ (Idx.mk _ rfl (And.intro rfl rfl)) ?_)
  refine DrawO.mkF _ (And.intro (by first | omega | (dsimp only [List.length, cond]; omega) | decide) (And.intro rfl rfl)) ?_
  repeat (first | refine DrawO.mkF _ (And.intro rfl rfl) ?_ | refine DrawO.mkF _ (Idx.mk _ rfl (And.intro rfl rfl)) ?_)
  refine DrawO.mkF _ (And.intro (by first | omega | (dsimp only [List.length, cond]; omega) | decide) (And.intro rfl rfl)) ?_
  repeat (first | refine DrawO.mkF _ (And.intro rfl rfl) ?_ | refine DrawO.mkF _ (Idx.mk _ rfl (And.intro rfl rfl)) ?_)
  (conv => whnf); refine (Bytes_ct (derL (agV s p) 1) (wayN f t) (l8 b).length (derL_len _ _)).use ?_
  obtain ⟨Z, hZ⟩ : ∃ z, z = bytesL (derL (agV s p) 1) (wayN f t) ((l8 b).length : Nat) := ⟨_, rfl⟩
  have hZx : Z = xorL (derL (agV s p) 1) 0 (nonL (wayN f t)) (List.replicate b.length 0) := by
    rw [hZ]; unfold bytesL; rw [hlb, clamp_len hb]
  have hZl : Z.length = b.length := by rw [hZx, xorL_len, List.length_replicate]
  have hW : hidV s p f t b = hidL (agV s p) f t b := by unfold hidV; rw [if_pos h0]
  obtain ⟨W, hWe⟩ : ∃ z, z = hidL (agV s p) f t b := ⟨_, rfl⟩
  have hWl : W.length = b.length := by rw [hWe, hidL_len]
  have hWx : ∀ i, i < b.length → xr (Z.getD i 0) (b.getD i 0) = W.getD i 0 := fun i hi => by rw [hZx, hWe]; exact xor_bytes _ _ _ hi
  (conv => whnf); refine LoopI.mk (fun q vs os => ∃ (i : Nat) (ys : List Int), vs = [R8 b, .sl 0, i64 b.length, i64 i] ∧ os = [.row 5 1 (l8 ys)] ∧ i ≤ b.length ∧ ys.length = b.length ∧ (∀ j, j < b.length → ys.getD j 0 = if j < i then W.getD j 0 else Z.getD j 0) ∧ q = b.length - i) b.length ⟨0, Z, ?_, by rw [hZ]; rfl, Nat.zero_le _, hZl, fun j hj => by rw [if_neg (by omega)], rfl⟩ ?_
  · have : (l8 (bytesL (derL (agV s p) 1) (wayN f t) ((l8 b).length : Nat))).length = b.length := by rw [l8_len, ← hZ, hZl]
    show [_, _, i64 ((l8 (bytesL (derL (agV s p) 1) (wayN f t) ((l8 b).length : Nat))).length : Nat), _] = _
    rw [this]; rfl
  rintro q _ _ ⟨i, ys, rfl, rfl, h1, hyl, hys, rfl⟩
  have hly := l8_len ys
  (conv => whnf); refine cond_d (fun h2 => ?_) (fun h2 => ?_)
  · (conv => whnf); refine DrawI.mkF 8 [[12], [13], [40, 41], [42], [3], [13], [44, 45], [46]] (by decide +kernel) ?_
    repeat (first | refine DrawO.mkF _ (And.intro rfl rfl) ?_ | refine DrawO.mkF _ (Idx.mk _ rfl (And.intro rfl rfl)) ?_)
    refine DrawO.mkF _ (And.intro (by first | omega | (dsimp only [List.length, cond]; omega) | decide) (And.intro rfl rfl)) ?_
    refine DrawO.mkF (u8 (ys.getD i 0)) (Idx.mk _ (l8_geti (by omega)) (Idx.mk _ rfl (And.intro rfl rfl))) ?_
    repeat (first | refine DrawO.mkF _ (And.intro rfl rfl) ?_ | refine DrawO.mkF _ (Idx.mk _ rfl (And.intro rfl rfl)) ?_)
    refine DrawO.mkF _ (And.intro (by omega) (Idx.mk _ (l8_geti (by omega)) (And.intro rfl rfl))) ?_
    repeat (first | refine DrawO.mkF _ (And.intro rfl rfl) ?_ | refine DrawO.mkF _ (Idx.mk _ rfl (And.intro rfl rfl)) ?_)
    (conv => whnf); refine And.intro (by first | omega | (dsimp only [List.length, cond]; omega) | decide) ?_
    (conv => whnf); refine Idx.mk _ (l8_geti (by omega)) ?_
    (conv => whnf); refine And.intro (by first | omega | (dsimp only [List.length, cond]; omega) | decide) ?_
    (conv => whnf)
    refine ⟨b.length - (i + 1), by omega, i + 1, ys.set i (xr (ys.getD i 0) (b.getD i 0)), rfl, ?_, by omega, by rw [List.length_set]; exact hyl, fun j hj => ?_, rfl⟩
    · rw [← l8_setr]; rfl
    · rw [getD_set]
      by_cases e : i = j
      · subst e
        rw [if_pos ⟨rfl, by omega⟩, if_pos (by omega), hys i hj, if_neg (by omega), hWx i hj]
      · rw [if_neg (fun h => e h.1), hys j hj]
        by_cases e2 : j < i
        · rw [if_pos e2, if_pos (by omega)]
        · rw [if_neg e2, if_neg (by omega)]
  · have e : ys = W := ext_getD (by omega) (fun j hj => by rw [hys j (by omega), if_pos (by omega)])
    rw [h0, hW, ← hWe, ← e]
    exact Is2.mk rfl
theorem rHidden_ct (n f t : Int) (b : List Int) (hf : 0 ≤ f ∧ f ≤ 1000) (ht : 0 ≤ t ∧ t ≤ 1000) (hb : b.length ≤ 65536) : Ct Try.prog 17 [u64 n, i64 f, i64 t, R8 b] [] (Is2 (R8 (hidL n f t b)) []) := by
  refine Ct.introF (E := E 19 0 [.tmp 8] [] [] []) tab_ok Try.call17 Try.func17 rfl rfl rfl rfl rfl (fun hin => ?_)
  (conv => whnf); refine (rDerive_ct n 1).use ?_
  (conv => whnf); refine And.intro (by first | omega | (dsimp only [List.length, cond]; omega) | decide) ?_
  (conv => whnf); refine And.intro (by first | omega | (dsimp only [List.length, cond]; omega) | decide) ?_
  (conv => whnf); refine (rNonce_ct (wayN f t)).use ?_
  (conv => whnf); refine (rXor_ct (derL n 1) (nonL (wayN f t)) b 0 (derL_len _ _) (nonL_len _) (by omega)).use ?_
  exact Is2.mk rfl
end Go.Proofs.Ytofkdfodehfpdaa

/- Package ring: sums and differences. -/
namespace Go.Proofs.Ytofkdfodehfpdaa.Ring
open Go.V Go.Num
open Go.Eng (wr)
set_option maxRecDepth 100000
set_option maxHeartbeats 4000000
def addV (a b : List Int) : List Int := (List.range a.length).map fun i => wr .u32 (a.getD i 0 + b.getD i 0)
theorem addV_len (a b : List Int) : (addV a b).length = a.length := by simp [addV]
theorem addV_at (a b : List Int) {i : Nat} (h : i < a.length) : (addV a b).getD i 0 = wr .u32 (a.getD i 0 + b.getD i 0) := by
  unfold addV
  rw [List.getD_eq_getElem?_getD, List.getElem?_map, List.getElem?_range h]; rfl
def subV (a b : List Int) : List Int := (List.range a.length).map fun i => wr .u32 (a.getD i 0 - b.getD i 0)
theorem subV_len (a b : List Int) : (subV a b).length = a.length := by simp [subV]
theorem subV_at (a b : List Int) {i : Nat} (h : i < a.length) : (subV a b).getD i 0 = wr .u32 (a.getD i 0 - b.getD i 0) := by
  unfold subV
  rw [List.getD_eq_getElem?_getD, List.getElem?_map, List.getElem?_range h]; rfl
theorem plus_ct (a b : Int) : Ct Try.prog 104 [u32 a, u32 b] [] (Is2 (u32 (wr .u32 (a + b))) []) := by
  refine Ct.introF (E := E 8 0 [.tmp 4] [] [] []) tab_ok Try.call104 Try.func104 rfl rfl rfl rfl rfl (fun hin => ?_)
  exact Is2.mk rfl
theorem eachAdd_ct (a b : List Int) (ha : a.length ≤ 1000000) : Ct Try.prog 103 [.fn 104 [] [], R32 a, R32 b] [] (Is2 (.tup [R32 (if a.length = b.length then addV a b else []), i64 (if a.length = b.length then 0 else 1)]) []) := by
  refine Ct.introF (E := E 38 0 [.tmp 6, .tmp 7] [] [(5, [0, 1, 2, 8, 19, 20])] [(1000002, [.nl 6]), (1000009, [.fz 6])]) tab_ok Try.call103 Try.func103 rfl rfl rfl rfl rfl (fun hin => ?_)
  have hla := l32_len a
  have hlb := l32_len b
  (conv => whnf); refine cond_d (fun h => ?_) (fun h => ?_)
  · rw [if_neg (by omega), if_neg (by omega)]
    exact Is2.mk rfl
  have hl : a.length = b.length := by omega
  (conv => whnf); refine And.intro (by first | omega | (dsimp only [List.length, cond]; omega) | decide) ?_
  (conv => whnf); refine LoopI.mk (fun q ws os => ∃ (i : Nat) (ys : List Int), ws = [.fn 104 [] [], R32 a, R32 b, .sl 0, i64 a.length, i64 i] ∧ os = [.row 57 1 (l32 ys)] ∧ i ≤ a.length ∧ ys.length = a.length ∧ (∀ j, j < i → ys.getD j 0 = wr .u32 (a.getD j 0 + b.getD j 0)) ∧ q = a.length - i) a.length ⟨0, List.replicate a.length 0, ?_, ?_, Nat.zero_le _, by simp, fun j hj => by omega, rfl⟩ ?_
  · show [_, _, _, _, i64 (List.replicate ((l32 a).length : Int).toNat (D.int .u32 0)).length, _] = _
    rw [List.length_replicate, hla, Int.toNat_natCast]; rfl
  · show [Obj.row _ _ (List.replicate ((l32 a).length : Int).toNat (D.int .u32 0))] = _
    rw [hla, Int.toNat_natCast, l32_rep]
  rintro q _ _ ⟨i, ys, rfl, rfl, h1, hyl, hys, rfl⟩
  have hly := l32_len ys
  (conv => whnf); refine cond_d (fun h2 => ?_) (fun h2 => ?_)
  · (conv => whnf); refine DrawI.mkF 12 [[8], [9], [0], [1], [9], [26, 27], [28], [2], [9], [30, 31], [32], [25, 29, 33]] (by decide +kernel) ?_
    repeat (first | refine DrawO.mkF _ (And.intro rfl rfl) ?_ | refine DrawO.mkF _ (Idx.mk _ rfl (And.intro rfl rfl)) ?_)
    refine DrawO.mkF _ (And.intro (by omega) (Idx.mk _ (l32_geti (by omega)) (And.intro rfl rfl))) ?_
    repeat (first | refine DrawO.mkF _ (And.intro rfl rfl) ?_ | refine DrawO.mkF _ (Idx.mk _ rfl (And.intro rfl rfl)) ?_)
    refine DrawO.mkF _ (And.intro (by omega) (Idx.mk _ (l32_geti (by omega)) (And.intro rfl rfl))) ?_
    repeat (first | refine DrawO.mkF _ (And.intro rfl rfl) ?_ | refine DrawO.mkF _ (Idx.mk _ rfl (And.intro rfl rfl)) ?_)
    refine DrawO.mkF _ ((plus_ct (a.getD i 0) (b.getD i 0)).use (And.intro rfl rfl)) ?_
    (conv => whnf); refine And.intro (by first | omega | (dsimp only [List.length, cond]; omega) | decide) ?_
    (conv => whnf); refine Idx.mk _ (l32_geti (by omega)) ?_
    (conv => whnf); refine And.intro (by first | omega | (dsimp only [List.length, cond]; omega) | decide) ?_
    (conv => whnf)
    refine ⟨a.length - (i + 1), by omega, i + 1, ys.set i (wr .u32 (a.getD i 0 + b.getD i 0)), rfl, ?_, by omega, by rw [List.length_set]; exact hyl, fun j hj => ?_, rfl⟩
    · rw [← l32_setr]; rfl
    · rw [getD_set]
      by_cases e : i = j
      · subst e; rw [if_pos ⟨rfl, by omega⟩]
      · rw [if_neg (fun h => e h.1)]; exact hys j (by omega)
  · have e : ys = addV a b := ext_getD (by rw [addV_len, hyl]) (fun j hj => by rw [hys j (by omega), addV_at _ _ (by omega)])
    rw [if_pos hl, if_pos hl, e]
    exact Is2.mk rfl
theorem Add_ct (a b : List Int) (ha : a.length ≤ 1000000) : Ct Try.prog 84 [R32 a, R32 b] [] (Is2 (.tup [R32 (if a.length = b.length then addV a b else []), i64 (if a.length = b.length then 0 else 1)]) []) := by
  refine Ct.introF (E := E 11 0 [.tmp 4, .tmp 5] [] [] []) tab_ok Try.call84 Try.func84 rfl rfl rfl rfl rfl (fun hin => ?_)
  (conv => whnf); refine (eachAdd_ct a b ha).use ?_
  exact Is2.mk rfl
theorem minus_ct (a b : Int) : Ct Try.prog 105 [u32 a, u32 b] [] (Is2 (u32 (wr .u32 (a - b))) []) := by
  refine Ct.introF (E := E 8 0 [.tmp 4] [] [] []) tab_ok Try.call105 Try.func105 rfl rfl rfl rfl rfl (fun hin => ?_)
  exact Is2.mk rfl
theorem eachSub_ct (a b : List Int) (ha : a.length ≤ 1000000) : Ct Try.prog 103 [.fn 105 [] [], R32 a, R32 b] [] (Is2 (.tup [R32 (if a.length = b.length then subV a b else []), i64 (if a.length = b.length then 0 else 1)]) []) := by
  refine Ct.introF (E := E 38 0 [.tmp 6, .tmp 7] [] [(5, [0, 1, 2, 8, 19, 20])] [(1000002, [.nl 6]), (1000009, [.fz 6])]) tab_ok Try.call103 Try.func103 rfl rfl rfl rfl rfl (fun hin => ?_)
  have hla := l32_len a
  have hlb := l32_len b
  (conv => whnf); refine cond_d (fun h => ?_) (fun h => ?_)
  · rw [if_neg (by omega), if_neg (by omega)]
    exact Is2.mk rfl
  have hl : a.length = b.length := by omega
  (conv => whnf); refine And.intro (by first | omega | (dsimp only [List.length, cond]; omega) | decide) ?_
  (conv => whnf); refine LoopI.mk (fun q ws os => ∃ (i : Nat) (ys : List Int), ws = [.fn 105 [] [], R32 a, R32 b, .sl 0, i64 a.length, i64 i] ∧ os = [.row 57 1 (l32 ys)] ∧ i ≤ a.length ∧ ys.length = a.length ∧ (∀ j, j < i → ys.getD j 0 = wr .u32 (a.getD j 0 - b.getD j 0)) ∧ q = a.length - i) a.length ⟨0, List.replicate a.length 0, ?_, ?_, Nat.zero_le _, by simp, fun j hj => by omega, rfl⟩ ?_
  · show [_, _, _, _, i64 (List.replicate ((l32 a).length : Int).toNat (D.int .u32 0)).length, _] = _
    rw [List.length_replicate, hla, Int.toNat_natCast]; rfl
  · show [Obj.row _ _ (List.replicate ((l32 a).length : Int).toNat (D.int .u32 0))] = _
    rw [hla, Int.toNat_natCast, l32_rep]
  rintro q _ _ ⟨i, ys, rfl, rfl, h1, hyl, hys, rfl⟩
  have hly := l32_len ys
  (conv => whnf); refine cond_d (fun h2 => ?_) (fun h2 => ?_)
  · (conv => whnf); refine DrawI.mkF 12 [[8], [9], [0], [1], [9], [26, 27], [28], [2], [9], [30, 31], [32], [25, 29, 33]] (by decide +kernel) ?_
    repeat (first | refine DrawO.mkF _ (And.intro rfl rfl) ?_ | refine DrawO.mkF _ (Idx.mk _ rfl (And.intro rfl rfl)) ?_)
    refine DrawO.mkF _ (And.intro (by omega) (Idx.mk _ (l32_geti (by omega)) (And.intro rfl rfl))) ?_
    repeat (first | refine DrawO.mkF _ (And.intro rfl rfl) ?_ | refine DrawO.mkF _ (Idx.mk _ rfl (And.intro rfl rfl)) ?_)
    refine DrawO.mkF _ (And.intro (by omega) (Idx.mk _ (l32_geti (by omega)) (And.intro rfl rfl))) ?_
    repeat (first | refine DrawO.mkF _ (And.intro rfl rfl) ?_ | refine DrawO.mkF _ (Idx.mk _ rfl (And.intro rfl rfl)) ?_)
    refine DrawO.mkF _ ((minus_ct (a.getD i 0) (b.getD i 0)).use (And.intro rfl rfl)) ?_
    (conv => whnf); refine And.intro (by first | omega | (dsimp only [List.length, cond]; omega) | decide) ?_
    (conv => whnf); refine Idx.mk _ (l32_geti (by omega)) ?_
    (conv => whnf); refine And.intro (by first | omega | (dsimp only [List.length, cond]; omega) | decide) ?_
    (conv => whnf)
    refine ⟨a.length - (i + 1), by omega, i + 1, ys.set i (wr .u32 (a.getD i 0 - b.getD i 0)), rfl, ?_, by omega, by rw [List.length_set]; exact hyl, fun j hj => ?_, rfl⟩
    · rw [← l32_setr]; rfl
    · rw [getD_set]
      by_cases e : i = j
      · subst e; rw [if_pos ⟨rfl, by omega⟩]
      · rw [if_neg (fun h => e h.1)]; exact hys j (by omega)
  · have e : ys = subV a b := ext_getD (by rw [subV_len, hyl]) (fun j hj => by rw [hys j (by omega), subV_at _ _ (by omega)])
    rw [if_pos hl, if_pos hl, e]
    exact Is2.mk rfl
theorem Sub_ct (a b : List Int) (ha : a.length ≤ 1000000) : Ct Try.prog 85 [R32 a, R32 b] [] (Is2 (.tup [R32 (if a.length = b.length then subV a b else []), i64 (if a.length = b.length then 0 else 1)]) []) := by
  refine Ct.introF (E := E 11 0 [.tmp 4, .tmp 5] [] [] []) tab_ok Try.call85 Try.func85 rfl rfl rfl rfl rfl (fun hin => ?_)
  (conv => whnf); refine (eachSub_ct a b ha).use ?_
  exact Is2.mk rfl
end Go.Proofs.Ytofkdfodehfpdaa.Ring

/- Package mask: masks of two; sums to which masks are added. -/
namespace Go.Proofs.Ytofkdfodehfpdaa.Ring
open Go.V Go.Num
open Go.Eng (wr)
set_option maxRecDepth 100000
set_option maxHeartbeats 4000000
abbrev Cd := Int × Int × Int
def cdD (c : Cd) : D := .agg [.int .i64 c.1, .int .u64 c.2.1, .int .u64 c.2.2]
abbrev lc (cs : List Cd) : List D := cs.map cdD
abbrev LC (cs : List Cd) : AV := .d (.ro (lc cs))
theorem lc_len (cs : List Cd) : (lc cs).length = cs.length := List.length_map _
theorem lc_get {cs : List Cd} {i : Nat} (h : i < cs.length) : (lc cs)[(i : Int).toNat]? = some (cdD (cs.getD i (0, 0, 0))) := by
  rw [Int.toNat_natCast, List.getElem?_map, List.getElem?_eq_getElem h, List.getD_eq_getElem?_getD, List.getElem?_eq_getElem h]; rfl
/-- The mask of two. -/
def mkV (s k : Int) (n : Nat) : List Int := vecL (derL (agV s k) 2) 3 n
theorem clampV {n : Nat} (h : n ≤ 256) : clampN (n : Int) 256 = n := by unfold clampN; omega
theorem mkV_len (s k : Int) {n : Nat} (h : n ≤ 256) : (mkV s k n).length = n := by unfold mkV; rw [vecL_len, clampV h]
theorem vecL_u4 (seed : List Int) (tag n : Int) : U4 (vecL seed tag n) := fun x hx => by
  obtain ⟨j, _, rfl⟩ := List.mem_map.1 hx; exact nm4_rng (bytesL_by _ _ _) _
theorem Own_ct (s : List Int) (n : Int) (hs : s.length = 32) : Ct Try.prog 25 [A8 s, i64 n] [] (Is2 (R32 (vecL s 4 n)) []) := by
  refine Ct.introF (E := E 8 0 [.tmp 4] [] [] []) tab_ok Try.call25 Try.func25 rfl rfl rfl rfl rfl (fun hin => ?_)
  (conv => whnf); refine And.intro (by rw [show (D.agg (l8 s)).cells = l8 s from rfl, l8_len, hs]) ?_
  (conv => whnf); refine (Vector_ct s 4 n hs).use ?_
  exact Is2.mk rfl
theorem rOwn_ct (s : List Int) (n : Int) (hs : s.length = 32) : Ct Try.prog 26 [A8 s, i64 n] [] (Is2 (R32 (vecL s 4 n)) []) := by
  refine Ct.introF (E := E 8 0 [.tmp 4] [] [] []) tab_ok Try.call26 Try.func26 rfl rfl rfl rfl rfl (fun hin => ?_)
  (conv => whnf); refine And.intro (by rw [show (D.agg (l8 s)).cells = l8 s from rfl, l8_len, hs]) ?_
  (conv => whnf); refine (rVector_ct s 4 n hs).use ?_
  exact Is2.mk rfl
theorem Pair_ct (s k : Int) (n : Int) : Ct Try.prog 23 [u64 s, u64 k, i64 n] [] (Is2 (.tup [R32 (if agE s k = 0 then vecL (derL (agV s k) 2) 3 n else []), i64 (agE s k)]) []) := by
  refine Ct.introF (E := E 23 0 [.tmp 6, .tmp 7] [] [] [(1000003, [.nl 6])]) tab_ok Try.call23 Try.func23 rfl rfl rfl rfl rfl (fun hin => ?_)
  (conv => whnf); refine (Agree_ct s k).use ?_
  (conv => whnf); refine cond_d (fun h => ?_) (fun h => ?_)
  · rw [if_neg h]
    exact Is2.mk rfl
  have h0 : agE s k = 0 := Decidable.of_not_not h
  (conv => whnf); refine (Derive_ct (agV s k) 2).use ?_
  (conv => whnf); refine (Vector_ct (derL (agV s k) 2) 3 n (derL_len _ _)).use ?_
  rw [h0, if_pos rfl]
  exact Is2.mk rfl
theorem rPair_ct (k : Int) (n : Int) : Ct Try.prog 28 [u64 k, i64 n] [] (Is2 (R32 (vecL (derL k 2) 3 n)) []) := by
  refine Ct.introF (E := E 9 0 [.tmp 4] [] [] []) tab_ok Try.call28 Try.func28 rfl rfl rfl rfl rfl (fun hin => ?_)
  (conv => whnf); refine (rDerive_ct k 2).use ?_
  (conv => whnf); refine (rVector_ct (derL k 2) 3 n (derL_len _ _)).use ?_
  exact Is2.mk rfl
abbrev sumO (v : List Int) (e : Int) : V.Obj := .vec 93 [R32 v, i64 e]
/-- What the masks of a donor with others come to, number by number; the first error. -/
def mTerm (t : Bool) (who s : Int) (n : Nat) (c : Cd) (i : Nat) : Int := if c.1 = who then 0 else if (decide (who < c.1) != t) = true then (mkV s c.2.2 n).getD i 0 else -(mkV s c.2.2 n).getD i 0
def mSumN (t : Bool) (who s : Int) (n : Nat) (cs : List Cd) (i : Nat) : Nat → Int
  | 0 => 0
  | k + 1 => mSumN t who s n cs i k + mTerm t who s n (cs.getD k (0, 0, 0)) i
def mErrN (who s : Int) (cs : List Cd) : Nat → Int
  | 0 => 0
  | k + 1 => if mErrN who s cs k ≠ 0 then mErrN who s cs k else if (cs.getD k (0, 0, 0)).1 = who then 0 else agE s (cs.getD k (0, 0, 0)).2.2
theorem U4_wr (x : Int) : 0 ≤ wr .u32 x ∧ wr .u32 x ≤ 4294967295 := by simp only [wr]; omega
theorem doAdd_ct (v m : List Int) (e : Int) (h : v.length = m.length) (hl : v.length ≤ 1000000) : Ct Try.prog 83 [.ptr 0 0, .fn 84 [] [], R32 m] [sumO v e] (Is2 (.tup []) [sumO (if e = 0 then addV v m else v) e]) := by
  refine Ct.introF (E := E 27 1 [] [] [] []) tab_ok Try.call83 Try.func83 rfl rfl rfl rfl rfl (fun hin => ?_)
  (conv => whnf); refine cond_d (fun h0 => ?_) (fun h0 => ?_)
  · (conv => whnf); refine (Add_ct v m hl).use ?_
    rw [if_pos h, if_pos h]
    (conv => whnf)
    rw [if_pos h0, h0]
    exact ⟨rfl, rfl⟩
  · (conv => whnf)
    rw [if_neg h0]
    exact ⟨rfl, rfl⟩
theorem plusS_ct (v m : List Int) (e : Int) (h : v.length = m.length) (hl : v.length ≤ 1000000) : Ct Try.prog 55 [.ptr 0 0, R32 m] [sumO v e] (Is2 (.tup []) [sumO (if e = 0 then addV v m else v) e]) := by
  refine Ct.introF (E := E 7 1 [] [] [] []) tab_ok Try.call55 Try.func55 rfl rfl rfl rfl rfl (fun hin => ?_)
  (conv => whnf); refine (doAdd_ct v m e h hl).use ?_
  exact Is2.mk rfl
theorem doSub_ct (v m : List Int) (e : Int) (h : v.length = m.length) (hl : v.length ≤ 1000000) : Ct Try.prog 83 [.ptr 0 0, .fn 85 [] [], R32 m] [sumO v e] (Is2 (.tup []) [sumO (if e = 0 then subV v m else v) e]) := by
  refine Ct.introF (E := E 27 1 [] [] [] []) tab_ok Try.call83 Try.func83 rfl rfl rfl rfl rfl (fun hin => ?_)
  (conv => whnf); refine cond_d (fun h0 => ?_) (fun h0 => ?_)
  · (conv => whnf); refine (Sub_ct v m hl).use ?_
    rw [if_pos h, if_pos h]
    (conv => whnf)
    rw [if_pos h0, h0]
    exact ⟨rfl, rfl⟩
  · (conv => whnf)
    rw [if_neg h0]
    exact ⟨rfl, rfl⟩
theorem minusS_ct (v m : List Int) (e : Int) (h : v.length = m.length) (hl : v.length ≤ 1000000) : Ct Try.prog 57 [.ptr 0 0, R32 m] [sumO v e] (Is2 (.tup []) [sumO (if e = 0 then subV v m else v) e]) := by
  refine Ct.introF (E := E 7 1 [] [] [] []) tab_ok Try.call57 Try.func57 rfl rfl rfl rfl rfl (fun hin => ?_)
  (conv => whnf); refine (doSub_ct v m e h hl).use ?_
  exact Is2.mk rfl
theorem pairsF_ct (who s : Int) (cs : List Cd) (v : List Int) (hv : v.length ≤ 256) (hu : U4 v) : Ct Try.prog 56 [.ptr 0 0, i64 who, u64 s, LC cs, .fn 55 [.ptr 0 0] [], .fn 57 [.ptr 0 0] []] [sumO v 0]
    (fun r os => ∃ w : List Int, r = .tup [] ∧ os = [sumO w (mErrN who s cs cs.length)] ∧ w.length = v.length ∧ (mErrN who s cs cs.length = 0 → ∀ i, i < v.length → w.getD i 0 = wr .u32 (v.getD i 0 + mSumN false who s v.length cs i cs.length))) := by
  refine Ct.introF (E := E 64 1 [] [(10, [0, 1, 2, 4, 5, 16, 17, 18])] [(1, [0, 1, 2, 4, 5, 16, 17, 18])] []) tab_ok Try.call56 Try.func56 rfl rfl rfl rfl rfl (fun hin => ?_)
  have hlc := lc_len cs
  have hcl := hin.2.2.2.1.1
  (conv => whnf); refine LoopI.mk (fun q ws os => ∃ (k : Nat) (w : List Int) (e : Int), ws = [.ptr 0 0, i64 who, u64 s, .fn 55 [.ptr 0 0] [], .fn 57 [.ptr 0 0] [], LC cs, i64 cs.length, i64 k] ∧ os = [sumO w e] ∧ k ≤ cs.length ∧ w.length = v.length ∧ e = mErrN who s cs k ∧ (e = 0 → ∀ i, i < v.length → w.getD i 0 = wr .u32 (v.getD i 0 + mSumN false who s v.length cs i k)) ∧ q = cs.length - k) cs.length ⟨0, v, 0, by rw [hlc]; rfl, rfl, Nat.zero_le _, rfl, rfl, fun _ i hi => ?_, rfl⟩ ?_
  · have := hu.getD i
    show v.getD i 0 = wr .u32 (v.getD i 0 + 0)
    simp only [wr]; omega
  rintro q _ _ ⟨k, w, e, rfl, rfl, h1, hwl, he, hw, rfl⟩
  (conv => whnf); refine cond_d (fun h2 => ?_) (fun h2 => ?_)
  · have hk : k < cs.length := by omega
    obtain ⟨c, hc⟩ : ∃ z, z = cs.getD k (0, 0, 0) := ⟨_, rfl⟩
    have hg : (lc cs)[(k : Int).toNat]? = some (cdD c) := by rw [hc]; exact lc_get hk
    have hE : mErrN who s cs (k + 1) = if e ≠ 0 then e else if c.1 = who then 0 else agE s c.2.2 := by rw [he, hc]; rfl
    have hS : ∀ i, mSumN false who s v.length cs i (k + 1) = mSumN false who s v.length cs i k + mTerm false who s v.length c i := fun i => by rw [hc]; rfl
    (conv => whnf); refine JoinI.mk (fun ws os => ∃ (w : List Int) (e : Int), ws = [.ptr 0 0, i64 who, u64 s, .fn 55 [.ptr 0 0] [], .fn 57 [.ptr 0 0] [], LC cs, i64 cs.length, i64 k] ∧ os = [sumO w e] ∧ w.length = v.length ∧ e = mErrN who s cs (k + 1) ∧ (e = 0 → ∀ i, i < v.length → w.getD i 0 = wr .u32 (v.getD i 0 + mSumN false who s v.length cs i (k + 1)))) ?_ ?_
    · (conv => whnf); refine And.intro (by first | omega | (dsimp only [List.length, cond]; omega) | decide) ?_
      (conv => whnf); refine Idx.mk _ hg ?_
      (conv => whnf); refine cond_d (fun h3 => ?_) (fun h3 => ?_)
      · have h3' : c.1 = who := h3
        (conv => whnf)
        refine ⟨w, e, rfl, rfl, hwl, ?_, fun h0 i hi => ?_⟩
        · rw [hE, if_pos h3']
          by_cases h0 : e = 0
          · rw [if_neg (fun h => h h0)]; exact h0
          · rw [if_pos h0]
        · have ht : mTerm false who s v.length c i = 0 := by unfold mTerm; rw [if_pos h3']
          rw [hw h0 i hi, hS, ht, Int.add_zero]
      have h3' : ¬ c.1 = who := h3
      (conv => whnf); refine cond_d (fun h4 => ?_) (fun h4 => ?_)
      · (conv => whnf)
        exact ⟨w, e, rfl, rfl, hwl, by rw [hE, if_pos h4], fun h0 => absurd h0 h4⟩
      have h4' : e = 0 := Decidable.of_not_not h4
      have hlw : ((l32 w).length : Nat) = v.length := by rw [l32_len, hwl]
      (conv => whnf); refine DrawI.mkF 13 [[2], [13], [35], [0], [37], [38], [39], [40], [34, 36, 41], [42], [33], [33], [43]] (by decide +kernel) ?_
      repeat (first | refine DrawO.mkF _ (And.intro rfl rfl) ?_ | refine DrawO.mkF _ (Idx.mk _ rfl (And.intro rfl rfl)) ?_)
      refine DrawO.mkF _ ((Pair_ct s c.2.2 (l32 w).length).use (And.intro rfl rfl)) ?_
      repeat (first | refine DrawO.mkF _ (And.intro rfl rfl) ?_ | refine DrawO.mkF _ (Idx.mk _ rfl (And.intro rfl rfl)) ?_)
      (conv => whnf); refine cond_d (fun h5 => ?_) (fun h5 => ?_)
      · (conv => whnf)
        exact ⟨w, agE s c.2.2, rfl, rfl, hwl, by rw [hE, if_neg (fun h => h h4'), if_neg h3'], fun h0 => absurd h0 h5⟩
      have h5' : agE s c.2.2 = 0 := Decidable.of_not_not h5
      have hm : (if agE s c.2.2 = 0 then vecL (derL (agV s c.2.2) 2) 3 ((l32 w).length : Nat) else []) = mkV s c.2.2 v.length := by
        rw [if_pos h5', hlw]; rfl
      have hml : w.length = (mkV s c.2.2 v.length).length := by rw [mkV_len _ _ hv]; exact hwl
      have hE0 : mErrN who s cs (k + 1) = 0 := by rw [hE, if_neg (fun h => h h4'), if_neg h3', h5']
      rw [hm]
      (conv => whnf); refine cond_d (fun h6 => ?_) (fun h6 => ?_)
      · (conv => whnf); refine (plusS_ct w (mkV s c.2.2 v.length) e hml (by omega)).use ?_
        (conv => whnf)
        refine ⟨addV w (mkV s c.2.2 v.length), e, rfl, by rw [if_pos h4'], by rw [addV_len]; exact hwl, by rw [hE0]; exact h4', fun h0 i hi => ?_⟩
        have ht : mTerm false who s v.length c i = (mkV s c.2.2 v.length).getD i 0 := by
          have h6' : who < c.1 := h6
          unfold mTerm; rw [if_neg h3', decide_eq_true h6']; rfl
        rw [addV_at _ _ (by omega), hw h0 i hi, hS, ht]
        simp only [wr]; omega
      · (conv => whnf); refine (minusS_ct w (mkV s c.2.2 v.length) e hml (by omega)).use ?_
        (conv => whnf)
        refine ⟨subV w (mkV s c.2.2 v.length), e, rfl, by rw [if_pos h4'], by rw [subV_len]; exact hwl, by rw [hE0]; exact h4', fun h0 i hi => ?_⟩
        have ht : mTerm false who s v.length c i = -(mkV s c.2.2 v.length).getD i 0 := by
          have h6' : ¬ who < c.1 := h6
          unfold mTerm; rw [if_neg h3', decide_eq_false h6']; rfl
        rw [subV_at _ _ (by omega), hw h0 i hi, hS, ht]
        simp only [wr]; omega
    rintro _ _ ⟨w, e, rfl, rfl, hwl, he, hw⟩
    (conv => whnf); refine And.intro (by first | omega | (dsimp only [List.length, cond]; omega) | decide) ?_
    (conv => whnf)
    exact ⟨cs.length - (k + 1), by omega, k + 1, w, e, rfl, rfl, by omega, hwl, he, hw, rfl⟩
  · obtain rfl : k = cs.length := by omega
    (conv => whnf)
    refine ⟨w, rfl, ?_, hwl, fun h0 i hi => hw (by rw [he]; exact h0) i hi⟩
    rw [he]
theorem pairsT_ct (who s : Int) (cs : List Cd) (v : List Int) (hv : v.length ≤ 256) (hu : U4 v) : Ct Try.prog 56 [.ptr 0 0, i64 who, u64 s, LC cs, .fn 57 [.ptr 0 0] [], .fn 55 [.ptr 0 0] []] [sumO v 0]
    (fun r os => ∃ w : List Int, r = .tup [] ∧ os = [sumO w (mErrN who s cs cs.length)] ∧ w.length = v.length ∧ (mErrN who s cs cs.length = 0 → ∀ i, i < v.length → w.getD i 0 = wr .u32 (v.getD i 0 + mSumN true who s v.length cs i cs.length))) := by
  refine Ct.introF (E := E 64 1 [] [(10, [0, 1, 2, 4, 5, 16, 17, 18])] [(1, [0, 1, 2, 4, 5, 16, 17, 18])] []) tab_ok Try.call56 Try.func56 rfl rfl rfl rfl rfl (fun hin => ?_)
  have hlc := lc_len cs
  have hcl := hin.2.2.2.1.1
  (conv => whnf); refine LoopI.mk (fun q ws os => ∃ (k : Nat) (w : List Int) (e : Int), ws = [.ptr 0 0, i64 who, u64 s, .fn 57 [.ptr 0 0] [], .fn 55 [.ptr 0 0] [], LC cs, i64 cs.length, i64 k] ∧ os = [sumO w e] ∧ k ≤ cs.length ∧ w.length = v.length ∧ e = mErrN who s cs k ∧ (e = 0 → ∀ i, i < v.length → w.getD i 0 = wr .u32 (v.getD i 0 + mSumN true who s v.length cs i k)) ∧ q = cs.length - k) cs.length ⟨0, v, 0, by rw [hlc]; rfl, rfl, Nat.zero_le _, rfl, rfl, fun _ i hi => ?_, rfl⟩ ?_
  · have := hu.getD i
    show v.getD i 0 = wr .u32 (v.getD i 0 + 0)
    simp only [wr]; omega
  rintro q _ _ ⟨k, w, e, rfl, rfl, h1, hwl, he, hw, rfl⟩
  (conv => whnf); refine cond_d (fun h2 => ?_) (fun h2 => ?_)
  · have hk : k < cs.length := by omega
    obtain ⟨c, hc⟩ : ∃ z, z = cs.getD k (0, 0, 0) := ⟨_, rfl⟩
    have hg : (lc cs)[(k : Int).toNat]? = some (cdD c) := by rw [hc]; exact lc_get hk
    have hE : mErrN who s cs (k + 1) = if e ≠ 0 then e else if c.1 = who then 0 else agE s c.2.2 := by rw [he, hc]; rfl
    have hS : ∀ i, mSumN true who s v.length cs i (k + 1) = mSumN true who s v.length cs i k + mTerm true who s v.length c i := fun i => by rw [hc]; rfl
    (conv => whnf); refine JoinI.mk (fun ws os => ∃ (w : List Int) (e : Int), ws = [.ptr 0 0, i64 who, u64 s, .fn 57 [.ptr 0 0] [], .fn 55 [.ptr 0 0] [], LC cs, i64 cs.length, i64 k] ∧ os = [sumO w e] ∧ w.length = v.length ∧ e = mErrN who s cs (k + 1) ∧ (e = 0 → ∀ i, i < v.length → w.getD i 0 = wr .u32 (v.getD i 0 + mSumN true who s v.length cs i (k + 1)))) ?_ ?_
    · (conv => whnf); refine And.intro (by first | omega | (dsimp only [List.length, cond]; omega) | decide) ?_
      (conv => whnf); refine Idx.mk _ hg ?_
      (conv => whnf); refine cond_d (fun h3 => ?_) (fun h3 => ?_)
      · have h3' : c.1 = who := h3
        (conv => whnf)
        refine ⟨w, e, rfl, rfl, hwl, ?_, fun h0 i hi => ?_⟩
        · rw [hE, if_pos h3']
          by_cases h0 : e = 0
          · rw [if_neg (fun h => h h0)]; exact h0
          · rw [if_pos h0]
        · have ht : mTerm true who s v.length c i = 0 := by unfold mTerm; rw [if_pos h3']
          rw [hw h0 i hi, hS, ht, Int.add_zero]
      have h3' : ¬ c.1 = who := h3
      (conv => whnf); refine cond_d (fun h4 => ?_) (fun h4 => ?_)
      · (conv => whnf)
        exact ⟨w, e, rfl, rfl, hwl, by rw [hE, if_pos h4], fun h0 => absurd h0 h4⟩
      have h4' : e = 0 := Decidable.of_not_not h4
      have hlw : ((l32 w).length : Nat) = v.length := by rw [l32_len, hwl]
      (conv => whnf); refine DrawI.mkF 13 [[2], [13], [35], [0], [37], [38], [39], [40], [34, 36, 41], [42], [33], [33], [43]] (by decide +kernel) ?_
      repeat (first | refine DrawO.mkF _ (And.intro rfl rfl) ?_ | refine DrawO.mkF _ (Idx.mk _ rfl (And.intro rfl rfl)) ?_)
      refine DrawO.mkF _ ((Pair_ct s c.2.2 (l32 w).length).use (And.intro rfl rfl)) ?_
      repeat (first | refine DrawO.mkF _ (And.intro rfl rfl) ?_ | refine DrawO.mkF _ (Idx.mk _ rfl (And.intro rfl rfl)) ?_)
      (conv => whnf); refine cond_d (fun h5 => ?_) (fun h5 => ?_)
      · (conv => whnf)
        exact ⟨w, agE s c.2.2, rfl, rfl, hwl, by rw [hE, if_neg (fun h => h h4'), if_neg h3'], fun h0 => absurd h0 h5⟩
      have h5' : agE s c.2.2 = 0 := Decidable.of_not_not h5
      have hm : (if agE s c.2.2 = 0 then vecL (derL (agV s c.2.2) 2) 3 ((l32 w).length : Nat) else []) = mkV s c.2.2 v.length := by
        rw [if_pos h5', hlw]; rfl
      have hml : w.length = (mkV s c.2.2 v.length).length := by rw [mkV_len _ _ hv]; exact hwl
      have hE0 : mErrN who s cs (k + 1) = 0 := by rw [hE, if_neg (fun h => h h4'), if_neg h3', h5']
      rw [hm]
      (conv => whnf); refine cond_d (fun h6 => ?_) (fun h6 => ?_)
      · (conv => whnf); refine (minusS_ct w (mkV s c.2.2 v.length) e hml (by omega)).use ?_
        (conv => whnf)
        refine ⟨subV w (mkV s c.2.2 v.length), e, rfl, by rw [if_pos h4'], by rw [subV_len]; exact hwl, by rw [hE0]; exact h4', fun h0 i hi => ?_⟩
        have ht : mTerm true who s v.length c i = -(mkV s c.2.2 v.length).getD i 0 := by
          have h6' : who < c.1 := h6
          unfold mTerm; rw [if_neg h3', decide_eq_true h6']; rfl
        rw [subV_at _ _ (by omega), hw h0 i hi, hS, ht]
        simp only [wr]; omega
      · (conv => whnf); refine (plusS_ct w (mkV s c.2.2 v.length) e hml (by omega)).use ?_
        (conv => whnf)
        refine ⟨addV w (mkV s c.2.2 v.length), e, rfl, by rw [if_pos h4'], by rw [addV_len]; exact hwl, by rw [hE0]; exact h4', fun h0 i hi => ?_⟩
        have ht : mTerm true who s v.length c i = (mkV s c.2.2 v.length).getD i 0 := by
          have h6' : ¬ who < c.1 := h6
          unfold mTerm; rw [if_neg h3', decide_eq_false h6']; rfl
        rw [addV_at _ _ (by omega), hw h0 i hi, hS, ht]
        simp only [wr]; omega
    rintro _ _ ⟨w, e, rfl, rfl, hwl, he, hw⟩
    (conv => whnf); refine And.intro (by first | omega | (dsimp only [List.length, cond]; omega) | decide) ?_
    (conv => whnf)
    exact ⟨cs.length - (k + 1), by omega, k + 1, w, e, rfl, rfl, by omega, hwl, he, hw, rfl⟩
  · obtain rfl : k = cs.length := by omega
    (conv => whnf)
    refine ⟨w, rfl, ?_, hwl, fun h0 i hi => hw (by rw [he]; exact h0) i hi⟩
    rw [he]
end Go.Proofs.Ytofkdfodehfpdaa.Ring

/- Package mask and its reference: vectors under their masks, what is left of masks. -/
namespace Go.Proofs.Ytofkdfodehfpdaa.Ring
open Go.V Go.Num
open Go.Eng (wr)
set_option maxRecDepth 100000
set_option maxHeartbeats 4000000
def wAt (cs : List Cd) (k : Nat) : Int := (cs.getD k (0, 0, 0)).1
def lastW (cs : List Cd) : Nat → Int
  | 0 => 0
  | k + 1 => wAt cs k
def riB (cs : List Cd) : Nat → Bool
  | 0 => true
  | k + 1 => riB cs k && (decide (lastW cs k < wAt cs k) && decide (wAt cs k ≤ 64))
theorem riB_last (cs : List Cd) : ∀ k, riB cs k = true → 0 ≤ lastW cs k
  | 0, _ => Int.le_refl _
  | k + 1, h => by
    unfold riB at h
    simp only [Bool.and_eq_true, decide_eq_true_eq] at h
    have := riB_last cs k h.1
    show 0 ≤ wAt cs k
    omega
theorem riB_false (cs : List Cd) {k m : Nat} (h : riB cs k = false) (hm : k ≤ m) : riB cs m = false := by
  induction m with
  | zero => have : k = 0 := by omega
            subst this; exact h
  | succ m ih =>
    by_cases e : k = m + 1
    · subst e; exact h
    · unfold riB; rw [ih (by omega), Bool.false_and]
def sndB (who n : Int) (cs : List Cd) : Bool := decide ((1 ≤ who ∧ who ≤ 64) ∧ 0 ≤ n ∧ n ≤ 256) && riB cs cs.length
theorem sound_ct (who n : Int) (cs : List Cd) : Ct Try.prog 54 [i64 who, i64 n, LC cs] [] (Is2 (.d (.bool (sndB who n cs))) []) := by
  refine Ct.introF (E := E 42 0 [.tmp 6] [] [(5, [7, 24, 25, 26])] []) tab_ok Try.call54 Try.func54 rfl rfl rfl rfl rfl (fun hin => ?_)
  have hlc := lc_len cs
  have hcl := hin.2.2.1.1
  (conv => whnf); refine cond_d (fun h1 => ?_) (fun h1 => ?_)
  · refine isBool ?_
    unfold sndB; rw [decide_eq_false (by omega)]; rfl
  (conv => whnf); refine cond_d (fun h2 => ?_) (fun h2 => ?_)
  · refine isBool ?_
    unfold sndB; rw [decide_eq_false (by omega)]; rfl
  (conv => whnf); refine cond_d (fun h3 => ?_) (fun h3 => ?_)
  · refine isBool ?_
    unfold sndB; rw [decide_eq_false (by omega)]; rfl
  (conv => whnf); refine cond_d (fun h4 => ?_) (fun h4 => ?_)
  · refine isBool ?_
    unfold sndB; rw [decide_eq_false (by omega)]; rfl
  have hs : sndB who n cs = riB cs cs.length := by unfold sndB; rw [decide_eq_true (by omega)]; rfl
  (conv => whnf); refine LoopI.mk (fun q ws os => ∃ i : Nat, ws = [i64 (lastW cs i), LC cs, i64 cs.length, i64 i] ∧ os = [] ∧ i ≤ cs.length ∧ riB cs i = true ∧ q = cs.length - i) cs.length ⟨0, by rw [hlc]; rfl, rfl, Nat.zero_le _, rfl, rfl⟩ ?_
  rintro q _ _ ⟨i, rfl, rfl, h5, h6, rfl⟩
  (conv => whnf); refine cond_d (fun h7 => ?_) (fun h7 => ?_)
  · (conv => whnf); refine And.intro (by first | omega | (dsimp only [List.length, cond]; omega) | decide) ?_
    (conv => whnf); refine Idx.mk _ (lc_get (by omega)) ?_
    have hn : riB cs (i + 1) = (decide (lastW cs i < wAt cs i) && decide (wAt cs i ≤ 64)) := by
      show (riB cs i && _) = _
      rw [h6, Bool.true_and]
    (conv => whnf); refine cond_d (fun h8 => ?_) (fun h8 => ?_)
    · refine isBool ?_
      have h8' : wAt cs i ≤ lastW cs i := h8
      rw [hs, riB_false cs (k := i + 1) (by rw [hn, decide_eq_false (by omega), Bool.false_and]) (by omega)]
    have h8' : ¬ wAt cs i ≤ lastW cs i := h8
    (conv => whnf); refine cond_d (fun h9 => ?_) (fun h9 => ?_)
    · refine isBool ?_
      have h9' : 64 < wAt cs i := h9
      rw [hs, riB_false cs (k := i + 1) (by rw [hn, decide_eq_false (p := wAt cs i ≤ 64) (by omega), Bool.and_false]) (by omega)]
    have h9' : ¬ 64 < wAt cs i := h9
    (conv => whnf); refine And.intro (by first | omega | (dsimp only [List.length, cond]; omega) | decide) ?_
    (conv => whnf)
    exact ⟨cs.length - (i + 1), by omega, i + 1, rfl, rfl, by omega, by rw [hn, decide_eq_true (by omega), decide_eq_true (by omega)]; rfl, rfl⟩
  · obtain rfl : i = cs.length := by omega
    refine isBool ?_
    rw [hs, h6]
def hideE (who n s : Int) (cs : List Cd) : Int := if sndB who n cs = true then mErrN who s cs cs.length else 1
def hideV (x own : List Int) (who s : Int) (cs : List Cd) : List Int := (List.range x.length).map fun i => wr .u32 (x.getD i 0 + own.getD i 0 + mSumN false who s x.length cs i cs.length)
theorem hideV_len (x own : List Int) (who s : Int) (cs : List Cd) : (hideV x own who s cs).length = x.length := by simp [hideV]
theorem hideV_at (x own : List Int) (who s : Int) (cs : List Cd) {i : Nat} (h : i < x.length) : (hideV x own who s cs).getD i 0 = wr .u32 (x.getD i 0 + own.getD i 0 + mSumN false who s x.length cs i cs.length) := by
  unfold hideV
  rw [List.getD_eq_getElem?_getD, List.getElem?_map, List.getElem?_range h]; rfl
def leftV (who s : Int) (cs : List Cd) (n : Nat) (t : Bool) : List Int := (List.range n).map fun i => wr .u32 (mSumN t who s n cs i cs.length)
theorem leftV_len (who s : Int) (cs : List Cd) (n : Nat) (t : Bool) : (leftV who s cs n t).length = n := by simp [leftV]
theorem leftV_at (who s : Int) (cs : List Cd) (t : Bool) {n i : Nat} (h : i < n) : (leftV who s cs n t).getD i 0 = wr .u32 (mSumN t who s n cs i cs.length) := by
  unfold leftV
  rw [List.getD_eq_getElem?_getD, List.getElem?_map, List.getElem?_range h]; rfl
theorem addV_u4 (a b : List Int) : U4 (addV a b) := fun x hx => by
  obtain ⟨j, _, rfl⟩ := List.mem_map.1 hx; exact U4_wr _
theorem rep0 (n i : Nat) : (List.replicate n (0 : Int)).getD i 0 = 0 := by
  rw [List.getD_eq_getElem?_getD, List.getElem?_replicate]; split <;> rfl
theorem sndB_true {who n : Int} {cs : List Cd} (h : sndB who n cs = true) : (1 ≤ who ∧ who ≤ 64) ∧ 0 ≤ n ∧ n ≤ 256 := by
  unfold sndB at h; simp only [Bool.and_eq_true, decide_eq_true_eq] at h; exact h.1
theorem Hide_ct (x : List Int) (who : Int) (own : List Int) (s : Int) (cs : List Cd) (ho : own.length = 32) : Ct Try.prog 30 [R32 x, i64 who, A8 own, u64 s, LC cs] [] (Is2 (.tup [R32 (if hideE who x.length s cs = 0 then hideV x (vecL own 4 x.length) who s cs else []), i64 (hideE who x.length s cs)]) []) := by
  refine Ct.introF (E := E 55 0 [.tmp 10, .tmp 11] [] [] [(1000002, [.nl 10]), (4, [.fz 21]), (1000008, [.nl 10])]) tab_ok Try.call30 Try.func30 rfl rfl rfl rfl rfl (fun hin => ?_)
  have hlx := l32_len x
  rw [show ((x.length : Nat) : Int) = ((l32 x).length : Nat) from by rw [hlx]]
  (conv => whnf); refine (sound_ct who (l32 x).length cs).use ?_
  (conv => whnf); refine cond_i (fun h => ?_) (fun h => ?_)
  · have h' : sndB who (l32 x).length cs = false := by simpa using h
    have e : hideE who (l32 x).length s cs = 1 := by unfold hideE; rw [h']; rfl
    refine Is2.mk ?_
    rw [e]; rfl
  have h' : sndB who (l32 x).length cs = true := by simpa using h
  have e : hideE who (l32 x).length s cs = mErrN who s cs cs.length := by unfold hideE; rw [h']; rfl
  obtain ⟨_, _, hn⟩ := sndB_true h'
  have hx256 : x.length ≤ 256 := by omega
  rw [e]
  (conv => whnf); refine And.intro (by first | omega | (dsimp only [List.length, cond]; omega) | decide) ?_
  have hxr : ∀ i, 0 ≤ x.getD i 0 ∧ x.getD i 0 ≤ 4294967295 := fun i => by
    rw [List.getD_eq_getElem?_getD]
    cases hx : x[i]? with
    | none => exact ⟨by simp, by simp⟩
    | some y =>
      have := hin.1.2 (.int .u32 y) (by
        rw [show cellsOf (l32 x) = l32 x from by rw [cellsOf_one]; intro y hy; obtain ⟨z, _, rfl⟩ := List.mem_map.1 hy; rfl]
        exact List.mem_map_of_mem (List.mem_of_getElem? hx))
      exact this
  have hzx : addV (List.replicate x.length 0) x = x := ext_getD (by rw [addV_len, List.length_replicate]) (fun j hj => by
    rw [addV_len, List.length_replicate] at hj
    rw [addV_at _ _ (by rw [List.length_replicate]; exact hj), rep0]
    have := hxr j
    simp only [wr]; omega)
  have hp1 : Ct Try.prog 55 [.ptr 0 0, R32 x] [.vec 93 [.d (.ro (List.replicate ((l32 x).length : Int).toNat (.int .u32 0))), i64 0]] (Is2 (.tup []) [sumO x 0]) := by
    rw [l32_rep, hlx, Int.toNat_natCast]
    have := plusS_ct (List.replicate x.length 0) x 0 (by simp) (by simp; omega)
    rw [if_pos rfl, hzx] at this; exact this
  (conv => whnf); refine (hp1).use ?_
  (conv => whnf); refine And.intro (by rw [show (D.agg (l8 own)).cells = l8 own from rfl, l8_len, ho]) ?_
  (conv => whnf); refine (Own_ct own (l32 x).length ho).use ?_
  obtain ⟨O, hO⟩ : ∃ z, z = vecL own 4 ((l32 x).length : Nat) := ⟨_, rfl⟩
  have hOl : O.length = x.length := by rw [hO, vecL_len, clampV (by omega), hlx]
  rw [← hO]
  have hp2 := plusS_ct x O 0 (by omega) (by omega)
  rw [if_pos rfl] at hp2
  (conv => whnf); refine (hp2).use ?_
  refine (pairsF_ct who s cs (addV x O) (by rw [addV_len]; omega) (addV_u4 _ _)).mono (fun r os h => ?_)
  obtain ⟨w, rfl, rfl, hwl, hw⟩ := h
  rw [addV_len] at hwl hw
  (conv => whnf); refine cond_d (fun h1 => ?_) (fun h1 => ?_)
  · have h1' : ¬ mErrN who s cs cs.length = 0 := h1
    (conv => whnf); refine DrawI.mkF 5 [[12], [47], [48], [49], []] (by decide +kernel) ?_
    repeat (first | refine DrawO.mkF _ (And.intro rfl rfl) ?_ | refine DrawO.mkF _ (Idx.mk _ rfl (And.intro rfl rfl)) ?_)
    rw [if_neg h1']
    exact Is2.mk rfl
  · have h1' : mErrN who s cs cs.length = 0 := Decidable.of_not_not h1
    have ew : w = hideV x O who s cs := ext_getD (by rw [hideV_len, hwl]) (fun j hj => by
      rw [hideV_at _ _ _ _ _ (by omega), hw h1' j (by omega), addV_at _ _ (by omega)]
      simp only [wr]; omega)
    rw [if_pos h1', h1', ew]
    exact Is2.mk rfl
theorem Left_ct (who s : Int) (cs : List Cd) (n : Int) : Ct Try.prog 32 [i64 who, u64 s, LC cs, i64 n] [] (Is2 (.tup [R32 (if hideE who n s cs = 0 then leftV who s cs n.toNat true else []), i64 (hideE who n s cs)]) []) := by
  refine Ct.introF (E := E 42 0 [.tmp 8, .tmp 9] [] [] [(1000002, [.nl 8]), (4, [.fz 17]), (1000006, [.nl 8])]) tab_ok Try.call32 Try.func32 rfl rfl rfl rfl rfl (fun hin => ?_)
  (conv => whnf); refine (sound_ct who n cs).use ?_
  (conv => whnf); refine cond_i (fun h => ?_) (fun h => ?_)
  · have h' : sndB who n cs = false := by simpa using h
    have e : hideE who n s cs = 1 := by unfold hideE; rw [h']; rfl
    refine Is2.mk ?_
    rw [e]; rfl
  have h' : sndB who n cs = true := by simpa using h
  have e : hideE who n s cs = mErrN who s cs cs.length := by unfold hideE; rw [h']; rfl
  obtain ⟨_, hn0, hn⟩ := sndB_true h'
  obtain ⟨m, rfl⟩ := Int.eq_ofNat_of_zero_le hn0
  rw [e]
  (conv => whnf); refine And.intro (by first | omega | (dsimp only [List.length, cond]; omega) | decide) ?_
  have hp : Ct Try.prog 56 [.ptr 0 0, i64 who, u64 s, LC cs, .fn 57 [.ptr 0 0] [], .fn 55 [.ptr 0 0] []] [.vec 93 [.d (.ro (List.replicate (m : Int).toNat (.int .u32 0))), i64 0]]
    (fun r os => ∃ w : List Int, r = .tup [] ∧ os = [sumO w (mErrN who s cs cs.length)] ∧ w.length = m ∧ (mErrN who s cs cs.length = 0 → ∀ i, i < m → w.getD i 0 = wr .u32 (mSumN true who s m cs i cs.length))) := by
    rw [l32_rep, Int.toNat_natCast]
    refine (pairsT_ct who s cs (List.replicate m 0) (by simp; omega) (fun x hx => by rw [(List.mem_replicate.1 hx).2]; decide)).mono (fun r os h => ?_)
    obtain ⟨w, h1, h2, h3, h4⟩ := h
    rw [List.length_replicate] at h3 h4
    exact ⟨w, h1, h2, h3, fun h0 i hi => by rw [h4 h0 i hi, rep0, Int.zero_add]⟩
  refine (hp).mono (fun r os h => ?_)
  obtain ⟨w, rfl, rfl, hwl, hw⟩ := h
  (conv => whnf); refine cond_d (fun h1 => ?_) (fun h1 => ?_)
  · have h1' : ¬ mErrN who s cs cs.length = 0 := h1
    (conv => whnf); refine DrawI.mkF 5 [[10], [34], [35], [36], []] (by decide +kernel) ?_
    repeat (first | refine DrawO.mkF _ (And.intro rfl rfl) ?_ | refine DrawO.mkF _ (Idx.mk _ rfl (And.intro rfl rfl)) ?_)
    rw [if_neg h1']
    exact Is2.mk rfl
  · have h1' : mErrN who s cs cs.length = 0 := Decidable.of_not_not h1
    have ew : w = leftV who s cs m true := ext_getD (by rw [leftV_len, hwl]) (fun j hj => by
      rw [leftV_at _ _ _ _ (by omega), hw h1' j (by omega)])
    rw [if_pos h1', h1', ew, Int.toNat_natCast]
    exact Is2.mk rfl
end Go.Proofs.Ytofkdfodehfpdaa.Ring

/- The reference's masks. -/
namespace Go.Proofs.Ytofkdfodehfpdaa.Ring
open Go.V Go.Num
open Go.Eng (wr)
set_option maxRecDepth 100000
set_option maxHeartbeats 4000000
theorem rRise_ct (cs : List Cd) : Ct Try.prog 58 [LC cs] [] (Is2 (.d (.bool (riB cs cs.length))) []) := by
  refine Ct.introF (E := E 42 0 [.tmp 2] [] [(2, [0, 3])] []) tab_ok Try.call58 Try.func58 rfl rfl rfl rfl rfl (fun hin => ?_)
  have hlc := lc_len cs
  have hcl := hin.1.1
  (conv => whnf); refine LoopI.mk (fun q ws os => ∃ i : Nat, ws = [LC cs, i64 i] ∧ os = [] ∧ i ≤ cs.length ∧ riB cs i = true ∧ q = cs.length - i) cs.length ⟨0, rfl, rfl, Nat.zero_le _, rfl, rfl⟩ ?_
  rintro q _ _ ⟨i, rfl, rfl, h5, h6, rfl⟩
  (conv => whnf); refine cond_d (fun h7 => ?_) (fun h7 => ?_)
  · have hn : riB cs (i + 1) = (decide (lastW cs i < wAt cs i) && decide (wAt cs i ≤ 64)) := by
      show (riB cs i && _) = _
      rw [h6, Bool.true_and]
    have hlast := riB_last cs i h6
    have bad : ¬ (lastW cs i < wAt cs i ∧ wAt cs i ≤ 64) → riB cs cs.length = false := fun h => by
      refine riB_false cs (k := i + 1) ?_ (by omega)
      rw [hn]
      by_cases e : lastW cs i < wAt cs i
      · rw [decide_eq_false (p := wAt cs i ≤ 64) (fun h2 => h ⟨e, h2⟩), Bool.and_false]
      · rw [decide_eq_false e, Bool.false_and]
    (conv => whnf); refine DrawI.mkF 31 [[0], [3], [10, 11], [12], [13], [14], [15], [0, 16], [3, 16], [16, 17, 18], [16, 19], [16, 20], [16, 21], [16, 22], [23], [3, 24], [24, 25], [24, 26], [0, 27], [3, 27], [27, 28, 29], [27, 30], [27, 31], [0, 27], [3, 27], [27, 34], [27, 33, 35], [27, 36], [27, 37], [27, 32, 38], [24, 27, 39]] (by decide +kernel) ?_
    repeat (first | refine DrawO.mkF _ (And.intro rfl rfl) ?_ | refine DrawO.mkF _ (Idx.mk _ rfl (And.intro rfl rfl)) ?_)
    refine DrawO.mkF _ (And.intro (by omega) (Idx.mk _ (lc_get (by omega)) (And.intro rfl rfl))) ?_
    repeat (first | refine DrawO.mkF _ (And.intro rfl rfl) ?_ | refine DrawO.mkF _ (Idx.mk _ rfl (And.intro rfl rfl)) ?_)
    (conv => whnf); refine cond_d (fun h8 => ?_) (fun h8 => ?_)
    · have h8' : wAt cs i < 1 := h8
      repeat (first | refine DrawO.mkF _ (And.intro rfl rfl) ?_ | refine DrawO.mkF _ (Idx.mk _ rfl (And.intro rfl rfl)) ?_)
      refine isBool ?_
      rw [bad (by omega)]
    have h8' : ¬ wAt cs i < 1 := h8
    repeat (first | refine DrawO.mkF _ (And.intro rfl rfl) ?_ | refine DrawO.mkF _ (Idx.mk _ rfl (And.intro rfl rfl)) ?_)
    refine DrawO.mkF _ (And.intro (by omega) (Idx.mk _ (lc_get (by omega)) (And.intro rfl rfl))) ?_
    repeat (first | refine DrawO.mkF _ (And.intro rfl rfl) ?_ | refine DrawO.mkF _ (Idx.mk _ rfl (And.intro rfl rfl)) ?_)
    (conv => whnf); refine cond_d (fun h9 => ?_) (fun h9 => ?_)
    · have h9' : 64 < wAt cs i := h9
      repeat (first | refine DrawO.mkF _ (And.intro rfl rfl) ?_ | refine DrawO.mkF _ (Idx.mk _ rfl (And.intro rfl rfl)) ?_)
      refine isBool ?_
      rw [bad (by omega)]
    have h9' : ¬ 64 < wAt cs i := h9
    repeat (first | refine DrawO.mkF _ (And.intro rfl rfl) ?_ | refine DrawO.mkF _ (Idx.mk _ rfl (And.intro rfl rfl)) ?_)
    (conv => whnf); refine cond_d (fun h10 => ?_) (fun h10 => ?_)
    · obtain ⟨j, rfl⟩ : ∃ j, i = j + 1 := ⟨i - 1, by omega⟩
      repeat (first | refine DrawO.mkF _ (And.intro rfl rfl) ?_ | refine DrawO.mkF _ (Idx.mk _ rfl (And.intro rfl rfl)) ?_)
      refine DrawO.mkF _ (And.intro (by omega) (Idx.mk _ (lc_get (by omega)) (And.intro rfl rfl))) ?_
      repeat (first | refine DrawO.mkF _ (And.intro rfl rfl) ?_ | refine DrawO.mkF _ (Idx.mk _ rfl (And.intro rfl rfl)) ?_)
      refine DrawO.mkF _ (And.intro (by first | omega | (dsimp only [List.length, cond]; omega) | decide) (And.intro rfl rfl)) ?_
      have hg : (lc cs)[(((j + 1 : Nat) : Int) - 1).toNat]? = some (cdD (cs.getD j (0, 0, 0))) := by
        rw [show (((j + 1 : Nat) : Int) - 1).toNat = (j : Int).toNat from by omega]; exact lc_get (by omega)
      refine DrawO.mkF _ (And.intro (by omega) (Idx.mk _ hg (And.intro rfl rfl))) ?_
      repeat (first | refine DrawO.mkF _ (And.intro rfl rfl) ?_ | refine DrawO.mkF _ (Idx.mk _ rfl (And.intro rfl rfl)) ?_)
      (conv => whnf); refine cond_d (fun h11 => ?_) (fun h11 => ?_)
      · have h11' : wAt cs (j + 1) ≤ wAt cs j := h11
        refine isBool ?_
        rw [bad (fun h => by have : wAt cs j < wAt cs (j + 1) := h.1; omega)]
      · have h11' : ¬ wAt cs (j + 1) ≤ wAt cs j := h11
        have hl : lastW cs (j + 1) = wAt cs j := rfl
        (conv => whnf); refine And.intro (by first | omega | (dsimp only [List.length, cond]; omega) | decide) ?_
        (conv => whnf)
        exact ⟨cs.length - (j + 1 + 1), by omega, j + 1 + 1, rfl, rfl, by omega, by rw [hn, decide_eq_true (by omega), decide_eq_true (by omega)]; rfl, rfl⟩
    · obtain rfl : i = 0 := by omega
      have hl : lastW cs 0 = 0 := rfl
      repeat (first | refine DrawO.mkF _ (And.intro rfl rfl) ?_ | refine DrawO.mkF _ (Idx.mk _ rfl (And.intro rfl rfl)) ?_)
      (conv => whnf); refine And.intro (by first | omega | (dsimp only [List.length, cond]; omega) | decide) ?_
      (conv => whnf)
      exact ⟨cs.length - (0 + 1), by omega, 0 + 1, rfl, rfl, by omega, by rw [hn, decide_eq_true (by omega), decide_eq_true (by omega)]; rfl, rfl⟩
  · obtain rfl : i = cs.length := by omega
    refine isBool ?_
    rw [h6]
theorem mErr_keep (who s : Int) (cs : List Cd) {k m : Nat} (h : mErrN who s cs k ≠ 0) (hm : k ≤ m) : mErrN who s cs m = mErrN who s cs k := by
  induction m with
  | zero => have : k = 0 := by omega
            subst this; rfl
  | succ m ih =>
    by_cases e : k = m + 1
    · subst e; rfl
    · have := ih (by omega)
      show (if mErrN who s cs m ≠ 0 then mErrN who s cs m else _) = _
      rw [if_pos (by rw [this]; exact h), this]
theorem Masks_ct (t : Bool) (who s : Int) (cs : List Cd) (n : Int) : Ct Try.prog 31 [i64 who, u64 s, LC cs, i64 n, .d (.bool t)] [] (Is2 (.tup [R32 (if hideE who n s cs = 0 then leftV who s cs n.toNat t else []), i64 (hideE who n s cs)]) []) := by
  refine Ct.introF (E := E 103 0 [.tmp 10, .tmp 11] [(6, [0, 1, 2, 3, 4, 12, 13])] [(5, [0, 1, 2, 3, 4, 12, 13]), (13, [0, 1, 2, 3, 4, 12, 13, 16, 17])] [(1000002, [.nl 10]), (1000010, [.nl 10]), (1000018, [.fz 10])]) tab_ok Try.call31 Try.func31 rfl rfl rfl rfl rfl (fun hin => ?_)
  have hlc := lc_len cs
  have hcl := hin.2.2.1.1
  have hku : ∀ i, 0 ≤ (cs.getD i (0, 0, 0)).2.2 ∧ (cs.getD i (0, 0, 0)).2.2 ≤ 18446744073709551615 := fun i => by
    rw [List.getD_eq_getElem?_getD]
    cases hx : cs[i]? with
    | none => exact ⟨by simp, by simp⟩
    | some c =>
      have := hin.2.2.1.2 (.int .u64 c.2.2) (by
        unfold cellsOf
        rw [List.mem_flatMap]
        exact ⟨cdD c, List.mem_map_of_mem (List.mem_of_getElem? hx), by simp [cdD, D.cells]⟩)
      exact this
  have bad : ¬ ((1 ≤ who ∧ who ≤ 64) ∧ 0 ≤ n ∧ n ≤ 256) → hideE who n s cs = 1 := fun h => by
    unfold hideE sndB; rw [decide_eq_false h]; rfl
  (conv => whnf); refine cond_d (fun h1 => ?_) (fun h1 => ?_)
  · rw [bad (by omega)]; exact Is2.mk rfl
  (conv => whnf); refine cond_d (fun h2 => ?_) (fun h2 => ?_)
  · rw [bad (by omega)]; exact Is2.mk rfl
  (conv => whnf); refine cond_d (fun h3 => ?_) (fun h3 => ?_)
  · rw [bad (by omega)]; exact Is2.mk rfl
  (conv => whnf); refine cond_d (fun h4 => ?_) (fun h4 => ?_)
  · rw [bad (by omega)]; exact Is2.mk rfl
  (conv => whnf); refine (rRise_ct cs).use ?_
  (conv => whnf); refine cond_i (fun h => ?_) (fun h => ?_)
  · have h' : riB cs cs.length = false := by simpa using h
    have e : hideE who n s cs = 1 := by unfold hideE sndB; rw [h', Bool.and_false]; rfl
    rw [e]; exact Is2.mk rfl
  have h' : riB cs cs.length = true := by simpa using h
  have e : hideE who n s cs = mErrN who s cs cs.length := by unfold hideE sndB; rw [h', decide_eq_true (by omega)]; rfl
  rw [e]
  obtain ⟨m, rfl⟩ := Int.eq_ofNat_of_zero_le (show 0 ≤ n by omega)
  rw [Int.toNat_natCast]
  have hm256 : m ≤ 256 := by omega
  (conv => whnf); refine And.intro (by first | omega | (dsimp only [List.length, cond]; omega) | decide) ?_
  (conv => whnf); refine LoopI.mk (fun q ws os => ∃ (k : Nat) (w : List Int), ws = [i64 who, u64 s, LC cs, i64 m, .d (.bool t), .sl 0, i64 k] ∧ os = [.row 57 1 (l32 w)] ∧ k ≤ cs.length ∧ w.length = m ∧ mErrN who s cs k = 0 ∧ (∀ i, i < m → w.getD i 0 = wr .u32 (mSumN t who s m cs i k)) ∧ q = cs.length - k) cs.length ⟨0, List.replicate m 0, rfl, ?_, Nat.zero_le _, by simp, rfl, fun i hi => by rw [rep0]; rfl, rfl⟩ ?_
  · show [Obj.row _ _ (List.replicate (m : Int).toNat (D.int .u32 0))] = _
    rw [Int.toNat_natCast, l32_rep]
  rintro q _ _ ⟨k, w, rfl, rfl, h5, hwl, he, hw, rfl⟩
  (conv => whnf); refine cond_d (fun h7 => ?_) (fun h7 => ?_)
  · have hk : k < cs.length := by omega
    obtain ⟨c, hc⟩ : ∃ z, z = cs.getD k (0, 0, 0) := ⟨_, rfl⟩
    have hg : (lc cs)[(k : Int).toNat]? = some (cdD c) := by rw [hc]; exact lc_get hk
    have hcu : 0 ≤ c.2.2 ∧ c.2.2 ≤ 18446744073709551615 := by rw [hc]; exact hku k
    have hE : mErrN who s cs (k + 1) = if c.1 = who then 0 else agE s c.2.2 := by
      rw [hc]; show (if mErrN who s cs k ≠ 0 then _ else _) = _
      rw [if_neg (fun h => h he)]
    have hS : ∀ i, mSumN t who s m cs i (k + 1) = mSumN t who s m cs i k + mTerm t who s m c i := fun i => by rw [hc]; rfl
    (conv => whnf); refine JoinI.mk (fun ws os => ∃ w : List Int, ws = [i64 who, u64 s, LC cs, i64 m, .d (.bool t), .sl 0, i64 k] ∧ os = [.row 57 1 (l32 w)] ∧ w.length = m ∧ mErrN who s cs (k + 1) = 0 ∧ (∀ i, i < m → w.getD i 0 = wr .u32 (mSumN t who s m cs i (k + 1)))) ?_ ?_
    · (conv => whnf); refine And.intro (by omega) (Idx.mk _ hg ?_)
      (conv => whnf); refine Idx.mk _ rfl ?_
      (conv => whnf); refine cond_d (fun h8 => ?_) (fun h8 => ?_)
      · have h8' : c.1 = who := h8
        (conv => whnf)
        refine ⟨w, rfl, rfl, hwl, by rw [hE, if_pos h8'], fun i hi => ?_⟩
        have ht : mTerm t who s m c i = 0 := by unfold mTerm; rw [if_pos h8']
        rw [hw i hi, hS, ht, Int.add_zero]
      have h8' : ¬ c.1 = who := h8
      rw [if_neg h8'] at hE
      (conv => whnf); refine And.intro (by omega) (Idx.mk _ hg ?_)
      (conv => whnf); refine Idx.mk _ rfl ?_
      (conv => whnf); refine (rAgree_ct s c.2.2 hcu).use ?_
      (conv => whnf); refine cond_d (fun h9 => ?_) (fun h9 => ?_)
      · have h9' : ¬ agE s c.2.2 = 0 := h9
        have e2 : mErrN who s cs cs.length = agE s c.2.2 := by
          rw [mErr_keep who s cs (k := k + 1) (by rw [hE]; exact h9') (by omega), hE]
        rw [e2, if_neg h9']
        exact Is2.mk rfl
      have h9' : agE s c.2.2 = 0 := Decidable.of_not_not h9
      (conv => whnf); refine (rPair_ct (agV s c.2.2) m).use ?_
      obtain ⟨M, hM⟩ : ∃ z, z = vecL (derL (agV s c.2.2) 2) 3 (m : Nat) := ⟨_, rfl⟩
      have hMk : M = mkV s c.2.2 m := hM
      have hMl : M.length = m := by rw [hMk, mkV_len _ _ hm256]
      rw [← hM]
      (conv => whnf); refine LoopI.mk (fun q ws os => ∃ (j : Nat) (y : List Int), ws = [i64 who, u64 s, LC cs, i64 m, .d (.bool t), .sl 0, i64 k, R32 M, i64 j] ∧ os = [.row 57 1 (l32 y)] ∧ j ≤ m ∧ y.length = m ∧ (∀ i, i < m → y.getD i 0 = wr .u32 (mSumN t who s m cs i (if i < j then k + 1 else k))) ∧ q = m - j) m ⟨0, w, rfl, rfl, Nat.zero_le _, hwl, fun i hi => by rw [if_neg (by omega)]; exact hw i hi, rfl⟩ ?_
      rintro q _ _ ⟨j, y, rfl, rfl, h10, hyl, hy, rfl⟩
      have hly := l32_len y
      have hlM := l32_len M
      (conv => whnf); refine cond_d (fun h11 => ?_) (fun h11 => ?_)
      · have hj : j < m := by omega
        have ht : mTerm t who s m c j = if (decide (who < c.1) != t) = true then M.getD j 0 else -M.getD j 0 := by unfold mTerm; rw [if_neg h8', hMk]
        have next : ∀ z : Int, z = wr .u32 (mSumN t who s m cs j (k + 1)) → ∀ i, i < m → (y.set j z).getD i 0 = wr .u32 (mSumN t who s m cs i (if i < j + 1 then k + 1 else k)) := fun z hz i hi => by
          rw [getD_set]
          by_cases e : j = i
          · subst e; rw [if_pos ⟨rfl, by omega⟩, if_pos (by omega), hz]
          · rw [if_neg (fun h => e h.1), hy i hi]
            by_cases e2 : i < j
            · rw [if_pos e2, if_pos (by omega)]
            · rw [if_neg e2, if_neg (by omega)]
        have hyj : y.getD j 0 = wr .u32 (mSumN t who s m cs j k) := by rw [hy j hj, if_neg (by omega)]
        (conv => whnf); refine And.intro (by omega) (Idx.mk _ hg ?_)
        (conv => whnf); refine Idx.mk _ rfl ?_
        (conv => whnf); refine cond_i (fun h12 => ?_) (fun h12 => ?_)
        · have h12' : (decide (who < c.1) != t) = true := h12
          (conv => whnf); refine DrawI.mkF 8 [[12], [17], [82, 83], [84], [16], [17], [86, 87], [88]] (by decide +kernel) ?_
          repeat (first | refine DrawO.mkF _ (And.intro rfl rfl) ?_ | refine DrawO.mkF _ (Idx.mk _ rfl (And.intro rfl rfl)) ?_)
          refine DrawO.mkF _ (And.intro (by first | omega | (dsimp only [List.length, cond]; omega) | decide) (And.intro rfl rfl)) ?_
          refine DrawO.mkF (u32 (y.getD j 0)) (Idx.mk _ (l32_geti (by omega)) (Idx.mk _ rfl (And.intro rfl rfl))) ?_
          repeat (first | refine DrawO.mkF _ (And.intro rfl rfl) ?_ | refine DrawO.mkF _ (Idx.mk _ rfl (And.intro rfl rfl)) ?_)
          refine DrawO.mkF _ (And.intro (by omega) (Idx.mk _ (l32_geti (by omega)) (And.intro rfl rfl))) ?_
          repeat (first | refine DrawO.mkF _ (And.intro rfl rfl) ?_ | refine DrawO.mkF _ (Idx.mk _ rfl (And.intro rfl rfl)) ?_)
          (conv => whnf); refine And.intro (by first | omega | (dsimp only [List.length, cond]; omega) | decide) ?_
          (conv => whnf); refine Idx.mk _ (l32_geti (by omega)) ?_
          (conv => whnf); refine And.intro (by first | omega | (dsimp only [List.length, cond]; omega) | decide) ?_
          (conv => whnf)
          refine ⟨m - (j + 1), by omega, j + 1, y.set j (wr .u32 (y.getD j 0 + M.getD j 0)), rfl, ?_, by omega, by rw [List.length_set]; exact hyl, next _ ?_, rfl⟩
          · rw [← l32_setr]; rfl
          · rw [hyj, hS, ht, if_pos h12']; simp only [wr]; omega
        · have h12' : ¬ (decide (who < c.1) != t) = true := fun h => by
            have h12'' : (decide (who < c.1) != t) = false := h12
            rw [h12''] at h; cases h
          (conv => whnf); refine DrawI.mkF 8 [[12], [17], [92, 93], [94], [16], [17], [96, 97], [98]] (by decide +kernel) ?_
          repeat (first | refine DrawO.mkF _ (And.intro rfl rfl) ?_ | refine DrawO.mkF _ (Idx.mk _ rfl (And.intro rfl rfl)) ?_)
          refine DrawO.mkF _ (And.intro (by first | omega | (dsimp only [List.length, cond]; omega) | decide) (And.intro rfl rfl)) ?_
          refine DrawO.mkF (u32 (y.getD j 0)) (Idx.mk _ (l32_geti (by omega)) (Idx.mk _ rfl (And.intro rfl rfl))) ?_
          repeat (first | refine DrawO.mkF _ (And.intro rfl rfl) ?_ | refine DrawO.mkF _ (Idx.mk _ rfl (And.intro rfl rfl)) ?_)
          refine DrawO.mkF _ (And.intro (by omega) (Idx.mk _ (l32_geti (by omega)) (And.intro rfl rfl))) ?_
          repeat (first | refine DrawO.mkF _ (And.intro rfl rfl) ?_ | refine DrawO.mkF _ (Idx.mk _ rfl (And.intro rfl rfl)) ?_)
          (conv => whnf); refine And.intro (by first | omega | (dsimp only [List.length, cond]; omega) | decide) ?_
          (conv => whnf); refine Idx.mk _ (l32_geti (by omega)) ?_
          (conv => whnf); refine And.intro (by first | omega | (dsimp only [List.length, cond]; omega) | decide) ?_
          (conv => whnf)
          refine ⟨m - (j + 1), by omega, j + 1, y.set j (wr .u32 (y.getD j 0 - M.getD j 0)), rfl, ?_, by omega, by rw [List.length_set]; exact hyl, next _ ?_, rfl⟩
          · rw [← l32_setr]; rfl
          · rw [hyj, hS, ht, if_neg h12']; simp only [wr]; omega
      · obtain rfl : j = m := by omega
        (conv => whnf)
        refine ⟨y, rfl, rfl, hyl, by rw [hE, h9'], fun i hi => ?_⟩
        rw [hy i hi, if_pos hi]
    rintro _ _ ⟨w, rfl, rfl, hwl, he, hw⟩
    (conv => whnf); refine And.intro (by first | omega | (dsimp only [List.length, cond]; omega) | decide) ?_
    (conv => whnf)
    exact ⟨cs.length - (k + 1), by omega, k + 1, w, rfl, rfl, by omega, hwl, he, hw, rfl⟩
  · obtain rfl : k = cs.length := by omega
    have ew : w = leftV who s cs m t := ext_getD (by rw [leftV_len, hwl]) (fun j hj => by
      rw [leftV_at _ _ _ _ (by omega), hw j (by omega)])
    rw [he, if_pos rfl, ew]
    exact Is2.mk rfl
end Go.Proofs.Ytofkdfodehfpdaa.Ring

/- Package seal and its reference: locking. -/
namespace Go.Proofs.Ytofkdfodehfpdaa
open Go.V Go.Num
open Go.Eng (wr)
set_option maxRecDepth 100000
set_option maxHeartbeats 4000000
/-- Numbers as bytes, eight each. -/
def le8 (vs : List Int) : List Int := (List.range (8 * vs.length)).map fun i => byt (vs.getD (i / 8) 0) (i % 8)
theorem le8_len (vs : List Int) : (le8 vs).length = 8 * vs.length := by simp [le8]
theorem le8_at (vs : List Int) {i : Nat} (h : i < 8 * vs.length) : (le8 vs).getD i 0 = byt (vs.getD (i / 8) 0) (i % 8) := by
  unfold le8
  rw [List.getD_eq_getElem?_getD, List.getElem?_map, List.getElem?_range h]; rfl
theorem le8_take (vs : List Int) {i k : Nat} (h : i < vs.length) (hk : k < 8) : (le8 vs).take (8 * i + k + 1) = (le8 vs).take (8 * i + k) ++ [byt (vs.getD i 0) k] := by
  rw [take_succG (by rw [le8_len]; omega), le8_at _ (by omega), show (8 * i + k) / 8 = i from by omega, show (8 * i + k) % 8 = k from by omega]
theorem rBytes8_ct (vs : List Int) (hl : vs.length ≤ 1000) : Ct Try.prog 18 [L vs] [] (Is2 (R8 (le8 vs)) []) := by
  refine Ct.introF (E := E 30 0 [.tmp 2] [] [(3, [0, 3, 4]), (6, [0, 3, 4, 5])] [(1000009, [.fz 2])]) tab_ok Try.call18 Try.func18 rfl rfl rfl rfl rfl (fun hin => ?_)
  have hlv := li_len vs
  have hlB := le8_len vs
  obtain ⟨B, hB⟩ : ∃ z, z = le8 vs := ⟨_, rfl⟩
  (conv => whnf); refine LoopI.mk (fun q ws os => ∃ i : Nat, ws = [L vs, .sl 0, i64 i] ∧ os = [.row 5 1 (l8 (B.take (8 * i)))] ∧ i ≤ vs.length ∧ q = vs.length - i) vs.length ⟨0, rfl, rfl, Nat.zero_le _, rfl⟩ ?_
  rintro q _ _ ⟨i, rfl, rfl, h1, rfl⟩
  (conv => whnf); refine cond_d (fun h2 => ?_) (fun h2 => ?_)
  · (conv => whnf); refine LoopI.mk (fun q ws os => ∃ k : Nat, ws = [L vs, .sl 0, i64 i, i64 k] ∧ os = [.row 5 1 (l8 (B.take (8 * i + k)))] ∧ k ≤ 8 ∧ q = 8 - k) 8 ⟨0, rfl, rfl, Nat.zero_le _, rfl⟩ ?_
    rintro q _ _ ⟨k, rfl, rfl, h3, rfl⟩
    (conv => whnf); refine cond_d (fun h4 => ?_) (fun h4 => ?_)
    · (conv => whnf); refine And.intro (by omega) (Idx.mk _ (li_get (by omega)) ?_)
      (conv => whnf); refine Idx.mk _ rfl ?_
      (conv => whnf); refine And.intro (by first | omega | (dsimp only [List.length, cond]; omega) | decide) ?_
      (conv => whnf); refine And.intro ⟨by rw [l8_len, List.length_take]; dsimp only [List.length]; omega, fun y hy => by cases hy with | head => rfl | tail _ h => cases h⟩ ?_
      (conv => whnf); refine And.intro (by first | omega | (dsimp only [List.length, cond]; omega) | decide) ?_
      (conv => whnf)
      refine ⟨8 - (k + 1), by omega, k + 1, rfl, ?_, by omega, rfl⟩
      show [Obj.row _ _ (l8 (B.take (8 * i + k)) ++ l8 [wr .u8 (vs.getD i 0 / 2 ^ (min (wr .u64 (8 * (k : Int))).toNat 64))])] = _
      rw [wr_small (by omega), p256 k (by omega) 64 (by omega), l8_app, ← show 8 * i + k + 1 = 8 * i + (k + 1) from rfl, hB, le8_take vs (by omega) (by omega)]
      rfl
    · obtain rfl : k = 8 := by omega
      (conv => whnf); refine And.intro (by first | omega | (dsimp only [List.length, cond]; omega) | decide) ?_
      (conv => whnf)
      exact ⟨vs.length - (i + 1), by omega, i + 1, rfl, rfl, by omega, rfl⟩
  · have hf : B.take (8 * i) = B := List.take_of_length_le (by rw [hB]; omega)
    rw [hf, hB]
    exact Is2.mk rfl
def lockE (s p f t : Int) (vs : List Int) : Int := if ¬ ((1 ≤ f ∧ f ≤ 64) ∧ 1 ≤ t ∧ t ≤ 64) then 1 else if 8 < vs.length then 1 else if vs.any (fun n => decide (2305843009213693951 ≤ n)) = true then 4 else agE s p
def lockV (s p f t : Int) (vs : List Int) : List Int := if lockE s p f t vs = 0 then hidL (agV s p) f t (le8 vs) else []
theorem Lock_ct (s p f t : Int) (vs : List Int) : Ct Try.prog 13 [u64 s, u64 p, i64 f, i64 t, L vs] [] (Is2 (.tup [R8 (lockV s p f t vs), i64 (lockE s p f t vs)]) []) := by
  refine Ct.introF (E := E 60 0 [.tmp 10, .tmp 11] [] [(8, [0, 1, 4, 12, 13, 35, 36])] [(1000003, [.nl 10]), (1000005, [.nl 10])]) tab_ok Try.call13 Try.func13 rfl rfl rfl rfl rfl (fun hin => ?_)
  have hlv := li_len vs
  (conv => whnf); refine (sgood_ct f t).use ?_
  (conv => whnf); refine cond_nd (fun h => ?_) (fun h => ?_)
  · have e : lockE s p f t vs = 1 := by unfold lockE; rw [if_pos h]
    refine Is2.mk ?_
    unfold lockV; rw [e]; rfl
  (conv => whnf); refine cond_d (fun h2 => ?_) (fun h2 => ?_)
  · have e : lockE s p f t vs = 1 := by unfold lockE; rw [if_neg (fun h3 => h3 h), if_pos (by omega)]
    refine Is2.mk ?_
    unfold lockV; rw [e]; rfl
  (conv => whnf); refine (sBig_ct vs).use ?_
  (conv => whnf); refine cond_i (fun h3 => ?_) (fun h3 => ?_)
  · have e : lockE s p f t vs = 4 := by unfold lockE; rw [if_neg (fun h3 => h3 h), if_neg (by omega), if_pos h3]
    refine Is2.mk ?_
    unfold lockV; rw [e]; rfl
  have e : lockE s p f t vs = agE s p := by unfold lockE; rw [if_neg (fun h3 => h3 h), if_neg (by omega), if_neg (by rw [h3]; decide)]
  (conv => whnf); refine And.intro (by first | omega | (dsimp only [List.length, cond]; omega) | decide) ?_
  (conv => whnf); refine And.intro (by first | omega | (dsimp only [List.length, cond]; omega) | decide) ?_
  obtain ⟨B, hB⟩ : ∃ z, z = le8 vs := ⟨_, rfl⟩
  have hBl : B.length = 8 * vs.length := by rw [hB, le8_len]
  (conv => whnf); refine LoopI.mk (fun q ws os => ∃ (i : Nat) (ys : List Int), ws = [u64 s, u64 p, L vs, .ptr 0 0, .sl 1, i64 (8 * vs.length : Nat), i64 i] ∧ os = [.vec 80 [i64 f, i64 t], .row 5 1 (l8 ys)] ∧ i ≤ 8 * vs.length ∧ ys.length = 8 * vs.length ∧ (∀ j, j < i → ys.getD j 0 = B.getD j 0) ∧ q = 8 * vs.length - i) (8 * vs.length) ⟨0, List.replicate (8 * vs.length) 0, ?_, ?_, Nat.zero_le _, by simp, fun j hj => by omega, rfl⟩ ?_
  · show [_, _, _, _, _, i64 (List.replicate (8 * ((li vs).length : Int)).toNat (D.int .u8 0)).length, _] = _
    rw [List.length_replicate, hlv, show (8 * (vs.length : Int)).toNat = 8 * vs.length from by omega]; rfl
  · show [_, Obj.row _ _ (List.replicate (8 * ((li vs).length : Int)).toNat (D.int .u8 0))] = _
    rw [hlv, show (8 * (vs.length : Int)).toNat = 8 * vs.length from by omega, l8_rep]
  rintro q _ _ ⟨i, ys, rfl, rfl, h4, hyl, hys, rfl⟩
  have hly := l8_len ys
  (conv => whnf); refine cond_d (fun h5 => ?_) (fun h5 => ?_)
  · (conv => whnf); refine And.intro (by first | omega | (dsimp only [List.length, cond]; omega) | decide) ?_
    have hg : (li vs)[((i : Int) / 8).toNat]? = some (.int .u64 (vs.getD (i / 8) 0)) := by
      rw [show ((i : Int) / 8).toNat = ((i / 8 : Nat) : Int).toNat from by omega]; exact li_get (by omega)
    (conv => whnf); refine And.intro (by omega) (Idx.mk _ hg ?_)
    (conv => whnf); refine Idx.mk _ rfl ?_
    (conv => whnf); refine And.intro (by first | omega | (dsimp only [List.length, cond]; omega) | decide) ?_
    (conv => whnf); refine And.intro (by first | omega | (dsimp only [List.length, cond]; omega) | decide) ?_
    (conv => whnf); refine And.intro (by first | omega | (dsimp only [List.length, cond]; omega) | decide) ?_
    (conv => whnf); refine And.intro (by first | omega | (dsimp only [List.length, cond]; omega) | decide) ?_
    (conv => whnf); refine Idx.mk _ (l8_geti (by omega)) ?_
    (conv => whnf); refine And.intro (by first | omega | (dsimp only [List.length, cond]; omega) | decide) ?_
    (conv => whnf)
    refine ⟨8 * vs.length - (i + 1), by omega, i + 1, ys.set i (byt (vs.getD (i / 8) 0) (i % 8)), rfl, ?_, by omega, by rw [List.length_set]; exact hyl, fun j hj => ?_, rfl⟩
    · show [_, Obj.row _ _ ((l8 ys).set (i : Int).toNat (.int .u8 (wr .u8 (vs.getD (i / 8) 0 / 2 ^ (min (8 * ((i : Int) % 8)).toNat 64)))))] = _
      rw [show (i : Int) % 8 = ((i % 8 : Nat) : Int) from by omega, p256 (i % 8) (by omega) 64 (by omega), l8_setr]; rfl
    · rw [getD_set]
      by_cases e2 : i = j
      · subst e2
        rw [if_pos ⟨rfl, by omega⟩, hB, le8_at _ (by omega)]
      · rw [if_neg (fun h => e2 h.1)]; exact hys j (by omega)
  · have e2 : ys = B := ext_getD (by omega) (fun j hj => hys j (by omega))
    (conv => whnf); refine (hide_ct f t s p ys (by omega) (by omega) (by omega)).use ?_
    refine Is2.mk ?_
    unfold lockV hidV; rw [e, e2, hB]
end Go.Proofs.Ytofkdfodehfpdaa

/- Package seal: bytes as numbers, in plain Lean; opening. -/
namespace Go.Proofs.Ytofkdfodehfpdaa
open Go.V Go.Num
open Go.Eng (wr)
set_option maxRecDepth 100000
set_option maxHeartbeats 4000000
/-- Some of the bytes of a number of eight. -/
def prt8 (b : List Int) (i : Nat) : Nat → Int
  | 0 => 0
  | k + 1 => prt8 b i k + b.getD (8 * i + k) 0 * 2 ^ (8 * k)
theorem prt8_rng {b : List Int} (h : By b) (i : Nat) : ∀ k, 0 ≤ prt8 b i k ∧ prt8 b i k < 2 ^ (8 * k)
  | 0 => by simp [prt8]
  | k + 1 => by
    have h1 := prt8_rng h i k
    have h2 := h.getD (8 * i + k)
    have h3 : (2 : Int) ^ (8 * (k + 1)) = 256 * 2 ^ (8 * k) := by rw [Nat.mul_add, Int.pow_add]; omega
    have h4 := Int.mul_le_mul_of_nonneg_right h2.2 (show (0 : Int) ≤ 2 ^ (8 * k) from Int.pow_nonneg (by decide))
    have h5 := Int.mul_nonneg h2.1 (show (0 : Int) ≤ 2 ^ (8 * k) from Int.pow_nonneg (by decide))
    unfold prt8
    omega
theorem p8_le {k : Nat} (h : k ≤ 7) : (2 : Int) ^ (8 * k) ≤ 72057594037927936 := by
  have : ∀ k : Fin 8, (2 : Int) ^ (8 * k.val) ≤ 72057594037927936 := by decide
  exact this ⟨k, by omega⟩
theorem prt8_or {b : List Int} (h : By b) (i k : Nat) (hk : k < 8) : (((prt8 b i k).toNat ||| (wr .u64 (b.getD (8 * i + k) 0 * 2 ^ (min (8 * (k : Int)).toNat 64))).toNat : Nat) : Int) = prt8 b i (k + 1) := by
  have h1 := prt8_rng h i k
  have h2 := h.getD (8 * i + k)
  have e : min (8 * (k : Int)).toNat 64 = 8 * k := by omega
  have h3 : wr .u64 (b.getD (8 * i + k) 0 * 2 ^ (8 * k)) = b.getD (8 * i + k) 0 * 2 ^ (8 * k) := by
    have hp := p8_le (k := k) (by omega)
    have h4 := Int.mul_le_mul_of_nonneg_right h2.2 (show (0 : Int) ≤ 2 ^ (8 * k) from Int.pow_nonneg (by decide))
    have h5 := Int.mul_nonneg h2.1 (show (0 : Int) ≤ 2 ^ (8 * k) from Int.pow_nonneg (by decide))
    simp only [wr]; omega
  rw [e, h3, or_add h1 h2.1]; rfl
/-- Bytes as numbers of eight. -/
def numL (b : List Int) : List Int := (List.range (b.length / 8)).map fun i => prt8 b i 8
theorem numL_len (b : List Int) : (numL b).length = b.length / 8 := by simp [numL]
theorem numL_at (b : List Int) {i : Nat} (h : i < b.length / 8) : (numL b).getD i 0 = prt8 b i 8 := by
  unfold numL
  rw [List.getD_eq_getElem?_getD, List.getElem?_map, List.getElem?_range h]; rfl
theorem emod_256 (v q : Int) (hq : 0 < q) : v % (q * 256) = v % q + v / q % 256 * q := by
  have h1 := Int.emod_add_mul_ediv v q
  have h2 := Int.emod_add_mul_ediv (v / q) 256
  have h3 := Int.emod_nonneg v (show q ≠ 0 by omega)
  have h4 := Int.emod_lt_of_pos v hq
  have h5 := Int.emod_nonneg (v / q) (show (256 : Int) ≠ 0 by decide)
  have h6 := Int.emod_lt_of_pos (v / q) (show (0 : Int) < 256 by decide)
  generalize v / q % 256 = e at *
  generalize v / q / 256 = g at *
  generalize v / q = d at *
  generalize v % q = r at *
  subst h2
  rw [Int.mul_add] at h1
  have e1 : v = (r + e * q) + q * 256 * g := by rw [← h1, Int.mul_comm e q, Int.mul_assoc, Int.add_assoc]
  have h7 := Int.mul_le_mul_of_nonneg_right (show e ≤ 255 by omega) (show 0 ≤ q by omega)
  have h8 := Int.mul_nonneg h5 (show 0 ≤ q by omega)
  rw [e1, Int.add_mul_emod_self_left, Int.emod_eq_of_lt (by omega) (by omega)]
theorem prt8_le8 (vs : List Int) {i : Nat} (h : i < vs.length) (hv : 0 ≤ vs.getD i 0) : ∀ k, k ≤ 8 → prt8 (le8 vs) i k = vs.getD i 0 % 2 ^ (8 * k)
  | 0, _ => by simp [prt8]
  | k + 1, hk => by
    unfold prt8
    rw [prt8_le8 vs h hv k (by omega), le8_at _ (by omega), show (8 * i + k) / 8 = i from by omega, show (8 * i + k) % 8 = k from by omega]
    unfold byt
    have e : (256 : Int) ^ k = 2 ^ (8 * k) := by rw [Int.pow_mul]; rfl
    have e2 : (2 : Int) ^ (8 * (k + 1)) = 2 ^ (8 * k) * 256 := by rw [Nat.mul_add, Int.pow_add]; rfl
    rw [e, e2]
    exact (emod_256 _ _ (Int.pow_pos (by decide))).symm
theorem numL_le8 (vs : List Int) (h : ∀ v ∈ vs, 0 ≤ v ∧ v ≤ 18446744073709551615) : numL (le8 vs) = vs := by
  have hl : (le8 vs).length / 8 = vs.length := by rw [le8_len]; omega
  refine ext_getD (by rw [numL_len, hl]) (fun j hj => ?_)
  rw [numL_len, hl] at hj
  have hv : 0 ≤ vs.getD j 0 ∧ vs.getD j 0 ≤ 18446744073709551615 := by
    rw [List.getD_eq_getElem?_getD, List.getElem?_eq_getElem hj]; exact h _ (List.getElem_mem hj)
  rw [numL_at _ (by rw [hl]; exact hj), prt8_le8 vs hj hv.1 8 (Nat.le_refl _)]
  have : (2 : Int) ^ (8 * 8) = 18446744073709551616 := rfl
  rw [this]; omega
theorem xr_xr (a k : Int) (h : 0 ≤ a) : xr (xr a k) k = a := by
  unfold xr
  rw [Int.toNat_natCast, Nat.xor_assoc, Nat.xor_self, Nat.xor_zero]; omega
theorem xorL_xorL (key nonce : List Int) (ctr : Int) (b : List Int) (h : By b) : xorL key ctr nonce (xorL key ctr nonce b) = b := by
  refine ext_getD (by rw [xorL_len, xorL_len]) (fun j hj => ?_)
  rw [xorL_len, xorL_len] at hj
  rw [xorL_at _ _ _ _ (by rw [xorL_len]; exact hj), xorL_at _ _ _ _ hj, xr_xr _ _ (h.getD j).1]
theorem hid_hid (n f t : Int) (b : List Int) (h : By b) : hidL n f t (hidL n f t b) = b := xorL_xorL _ _ _ _ h
theorem le8_by (vs : List Int) : By (le8 vs) := fun x hx => by
  obtain ⟨j, _, rfl⟩ := List.mem_map.1 hx; exact byt_rng _ _
theorem xorL_by (key nonce : List Int) (ctr : Int) (b : List Int) (h : By b) : By (xorL key ctr nonce b) := fun x hx => by
  obtain ⟨j, _, rfl⟩ := List.mem_map.1 hx; exact xr_rng8 (h.getD j) (blkL_u8 _ _ _ _)
theorem li_setr (xs : List Int) (i : Nat) (x : Int) : (li xs).set (i : Int).toNat (.int .u64 x) = li (xs.set i x) := List.map_set.symm
def openE (s p f t : Int) (b : List Int) : Int := if ¬ ((1 ≤ f ∧ f ≤ 64) ∧ 1 ≤ t ∧ t ≤ 64) then 1 else if b.length % 8 ≠ 0 then 2 else if 64 < b.length then 2 else if agE s p ≠ 0 then agE s p else if (numL (hidL (agV s p) f t b)).any (fun n => decide (2305843009213693951 ≤ n)) = true then 4 else 0
def openV (s p f t : Int) (b : List Int) : List Int := if openE s p f t b = 0 then numL (hidL (agV s p) f t b) else []
theorem Open_ct (s p f t : Int) (b : List Int) (hby : By b) : Ct Try.prog 19 [u64 s, u64 p, i64 f, i64 t, R8 b] [] (Is2 (.tup [L (openV s p f t b), i64 (openE s p f t b)]) []) := by
  refine Ct.introF (E := E 74 0 [.tmp 10, .tmp 11] [] [(11, [15, 50, 51, 52])] [(1000003, [.nl 10]), (1000005, [.nl 10]), (1000008, [.nl 10]), (1000016, [.nl 10]), (15, [.fz 15])]) tab_ok Try.call19 Try.func19 rfl rfl rfl rfl rfl (fun hin => ?_)
  have hlb := l8_len b
  (conv => whnf); refine (sgood_ct f t).use ?_
  (conv => whnf); refine cond_nd (fun h => ?_) (fun h => ?_)
  · have e : openE s p f t b = 1 := by unfold openE; rw [if_pos h]
    refine Is2.mk ?_
    unfold openV; rw [e]; rfl
  have h' : ¬ ¬ ((1 ≤ f ∧ f ≤ 64) ∧ 1 ≤ t ∧ t ≤ 64) := fun h3 => h3 h
  (conv => whnf); refine And.intro (by first | omega | (dsimp only [List.length, cond]; omega) | decide) ?_
  (conv => whnf); refine cond_d (fun h2 => ?_) (fun h2 => ?_)
  · have e : openE s p f t b = 2 := by unfold openE; rw [if_neg h', if_pos (by omega)]
    refine Is2.mk ?_
    unfold openV; rw [e]; rfl
  (conv => whnf); refine cond_d (fun h3 => ?_) (fun h3 => ?_)
  · have e : openE s p f t b = 2 := by unfold openE; rw [if_neg h', if_neg (by omega), if_pos (by omega)]
    refine Is2.mk ?_
    unfold openV; rw [e]; rfl
  (conv => whnf); refine (hide_ct f t s p b (by omega) (by omega) (by omega)).use ?_
  (conv => whnf); refine cond_d (fun h4 => ?_) (fun h4 => ?_)
  · have e : openE s p f t b = agE s p := by unfold openE; rw [if_neg h', if_neg (by omega), if_neg (by omega), if_pos h4]
    refine Is2.mk ?_
    unfold openV; rw [e, if_neg h4]; rfl
  have h0 : agE s p = 0 := Decidable.of_not_not h4
  obtain ⟨W, hW⟩ : ∃ z, z = hidV s p f t b := ⟨_, rfl⟩
  have hWh : W = hidL (agV s p) f t b := by rw [hW]; unfold hidV; rw [if_pos h0]
  have hWl : W.length = b.length := by rw [hWh, hidL_len]
  have hWb : By W := by rw [hWh]; exact xorL_by _ _ _ _ hby
  rw [← hW]
  have hlW := l8_len W
  (conv => whnf); refine And.intro (by first | omega | (dsimp only [List.length, cond]; omega) | decide) ?_
  (conv => whnf); refine And.intro (by first | omega | (dsimp only [List.length, cond]; omega) | decide) ?_
  obtain ⟨m, hm⟩ : ∃ z, z = b.length / 8 := ⟨_, rfl⟩
  (conv => whnf); refine LoopI.mk (fun q ws os => ∃ (i : Nat) (ys : List Int), ws = [.sl 0, R8 W, i64 (8 * m : Nat), i64 i] ∧ os = [.row 22 1 (li ys)] ∧ i ≤ 8 * m ∧ ys.length = m ∧ (∀ j, j < m → ys.getD j 0 = prt8 W j (min (i - 8 * j) 8)) ∧ q = 8 * m - i) (8 * m) ⟨0, List.replicate m 0, ?_, ?_, Nat.zero_le _, by simp, fun j hj => ?_, rfl⟩ ?_
  · rw [hlW, hWl, show b.length = 8 * m from by omega]; rfl
  · show [Obj.row _ _ (List.replicate (((l8 W).length : Int) / 8).toNat (D.int .u64 0))] = _
    rw [hlW, hWl, show ((b.length : Int) / 8).toNat = m from by omega]
    exact congrArg (fun z => [Obj.row _ _ z]) List.map_replicate.symm
  · rw [show min (0 - 8 * j) 8 = 0 from by omega, List.getD_eq_getElem?_getD, List.getElem?_replicate, if_pos hj]; rfl
  rintro q _ _ ⟨i, ys, rfl, rfl, h5, hyl, hys, rfl⟩
  have hly := li_len ys
  (conv => whnf); refine cond_d (fun h6 => ?_) (fun h6 => ?_)
  · (conv => whnf); refine And.intro (by first | omega | (dsimp only [List.length, cond]; omega) | decide) ?_
    (conv => whnf); refine Idx.mk _ (l8_geti (by omega)) ?_
    (conv => whnf); refine Idx.mk _ rfl ?_
    (conv => whnf); refine DrawI.mkF 11 [[15], [16], [58], [57, 59], [60], [17], [62], [16], [64], [65], [63, 66]] (by decide +kernel) ?_
    repeat (first | refine DrawO.mkF _ (And.intro rfl rfl) ?_ | refine DrawO.mkF _ (Idx.mk _ rfl (And.intro rfl rfl)) ?_)
    refine DrawO.mkF _ (And.intro (by first | omega | (dsimp only [List.length, cond]; omega) | decide) (And.intro rfl rfl)) ?_
    refine DrawO.mkF _ (And.intro (by first | omega | (dsimp only [List.length, cond]; omega) | decide) (And.intro rfl rfl)) ?_
    obtain ⟨Y, hY⟩ : ∃ z, z = ys.getD (i / 8) 0 := ⟨_, rfl⟩
    obtain ⟨C, hC⟩ : ∃ z, z = W.getD i 0 := ⟨_, rfl⟩
    have hg : (li ys)[((i : Int) / 8).toNat]? = some (.int .u64 Y) := by
      rw [show ((i : Int) / 8).toNat = ((i / 8 : Nat) : Int).toNat from by omega, hY]; exact li_get (by omega)
    refine DrawO.mkF (u64 Y) (Idx.mk _ hg (Idx.mk _ rfl (And.intro rfl rfl))) ?_
    repeat (first | refine DrawO.mkF _ (And.intro rfl rfl) ?_ | refine DrawO.mkF _ (Idx.mk _ rfl (And.intro rfl rfl)) ?_)
    refine DrawO.mkF _ (And.intro (by first | omega | (dsimp only [List.length, cond]; omega) | decide) (And.intro rfl rfl)) ?_
    refine DrawO.mkF _ (And.intro (by first | omega | (dsimp only [List.length, cond]; omega) | decide) (And.intro rfl rfl)) ?_
    refine DrawO.mkF (u64 (wr .u64 (C * 2 ^ (min (8 * ((i : Int) % 8)).toNat 64)))) (And.intro (by omega) (by rw [hC]; exact And.intro rfl rfl)) ?_
    repeat (first | refine DrawO.mkF _ (And.intro rfl rfl) ?_ | refine DrawO.mkF _ (Idx.mk _ rfl (And.intro rfl rfl)) ?_)
    (conv => whnf); refine And.intro (by first | omega | (dsimp only [List.length, cond]; omega) | decide) ?_
    (conv => whnf); refine Idx.mk _ hg ?_
    (conv => whnf); refine And.intro (by first | omega | (dsimp only [List.length, cond]; omega) | decide) ?_
    (conv => whnf)
    refine ⟨8 * m - (i + 1), by omega, i + 1, ys.set (i / 8) (prt8 W (i / 8) (i % 8 + 1)), rfl, ?_, by omega, by rw [List.length_set]; exact hyl, fun j hj => ?_, rfl⟩
    · have e1 : Y = prt8 W (i / 8) (i % 8) := by rw [hY, hys _ (by omega)]; congr 1; omega
      have e2 := prt8_or hWb (i / 8) (i % 8) (by omega)
      rw [show 8 * (i / 8) + i % 8 = i from by omega, ← e1] at e2
      rw [← e2, hC, show (((i % 8 : Nat)) : Int) = (i : Int) % 8 from by omega, ← show ((i : Int) / 8).toNat = i / 8 from by omega]
      exact congrArg (fun z => [Obj.row _ _ z]) List.map_set.symm
    · rw [getD_set]
      by_cases e : i / 8 = j
      · subst e
        rw [if_pos ⟨rfl, by omega⟩]; congr 1; omega
      · rw [if_neg (fun h => e h.1), hys j hj]; congr 1; omega
  · have e : ys = numL W := ext_getD (by rw [numL_len, hWl, ← hm, hyl]) (fun j hj => by
      rw [hys j (by omega), numL_at _ (by rw [hWl]; omega)]; congr 1; omega)
    rw [e]
    (conv => whnf); refine (sBig_ct (numL W)).use ?_
    (conv => whnf); refine cond_i (fun h7 => ?_) (fun h7 => ?_)
    · have e : openE s p f t b = 4 := by unfold openE; rw [if_neg h', if_neg (by omega), if_neg (by omega), if_neg h4, ← hWh, if_pos h7]
      refine Is2.mk ?_
      unfold openV; rw [e]; rfl
    · have e : openE s p f t b = 0 := by unfold openE; rw [if_neg h', if_neg (by omega), if_neg (by omega), if_neg h4, ← hWh, if_neg (by rw [h7]; decide)]
      refine Is2.mk ?_
      unfold openV; rw [e, if_pos rfl, ← hWh]
end Go.Proofs.Ytofkdfodehfpdaa

/- Package seal's laws: the fixed fact; locking. -/
namespace Go.Proofs.Ytofkdfodehfpdaa
open Go.V Go.Num
open Go.Eng (wr)
set_option maxRecDepth 100000
set_option maxHeartbeats 4000000
def toB (l : List Int) : List UInt8 := l.map fun x => UInt8.ofNat x.toNat
theorem l8_toB {l : List Int} (h : By l) : l8 l = bytesD (toB l) := by
  unfold toB bytesD
  rw [List.map_map]
  refine List.map_congr_left (fun x hx => ?_)
  have := h x hx
  show D.int .u8 x = D.int .u8 ((UInt8.ofNat x.toNat).toNat : Nat)
  congr 1
  rw [UInt8.toNat_ofNat']; omega
theorem hidL_by (n f t : Int) {b : List Int} (h : By b) : By (hidL n f t b) := xorL_by _ _ _ _ h
theorem lockV_by (s p f t : Int) (vs : List Int) : By (lockV s p f t vs) := by
  unfold lockV
  split
  · exact hidL_by _ _ _ (le8_by vs)
  · intro x hx; cases hx
/-- What was locked is opened. -/
theorem open_lock {s p s' p' f t : Int} {vs : List Int} (h0 : lockE s p f t vs = 0) (h1 : agE s' p' = 0) (hv : agV s' p' = agV s p) (hr : ∀ v ∈ vs, 0 ≤ v ∧ v ≤ 18446744073709551615) : openE s' p' f t (lockV s p f t vs) = 0 ∧ openV s' p' f t (lockV s p f t vs) = vs := by
  have hl : lockV s p f t vs = hidL (agV s p) f t (le8 vs) := by unfold lockV; rw [if_pos h0]
  have hb : hidL (agV s' p') f t (lockV s p f t vs) = le8 vs := by rw [hv, hl, hid_hid _ _ _ _ (le8_by vs)]
  have hlen : (lockV s p f t vs).length = 8 * vs.length := by rw [hl, hidL_len, le8_len]
  have hg : (1 ≤ f ∧ f ≤ 64) ∧ 1 ≤ t ∧ t ≤ 64 := by
    refine Decidable.byContradiction (fun h => ?_)
    unfold lockE at h0; rw [if_pos h] at h0; cases h0
  have h8 : ¬ 8 < vs.length := fun h => by
    unfold lockE at h0; rw [if_neg (fun h => h hg), if_pos h] at h0; cases h0
  have hbig : ¬ vs.any (fun n => decide (2305843009213693951 ≤ n)) = true := fun h => by
    unfold lockE at h0; rw [if_neg (fun h => h hg), if_neg h8, if_pos h] at h0; cases h0
  have e : openE s' p' f t (lockV s p f t vs) = 0 := by
    unfold openE
    rw [if_neg (fun h => h hg), if_neg (by omega), if_neg (by omega), if_neg (fun h => h h1), hb, numL_le8 vs hr, if_neg hbig]
  refine ⟨e, ?_⟩
  unfold openV; rw [if_pos e, hb, numL_le8 vs hr]
theorem swho_ct (f t : Int) : Ct Try.prog 15 [i64 f, i64 t] [] (Is2 (.d (.bool (decide ((1 ≤ f ∧ f ≤ 64) ∧ 1 ≤ t ∧ t ≤ 64)))) []) := by
  refine Ct.introF (E := E 19 0 [.tmp 4] [] [] []) tab_ok Try.call15 Try.func15 rfl rfl rfl rfl rfl (fun hin => ?_)
  (conv => whnf); refine cond_d (fun h1 => ?_) (fun h1 => ?_)
  · (conv => whnf); refine cond_d (fun h2 => ?_) (fun h2 => ?_)
    · (conv => whnf); refine cond_d (fun h3 => ?_) (fun h3 => ?_)
      · refine isBool ?_
        simp [h1, h2, h3]
      · refine isBool ?_
        simp [h3]
    · refine isBool ?_
      simp [h2]
  · refine isBool ?_
    simp [h1]
theorem sAwake_ct : Ct Try.prog 16 [] [] (Is2 (.d (.bool true)) []) := by
  refine Ct.introF (E := E 48 0 [.tmp 0] [] [] []) tab_ok Try.call16 Try.func16 rfl rfl rfl rfl rfl (fun hin => ?_)
  (conv => whnf); refine (rPow_ct 37 5 (by decide) (by decide)).use ?_
  (conv => whnf); refine (rPow_ct 37 7 (by decide) (by decide)).use ?_
  obtain ⟨a, ha⟩ : ∃ z, z = pw 37 (5 : Int).toNat := ⟨_, rfl⟩
  obtain ⟨b, hb⟩ : ∃ z, z = pw 37 (7 : Int).toNat := ⟨_, rfl⟩
  rw [← ha, ← hb]
  have h1 : agE 5 b = 0 := by rw [hb]; decide +kernel
  have h2 : agE 7 a = 0 := by rw [ha]; decide +kernel
  have h3 : agV 7 a = agV 5 b := by rw [ha, hb]; decide +kernel
  have h4 : lockE 5 b 1 2 [9, 10] = 0 := by
    unfold lockE; rw [h1]; decide +kernel
  obtain ⟨ho1, ho2⟩ := open_lock h4 h2 h3 (by decide)
  have hl : (lockV 5 b 1 2 [9, 10]).length = 16 := by unfold lockV; rw [if_pos h4, hidL_len, le8_len]; rfl
  have hb8 := l8_len (lockV 5 b 1 2 [9, 10])
  (conv => whnf); refine (Lock_ct 5 b 1 2 [9, 10]).use ?_
  rw [h4]
  have hby : By (lockV 5 b 1 2 [9, 10]) := lockV_by _ _ _ _ _
  obtain ⟨x, hx⟩ : ∃ z, z = lockV 5 b 1 2 [9, 10] := ⟨_, rfl⟩
  rw [← hx] at hl hb8 hby ho1 ho2
  rw [← hx]
  (conv => whnf); refine cond_n (by omega) ?_
  (conv => whnf); refine (Open_ct 7 a 1 2 x hby).use ?_
  (conv => whnf); refine And.intro (by first | omega | (dsimp only [List.length, cond]; omega) | decide) ?_
  have hby7 : By (x.take 7) := fun y hy => hby y (List.mem_of_mem_take hy)
  have h7 : (x.take 7).length = 7 := by rw [List.length_take]; omega
  have he7 : openE 7 a 1 2 (x.take 7) = 2 := by unfold openE; rw [if_neg (by decide), if_pos (by rw [h7]; decide)]
  have hc : Ct Try.prog 19 [u64 7, u64 a, i64 1, i64 2, .d (.ro ((l8 x).take (7 : Int).toNat))] [] (Is2 (.tup [L (openV 7 a 1 2 (x.take 7)), i64 (openE 7 a 1 2 (x.take 7))]) []) := by
    rw [l8_take]; exact Open_ct 7 a 1 2 (x.take 7) hby7
  (conv => whnf); refine (hc).use ?_
  rw [ho1, ho2, he7]
  (conv => whnf); refine (Same_ct [9, 10] [9, 10]).use ?_
  refine isBool ?_
  decide
theorem SealLocks_ct (s p f t : Int) (vs : List Int) : Ct Try.prog 3 [u64 s, u64 p, i64 f, i64 t, L vs] [] (Is2 (.d (.bool true)) []) := by
  refine Ct.introF (E := E 81 0 [.tmp 10] [(10, [2, 3, 4, 11, 12, 13, 14]), (7, [2, 3, 4, 11, 12, 13, 14, 15])] [(6, [2, 3, 4, 11, 12, 13, 14, 15])] []) tab_ok Try.call3 Try.func3 rfl rfl rfl rfl rfl (fun hin => ?_)
  have hlv := li_len vs
  have hp := inr_u64 hin.2.1
  (conv => whnf); refine (Lock_ct s p f t vs).use ?_
  (conv => whnf); refine (rAgree_ct s p hp).use ?_
  (conv => whnf); refine JoinI.mk (fun ws os => ws = [i64 f, i64 t, L vs, R8 (lockV s p f t vs), i64 (lockE s p f t vs), u64 (agV s p), i64 (lockE s p f t vs)] ∧ os = []) ?_ ?_
  · (conv => whnf); refine (swho_ct f t).use ?_
    (conv => whnf); refine cond_nd (fun h => ?_) (fun h => ?_)
    · have e : lockE s p f t vs = 1 := by unfold lockE; rw [if_pos h]
      (conv => whnf)
      rw [e]
      exact ⟨rfl, rfl⟩
    have h' : ¬ ¬ ((1 ≤ f ∧ f ≤ 64) ∧ 1 ≤ t ∧ t ≤ 64) := fun h3 => h3 h
    (conv => whnf); refine cond_d (fun h2 => ?_) (fun h2 => ?_)
    · have e : lockE s p f t vs = 1 := by unfold lockE; rw [if_neg h', if_pos (by omega)]
      (conv => whnf)
      rw [e]
      exact ⟨rfl, rfl⟩
    obtain ⟨lV, hV⟩ : ∃ z, z = lockV s p f t vs := ⟨_, rfl⟩
    obtain ⟨lE, hE⟩ : ∃ z, z = lockE s p f t vs := ⟨_, rfl⟩
    obtain ⟨aE, hA⟩ : ∃ z, z = agE s p := ⟨_, rfl⟩
    obtain ⟨aV, hAV⟩ : ∃ z, z = agV s p := ⟨_, rfl⟩
    have e : lE = if vs.any (fun n => decide (2305843009213693951 ≤ n)) = true then 4 else aE := by
      rw [hE, hA]; unfold lockE; rw [if_neg h', if_neg (by omega)]
    rw [← hV, ← hE, ← hA, ← hAV]
    (conv => whnf); refine LoopI.mk (fun q ws os => ∃ i : Nat, ws = [i64 f, i64 t, L vs, R8 lV, i64 lE, u64 aV, i64 (if (vs.take i).any (fun n => decide (2305843009213693951 ≤ n)) = true then 4 else aE), i64 i] ∧ os = [] ∧ i ≤ vs.length ∧ q = vs.length - i) vs.length ⟨0, rfl, rfl, Nat.zero_le _, rfl⟩ ?_
    rintro q _ _ ⟨i, rfl, rfl, h1, rfl⟩
    (conv => whnf); refine cond_d (fun h3 => ?_) (fun h3 => ?_)
    · have hi : i < vs.length := by omega
      have hs : (vs.take (i + 1)).any (fun n => decide (2305843009213693951 ≤ n)) = ((vs.take i).any (fun n => decide (2305843009213693951 ≤ n)) || decide (2305843009213693951 ≤ vs.getD i 0)) := any_take (getD_at hi)
      (conv => whnf); refine JoinI.mk (fun ws os => ws = [i64 f, i64 t, L vs, R8 lV, i64 lE, u64 aV, i64 (if (vs.take (i + 1)).any (fun n => decide (2305843009213693951 ≤ n)) = true then 4 else aE), i64 i] ∧ os = []) ?_ ?_
      · (conv => whnf); refine And.intro (by omega) (Idx.mk _ (li_get hi) ?_)
        (conv => whnf); refine Idx.mk _ rfl ?_
        (conv => whnf); refine cond_d (fun h4 => ?_) (fun h4 => ?_)
        · (conv => whnf)
          rw [hs, decide_eq_true h4, Bool.or_true]
          exact ⟨rfl, rfl⟩
        · (conv => whnf)
          rw [hs, decide_eq_false h4, Bool.or_false]
          exact ⟨rfl, rfl⟩
      rintro _ _ ⟨rfl, rfl⟩
      (conv => whnf); refine And.intro (by first | omega | (dsimp only [List.length, cond]; omega) | decide) ?_
      (conv => whnf)
      exact ⟨vs.length - (i + 1), by omega, i + 1, rfl, rfl, by omega, rfl⟩
    · rw [List.take_of_length_le (by omega), ← e]
      (conv => whnf)
      exact ⟨rfl, rfl⟩
  rintro _ _ ⟨rfl, rfl⟩
  have hV0 : lockE s p f t vs ≠ 0 → lockV s p f t vs = [] := fun h => by unfold lockV; rw [if_neg h]
  (conv => whnf); refine cond_d (fun h => ?_) (fun h => ?_)
  · (conv => whnf); refine (sAwake_ct).use ?_
    (conv => whnf); refine cond_y rfl ?_
    refine isBool ?_
    rw [hV0 h]; rfl
  · have h0 : lockE s p f t vs = 0 := Decidable.of_not_not h
    (conv => whnf); refine DrawI.mkF 16 [[], [64], [12, 65], [65, 66], [65, 67], [68], [11, 69], [69, 70], [13, 69], [2, 69], [3, 69], [4, 69], [69, 75], [69, 72, 73, 74, 76], [69, 77], [69, 71, 78]] (by decide +kernel) ?_
    have hV1 : lockV s p f t vs = hidL (agV s p) f t (le8 vs) := by unfold lockV; rw [if_pos h0]
    have hg : (1 ≤ f ∧ f ≤ 64) ∧ 1 ≤ t ∧ t ≤ 64 := by
      refine Decidable.byContradiction (fun h => ?_)
      unfold lockE at h0; rw [if_pos h] at h0; cases h0
    have h8 : ¬ 8 < vs.length := fun h => by
      unfold lockE at h0; rw [if_neg (fun h => h hg), if_pos h] at h0; cases h0
    have hl8 := le8_len vs
    refine DrawO.mkF _ ((sAwake_ct).use (And.intro rfl rfl)) ?_
    repeat (first | refine DrawO.mkF _ (And.intro rfl rfl) ?_ | refine DrawO.mkF _ (Idx.mk _ rfl (And.intro rfl rfl)) ?_)
    (conv => whnf); refine cond_y h0 ?_
    repeat (first | refine DrawO.mkF _ (And.intro rfl rfl) ?_ | refine DrawO.mkF _ (Idx.mk _ rfl (And.intro rfl rfl)) ?_)
    refine DrawO.mkF (.d (.str (toB (lockV s p f t vs)))) ⟨_, l8_toB (lockV_by s p f t vs), And.intro rfl rfl⟩ ?_
    repeat (first | refine DrawO.mkF _ (And.intro rfl rfl) ?_ | refine DrawO.mkF _ (Idx.mk _ rfl (And.intro rfl rfl)) ?_)
    refine DrawO.mkF _ ((rBytes8_ct vs (by omega)).use (And.intro rfl rfl)) ?_
    refine DrawO.mkF _ ((rHidden_ct (agV s p) f t (le8 vs) (by omega) (by omega) (by omega)).use (And.intro rfl rfl)) ?_
    refine DrawO.mkF (.d (.str (toB (hidL (agV s p) f t (le8 vs))))) ⟨_, l8_toB (hidL_by _ _ _ (le8_by vs)), And.intro rfl rfl⟩ ?_
    repeat (first | refine DrawO.mkF _ (And.intro rfl rfl) ?_ | refine DrawO.mkF _ (Idx.mk _ rfl (And.intro rfl rfl)) ?_)
    refine isBool ?_
    rw [hV1]; simp
end Go.Proofs.Ytofkdfodehfpdaa

/- Package seal's laws: opening; what is locked is opened. -/
namespace Go.Proofs.Ytofkdfodehfpdaa
open Go.V Go.Num
open Go.Eng (wr)
set_option maxRecDepth 100000
set_option maxHeartbeats 4000000
theorem or_add' {a b : Int} (ha : 0 ≤ a ∧ a < 256) (hb : 0 ≤ b) : (((b * 256).toNat ||| a.toNat : Nat) : Int) = b * 256 + a := by
  have := or_add (k := 8) (a := a) (b := b) ⟨ha.1, ha.2⟩ hb
  rw [Nat.or_comm, show (b * 256 : Int) = b * 2 ^ 8 from rfl, this]; omega
theorem prt8_back {W : List Int} (j k : Nat) (x : Int) (h : prt8 W j (k + 1) + 2 ^ (8 * (k + 1)) * x = prt8 W j 8) : prt8 W j k + 2 ^ (8 * k) * (x * 256 + W.getD (8 * j + k) 0) = prt8 W j 8 := by
  rw [← h]
  have e2 : (2 : Int) ^ (8 * (k + 1)) = 2 ^ (8 * k) * 256 := by rw [Nat.mul_add, Int.pow_add]; rfl
  show _ = prt8 W j k + W.getD (8 * j + k) 0 * 2 ^ (8 * k) + _
  rw [e2]
  grind
theorem li_app' (xs ys : List Int) : li xs ++ li ys = li (xs ++ ys) := List.map_append.symm
theorem SealOpens_ct (s p f t : Int) (b : List Int) : Ct Try.prog 4 [u64 s, u64 p, i64 f, i64 t, R8 b] [] (Is2 (.d (.bool true)) []) := by
  refine Ct.introF (E := E 120 0 [.tmp 10] [(7, [2, 3, 4, 11, 12, 13, 14])] [(13, [11, 12, 15, 16, 17, 18]), (17, [11, 12, 15, 16, 17, 18, 19, 20])] []) tab_ok Try.call4 Try.func4 rfl rfl rfl rfl rfl (fun hin => ?_)
  have hlb := l8_len b
  have hp := inr_u64 hin.2.1
  have hby := by_of hin.2.2.2.2.1
  (conv => whnf); refine (Open_ct s p f t b hby).use ?_
  (conv => whnf); refine (rAgree_ct s p hp).use ?_
  (conv => whnf); refine JoinI.mk (fun ws os => ∃ F : Int, ws = [i64 f, i64 t, R8 b, L (openV s p f t b), i64 (openE s p f t b), u64 (agV s p), i64 F] ∧ os = [] ∧ (F ≠ 0 → openE s p f t b = F) ∧ (F = 0 → ((1 ≤ f ∧ f ≤ 64) ∧ 1 ≤ t ∧ t ≤ 64) ∧ b.length % 8 = 0 ∧ b.length ≤ 64 ∧ agE s p = 0)) ?_ ?_
  · (conv => whnf); refine (swho_ct f t).use ?_
    (conv => whnf); refine cond_nd (fun h => ?_) (fun h => ?_)
    · (conv => whnf)
      exact ⟨1, rfl, rfl, fun _ => by unfold openE; rw [if_pos h], fun h => by cases h⟩
    have h' : ¬ ¬ ((1 ≤ f ∧ f ≤ 64) ∧ 1 ≤ t ∧ t ≤ 64) := fun h3 => h3 h
    (conv => whnf); refine And.intro (by first | omega | (dsimp only [List.length, cond]; omega) | decide) ?_
    (conv => whnf); refine cond_d (fun h2 => ?_) (fun h2 => ?_)
    · (conv => whnf)
      exact ⟨2, rfl, rfl, fun _ => by unfold openE; rw [if_neg h', if_pos (by omega)], fun h => by cases h⟩
    (conv => whnf); refine cond_d (fun h3 => ?_) (fun h3 => ?_)
    · (conv => whnf)
      exact ⟨2, rfl, rfl, fun _ => by unfold openE; rw [if_neg h', if_neg (by omega), if_pos (by omega)], fun h => by cases h⟩
    · (conv => whnf)
      exact ⟨agE s p, rfl, rfl, fun h4 => by unfold openE; rw [if_neg h', if_neg (by omega), if_neg (by omega), if_pos h4], fun h4 => ⟨h, by omega, by omega, h4⟩⟩
  rintro _ _ ⟨F, rfl, rfl, hF, hF0⟩
  (conv => whnf); refine cond_d (fun h => ?_) (fun h => ?_)
  · have e := hF h
    have eV : openV s p f t b = [] := by unfold openV; rw [if_neg (by rw [e]; exact h)]
    (conv => whnf); refine (sAwake_ct).use ?_
    rw [e]
    (conv => whnf); refine cond_y rfl ?_
    refine isBool ?_
    rw [eV]; rfl
  obtain ⟨hg, hm8, h64, h0⟩ := hF0 (Decidable.of_not_not h)
  (conv => whnf); refine (rHidden_ct (agV s p) f t b (by omega) (by omega) (by omega)).use ?_
  obtain ⟨W, hW⟩ : ∃ z, z = hidL (agV s p) f t b := ⟨_, rfl⟩
  have hWl : W.length = b.length := by rw [hW, hidL_len]
  have hWb : By W := by rw [hW]; exact hidL_by _ _ _ hby
  have hlW := l8_len W
  rw [← hW]
  obtain ⟨V, hV⟩ : ∃ z, z = numL W := ⟨_, rfl⟩
  have hVl : V.length = b.length / 8 := by rw [hV, numL_len, hWl]
  obtain ⟨oV, hoV⟩ : ∃ z, z = openV s p f t b := ⟨_, rfl⟩
  obtain ⟨oE, hoE⟩ : ∃ z, z = openE s p f t b := ⟨_, rfl⟩
  have hoE2 : oE = if V.any (fun n => decide (2305843009213693951 ≤ n)) = true then 4 else 0 := by
    rw [hoE, hV, hW]; unfold openE
    rw [if_neg (fun h => h hg), if_neg (by omega), if_neg (by omega), if_neg (fun h => h h0)]
  have hoV2 : oV = if oE = 0 then V else [] := by rw [hoV, hoE, hV, hW]; rfl
  rw [← hoV, ← hoE]
  (conv => whnf); refine LoopI.mk (fun q ws os => ∃ j : Nat, ws = [L oV, i64 oE, R8 W, .sl 0, .d (.bool ((V.take j).any (fun n => decide (2305843009213693951 ≤ n)))), i64 (8 * j : Nat)] ∧ os = [.row 22 1 (li (V.take j))] ∧ j ≤ b.length / 8 ∧ q = b.length / 8 - j) (b.length / 8) ⟨0, rfl, rfl, Nat.zero_le _, rfl⟩ ?_
  rintro q _ _ ⟨j, rfl, rfl, h1, rfl⟩
  (conv => whnf); refine cond_d (fun h2 => ?_) (fun h2 => ?_)
  · have hj : j < V.length := by omega
    (conv => whnf); refine LoopI.mk (fun q ws os => ∃ (k : Nat) (x : Int), ws = [L oV, i64 oE, R8 W, .sl 0, .d (.bool ((V.take j).any (fun n => decide (2305843009213693951 ≤ n)))), i64 (8 * j : Nat), u64 x, i64 ((k : Int) - 1)] ∧ os = [.row 22 1 (li (V.take j))] ∧ k ≤ 8 ∧ (0 ≤ x ∧ x < 2 ^ (8 * (8 - k))) ∧ prt8 W j k + 2 ^ (8 * k) * x = prt8 W j 8 ∧ k = q) 8 ⟨8, 0, rfl, rfl, by omega, by decide, by rw [Int.mul_zero, Int.add_zero], rfl⟩ ?_
    rintro q _ _ ⟨k, x, rfl, rfl, h3, hx, hxe, rfl⟩
    (conv => whnf); refine cond_d (fun h4 => ?_) (fun h4 => ?_)
    · obtain ⟨k, rfl⟩ : ∃ k', k = k' + 1 := ⟨k - 1, by omega⟩
      (conv => whnf); refine And.intro (by first | omega | (dsimp only [List.length, cond]; omega) | decide) ?_
      have hg8 : (l8 W)[(((8 * j : Nat) : Int) + (((k + 1 : Nat) : Int) - 1)).toNat]? = some (.int .u8 (W.getD (8 * j + k) 0)) := by
        rw [show (((8 * j : Nat) : Int) + (((k + 1 : Nat) : Int) - 1)).toNat = 8 * j + k from by omega]; exact l8_get (by omega)
      (conv => whnf); refine And.intro (by omega) (Idx.mk _ hg8 ?_)
      (conv => whnf); refine Idx.mk _ rfl ?_
      (conv => whnf); refine And.intro (by first | omega | (dsimp only [List.length, cond]; omega) | decide) ?_
      (conv => whnf)
      have hb8 := hWb.getD (8 * j + k)
      have hx56 : x < 72057594037927936 := by
        have := p8_le (k := 8 - (k + 1)) (by omega)
        omega
      have hwr : wr .u64 (x * 256) = x * 256 := wr_small (by omega)
      have hor : (((wr .u64 (x * 2 ^ (min (8 : Int).toNat 64))).toNat ||| (W.getD (8 * j + k) 0).toNat : Nat) : Int) = x * 256 + W.getD (8 * j + k) 0 := by
        rw [show (2 : Int) ^ (min (8 : Int).toNat 64) = 256 from rfl, hwr, or_add' (by omega) hx.1]
      refine ⟨k, by omega, k, x * 256 + W.getD (8 * j + k) 0, ?_, rfl, by omega, ⟨by omega, ?_⟩, prt8_back j k x hxe, rfl⟩
      · rw [← hor, show ((k + 1 : Nat) : Int) - 1 = (k : Int) from by omega]; rfl
      · rw [show 8 - k = (8 - (k + 1)) + 1 from by omega, Nat.mul_add, Int.pow_add]
        have : (2 : Int) ^ (8 * 1) = 256 := rfl
        rw [this]
        generalize (2 : Int) ^ (8 * (8 - (k + 1))) = r at hx ⊢
        omega
    · obtain rfl : k = 0 := by omega
      have hxv : x = V.getD j 0 := by
        rw [hV, numL_at _ (by omega), ← hxe]; simp [prt8]
      have hs : (V.take (j + 1)).any (fun n => decide (2305843009213693951 ≤ n)) = ((V.take j).any (fun n => decide (2305843009213693951 ≤ n)) || decide (2305843009213693951 ≤ V.getD j 0)) := any_take (getD_at hj)
      have htk := li_len (V.take j)
      have hfin : li (V.take j) ++ [D.int .u64 x] = li (V.take (j + 1)) := by
        rw [hxv, show [D.int .u64 (V.getD j 0)] = li [V.getD j 0] from rfl, li_app', ← take_succ' hj]
      have hi8 : ((8 * j : Nat) : Int) + 8 = ((8 * (j + 1) : Nat) : Int) := by omega
      (conv => whnf); refine And.intro ⟨by rw [htk, List.length_take]; dsimp only [List.length]; omega, fun y hy => by cases hy with | head => rfl | tail _ h => cases h⟩ ?_
      have go : ∀ c : Bool, (V.take j).any (fun n => decide (2305843009213693951 ≤ n)) = c → (V.take (j + 1)).any (fun n => decide (2305843009213693951 ≤ n)) = (c || decide (2305843009213693951 ≤ V.getD j 0)) := fun c hc => by rw [hs, hc]
      (conv => whnf); refine cond_i (fun h5 => ?_) (fun h5 => ?_)
      · (conv => whnf); refine And.intro (by first | omega | (dsimp only [List.length, cond]; omega) | decide) ?_
        (conv => whnf)
        refine ⟨b.length / 8 - (j + 1), by omega, j + 1, ?_, ?_, by omega, rfl⟩
        · rw [go _ h5, hi8]; rfl
        · rw [← hfin]; rfl
      · (conv => whnf); refine And.intro (by first | omega | (dsimp only [List.length, cond]; omega) | decide) ?_
        (conv => whnf)
        refine ⟨b.length / 8 - (j + 1), by omega, j + 1, ?_, ?_, by omega, rfl⟩
        · rw [go _ h5, hi8, hxv]; rfl
        · rw [← hfin]; rfl
  · have hfull : V.take j = V := List.take_of_length_le (by omega)
    rw [hfull]
    (conv => whnf); refine cond_i (fun h5 => ?_) (fun h5 => ?_)
    · have hE4 : oE = 4 := by rw [hoE2, if_pos h5]
      have hoN : oV = [] := by rw [hoV2, if_neg (by rw [hE4]; decide)]
      (conv => whnf); refine (sAwake_ct).use ?_
      rw [hE4]
      refine isBool ?_
      rw [hoN]; rfl
    · have hE0 : oE = 0 := by rw [hoE2, if_neg (by rw [h5]; decide)]
      have hoN : oV = V := by rw [hoV2, if_pos hE0]
      (conv => whnf); refine (sAwake_ct).use ?_
      rw [hE0, hoN]
      (conv => whnf); refine (Same_ct V V).use ?_
      refine isBool ?_
      simp
theorem pw_comm (a b : Int) (ha : a ≤ 18446744073709551615) (hb : b ≤ 18446744073709551615) : pw (pw 37 a.toNat) b.toNat = pw (pw 37 b.toNat) a.toNat := by
  have h1 : a.toNat < 2 ^ 64 := by omega
  have h2 : b.toNat < 2 ^ 64 := by omega
  rw [pw_eq _ h2, pw_eq _ h1, pw_eq _ h1, pw_eq _ h2, pow_mod, pow_mod, ← Int.pow_mul, ← Int.pow_mul, Nat.mul_comm]
theorem SealBack_ct (a b f t : Int) (vs : List Int) : Ct Try.prog 5 [u64 a, u64 b, u8 f, u8 t, L vs] [] (Is2 (.d (.bool true)) []) := by
  refine Ct.introF (E := E 81 0 [.tmp 10] [] [] []) tab_ok Try.call5 Try.func5 rfl rfl rfl rfl rfl (fun hin => ?_)
  have hf := hin.2.2.1
  have ht := hin.2.2.2.1
  have ha := inr_u64 hin.1
  have hb := inr_u64 hin.2.1
  have hf0 : 0 ≤ f := hf.1
  have ht0 : 0 ≤ t := ht.1
  have hvr : ∀ v ∈ vs, 0 ≤ v ∧ v ≤ 18446744073709551615 := fun v hv => by
    have := hin.2.2.2.2.1.2 (.int .u64 v) (by
      rw [show cellsOf (li vs) = li vs from by rw [cellsOf_one]; intro y hy; obtain ⟨z, _, rfl⟩ := List.mem_map.1 hy; rfl]
      exact List.mem_map_of_mem hv)
    exact this
  (conv => whnf); refine (rPow_ct 37 a (by decide) (by omega)).use ?_
  (conv => whnf); refine (rPow_ct 37 b (by decide) (by omega)).use ?_
  obtain ⟨x, hx⟩ : ∃ z, z = pw 37 a.toNat := ⟨_, rfl⟩
  obtain ⟨y, hy⟩ : ∃ z, z = pw 37 b.toNat := ⟨_, rfl⟩
  rw [← hx, ← hy]
  (conv => whnf); refine And.intro (by first | omega | (dsimp only [List.length, cond]; omega) | decide) ?_
  (conv => whnf); refine And.intro (by first | omega | (dsimp only [List.length, cond]; omega) | decide) ?_
  (conv => whnf); refine And.intro (by first | omega | (dsimp only [List.length, cond]; omega) | decide) ?_
  (conv => whnf); refine And.intro (by first | omega | (dsimp only [List.length, cond]; omega) | decide) ?_
  obtain ⟨i, hi⟩ : ∃ z, z = f % 64 + 1 := ⟨_, rfl⟩
  obtain ⟨k, hk⟩ : ∃ z, z = t % 64 + 1 := ⟨_, rfl⟩
  rw [← hi, ← hk]
  (conv => whnf); refine (Lock_ct a y i k vs).use ?_
  (conv => whnf); refine (sAwake_ct).use ?_
  (conv => whnf); refine cond_d (fun h1 => ?_) (fun h1 => ?_)
  · (conv => whnf); refine (sAwake_ct).use ?_
    exact isBool rfl
  have h0 : lockE a y i k vs = 0 := Decidable.of_not_not h1
  (conv => whnf); refine (rGood_ct x).use ?_
  (conv => whnf); refine cond_nd (fun h2 => ?_) (fun h2 => ?_)
  · (conv => whnf); refine (sAwake_ct).use ?_
    exact isBool rfl
  (conv => whnf); refine (Open_ct b x i k (lockV a y i k vs) (lockV_by _ _ _ _ _)).use ?_
  have hg : (1 ≤ i ∧ i ≤ 64) ∧ 1 ≤ k ∧ k ≤ 64 := by
    refine Decidable.byContradiction (fun h => ?_)
    unfold lockE at h0; rw [if_pos h] at h0; cases h0
  have h8 : ¬ 8 < vs.length := fun h => by
    unfold lockE at h0; rw [if_neg (fun h => h hg), if_pos h] at h0; cases h0
  have hl : (lockV a y i k vs).length = 8 * vs.length := by
    unfold lockV; rw [if_pos h0, hidL_len, le8_len]
  have hbad : ¬ (1 ≤ b ∧ b ≤ 2305843009213693949) → openE b x i k (lockV a y i k vs) = 1 ∧ openV b x i k (lockV a y i k vs) = [] := fun h => by
    have ea : agE b x = 1 := by unfold agE; rw [if_pos h]
    have e : openE b x i k (lockV a y i k vs) = 1 := by
      unfold openE; rw [if_neg (fun h => h hg), if_neg (by omega), if_neg (by omega), if_pos (by rw [ea]; decide), ea]
    exact ⟨e, by unfold openV; rw [if_neg (by rw [e]; decide)]⟩
  (conv => whnf); refine cond_d (fun h3 => ?_) (fun h3 => ?_)
  · obtain ⟨e1, e2⟩ := hbad (by omega)
    rw [e1, e2]
    exact isBool rfl
  (conv => whnf); refine cond_d (fun h4 => ?_) (fun h4 => ?_)
  · obtain ⟨e1, e2⟩ := hbad (by omega)
    rw [e1, e2]
    exact isBool rfl
  have ea : agE b x = 0 := by unfold agE; rw [if_neg (fun h => h (by omega)), if_neg (fun h => h h2)]
  have eb : agE a y = 0 := by
    unfold lockE at h0
    rw [if_neg (fun h => h hg), if_neg h8] at h0
    split at h0
    · cases h0
    · exact h0
  obtain ⟨e1, e2⟩ := open_lock h0 ea (by unfold agV; rw [if_pos ea, if_pos eb, hx, hy]; exact (pw_comm a b ha.2 hb.2)) hvr
  rw [e1, e2]
  (conv => whnf); refine (Same_ct vs vs).use ?_
  refine isBool ?_
  simp
end Go.Proofs.Ytofkdfodehfpdaa

/- Package mask's laws: the fixed fact; pairs, hiding, what is left, beginnings. -/
namespace Go.Proofs.Ytofkdfodehfpdaa.Ring
open Go.V Go.Num
open Go.Eng (wr)
set_option maxRecDepth 100000
set_option maxHeartbeats 4000000
theorem Cells_ct (a b : List Int) : Ct Try.prog 24 [R32 a, R32 b] [] (Is2 (.d (.bool (decide (a = b)))) []) := by
  refine Ct.introF (E := E 26 0 [.tmp 4] [] [(4, [0, 1, 5])] []) tab_ok Try.call24 Try.func24 rfl rfl rfl rfl rfl (fun hin => ?_)
  obtain ⟨⟨ha, _⟩, ⟨hb, _⟩, _⟩ := hin
  have la := l32_len a
  have lb := l32_len b
  (conv => whnf); refine cond_d (fun h => ?_) (fun h => ?_)
  · refine isBool ?_
    rw [decide_eq_false]; rintro rfl; omega
  · (conv => whnf); refine LoopI.mk (fun n vs os => ∃ i : Nat, vs = [R32 a, R32 b, i64 i] ∧ os = [] ∧ i ≤ a.length ∧ a.take i = b.take i ∧ n = a.length - i) a.length ⟨0, rfl, rfl, Nat.zero_le _, rfl, rfl⟩ ?_
    rintro n _ _ ⟨i, rfl, rfl, h1, h2, rfl⟩
    (conv => whnf); refine cond_d (fun h3 => ?_) (fun h3 => ?_)
    · (conv => whnf); refine DrawI.mkF 8 [[0], [5], [17, 18], [19], [1], [5], [21, 22], [23]] (by decide +kernel) ?_
      repeat (first | refine DrawO.mkF _ (And.intro rfl rfl) ?_ | refine DrawO.mkF _ (Idx.mk _ rfl (And.intro rfl rfl)) ?_)
      refine DrawO.mkF _ (And.intro (by omega) (Idx.mk _ (l32_geti (by omega)) (And.intro rfl rfl))) ?_
      repeat (first | refine DrawO.mkF _ (And.intro rfl rfl) ?_ | refine DrawO.mkF _ (Idx.mk _ rfl (And.intro rfl rfl)) ?_)
      refine DrawO.mkF _ (And.intro (by omega) (Idx.mk _ (l32_geti (by omega)) (And.intro rfl rfl))) ?_
      repeat (first | refine DrawO.mkF _ (And.intro rfl rfl) ?_ | refine DrawO.mkF _ (Idx.mk _ rfl (And.intro rfl rfl)) ?_)
      (conv => whnf); refine cond_d (fun h4 => ?_) (fun h4 => ?_)
      · refine isBool ?_
        rw [decide_eq_false]; rintro rfl; exact h4 rfl
      · (conv => whnf); refine And.intro (by first | omega | (dsimp only [List.length, cond]; omega) | decide) ?_
        conv => whnf
        refine ⟨a.length - (i + 1), by omega, i + 1, rfl, rfl, by omega, ?_, rfl⟩
        rw [take_succ' (by omega), take_succ' (by omega), h2, Decidable.of_not_not h4]
    · refine isBool ?_
      rw [decide_eq_true]
      have e1 : a.take i = a := List.take_of_length_le (by omega)
      have e2 : b.take i = b := List.take_of_length_le (by omega)
      rw [← e1, h2, e2]
def fewS (cs : List Cd) : List Cd := if 6 < cs.length ∧ cs.length ≤ 64 then cs.take 6 else cs
theorem few_ct' (cs : List Cd) : Ct Try.prog 29 [LC cs] [] (Is2 (LC (fewS cs)) []) := by
  refine Ct.introF (E := E 14 0 [.tmp 2] [] [] []) tab_ok Try.call29 Try.func29 rfl rfl rfl rfl rfl (fun hin => ?_)
  have hlc := lc_len cs
  (conv => whnf); refine cond_d (fun h1 => ?_) (fun h1 => ?_)
  · (conv => whnf); refine cond_d (fun h2 => ?_) (fun h2 => ?_)
    · (conv => whnf); refine And.intro (by first | omega | (dsimp only [List.length, cond]; omega) | decide) ?_
      refine Is2.mk ?_
      unfold fewS; rw [if_pos (by omega)]
      show AV.d (.ro (lc (cs.take 6))) = AV.d (.ro ((lc cs).take 6))
      rw [show (lc cs).take 6 = lc (cs.take 6) from List.map_take.symm]
    · refine Is2.mk ?_
      unfold fewS; rw [if_neg (by omega)]
  · refine Is2.mk ?_
    unfold fewS; rw [if_neg (by omega)]
theorem agV_comm {a b : Int} (ha : a ≤ 18446744073709551615) (hb : b ≤ 18446744073709551615) (h1 : agE a (pw 37 b.toNat) = 0) (h2 : agE b (pw 37 a.toNat) = 0) : agV a (pw 37 b.toNat) = agV b (pw 37 a.toNat) := by
  unfold agV; rw [if_pos h1, if_pos h2]; exact pw_comm b a hb ha
theorem aw_e1 (a b : Int) (h1 : agE 5 b = 0) : hideE 1 1 5 [(1, 0, a), (2, 0, b)] = 0 := by
  have hs : sndB 1 1 [(1, 0, a), (2, 0, b)] = true := rfl
  unfold hideE; rw [if_pos hs]
  simp [mErrN, h1]
theorem aw_e2 (a b : Int) (h2 : agE 7 a = 0) : hideE 2 1 7 [(1, 0, a), (2, 0, b)] = 0 := by
  have hs : sndB 2 1 [(1, 0, a), (2, 0, b)] = true := rfl
  unfold hideE; rw [if_pos hs]
  simp [mErrN, h2]
theorem aw_e3 (a : Int) (h2 : agE 7 a = 0) : hideE 2 1 7 [(1, 0, a)] = 0 := by
  have hs : sndB 2 1 [(1, 0, a)] = true := rfl
  unfold hideE; rw [if_pos hs]
  simp [mErrN, h2]
theorem aw_v1 (a b : Int) (O : List Int) : hideV [1] O 1 5 [(1, 0, a), (2, 0, b)] = [wr .u32 (1 + O.getD 0 0 + (mkV 5 b 1).getD 0 0)] := by
  have e : mSumN false 1 5 1 [(1, 0, a), (2, 0, b)] 0 2 = (mkV 5 b 1).getD 0 0 := by
    simp [mSumN, mTerm]
  show [wr .u32 (1 + O.getD 0 0 + mSumN false 1 5 1 [(1, 0, a), (2, 0, b)] 0 2)] = _
  rw [e]
theorem aw_v2 (a b : Int) (O : List Int) : hideV [2] O 2 7 [(1, 0, a), (2, 0, b)] = [wr .u32 (2 + O.getD 0 0 + -(mkV 7 a 1).getD 0 0)] := by
  have e : mSumN false 2 7 1 [(1, 0, a), (2, 0, b)] 0 2 = -(mkV 7 a 1).getD 0 0 := by
    simp [mSumN, mTerm]
  show [wr .u32 (2 + O.getD 0 0 + mSumN false 2 7 1 [(1, 0, a), (2, 0, b)] 0 2)] = _
  rw [e]
theorem aw_v3 (a : Int) : leftV 2 7 [(1, 0, a)] 1 true = [wr .u32 ((mkV 7 a 1).getD 0 0)] := by
  have e : mSumN true 2 7 1 [(1, 0, a)] 0 1 = (mkV 7 a 1).getD 0 0 := by
    simp [mSumN, mTerm]
  show [wr .u32 (mSumN true 2 7 1 [(1, 0, a)] 0 1)] = _
  rw [e]
theorem mAwake_ct : Ct Try.prog 27 [] [] (Is2 (.d (.bool true)) []) := by
  refine Ct.introF (E := E 89 0 [.tmp 0] [] [] []) tab_ok Try.call27 Try.func27 rfl rfl rfl rfl rfl (fun hin => ?_)
  (conv => whnf); refine (rPow_ct 37 5 (by decide) (by decide)).use ?_
  (conv => whnf); refine (rPow_ct 37 7 (by decide) (by decide)).use ?_
  obtain ⟨a, ha⟩ : ∃ z, z = pw 37 (5 : Int).toNat := ⟨_, rfl⟩
  obtain ⟨b, hb⟩ : ∃ z, z = pw 37 (7 : Int).toNat := ⟨_, rfl⟩
  rw [← ha, ← hb]
  have h1 : agE 5 b = 0 := by rw [hb]; decide +kernel
  have h2 : agE 7 a = 0 := by rw [ha]; decide +kernel
  have h3 : agV 7 a = agV 5 b := by rw [ha, hb]; decide +kernel
  obtain ⟨Z, hZ⟩ : ∃ z : List Int, z = List.replicate 32 0 := ⟨_, rfl⟩
  have hZl : Z.length = 32 := by rw [hZ]; rfl
  obtain ⟨O, hO⟩ : ∃ z, z = vecL Z 4 1 := ⟨_, rfl⟩
  have hOl : O.length = 1 := by rw [hO, vecL_len]; rfl
  obtain ⟨M, hM⟩ : ∃ z, z = mkV 5 b 1 := ⟨_, rfl⟩
  have hM2 : mkV 7 a 1 = M := by rw [hM]; unfold mkV; rw [h3]
  have hMl : M.length = 1 := by rw [hM]; exact mkV_len _ _ (by decide)
  have hMr : 0 ≤ M.getD 0 0 ∧ M.getD 0 0 ≤ 4294967295 := by rw [hM]; exact (vecL_u4 _ _ _).getD 0
  have hOr : 0 ≤ O.getD 0 0 ∧ O.getD 0 0 ≤ 4294967295 := by rw [hO]; exact (vecL_u4 _ _ _).getD 0
  have e1 := aw_e1 a b h1
  have e2 := aw_e2 a b h2
  have e3 := aw_e3 a h2
  have v1 := aw_v1 a b O
  have v2 := aw_v2 a b O
  have v3 := aw_v3 a
  rw [← hM] at v1
  rw [hM2] at v2 v3
  have c1 : Ct Try.prog 30 [R32 [1], i64 1, A8 Z, u64 5, LC [(1, 0, a), (2, 0, b)]] [] (Is2 (.tup [R32 [wr .u32 (1 + O.getD 0 0 + M.getD 0 0)], i64 0]) []) := by
    have := Hide_ct [1] 1 Z 5 [(1, 0, a), (2, 0, b)] hZl
    rw [show (([1] : List Int).length : Int) = 1 from rfl, e1, if_pos rfl, ← hO, v1] at this; exact this
  have c2 : Ct Try.prog 30 [R32 [2], i64 2, A8 Z, u64 7, LC [(1, 0, a), (2, 0, b)]] [] (Is2 (.tup [R32 [wr .u32 (2 + O.getD 0 0 + -M.getD 0 0)], i64 0]) []) := by
    have := Hide_ct [2] 2 Z 7 [(1, 0, a), (2, 0, b)] hZl
    rw [show (([2] : List Int).length : Int) = 1 from rfl, e2, if_pos rfl, ← hO, v2] at this; exact this
  have c3 : Ct Try.prog 32 [i64 2, u64 7, LC [(1, 0, a)], i64 1] [] (Is2 (.tup [R32 [wr .u32 (M.getD 0 0)], i64 0]) []) := by
    have := Left_ct 2 7 [(1, 0, a)] 1
    rw [e3, if_pos rfl, show (1 : Int).toNat = 1 from rfl, v3] at this; exact this
  have c4 : Ct Try.prog 25 [A8 Z, i64 1] [] (Is2 (R32 O) []) := by rw [hO]; exact Own_ct Z 1 hZl
  have c5 : Ct Try.prog 23 [u64 5, u64 b, i64 1] [] (Is2 (.tup [R32 M, i64 0]) []) := by
    have := Pair_ct 5 b 1
    rw [h1, if_pos rfl, show vecL (derL (agV 5 b) 2) 3 1 = M from hM.symm] at this; exact this
  rw [hZ] at c1 c2 c4
  (conv => whnf); refine (c1).use ?_
  (conv => whnf); refine (c2).use ?_
  (conv => whnf); refine (c4).use ?_
  (conv => whnf); refine And.intro (by first | omega | (dsimp only [List.length, cond]; omega) | decide) ?_
  (conv => whnf); refine (c3).use ?_
  (conv => whnf); refine And.intro (by decide) (Idx.mk _ rfl ?_)
  (conv => whnf); refine Idx.mk _ rfl ?_
  (conv => whnf); refine (c5).use ?_
  have hlO := l32_len O
  (conv => whnf); refine DrawI.mkF 42 [[3], [46], [47], [5, 48], [48, 49], [48, 50], [51], [8, 52], [52, 53], [52, 54], [55], [10, 56], [56, 57], [56, 58], [59], [6, 60], [60, 61], [60, 62], [60, 63], [64], [2, 65], [65, 66], [65, 67], [4, 65], [65, 69], [65, 70], [65, 68, 71], [6, 65], [65, 73], [65, 74], [65, 75], [65, 76], [65, 72, 77], [65, 78], [79], [7, 80], [80, 81], [80, 82], [9, 80], [80, 84], [80, 85], [80, 83, 86]] (by decide +kernel) ?_
  repeat (first | refine DrawO.mkF _ (And.intro rfl rfl) ?_ | refine DrawO.mkF _ (Idx.mk _ rfl (And.intro rfl rfl)) ?_)
  (conv => whnf); refine cond_y (by omega) ?_
  repeat (first | refine DrawO.mkF _ (And.intro rfl rfl) ?_ | refine DrawO.mkF _ (Idx.mk _ rfl (And.intro rfl rfl)) ?_)
  refine DrawO.mkF _ (And.intro (by omega) (Idx.mk _ (show (l32 [wr .u32 (1 + O.getD 0 0 + M.getD 0 0)])[(0 : Int).toNat]? = some _ from rfl) (And.intro rfl rfl))) ?_
  repeat (first | refine DrawO.mkF _ (And.intro rfl rfl) ?_ | refine DrawO.mkF _ (Idx.mk _ rfl (And.intro rfl rfl)) ?_)
  refine DrawO.mkF _ (And.intro (by omega) (Idx.mk _ (show (l32 [wr .u32 (2 + O.getD 0 0 + -M.getD 0 0)])[(0 : Int).toNat]? = some _ from rfl) (And.intro rfl rfl))) ?_
  repeat (first | refine DrawO.mkF _ (And.intro rfl rfl) ?_ | refine DrawO.mkF _ (Idx.mk _ rfl (And.intro rfl rfl)) ?_)
  refine DrawO.mkF _ (And.intro (by omega) (Idx.mk _ (l32_get (a := O) (i := 0) (by omega)) (And.intro rfl rfl))) ?_
  repeat (first | refine DrawO.mkF _ (And.intro rfl rfl) ?_ | refine DrawO.mkF _ (Idx.mk _ rfl (And.intro rfl rfl)) ?_)
  (conv => whnf); refine cond_y (by simp only [wr]; omega) ?_
  repeat (first | refine DrawO.mkF _ (And.intro rfl rfl) ?_ | refine DrawO.mkF _ (Idx.mk _ rfl (And.intro rfl rfl)) ?_)
  refine DrawO.mkF _ (And.intro (by omega) (Idx.mk _ (show (l32 [wr .u32 (M.getD 0 0)])[(0 : Int).toNat]? = some _ from rfl) (And.intro rfl rfl))) ?_
  repeat (first | refine DrawO.mkF _ (And.intro rfl rfl) ?_ | refine DrawO.mkF _ (Idx.mk _ rfl (And.intro rfl rfl)) ?_)
  refine DrawO.mkF _ (And.intro (by omega) (Idx.mk _ (l32_get (a := M) (i := 0) (by omega)) (And.intro rfl rfl))) ?_
  repeat (first | refine DrawO.mkF _ (And.intro rfl rfl) ?_ | refine DrawO.mkF _ (Idx.mk _ rfl (And.intro rfl rfl)) ?_)
  refine isBool ?_
  rw [decide_eq_true]; simp only [wr]; omega
end Go.Proofs.Ytofkdfodehfpdaa.Ring

/- Package mask's laws: pairs, hiding, what is left, beginnings. -/
namespace Go.Proofs.Ytofkdfodehfpdaa.Ring
open Go.V Go.Num
open Go.Eng (wr)
set_option maxRecDepth 100000
set_option maxHeartbeats 4000000
theorem agg_len {s : List Int} (h : s.length = 32) : (D.agg (l8 s)).cells.length = 32 := by
  show (l8 s).length = 32
  rw [l8_len, h]
theorem MaskLeft_ct (who s : Int) (cs : List Cd) (n : Int) : Ct Try.prog 8 [i64 who, u64 s, LC cs, i64 n] [] (Is2 (.d (.bool true)) []) := by
  refine Ct.introF (E := E 42 0 [.tmp 8] [] [] []) tab_ok Try.call8 Try.func8 rfl rfl rfl rfl rfl (fun hin => ?_)
  (conv => whnf); refine (few_ct' cs).use ?_
  obtain ⟨c2, hc⟩ : ∃ z, z = fewS cs := ⟨_, rfl⟩
  rw [← hc]
  (conv => whnf); refine (Left_ct who s c2 n).use ?_
  (conv => whnf); refine (Masks_ct true who s c2 n).use ?_
  obtain ⟨e, he⟩ : ∃ z, z = hideE who n s c2 := ⟨_, rfl⟩
  obtain ⟨v, hv⟩ : ∃ z, z = (if hideE who n s c2 = 0 then leftV who s c2 n.toNat true else []) := ⟨_, rfl⟩
  rw [← hv, ← he]
  (conv => whnf); refine (mAwake_ct).use ?_
  (conv => whnf); refine cond_y rfl ?_
  (conv => whnf); refine (Cells_ct v v).use ?_
  refine isBool ?_
  rw [decide_eq_true rfl]
theorem MaskPairs_ct (s : List Int) (a b n : Int) (hs : s.length = 32) : Ct Try.prog 6 [A8 s, u64 a, u64 b, i64 n] [] (Is2 (.d (.bool true)) []) := by
  refine Ct.introF (E := E 59 0 [.tmp 8] [] [] []) tab_ok Try.call6 Try.func6 rfl rfl rfl rfl rfl (fun hin => ?_)
  have hb := inr_u64 hin.2.2.1
  (conv => whnf); refine (Pair_ct a b n).use ?_
  (conv => whnf); refine (rAgree_ct a b hb).use ?_
  obtain ⟨O, hO⟩ : ∃ z, z = vecL s 4 n := ⟨_, rfl⟩
  obtain ⟨E, hE⟩ : ∃ z, z = agE a b := ⟨_, rfl⟩
  obtain ⟨V, hV⟩ : ∃ z, z = (if agE a b = 0 then vecL (derL (agV a b) 2) 3 n else []) := ⟨_, rfl⟩
  rw [← hV, ← hE]
  have c1 : Ct Try.prog 25 [A8 s, i64 n] [] (Is2 (R32 O) []) := by rw [hO]; exact Own_ct s n hs
  have c2 : Ct Try.prog 26 [A8 s, i64 n] [] (Is2 (R32 O) []) := by rw [hO]; exact rOwn_ct s n hs
  have ls := l8_len s
  (conv => whnf); refine DrawI.mkF 5 [[4], [3], [26, 27], [4], [3]] (by decide +kernel) ?_
  refine DrawO.mkF (A8 s) (And.intro (agg_len hs) (And.intro rfl rfl)) ?_
  repeat (first | refine DrawO.mkF _ (And.intro rfl rfl) ?_ | refine DrawO.mkF _ (Idx.mk _ rfl (And.intro rfl rfl)) ?_)
  refine DrawO.mkF (R32 O) (c1.use (And.intro rfl rfl)) ?_
  refine DrawO.mkF (A8 s) (And.intro (agg_len hs) (And.intro rfl rfl)) ?_
  repeat (first | refine DrawO.mkF _ (And.intro rfl rfl) ?_ | refine DrawO.mkF _ (Idx.mk _ rfl (And.intro rfl rfl)) ?_)
  refine c2.use ?_
  (conv => whnf); refine (Cells_ct O O).use ?_
  rw [decide_eq_true (rfl : O = O)]
  (conv => whnf); refine cond_d (fun h => ?_) (fun h => ?_)
  · have h' : ¬ agE a b = 0 := by rw [← hE]; exact h
    (conv => whnf); refine (mAwake_ct).use ?_
    (conv => whnf); refine cond_y rfl ?_
    refine isBool ?_
    rw [hV, if_neg h']; rfl
  · have h' : agE a b = 0 := by rw [← hE]; exact Decidable.of_not_not h
    (conv => whnf); refine (mAwake_ct).use ?_
    (conv => whnf); refine cond_y (Decidable.of_not_not h) ?_
    (conv => whnf); refine (rPair_ct (agV a b) n).use ?_
    rw [if_pos h'] at hV
    rw [← hV]
    (conv => whnf); refine (Cells_ct V V).use ?_
    refine isBool ?_
    rw [decide_eq_true rfl]
theorem MaskHides_ct (x : List Int) (who : Int) (own : List Int) (s : Int) (cs : List Cd) (ho : own.length = 32) : Ct Try.prog 7 [R32 x, i64 who, A8 own, u64 s, LC cs] [] (Is2 (.d (.bool true)) []) := by
  refine Ct.introF (E := E 89 0 [.tmp 10] [] [(10, [0, 11, 13, 15, 16])] []) tab_ok Try.call7 Try.func7 rfl rfl rfl rfl rfl (fun hin => ?_)
  have ls := l8_len own
  have hlx := l32_len x
  (conv => whnf); refine (few_ct' cs).use ?_
  obtain ⟨c2, hc⟩ : ∃ z, z = fewS cs := ⟨_, rfl⟩
  rw [← hc]
  (conv => whnf); refine And.intro (agg_len ho) ?_
  (conv => whnf); refine (Hide_ct x who own s c2 ho).use ?_
  rw [show ((x.length : Nat) : Int) = ((l32 x).length : Nat) from by rw [hlx]]
  (conv => whnf); refine (Masks_ct false who s c2 (l32 x).length).use ?_
  obtain ⟨E, hE⟩ : ∃ z, z = hideE who (l32 x).length s c2 := ⟨_, rfl⟩
  rw [← hE]
  (conv => whnf); refine cond_d (fun h => ?_) (fun h => ?_)
  · (conv => whnf); refine (mAwake_ct).use ?_
    (conv => whnf); refine cond_y rfl ?_
    refine isBool ?_
    rw [if_neg h]; rfl
  have h0 : E = 0 := Decidable.of_not_not h
  obtain ⟨_, _, hn⟩ := sndB_true (who := who) (n := (l32 x).length) (cs := c2) (by
    rw [hE] at h0; unfold hideE at h0
    by_cases q : sndB who (l32 x).length c2 = true
    · exact q
    · rw [if_neg q] at h0; cases h0)
  have hx256 : x.length ≤ 256 := by omega
  rw [if_pos h0, if_pos h0]
  (conv => whnf); refine And.intro (agg_len ho) ?_
  (conv => whnf); refine (rOwn_ct own (l32 x).length ho).use ?_
  obtain ⟨O, hO⟩ : ∃ z, z = vecL own 4 ((l32 x).length : Nat) := ⟨_, rfl⟩
  have hOl : O.length = x.length := by rw [hO, vecL_len, clampV (by omega), hlx]
  rw [← hO]
  obtain ⟨V, hV⟩ : ∃ z, z = hideV x O who s c2 := ⟨_, rfl⟩
  obtain ⟨M, hM⟩ : ∃ z, z = leftV who s c2 ((l32 x).length : Int).toNat false := ⟨_, rfl⟩
  have hVl : V.length = x.length := by rw [hV, hideV_len]
  have hMl : M.length = x.length := by rw [hM, leftV_len, Int.toNat_natCast, hlx]
  have hat : ∀ i, i < x.length → V.getD i 0 = wr .u32 (wr .u32 (x.getD i 0 + O.getD i 0) + M.getD i 0) := fun i hi => by
    rw [hV, hM, hideV_at _ _ _ _ _ hi, Int.toNat_natCast, leftV_at _ _ _ _ (by rw [hlx]; exact hi), hlx]
    simp only [wr]; omega
  rw [← hV, ← hM]
  have hlV := l32_len V
  have hlO := l32_len O
  have hlM := l32_len M
  (conv => whnf); refine cond_n (by rw [h0]; simp) ?_
  (conv => whnf); refine cond_n (by rw [hlV, hlx, hVl]; simp) ?_
  (conv => whnf); refine LoopI.mk (fun n vs os => ∃ i : Nat, vs = [R32 x, R32 V, R32 M, R32 O, i64 i] ∧ os = [] ∧ i ≤ x.length ∧ n = x.length - i) x.length ⟨0, rfl, rfl, Nat.zero_le _, rfl⟩ ?_
  rintro n _ _ ⟨i, rfl, rfl, h1, rfl⟩
  (conv => whnf); refine cond_d (fun h3 => ?_) (fun h3 => ?_)
  · (conv => whnf); refine DrawI.mkF 18 [[11], [16], [69, 70], [71], [0], [16], [73, 74], [75], [15], [16], [77, 78], [79], [76, 80], [13], [16], [82, 83], [84], [81, 85]] (by decide +kernel) ?_
    repeat (first | refine DrawO.mkF _ (And.intro rfl rfl) ?_ | refine DrawO.mkF _ (Idx.mk _ rfl (And.intro rfl rfl)) ?_)
    refine DrawO.mkF _ (And.intro (by omega) (Idx.mk _ (l32_geti (by omega)) (And.intro rfl rfl))) ?_
    repeat (first | refine DrawO.mkF _ (And.intro rfl rfl) ?_ | refine DrawO.mkF _ (Idx.mk _ rfl (And.intro rfl rfl)) ?_)
    refine DrawO.mkF _ (And.intro (by omega) (Idx.mk _ (l32_geti (by omega)) (And.intro rfl rfl))) ?_
    repeat (first | refine DrawO.mkF _ (And.intro rfl rfl) ?_ | refine DrawO.mkF _ (Idx.mk _ rfl (And.intro rfl rfl)) ?_)
    refine DrawO.mkF _ (And.intro (by omega) (Idx.mk _ (l32_geti (by omega)) (And.intro rfl rfl))) ?_
    repeat (first | refine DrawO.mkF _ (And.intro rfl rfl) ?_ | refine DrawO.mkF _ (Idx.mk _ rfl (And.intro rfl rfl)) ?_)
    refine DrawO.mkF _ (And.intro (by omega) (Idx.mk _ (l32_geti (by omega)) (And.intro rfl rfl))) ?_
    repeat (first | refine DrawO.mkF _ (And.intro rfl rfl) ?_ | refine DrawO.mkF _ (Idx.mk _ rfl (And.intro rfl rfl)) ?_)
    (conv => whnf); refine cond_n (by rw [hat i (by omega)]; simp) ?_
    (conv => whnf); refine And.intro (by first | omega | (dsimp only [List.length, cond]; omega) | decide) ?_
    (conv => whnf)
    exact ⟨x.length - (i + 1), by omega, i + 1, rfl, rfl, by omega, rfl⟩
  · (conv => whnf); refine (mAwake_ct).use ?_
    exact isBool rfl
theorem vecL_pre (seed : List Int) (tag : Int) {n m i : Nat} (h : i < n) (hn : n ≤ 256) (hm : n ≤ m) : (vecL seed tag m).getD i 0 = (vecL seed tag n).getD i 0 := by
  have cb : ∀ k : Nat, (vecL seed tag (k : Int)).length = min k 256 := fun k => by rw [vecL_len]; unfold clampN; omega
  have ck : ∀ k : Nat, clampN (k : Int) 256 = min k 256 := fun k => by unfold clampN; omega
  have ab : ∀ (k j : Nat), k ≤ 256 → j < 4 * k → (bytesL seed tag (4 * (k : Nat))).getD j 0 = xr 0 ((blkL seed (wr .u32 (0 + (j / 64 : Nat))) (nonL tag)).getD (j % 64) 0) := fun k j hk hj => by
    have hc : clampN (4 * (k : Nat) : Int) 65536 = 4 * k := by unfold clampN; omega
    unfold bytesL
    rw [hc, xorL_at _ _ _ _ (by rw [List.length_replicate]; exact hj), rep0]
  rw [vecL_at _ _ _ (by rw [ck]; omega), vecL_at _ _ _ (by rw [ck]; omega), ck, ck]
  unfold nm4
  have e : ∀ j, j < 4 → (bytesL seed tag (4 * (min m 256 : Nat))).getD (4 * i + j) 0 = (bytesL seed tag (4 * (min n 256 : Nat))).getD (4 * i + j) 0 := fun j hj => by
    rw [ab _ _ (by omega) (by omega), ab _ _ (by omega) (by omega)]
  have e0 := e 0 (by omega)
  have e1 := e 1 (by omega)
  have e2 := e 2 (by omega)
  have e3 := e 3 (by omega)
  rw [Nat.add_zero] at e0
  rw [e0, e1, e2, e3]
theorem vecL_take (seed : List Int) (tag : Int) {n m : Nat} (hn : n ≤ 256) (hm : n ≤ m) : (vecL seed tag m).take n = vecL seed tag n := by
  have ck : ∀ k : Nat, clampN (k : Int) 256 = min k 256 := fun k => by unfold clampN; omega
  refine ext_getD (by rw [List.length_take, vecL_len, vecL_len, ck, ck]; omega) (fun j hj => ?_)
  rw [List.length_take, vecL_len, ck] at hj
  rw [← vecL_pre seed tag (n := n) (m := m) (by omega) hn hm, List.getD_eq_getElem?_getD, List.getElem?_take, if_pos (by omega), ← List.getD_eq_getElem?_getD]
theorem MaskBegins_ct (s : List Int) (a b : Int) (n m : Int) (hs : s.length = 32) : Ct Try.prog 10 [A8 s, u64 a, u64 b, u8 n, u8 m] [] (Is2 (.d (.bool true)) []) := by
  refine Ct.introF (E := E 94 0 [.tmp 10] [] [] []) tab_ok Try.call10 Try.func10 rfl rfl rfl rfl rfl (fun hin => ?_)
  have ha := inr_u64 hin.2.1
  have hb := inr_u64 hin.2.2.1
  have hn : 0 ≤ n ∧ n ≤ 255 := hin.2.2.2.1
  have hm : 0 ≤ m ∧ m ≤ 255 := hin.2.2.2.2.1
  obtain ⟨n, rfl⟩ := Int.eq_ofNat_of_zero_le hn.1
  obtain ⟨m, rfl⟩ := Int.eq_ofNat_of_zero_le hm.1
  (conv => whnf); refine (rPow_ct 37 a (by decide) (by omega)).use ?_
  (conv => whnf); refine (rPow_ct 37 b (by decide) (by omega)).use ?_
  obtain ⟨X, hX⟩ : ∃ z, z = pw 37 a.toNat := ⟨_, rfl⟩
  obtain ⟨Y, hY⟩ : ∃ z, z = pw 37 b.toNat := ⟨_, rfl⟩
  rw [← hX, ← hY]
  (conv => whnf); refine And.intro (by first | omega | (dsimp only [List.length, cond]; omega) | decide) ?_
  obtain ⟨S, hS⟩ : ∃ z, z = vecL s 4 (n : Int) := ⟨_, rfl⟩
  obtain ⟨T, hT⟩ : ∃ z, z = vecL s 4 ((n : Int) + m) := ⟨_, rfl⟩
  have hSl : S.length = n := by rw [hS, vecL_len, clampV (by omega)]
  have hTl : n ≤ T.length := by rw [hT, vecL_len]; unfold clampN; omega
  have hST : T.take n = S := by
    rw [hT, hS, show (n : Int) + m = ((n + m : Nat) : Int) from by omega]
    exact vecL_take s 4 (by omega) (by omega)
  have c1 : Ct Try.prog 25 [A8 s, i64 ((n : Int) + m)] [] (Is2 (R32 T) []) := by rw [hT]; exact Own_ct s _ hs
  have c2 : Ct Try.prog 25 [A8 s, i64 n] [] (Is2 (R32 S) []) := by rw [hS]; exact Own_ct s n hs
  have ls := l32_len S
  have lt := l32_len T
  have lk : (l32 T).take n = l32 S := by rw [← hST]; exact List.map_take.symm
  (conv => whnf); refine DrawI.mkF 6 [[5], [13], [29, 30], [5], [3], [33]] (by decide +kernel) ?_
  refine DrawO.mkF (A8 s) (And.intro (agg_len hs) (And.intro rfl rfl)) ?_
  repeat (first | refine DrawO.mkF _ (And.intro rfl rfl) ?_ | refine DrawO.mkF _ (Idx.mk _ rfl (And.intro rfl rfl)) ?_)
  refine DrawO.mkF (R32 T) (c1.use (And.intro rfl rfl)) ?_
  refine DrawO.mkF (A8 s) (And.intro (agg_len hs) (And.intro rfl rfl)) ?_
  repeat (first | refine DrawO.mkF _ (And.intro rfl rfl) ?_ | refine DrawO.mkF _ (Idx.mk _ rfl (And.intro rfl rfl)) ?_)
  refine c2.use ?_
  (conv => whnf); refine (mAwake_ct).use ?_
  (conv => whnf); refine cond_n (by omega) ?_
  (conv => whnf); refine cond_n (by omega) ?_
  (conv => whnf); refine And.intro (by first | omega | (dsimp only [List.length, cond]; omega) | decide) ?_
  rw [Int.toNat_natCast, lk]
  (conv => whnf); refine (Cells_ct S S).use ?_
  rw [decide_eq_true (rfl : S = S)]
  (conv => whnf); refine (Pair_ct a Y n).use ?_
  (conv => whnf); refine (Pair_ct b X n).use ?_
  obtain ⟨E, hE⟩ : ∃ z, z = agE a Y := ⟨_, rfl⟩
  obtain ⟨F, hF⟩ : ∃ z, z = agE b X := ⟨_, rfl⟩
  obtain ⟨V, hV⟩ : ∃ z, z = (if E = 0 then vecL (derL (agV a Y) 2) 3 n else []) := ⟨_, rfl⟩
  obtain ⟨W, hW⟩ : ∃ z, z = (if F = 0 then vecL (derL (agV b X) 2) 3 n else []) := ⟨_, rfl⟩
  rw [← hE, ← hF, ← hV, ← hW]
  (conv => whnf); refine cond_d (fun h => ?_) (fun h => ?_)
  · refine isBool ?_
    rfl
  (conv => whnf); refine cond_d (fun h2 => ?_) (fun h2 => ?_)
  · refine isBool ?_
    rfl
  have h1' : E = 0 := Decidable.of_not_not h
  have h2' : F = 0 := Decidable.of_not_not h2
  have hVW : V = W := by
    rw [hV, hW, if_pos h1', if_pos h2', hX, hY]
    rw [hE, hY] at h1'
    rw [hF, hX] at h2'
    rw [agV_comm ha.2 hb.2 h1' h2']
  have hVl : V.length = n := by rw [hV, if_pos h1', vecL_len, clampV (by omega)]
  have lV := l32_len V
  rw [← hVW]
  (conv => whnf); refine (Cells_ct V V).use ?_
  rw [decide_eq_true (rfl : V = V)]
  refine isBool ?_
  rw [decide_eq_true]; omega
end Go.Proofs.Ytofkdfodehfpdaa.Ring

/- Package mask's laws: the masks of two are gone from the sum. The plain law. -/
namespace Go.Proofs.Ytofkdfodehfpdaa.Ring
open Go.V Go.Num
open Go.Eng (wr)
set_option maxRecDepth 100000
set_option maxHeartbeats 4000000
def Sm (g : Nat → Int) : Nat → Int
  | 0 => 0
  | k + 1 => Sm g k + g k
theorem Sm_ext {f g : Nat → Int} : ∀ {n : Nat}, (∀ i, i < n → f i = g i) → Sm f n = Sm g n
  | 0, _ => rfl
  | n + 1, h => by
    show Sm f n + f n = Sm g n + g n
    rw [Sm_ext (fun i hi => h i (by omega)), h n (by omega)]
theorem Sm_add (f g : Nat → Int) : ∀ n, Sm (fun i => f i + g i) n = Sm f n + Sm g n
  | 0 => rfl
  | n + 1 => by
    show Sm (fun i => f i + g i) n + (f n + g n) = Sm f n + f n + (Sm g n + g n)
    rw [Sm_add f g n]; omega
theorem Sm_neg (f : Nat → Int) : ∀ n, Sm (fun i => - f i) n = - Sm f n
  | 0 => rfl
  | n + 1 => by
    show Sm (fun i => - f i) n + - f n = - (Sm f n + f n)
    rw [Sm_neg f n]; omega
theorem Sm_anti (f : Nat → Nat → Int) : ∀ n, (∀ i j, i < n → j < n → f i j = - f j i) → Sm (fun i => Sm (fun j => f i j) n) n = 0
  | 0, _ => rfl
  | n + 1, h => by
    show Sm (fun i => Sm (fun j => f i j) n + f i n) n + (Sm (fun j => f n j) n + f n n) = 0
    rw [Sm_add, Sm_anti f n (fun i j hi hj => h i j (by omega) (by omega)), Sm_ext (f := fun i => f i n) (g := fun i => - f n i) (fun i hi => h i n (by omega) (by omega)), Sm_neg (fun i => f n i)]
    have := h n n (by omega) (by omega)
    omega
theorem Sm_skip (g : Nat → Int) (l : Nat) : ∀ n, Sm (fun i => if i = l then 0 else g i) n = Sm g n - (if l < n then g l else 0)
  | 0 => by rw [if_neg (by omega)]; rfl
  | n + 1 => by
    show Sm (fun i => if i = l then 0 else g i) n + (if n = l then 0 else g n) = Sm g n + g n - _
    rw [Sm_skip g l n]
    by_cases e : n = l
    · subst e; rw [if_pos rfl, if_neg (by omega), if_pos (by omega)]; omega
    · rw [if_neg e]
      by_cases e2 : l < n
      · rw [if_pos e2, if_pos (by omega)]; omega
      · rw [if_neg e2, if_neg (by omega)]; omega
theorem Sm_gap (g : Nat → Int) (l : Nat) : ∀ n, Sm (fun m => g (if m < l then m else m + 1)) n = if n ≤ l then Sm g n else Sm g (n + 1) - g l
  | 0 => by rw [if_pos (by omega)]; rfl
  | n + 1 => by
    show Sm (fun m => g (if m < l then m else m + 1)) n + g (if n < l then n else n + 1) = _
    rw [Sm_gap g l n]
    by_cases e : n < l
    · rw [if_pos e, if_pos (by omega), if_pos (by omega)]; rfl
    · rw [if_neg e]
      by_cases e2 : n = l
      · subst e2
        rw [if_pos (by omega), if_neg (by omega)]
        show _ = Sm g n + g n + g (n + 1) - g n
        omega
      · rw [if_neg (by omega), if_neg (by omega)]
        show _ = Sm g (n + 1) + g (n + 1) - g l
        omega
/-- The cards of some secrets. -/
def kyS (S : List Int) (i : Nat) : Int := pw 37 (S.getD i 0).toNat
def cdsL (S : List Int) (m : Nat) : List Cd := (List.range m).map fun (i : Nat) => (((i : Int) + 1, 0, kyS S i) : Cd)
theorem cdsL_len (S : List Int) (m : Nat) : (cdsL S m).length = m := by simp [cdsL]
theorem cdsL_at (S : List Int) {m i : Nat} (h : i < m) : (cdsL S m).getD i (0, 0, 0) = ((i : Int) + 1, 0, kyS S i) := by
  unfold cdsL
  rw [List.getD_eq_getElem?_getD, List.getElem?_map, List.getElem?_range h]; rfl
def okS (S : List Int) (m : Nat) : Prop := ∀ i, i < m → (1 ≤ S.getD i 0 ∧ S.getD i 0 ≤ 2305843009213693949) ∧ 2 ≤ kyS S i ∧ kyS S i ≤ 2305843009213693949
theorem agE_ok {S : List Int} {m i j : Nat} (h : okS S m) (hi : i < m) (hj : j < m) : agE (S.getD i 0) (kyS S j) = 0 := by
  unfold agE
  rw [if_neg (fun h2 => h2 (h i hi).1), if_neg (fun h2 => h2 (h j hj).2)]
theorem riB_of {cs : List Cd} : ∀ {m : Nat}, (∀ k, k < m → lastW cs k < wAt cs k ∧ wAt cs k ≤ 64) → riB cs m = true
  | 0, _ => rfl
  | m + 1, h => by
    unfold riB
    rw [riB_of (fun k hk => h k (by omega)), decide_eq_true (h m (by omega)).1, decide_eq_true (h m (by omega)).2]; rfl
theorem mErr_of {who s : Int} {cs : List Cd} : ∀ {m : Nat}, (∀ k, k < m → agE s (cs.getD k (0, 0, 0)).2.2 = 0) → mErrN who s cs m = 0
  | 0, _ => rfl
  | m + 1, h => by
    show (if mErrN who s cs m ≠ 0 then mErrN who s cs m else if (cs.getD m (0, 0, 0)).1 = who then 0 else agE s (cs.getD m (0, 0, 0)).2.2) = 0
    rw [mErr_of (fun k hk => h k (by omega)), if_neg (by simp), h m (by omega)]
    split <;> rfl
theorem hide_ok {S : List Int} {N i n : Nat} (h : okS S N) (hi : i < N) (hN : N ≤ 6) (hn : n ≤ 256) : hideE ((i : Int) + 1) n (S.getD i 0) (cdsL S N) = 0 := by
  unfold hideE
  have hs : sndB ((i : Int) + 1) n (cdsL S N) = true := by
    unfold sndB
    rw [decide_eq_true (by omega), cdsL_len, riB_of (fun k hk => ?_)]; rfl
    have hw : ∀ j, j < N → wAt (cdsL S N) j = j + 1 := fun j hj => by unfold wAt; rw [cdsL_at S hj]
    cases k with
    | zero => rw [hw 0 hk]; show (0 : Int) < _ ∧ _; omega
    | succ k => rw [hw _ hk]; show wAt _ k < _ ∧ _; rw [hw k (by omega)]; omega
  rw [if_pos hs, cdsL_len]
  exact mErr_of (fun k hk => by rw [cdsL_at S hk]; exact agE_ok h hi hk)
def restL (S : List Int) (N l : Nat) : List Cd := (cdsL S N).take l ++ (cdsL S N).drop (l + 1)
theorem restL_len {S : List Int} {N l : Nat} (h : l < N) : (restL S N l).length = N - 1 := by
  unfold restL; rw [List.length_append, List.length_take, List.length_drop, cdsL_len]; omega
theorem restL_at {S : List Int} {N l m : Nat} (h : l < N) (hm : m < N - 1) : (restL S N l).getD m (0, 0, 0) = (((if m < l then m else m + 1 : Nat) : Int) + 1, 0, kyS S (if m < l then m else m + 1)) := by
  unfold restL
  rw [List.getD_eq_getElem?_getD, List.getElem?_append, List.length_take, cdsL_len]
  by_cases e : m < l
  · rw [if_pos (by omega), List.getElem?_take, if_pos e, if_pos e, ← List.getD_eq_getElem?_getD, cdsL_at S (by omega)]
  · rw [if_neg (by omega), List.getElem?_drop, if_neg e, ← List.getD_eq_getElem?_getD, show l + 1 + (m - min l N) = m + 1 from by omega, cdsL_at S (by omega)]
theorem left_ok {S : List Int} {N l n : Nat} (h : okS S N) (hl : l < N) (hN : N ≤ 6) (hn : n ≤ 256) : hideE ((l : Int) + 1) n (S.getD l 0) (restL S N l) = 0 := by
  unfold hideE
  have hs : sndB ((l : Int) + 1) n (restL S N l) = true := by
    unfold sndB
    rw [decide_eq_true (by omega), restL_len hl, riB_of (fun k hk => ?_)]; rfl
    have hw : ∀ j, j < N - 1 → wAt (restL S N l) j = (if j < l then j else j + 1 : Nat) + 1 := fun j hj => by unfold wAt; rw [restL_at hl hj]
    cases k with
    | zero => rw [hw 0 hk]; show (0 : Int) < _ ∧ _; split <;> omega
    | succ k => rw [hw _ hk]; show wAt _ k < _ ∧ _; rw [hw k (by omega)]; split <;> split <;> omega
  rw [if_pos hs, restL_len hl]
  exact mErr_of (fun k hk => by rw [restL_at hl hk]; exact agE_ok h hl (by split <;> omega))
/-- What the mask of two comes to in the one's vector. -/
def mF (S : List Int) (n k i j : Nat) : Int := mTerm false ((i : Int) + 1) (S.getD i 0) n ((j : Int) + 1, 0, kyS S j) k
theorem mF_eq (S : List Int) (n k i j : Nat) : mF S n k i j = if j = i then 0 else if i < j then (mkV (S.getD i 0) (kyS S j) n).getD k 0 else -(mkV (S.getD i 0) (kyS S j) n).getD k 0 := by
  unfold mF mTerm
  by_cases e : j = i
  · subst e; rw [if_pos rfl, if_pos rfl]
  · rw [if_neg (by show ¬ (j : Int) + 1 = (i : Int) + 1; omega), if_neg e]
    by_cases e2 : i < j
    · rw [decide_eq_true (by show (i : Int) + 1 < (j : Int) + 1; omega), if_pos e2]; rfl
    · rw [decide_eq_false (by show ¬ (i : Int) + 1 < (j : Int) + 1; omega), if_neg e2]; rfl
theorem mF_anti {S : List Int} {N n k i j : Nat} (h : okS S N) (hi : i < N) (hj : j < N) : mF S n k i j = - mF S n k j i := by
  have hs : mkV (S.getD i 0) (kyS S j) n = mkV (S.getD j 0) (kyS S i) n := by
    unfold mkV
    have h1 := agE_ok h hi hj
    have h2 := agE_ok h hj hi
    unfold kyS at h1 h2 ⊢
    rw [agV_comm (by have := (h i hi).1; omega) (by have := (h j hj).1; omega) h1 h2]
  rw [mF_eq, mF_eq, hs]
  by_cases e : j = i
  · subst e; rw [if_pos rfl]; rfl
  · rw [if_neg e, if_neg (fun h2 : i = j => e h2.symm)]
    by_cases e2 : i < j
    · rw [if_pos e2, if_neg (by omega)]; omega
    · rw [if_neg e2, if_pos (by omega)]
theorem mSum_cds (S : List Int) (N n k i : Nat) : ∀ m, m ≤ N → mSumN false ((i : Int) + 1) (S.getD i 0) n (cdsL S N) k m = Sm (fun j => mF S n k i j) m
  | 0, _ => rfl
  | m + 1, h => by
    show mSumN _ _ _ _ _ _ m + mTerm _ _ _ _ _ _ = Sm _ m + _
    rw [mSum_cds S N n k i m (by omega), cdsL_at S (by omega)]; rfl
theorem mSum_rest {S : List Int} {N l : Nat} (n k : Nat) (hl : l < N) : ∀ m, m ≤ N - 1 → mSumN true ((l : Int) + 1) (S.getD l 0) n (restL S N l) k m = Sm (fun j => - mF S n k l (if j < l then j else j + 1)) m
  | 0, _ => rfl
  | m + 1, h => by
    show mSumN _ _ _ _ _ _ m + mTerm _ _ _ _ _ _ = Sm _ m + _
    rw [mSum_rest n k hl m (by omega), restL_at hl (by omega)]
    congr 1
    show _ = - mF S n k l (if m < l then m else m + 1)
    rw [mF_eq]
    by_cases e : m < l
    · rw [if_pos e, if_neg (by omega), if_neg (by omega)]
      unfold mTerm
      rw [if_neg (show ¬ ((m : Int) + 1 = (l : Int) + 1) by omega), decide_eq_false (show ¬ ((l : Int) + 1 < (m : Int) + 1) by omega), if_pos (by decide), Int.neg_neg]
    · rw [if_neg e, if_neg (by omega), if_pos (by omega)]
      unfold mTerm
      rw [if_neg (show ¬ (((m + 1 : Nat) : Int) + 1 = (l : Int) + 1) by omega), decide_eq_true (show ((l : Int) + 1 < ((m + 1 : Nat) : Int) + 1) by omega), if_neg (by decide)]
/-- What all of it comes to. -/
theorem goes {S : List Int} {N n k l : Nat} (h : okS S N) (x : Int) :
    wr .u32 (Sm (fun i => if i = l then 0 else x + Sm (fun j => mF S n k i j) N) N + (if l < N then - Sm (fun j => - mF S n k l (if j < l then j else j + 1)) (N - 1) else 0)) = wr .u32 (Sm (fun i => if i = l then 0 else x) N) := by
  have e1 : Sm (fun i => if i = l then 0 else x + Sm (fun j => mF S n k i j) N) N = Sm (fun i => if i = l then 0 else x) N + Sm (fun i => if i = l then 0 else Sm (fun j => mF S n k i j) N) N := by
    rw [← Sm_add]
    exact Sm_ext (fun i _ => by split <;> omega)
  rw [e1, Sm_skip (fun i => Sm (fun j => mF S n k i j) N), Sm_anti _ N (fun i j hi hj => mF_anti h hi hj)]
  by_cases e : l < N
  · rw [if_pos e, if_pos e]
    have h0 : mF S n k l l = 0 := by rw [mF_eq, if_pos rfl]
    have e3 : (if N - 1 ≤ l then Sm (fun j => - mF S n k l j) (N - 1) else Sm (fun j => - mF S n k l j) (N - 1 + 1) - - mF S n k l l) = - Sm (mF S n k l) N := by
      have hneg : ∀ q, Sm (fun j => - mF S n k l j) q = - Sm (mF S n k l) q := fun q => Sm_neg (mF S n k l) q
      rw [hneg, hneg]
      have hN : N = N - 1 + 1 := by omega
      by_cases e2 : N - 1 ≤ l
      · have : l = N - 1 := by omega
        rw [if_pos e2]
        conv => rhs; rw [hN]
        show _ = - (Sm _ (N - 1) + mF S n k l (N - 1))
        rw [← this, h0]; omega
      · rw [if_neg e2, ← hN, h0]; omega
    have e4 : Sm (fun j => - mF S n k l (if j < l then j else j + 1)) (N - 1) = - Sm (mF S n k l) N := by
      rw [Sm_gap (fun j => - mF S n k l j) l (N - 1)]; exact e3
    rw [e4]
    show wr .u32 (_ + (0 - Sm (mF S n k l) N) + - - Sm (mF S n k l) N) = _
    congr 1; omega
  · rw [if_neg e, if_neg e]
    congr 1; omega
end Go.Proofs.Ytofkdfodehfpdaa.Ring

/- Package mask's laws: the masks of two are gone from the sum. The walk. -/
namespace Go.Proofs.Ytofkdfodehfpdaa.Ring
open Go.V Go.Num
open Go.Eng (wr)
set_option maxRecDepth 100000
set_option maxHeartbeats 4000000
theorem lc_cells (cs : List Cd) : ∀ y ∈ lc cs, y.cells.length = 3 := fun y hy => by
  obtain ⟨c, _, rfl⟩ := List.mem_map.1 hy; rfl
def sdL (i : Nat) : List Int := wr .u8 i :: List.replicate 31 0
theorem MaskGoes_ct (S0 x : List Int) (g : Int) : Ct Try.prog 9 [L S0, R32 x, .d (.int .u8 g)] [] (Is2 (.d (.bool true)) []) := by
  refine Ct.introF (E := E 207 0 [.tmp 6] [(3, [0, 1, 2]), (38, [10, 11])] [(7, [0, 1, 2, 7, 8]), (16, [0, 1, 7, 10, 11, 12, 13]), (25, [0, 1, 7, 10, 11, 12, 13, 15, 17, 18]), (35, [1, 10, 11, 20, 22])] [(13, [.fz 7]), (31, [.fz 19]), (38, [.fz 10, .fz 11])]) tab_ok Try.call9 Try.func9 rfl rfl rfl rfl rfl (fun hin => ?_)
  have hl0 := li_len S0
  have hlx := l32_len x
  have hg : 0 ≤ g ∧ g ≤ 255 := hin.2.2.1
  (conv => whnf); refine JoinI.mk (fun ws os => ∃ S : List Int, ws = [L S, R32 x, .d (.int .u8 g)] ∧ os = [] ∧ S.length ≤ 6 ∧ ∀ i, 0 ≤ S.getD i 0 ∧ S.getD i 0 < 18446744073709551616) ?_ ?_
  · have hr0 : ∀ i, 0 ≤ S0.getD i 0 ∧ S0.getD i 0 < 18446744073709551616 := fun i => by
      rw [List.getD_eq_getElem?_getD]
      cases hx : S0[i]? with
      | none => exact ⟨by simp, by simp⟩
      | some y =>
        have h2 : 0 ≤ y ∧ y ≤ 18446744073709551615 := hin.1.2 (.int .u64 y) (by
          rw [show cellsOf (li S0) = li S0 from by rw [cellsOf_one]; intro y hy; obtain ⟨z, _, rfl⟩ := List.mem_map.1 hy; rfl]
          exact List.mem_map_of_mem (List.mem_of_getElem? hx))
        simp; omega
    (conv => whnf); refine cond_d (fun h => ?_) (fun h => ?_)
    · (conv => whnf); refine And.intro (by first | omega | (dsimp only [List.length, cond]; omega) | decide) ?_
      (conv => whnf)
      refine ⟨S0.take 6, ?_, rfl, by rw [List.length_take]; omega, fun i => ?_⟩
      · rw [show List.take (Int.toNat 6) (li S0) = li (S0.take 6) from List.map_take.symm]
      · rw [List.getD_eq_getElem?_getD, List.getElem?_take]
        split
        · rw [← List.getD_eq_getElem?_getD]; exact hr0 i
        · exact ⟨by simp, by simp⟩
    · (conv => whnf)
      exact ⟨S0, rfl, rfl, by omega, hr0⟩
  rintro _ _ ⟨S, rfl, rfl, hS, hSr⟩
  have hlS := li_len S
  (conv => whnf); refine cond_d (fun h1 => ?_) (fun h1 => ?_)
  · (conv => whnf); refine (mAwake_ct).use ?_
    exact isBool rfl
  (conv => whnf); refine cond_d (fun h2 => ?_) (fun h2 => ?_)
  · (conv => whnf); refine (mAwake_ct).use ?_
    exact isBool rfl
  have hx256 : x.length ≤ 256 := by omega
  obtain ⟨N, hN⟩ : ∃ z, z = S.length := ⟨_, rfl⟩
  (conv => whnf); refine LoopI.mk (fun q vs os => ∃ i : Nat, vs = [L S, R32 x, .d (.int .u8 g), .sl 0, i64 i] ∧ os = [.row 62 3 (lc (cdsL S i))] ∧ i ≤ N ∧ okS S i ∧ q = N - i) N ⟨0, rfl, rfl, Nat.zero_le _, fun i hi => by omega, rfl⟩ ?_
  rintro q _ _ ⟨i, rfl, rfl, h3, h4, rfl⟩
  (conv => whnf); refine cond_d (fun h5 => ?_) (fun h5 => ?_)
  · have hi : i < S.length := by omega
    have hgt := li_get (a := S) (i := i) hi
    have hSi := hSr i
    have hky : kyS S i = pw 37 (S.getD i 0).toNat := rfl
    (conv => whnf); refine And.intro (by omega) (Idx.mk _ hgt ?_)
    (conv => whnf); refine Idx.mk _ rfl ?_
    (conv => whnf); refine (rPow_ct 37 (S.getD i 0) (by decide) hSi).use ?_
    rw [← hky]
    (conv => whnf); refine And.intro (by omega) (Idx.mk _ hgt ?_)
    (conv => whnf); refine Idx.mk _ rfl ?_
    (conv => whnf); refine (rSecret_ct (S.getD i 0)).use ?_
    (conv => whnf); refine cond_nd (fun h6 => ?_) (fun h6 => ?_)
    · (conv => whnf); refine (mAwake_ct).use ?_
      exact isBool rfl
    (conv => whnf); refine (rGood_ct (kyS S i)).use ?_
    (conv => whnf); refine cond_nd (fun h7 => ?_) (fun h7 => ?_)
    · (conv => whnf); refine (mAwake_ct).use ?_
      exact isBool rfl
    (conv => whnf); refine And.intro (by first | omega | (dsimp only [List.length, cond]; omega) | decide) ?_
    have hlc := lc_len (cdsL S i)
    rw [cdsL_len] at hlc
    (conv => whnf); refine And.intro ⟨by dsimp only [List.length]; omega, fun y hy => ?_⟩ ?_
    · rw [List.mem_singleton.1 hy]; rfl
    (conv => whnf); refine And.intro (by first | omega | (dsimp only [List.length, cond]; omega) | decide) ?_
    (conv => whnf)
    refine ⟨N - (i + 1), by omega, i + 1, rfl, ?_, by omega, fun j hj => ?_, rfl⟩
    · unfold cdsL lc
      rw [List.range_succ, List.map_append, List.map_append]; rfl
    · by_cases e : j = i
      · subst e; exact ⟨h6, h7⟩
      · exact h4 j (by omega)
  obtain rfl : i = N := by omega
  obtain ⟨Z, hZ⟩ : ∃ z : List D, z = List.replicate ((l32 x).length : Int).toNat (.int .u32 0) := ⟨_, rfl⟩
  (conv => whnf); refine DrawI.mixF [⟨[(0, true, [1]), (1, true, [68]), (3, true, [1]), (4, true, [71]), (5, true, [72])], [], some (2, [69])⟩, ⟨[(3, false, [1]), (4, false, [71]), (5, false, [72]), (6, true, [70])], [5], some (7, [73])⟩, ⟨[], [], none⟩] [5] (by decide +kernel) ?_
  repeat (first | refine DrawO.mkF _ (And.intro rfl rfl) ?_ | refine DrawO.mkF _ (Idx.mk _ rfl (And.intro rfl rfl)) ?_ | refine And.intro rfl ?_)
  refine DrawN.mkF (.row 57 1 (List.replicate ((l32 x).length : Int).toNat (.int .u32 0))) rfl (And.intro (by dsimp only [cond]; omega) (And.intro rfl rfl)) ?_
  (conv => whnf); refine And.intro (by dsimp only [cond]; omega) ?_
  repeat (first | refine DrawO.mkF _ (And.intro rfl rfl) ?_ | refine DrawO.mkF _ (Idx.mk _ rfl (And.intro rfl rfl)) ?_ | refine And.intro rfl ?_)
  refine DrawN.mkF _ rfl (And.intro (by dsimp only [cond]; omega) (And.intro rfl rfl)) ?_
  repeat (first | refine DrawO.mkF _ (And.intro rfl rfl) ?_ | refine DrawO.mkF _ (Idx.mk _ rfl (And.intro rfl rfl)) ?_ | refine And.intro rfl ?_)
  (conv => whnf); refine And.intro (by first | omega | (dsimp only [List.length, cond]; omega) | decide) ?_
  (conv => whnf); refine And.intro (by first | omega | (dsimp only [List.length, cond]; omega) | decide) ?_
  obtain ⟨l, hl⟩ : ∃ l : Nat, g % (((li S).length : Int) + 1) = l := ⟨(g % (((li S).length : Int) + 1)).toNat, by rw [Int.toNat_of_nonneg (Int.emod_nonneg _ (by omega))]⟩
  have hll : l ≤ i := by
    have := Int.emod_lt_of_pos g (show 0 < ((li S).length : Int) + 1 by omega)
    omega
  rw [hl]
  (conv => whnf); refine LoopI.mk (fun q vs os => ∃ (j : Nat) (a b : List Int), vs = [L S, R32 x, LC (cdsL S i), .sl 0, .sl 1, i64 l, i64 j] ∧ os = [.row 57 1 (l32 a), .row 57 1 (l32 b)] ∧ j ≤ i ∧ a.length = x.length ∧ b.length = x.length ∧ (∀ k, k < x.length → a.getD k 0 = wr .u32 (Sm (fun q => if q = l then 0 else x.getD k 0 + Sm (fun r => mF S x.length k q r) i) j)) ∧ (∀ k, k < x.length → b.getD k 0 = wr .u32 (Sm (fun q => if q = l then 0 else x.getD k 0) j)) ∧ q = i - j) i ⟨0, List.replicate x.length 0, List.replicate x.length 0, rfl, ?_, Nat.zero_le _, by simp, by simp, fun k _ => by rw [rep0]; rfl, fun k _ => by rw [rep0]; rfl, rfl⟩ ?_
  · show [Obj.row _ _ (List.replicate ((l32 x).length : Int).toNat (D.int .u32 0)), Obj.row _ _ (List.replicate ((l32 x).length : Int).toNat (D.int .u32 0))] = _
    rw [Int.toNat_natCast, l32_rep, hlx]
  rintro q _ _ ⟨j, a, b, rfl, rfl, h6, hal, hbl, ha, hb, rfl⟩
  (conv => whnf); refine cond_d (fun h7 => ?_) (fun h7 => ?_)
  · (conv => whnf); refine cond_d (fun h8 => ?_) (fun h8 => ?_)
    · (conv => whnf); refine And.intro (by first | omega | (dsimp only [List.length, cond]; omega) | decide) ?_
      (conv => whnf)
      have hjl : j = l := by omega
      refine ⟨i - (j + 1), by omega, j + 1, a, b, rfl, rfl, by omega, hal, hbl, fun k hk => ?_, fun k hk => ?_, rfl⟩
      · rw [ha k hk]; show _ = wr .u32 (Sm _ j + (if j = l then 0 else _)); rw [if_pos hjl, Int.add_zero]
      · rw [hb k hk]; show _ = wr .u32 (Sm _ j + (if j = l then 0 else _)); rw [if_pos hjl, Int.add_zero]
    have hjl : j ≠ l := by omega
    have hj : j < i := by omega
    have hsl : (sdL j).length = 32 := by simp [sdL]
    have hsj := li_get (a := S) (i := j) (by omega)
    obtain ⟨O, hO⟩ : ∃ z, z = vecL (sdL j) 4 (x.length : Int) := ⟨_, rfl⟩
    have hOl : O.length = x.length := by rw [hO, vecL_len, clampV hx256]
    obtain ⟨V, hV⟩ : ∃ z, z = hideV x O ((j : Int) + 1) (S.getD j 0) (cdsL S i) := ⟨_, rfl⟩
    have hVl : V.length = x.length := by rw [hV, hideV_len]
    have hVk : ∀ k, k < x.length → V.getD k 0 = wr .u32 (x.getD k 0 + O.getD k 0 + Sm (fun r => mF S x.length k j r) i) := fun k hk => by
      rw [hV, hideV_at _ _ _ _ _ hk, cdsL_len, mSum_cds S i x.length k j i (Nat.le_refl _)]
    have c1 : Ct Try.prog 30 [R32 x, i64 ((j : Int) + 1), A8 (sdL j), u64 (S.getD j 0), LC (cdsL S i)] [] (Is2 (.tup [R32 V, i64 0]) []) := by
      have := Hide_ct x ((j : Int) + 1) (sdL j) (S.getD j 0) (cdsL S i) hsl
      rw [hide_ok h4 hj (by omega) hx256, if_pos rfl, ← hO, ← hV] at this; exact this
    have c2 : Ct Try.prog 25 [A8 (sdL j), i64 ((l32 x).length : Nat)] [] (Is2 (R32 O) []) := by rw [hO, hlx]; exact Own_ct (sdL j) x.length hsl
    (conv => whnf); refine And.intro ⟨rfl, rfl⟩ ?_
    (conv => whnf); refine DrawI.mixF [⟨[(0, true, [1]), (1, true, [13]), (2, true, [94]), (3, true, [14]), (4, true, [0]), (5, true, [13]), (6, true, [97, 98]), (7, true, [99]), (8, true, [7])], [], some (9, [93, 95, 96, 100, 101])⟩, ⟨[(10, true, [102]), (11, true, [92]), (12, true, [92]), (13, true, [103])], [], some (14, [104])⟩, ⟨[], [], none⟩] [] (by decide +kernel) ?_
    repeat (first | refine DrawO.mkF _ (And.intro rfl rfl) ?_ | refine DrawO.mkF _ (Idx.mk _ rfl (And.intro rfl rfl)) ?_ | refine And.intro rfl ?_)
    refine DrawO.mkF _ (And.intro (by first | omega | (dsimp only [List.length, cond]; omega) | decide) (And.intro rfl rfl)) ?_
    refine DrawO.mkF (A8 (sdL j)) (And.intro rfl (And.intro rfl rfl)) ?_
    repeat (first | refine DrawO.mkF _ (And.intro rfl rfl) ?_ | refine DrawO.mkF _ (Idx.mk _ rfl (And.intro rfl rfl)) ?_ | refine And.intro rfl ?_)
    refine DrawO.mkF _ (And.intro (by omega) (Idx.mk _ hsj (And.intro rfl rfl))) ?_
    repeat (first | refine DrawO.mkF _ (And.intro rfl rfl) ?_ | refine DrawO.mkF _ (Idx.mk _ rfl (And.intro rfl rfl)) ?_ | refine And.intro rfl ?_)
    (conv => whnf); refine (c1).use ?_
    repeat (first | refine DrawO.mkF _ (And.intro rfl rfl) ?_ | refine DrawO.mkF _ (Idx.mk _ rfl (And.intro rfl rfl)) ?_ | refine And.intro rfl ?_)
    have hlV := l32_len V
    have hlO := l32_len O
    (conv => whnf); refine cond_n (by rw [hlV, hlx, hVl]; simp) ?_
    (conv => whnf); refine And.intro rfl ?_
    (conv => whnf); refine (c2).use ?_
    (conv => whnf); refine LoopI.mk (fun q vs os => ∃ (k : Nat) (a' b' : List Int), vs = [L S, R32 x, LC (cdsL S i), .sl 0, .sl 1, i64 l, i64 j, R32 V, R32 O, i64 k] ∧ os = [.row 57 1 (l32 a'), .row 57 1 (l32 b')] ∧ k ≤ x.length ∧ a'.length = x.length ∧ b'.length = x.length ∧ (∀ r, r < x.length → a'.getD r 0 = if r < k then wr .u32 (a.getD r 0 + wr .u32 (V.getD r 0 - O.getD r 0)) else a.getD r 0) ∧ (∀ r, r < x.length → b'.getD r 0 = if r < k then wr .u32 (b.getD r 0 + x.getD r 0) else b.getD r 0) ∧ q = x.length - k) x.length ⟨0, a, b, rfl, rfl, Nat.zero_le _, hal, hbl, fun r _ => by rw [if_neg (by omega)], fun r _ => by rw [if_neg (by omega)], rfl⟩ ?_
    rintro q _ _ ⟨k, a', b', rfl, rfl, g1, hal', hbl', ha', hb', rfl⟩
    have hla' := l32_len a'
    have hlb' := l32_len b'
    (conv => whnf); refine cond_d (fun g2 => ?_) (fun g2 => ?_)
    · have hk : k < x.length := by omega
      (conv => whnf); refine DrawI.mixF [⟨[(0, true, [10]), (1, true, [18]), (2, true, [124, 125]), (3, true, [126]), (4, true, [15]), (5, true, [18]), (6, true, [128, 129]), (7, true, [130]), (8, true, [17]), (9, true, [18]), (10, true, [132, 133]), (11, true, [134]), (12, true, [131, 135]), (13, true, [127, 136]), (14, true, [124, 125])], [], some (15, [137, 138])⟩, ⟨[], [], none⟩] [] (by decide +kernel) ?_
      repeat (first | refine DrawO.mkF _ (And.intro rfl rfl) ?_ | refine DrawO.mkF _ (Idx.mk _ rfl (And.intro rfl rfl)) ?_ | refine And.intro rfl ?_)
      refine DrawO.mkF _ (And.intro (by first | omega | (dsimp only [List.length, cond]; omega) | decide) (And.intro rfl rfl)) ?_
      refine DrawO.mkF (u32 (a'.getD k 0)) (Idx.mk _ (l32_geti (by omega)) (Idx.mk _ rfl (And.intro rfl rfl))) ?_
      repeat (first | refine DrawO.mkF _ (And.intro rfl rfl) ?_ | refine DrawO.mkF _ (Idx.mk _ rfl (And.intro rfl rfl)) ?_ | refine And.intro rfl ?_)
      refine DrawO.mkF _ (And.intro (by omega) (Idx.mk _ (l32_geti (by omega)) (And.intro rfl rfl))) ?_
      repeat (first | refine DrawO.mkF _ (And.intro rfl rfl) ?_ | refine DrawO.mkF _ (Idx.mk _ rfl (And.intro rfl rfl)) ?_ | refine And.intro rfl ?_)
      refine DrawO.mkF _ (And.intro (by omega) (Idx.mk _ (l32_geti (by omega)) (And.intro rfl rfl))) ?_
      repeat (first | refine DrawO.mkF _ (And.intro rfl rfl) ?_ | refine DrawO.mkF _ (Idx.mk _ rfl (And.intro rfl rfl)) ?_ | refine And.intro rfl ?_)
      refine DrawO.mkF _ (And.intro (by first | omega | (dsimp only [List.length, cond]; omega) | decide) (And.intro rfl rfl)) ?_
      (conv => whnf); refine Idx.mk _ (l32_geti (by omega)) ?_
      (conv => whnf); refine DrawI.mixF [⟨[(0, true, [11]), (1, true, [18]), (2, true, [139, 140]), (3, true, [141]), (4, true, [1]), (5, true, [18]), (6, true, [143, 144]), (7, true, [145]), (8, true, [142, 146]), (9, true, [139, 140])], [], some (10, [147, 148])⟩, ⟨[], [], none⟩] [] (by decide +kernel) ?_
      repeat (first | refine DrawO.mkF _ (And.intro rfl rfl) ?_ | refine DrawO.mkF _ (Idx.mk _ rfl (And.intro rfl rfl)) ?_ | refine And.intro rfl ?_)
      refine DrawO.mkF _ (And.intro (by first | omega | (dsimp only [List.length, cond]; omega) | decide) (And.intro rfl rfl)) ?_
      refine DrawO.mkF (u32 (b'.getD k 0)) (Idx.mk _ (l32_geti (by omega)) (Idx.mk _ rfl (And.intro rfl rfl))) ?_
      repeat (first | refine DrawO.mkF _ (And.intro rfl rfl) ?_ | refine DrawO.mkF _ (Idx.mk _ rfl (And.intro rfl rfl)) ?_ | refine And.intro rfl ?_)
      refine DrawO.mkF _ (And.intro (by omega) (Idx.mk _ (l32_geti (by omega)) (And.intro rfl rfl))) ?_
      repeat (first | refine DrawO.mkF _ (And.intro rfl rfl) ?_ | refine DrawO.mkF _ (Idx.mk _ rfl (And.intro rfl rfl)) ?_ | refine And.intro rfl ?_)
      refine DrawO.mkF _ (And.intro (by first | omega | (dsimp only [List.length, cond]; omega) | decide) (And.intro rfl rfl)) ?_
      (conv => whnf); refine Idx.mk _ (l32_geti (by omega)) ?_
      (conv => whnf); refine And.intro (by first | omega | (dsimp only [List.length, cond]; omega) | decide) ?_
      (conv => whnf)
      refine ⟨x.length - (k + 1), by omega, k + 1, a'.set k (wr .u32 (a'.getD k 0 + wr .u32 (V.getD k 0 - O.getD k 0))), b'.set k (wr .u32 (b'.getD k 0 + x.getD k 0)), rfl, ?_, by omega, by rw [List.length_set]; exact hal', by rw [List.length_set]; exact hbl', fun r hr => ?_, fun r hr => ?_, rfl⟩
      · rw [← l32_setr, ← l32_setr]; rfl
      · rw [getD_set]
        by_cases e : k = r
        · subst e; rw [if_pos ⟨rfl, by omega⟩, if_pos (by omega), ha' k hr, if_neg (by omega)]
        · rw [if_neg (fun h => e h.1), ha' r hr]
          by_cases e2 : r < k
          · rw [if_pos e2, if_pos (by omega)]
          · rw [if_neg e2, if_neg (by omega)]
      · rw [getD_set]
        by_cases e : k = r
        · subst e; rw [if_pos ⟨rfl, by omega⟩, if_pos (by omega), hb' k hr, if_neg (by omega)]
        · rw [if_neg (fun h => e h.1), hb' r hr]
          by_cases e2 : r < k
          · rw [if_pos e2, if_pos (by omega)]
          · rw [if_neg e2, if_neg (by omega)]
    · (conv => whnf); refine And.intro (by first | omega | (dsimp only [List.length, cond]; omega) | decide) ?_
      (conv => whnf)
      refine ⟨i - (j + 1), by omega, j + 1, a', b', rfl, rfl, by omega, hal', hbl', fun k hk => ?_, fun k hk => ?_, rfl⟩
      · rw [ha' k hk, if_pos (by omega), ha k hk, hVk k hk]
        show _ = wr .u32 (Sm _ j + (if j = l then 0 else x.getD k 0 + Sm (fun r => mF S x.length k j r) i))
        rw [if_neg hjl]
        simp only [wr]; omega
      · rw [hb' k hk, if_pos (by omega), hb k hk]
        show _ = wr .u32 (Sm _ j + (if j = l then 0 else x.getD k 0))
        rw [if_neg hjl]
        simp only [wr]; omega
  have hji : j = i := by omega
  subst hji
  have hlcd := lc_len (cdsL S j)
  rw [cdsL_len] at hlcd
  have hla := l32_len a
  have hlb := l32_len b
  (conv => whnf); refine JoinI.mk (fun ws os => ∃ c : List Int, ws = [.sl 0, .sl 1] ∧ os = [.row 57 1 (l32 c), .row 57 1 (l32 c)]) ?_ ?_
  · (conv => whnf); refine cond_d (fun h8 => ?_) (fun h8 => ?_)
    · have hlj : l < j := by omega
      have hsl := li_get (a := S) (i := l) (by omega)
      obtain ⟨M, hM⟩ : ∃ z, z = leftV ((l : Int) + 1) (S.getD l 0) (restL S j l) ((x.length : Nat) : Int).toNat true := ⟨_, rfl⟩
      have hMl : M.length = x.length := by rw [hM, leftV_len, Int.toNat_natCast]
      have hMk : ∀ k, k < x.length → M.getD k 0 = wr .u32 (Sm (fun r => - mF S x.length k l (if r < l then r else r + 1)) (j - 1)) := fun k hk => by
        rw [hM, Int.toNat_natCast, leftV_at _ _ _ _ hk, restL_len hlj, mSum_rest x.length k hlj (j - 1) (Nat.le_refl _)]
      have c3 : Ct Try.prog 32 [i64 ((l : Int) + 1), u64 (S.getD l 0), LC (restL S j l), i64 ((l32 x).length : Nat)] [] (Is2 (.tup [R32 M, i64 0]) []) := by
        have := Left_ct ((l : Int) + 1) (S.getD l 0) (restL S j l) (x.length : Nat)
        rw [left_ok h4 hlj (by omega) hx256, if_pos rfl, ← hM] at this
        rw [hlx]; exact this
      have hrl : ([] ++ (lc (cdsL S j)).take ((l : Int)).toNat) ++ (lc (cdsL S j)).drop (((l : Int) + 1)).toNat = lc (restL S j l) := by
        unfold restL lc
        rw [List.map_append, List.map_take, List.map_drop, List.nil_append, Int.toNat_natCast, show ((l : Int) + 1).toNat = l + 1 from by omega]
      (conv => whnf); refine DrawI.mixF [⟨[(1, true, [7]), (2, true, [12]), (3, true, [154, 155]), (5, true, [7]), (6, true, [12]), (7, true, [159]), (8, true, [158, 160])], [], some (0, [])⟩, ⟨[(1, false, [7]), (2, false, [12]), (3, false, [154, 155]), (5, false, [7]), (6, false, [12]), (7, false, [159]), (8, false, [158, 160])], [], some (4, [153, 156])⟩, ⟨[(5, false, [7]), (6, false, [12]), (7, false, [159]), (8, false, [158, 160])], [], some (9, [157, 161])⟩, ⟨[], [], some (10, [162])⟩, ⟨[], [], none⟩] [] (by decide +kernel) ?_
      repeat (first | refine DrawO.mkF _ (And.intro rfl rfl) ?_ | refine DrawO.mkF _ (Idx.mk _ rfl (And.intro rfl rfl)) ?_ | refine And.intro rfl ?_)
      refine DrawO.mkF _ (And.intro (by first | omega | (dsimp only [List.length, cond]; omega) | decide) (And.intro rfl rfl)) ?_
      repeat (first | refine DrawO.mkF _ (And.intro rfl rfl) ?_ | refine DrawO.mkF _ (Idx.mk _ rfl (And.intro rfl rfl)) ?_ | refine And.intro rfl ?_)
      refine DrawO.mkF _ (And.intro (by first | omega | (dsimp only [List.length, cond]; omega) | decide) (And.intro rfl rfl)) ?_
      refine DrawO.mkF _ (And.intro ⟨by omega, lc_cells _⟩ (And.intro rfl rfl)) ?_
      repeat (first | refine DrawO.mkF _ (And.intro rfl rfl) ?_ | refine DrawO.mkF _ (Idx.mk _ rfl (And.intro rfl rfl)) ?_ | refine And.intro rfl ?_)
      refine DrawO.mkF _ (And.intro (by first | omega | (dsimp only [List.length, cond]; omega) | decide) (And.intro rfl rfl)) ?_
      repeat (first | refine DrawO.mkF _ (And.intro rfl rfl) ?_ | refine DrawO.mkF _ (Idx.mk _ rfl (And.intro rfl rfl)) ?_ | refine And.intro rfl ?_)
      refine DrawO.mkF _ (And.intro (by first | omega | (dsimp only [List.length, cond]; omega) | decide) (And.intro rfl rfl)) ?_
      repeat (first | refine DrawO.mkF _ (And.intro rfl rfl) ?_ | refine DrawO.mkF _ (Idx.mk _ rfl (And.intro rfl rfl)) ?_ | refine And.intro rfl ?_)
      refine DrawO.mkF _ (And.intro ⟨by omega, lc_cells _⟩ (And.intro rfl rfl)) ?_
      repeat (first | refine DrawO.mkF _ (And.intro rfl rfl) ?_ | refine DrawO.mkF _ (Idx.mk _ rfl (And.intro rfl rfl)) ?_ | refine And.intro rfl ?_)
      (conv => whnf); refine And.intro ⟨by dsimp only [List.length]; rw [List.length_take]; omega, fun y hy => lc_cells _ y (List.mem_of_mem_take hy)⟩ ?_
      repeat (first | refine DrawO.mkF _ (And.intro rfl rfl) ?_ | refine DrawO.mkF _ (Idx.mk _ rfl (And.intro rfl rfl)) ?_ | refine And.intro rfl ?_)
      refine DrawO.mkF _ (And.intro (by first | omega | (dsimp only [List.length, cond]; omega) | decide) (And.intro rfl rfl)) ?_
      repeat (first | refine DrawO.mkF _ (And.intro rfl rfl) ?_ | refine DrawO.mkF _ (Idx.mk _ rfl (And.intro rfl rfl)) ?_ | refine And.intro rfl ?_)
      refine DrawO.mkF _ (And.intro ⟨by omega, lc_cells _⟩ (And.intro rfl rfl)) ?_
      repeat (first | refine DrawO.mkF _ (And.intro rfl rfl) ?_ | refine DrawO.mkF _ (Idx.mk _ rfl (And.intro rfl rfl)) ?_ | refine And.intro rfl ?_)
      (conv => whnf); refine And.intro ⟨by rw [List.length_append, List.length_take, List.length_drop]; dsimp only [List.length]; omega, fun y hy => lc_cells _ y (List.mem_of_mem_drop hy)⟩ ?_
      repeat (first | refine DrawO.mkF _ (And.intro rfl rfl) ?_ | refine DrawO.mkF _ (Idx.mk _ rfl (And.intro rfl rfl)) ?_ | refine And.intro rfl ?_)
      rw [hrl]
      (conv => whnf); refine And.intro (by first | omega | (dsimp only [List.length, cond]; omega) | decide) ?_
      (conv => whnf); refine And.intro (by omega) (Idx.mk _ hsl ?_)
      (conv => whnf); refine Idx.mk _ rfl ?_
      (conv => whnf); refine (c3).use ?_
      have hlM := l32_len M
      (conv => whnf); refine cond_n (by rw [hlM, hlx, hMl]; simp) ?_
      (conv => whnf); refine LoopI.mk (fun q vs os => ∃ (k : Nat) (a' : List Int), vs = [R32 x, .sl 0, .sl 1, R32 M, i64 k] ∧ os = [.row 57 1 (l32 a'), .row 57 1 (l32 b)] ∧ k ≤ x.length ∧ a'.length = x.length ∧ (∀ r, r < x.length → a'.getD r 0 = if r < k then wr .u32 (a.getD r 0 - M.getD r 0) else a.getD r 0) ∧ q = x.length - k) x.length ⟨0, a, rfl, rfl, Nat.zero_le _, hal, fun r _ => by rw [if_neg (by omega)], rfl⟩ ?_
      rintro q _ _ ⟨k, a', rfl, rfl, g1, hal', ha', rfl⟩
      have hla' := l32_len a'
      (conv => whnf); refine cond_d (fun g2 => ?_) (fun g2 => ?_)
      · have hk : k < x.length := by omega
        (conv => whnf); refine DrawI.mixF [⟨[(0, true, [10]), (1, true, [22]), (2, true, [191, 192]), (3, true, [193]), (4, true, [20]), (5, true, [22]), (6, true, [195, 196]), (7, true, [197]), (8, true, [194, 198]), (9, true, [191, 192])], [], some (10, [199, 200])⟩, ⟨[], [], none⟩] [] (by decide +kernel) ?_
        repeat (first | refine DrawO.mkF _ (And.intro rfl rfl) ?_ | refine DrawO.mkF _ (Idx.mk _ rfl (And.intro rfl rfl)) ?_ | refine And.intro rfl ?_)
        refine DrawO.mkF _ (And.intro (by first | omega | (dsimp only [List.length, cond]; omega) | decide) (And.intro rfl rfl)) ?_
        refine DrawO.mkF (u32 (a'.getD k 0)) (Idx.mk _ (l32_geti (by omega)) (Idx.mk _ rfl (And.intro rfl rfl))) ?_
        repeat (first | refine DrawO.mkF _ (And.intro rfl rfl) ?_ | refine DrawO.mkF _ (Idx.mk _ rfl (And.intro rfl rfl)) ?_ | refine And.intro rfl ?_)
        refine DrawO.mkF _ (And.intro (by omega) (Idx.mk _ (l32_geti (by omega)) (And.intro rfl rfl))) ?_
        repeat (first | refine DrawO.mkF _ (And.intro rfl rfl) ?_ | refine DrawO.mkF _ (Idx.mk _ rfl (And.intro rfl rfl)) ?_ | refine And.intro rfl ?_)
        refine DrawO.mkF _ (And.intro (by first | omega | (dsimp only [List.length, cond]; omega) | decide) (And.intro rfl rfl)) ?_
        (conv => whnf); refine Idx.mk _ (l32_geti (by omega)) ?_
        (conv => whnf); refine And.intro (by first | omega | (dsimp only [List.length, cond]; omega) | decide) ?_
        (conv => whnf)
        refine ⟨x.length - (k + 1), by omega, k + 1, a'.set k (wr .u32 (a'.getD k 0 - M.getD k 0)), rfl, ?_, by omega, by rw [List.length_set]; exact hal', fun r hr => ?_, rfl⟩
        · rw [← l32_setr]; rfl
        · rw [getD_set]
          by_cases e : k = r
          · subst e; rw [if_pos ⟨rfl, by omega⟩, if_pos (by omega), ha' k hr, if_neg (by omega)]
          · rw [if_neg (fun h => e h.1), ha' r hr]
            by_cases e2 : r < k
            · rw [if_pos e2, if_pos (by omega)]
            · rw [if_neg e2, if_neg (by omega)]
      · (conv => whnf)
        have hab : a' = b := ext_getD (by omega) (fun r hr => by
          have hr2 : r < x.length := by omega
          have hgo := goes (n := x.length) (k := r) (l := l) h4 (x.getD r 0)
          rw [if_pos hlj] at hgo
          rw [ha' r hr2, if_pos (by omega), ha r hr2, hb r hr2, ← hgo, hMk r hr2]
          simp only [wr]; omega)
        refine ⟨b, rfl, ?_⟩
        rw [hab]; rfl
    · (conv => whnf)
      have hab : a = b := ext_getD (by omega) (fun r hr => by
        have hr2 : r < x.length := by omega
        have hgo := goes (n := x.length) (k := r) (l := l) h4 (x.getD r 0)
        rw [if_neg (by omega), Int.add_zero] at hgo
        rw [ha r hr2, hb r hr2, hgo])
      refine ⟨b, rfl, ?_⟩
      rw [hab]; rfl
  rintro _ _ ⟨c, rfl, rfl⟩
  (conv => whnf); refine (mAwake_ct).use ?_
  (conv => whnf); refine (Cells_ct c c).use ?_
  refine isBool ?_
  rw [decide_eq_true (rfl : c = c)]
end Go.Proofs.Ytofkdfodehfpdaa.Ring
