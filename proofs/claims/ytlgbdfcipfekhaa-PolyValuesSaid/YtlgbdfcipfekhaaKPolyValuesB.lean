/- The library's iterator over a slice from its end: what a loop over it owes, and gets. -/
import Derived.RangeFuncBox
import Derived.RangeFuncLeaves
import Derived.RangeFuncCalls
import Derived.Shelf.Abstract
import Derived.WalkKit
import Derived.OwnWalkIn
import Derived.TacticsInMore
import Derived.LoopNIn
import Derived.LoopIn
import Derived.Test.YtlgbdfcipfekhaaProg
import Derived.Test.YtlgbdfcipfekhaaKPolyValuesA
set_option linter.unusedVariables false
set_option linter.unusedSimpArgs false
set_option linter.unnecessarySimpa false
set_option linter.unusedSectionVars false
set_option linter.all false
/- The library's iterator over a slice from its end: what a loop over it owes, and gets. -/
namespace Go.Proofs.Ytlgbdfcipfekhaa
open Go.RowKit Go.Shelf
attribute [local go_sem] Oper.semAt_some

abbrev U64 := { z : Int // 0 ≤ z ∧ z ≤ 18446744073709551615 }
/-- What has come when k rounds are over. -/
def upto {α : Type} (f : Nat → α) (k : Nat) : List α := (List.range k).map f
theorem upto_succ {α : Type} (f : Nat → α) (k : Nat) : upto f (k + 1) = upto f k ++ [f k] := by simp [upto, List.range_succ]
theorem upto_length {α : Type} (f : Nat → α) (k : Nat) : (upto f k).length = k := by simp [upto]

/-- What a round keeps: all below n₀, and one cell beyond. -/
def KeepB (n₀ Bs : Nat) (W W' : World) : Prop := Below n₀ W W' ∧ ∀ v, W.cell? ⟨Bs, 0, none⟩ = some v → W'.cell? ⟨Bs, 0, none⟩ = some v
theorem KeepB.refl (n₀ Bs : Nat) (W : World) : KeepB n₀ Bs W W := ⟨Below.refl _ _, fun _ h => h⟩
theorem KeepB.trans {n₀ Bs : Nat} {A B C : World} (h : KeepB n₀ Bs A B) (k : KeepB n₀ Bs B C) : KeepB n₀ Bs A C := ⟨h.1.trans k.1, fun v hv => k.2 v (h.2 v hv)⟩

set_option maxRecDepth 100000 in
set_option maxHeartbeats 2000000 in
theorem back1_in (F : Fence) (n : Nat) (h7 : F.fn 58) (hro : F.round = none) (hn : 1 ≤ n) (l Bs n₀ b off len cap : Nat) (g : Nat → U64) (hreach : len * 8 ≤ 140737488351232) (hb : b < n₀) (J Jx : List (Nat × U64) → World → Prop)
    (hY : ∀ pre x W, J pre W → pre.length < len → YieldAt F (n - 1) Try.prog l #[.int .i64 (x.1 : Int), .int .u64 x.2.1] W fun e W' =>
      (e = .returned (.bool true) ∧ J (pre ++ [x]) W' ∧ KeepB n₀ Bs W W') ∨ (e = .returned (.bool false) ∧ Jx (pre ++ [x]) W'))
    (W : World) (hBs : W.cell? ⟨Bs, 0, none⟩ = some (.slice (some ⟨b, off, none⟩) len cap)) (hc : ∀ j, j < len → W.cell? ⟨b, off + j, none⟩ = some (.int .u64 (g j).1)) (h0 : J [] W) :
    CallsIn F n Try.prog 58 #[.func (.yield l) #[] #[], .pointer (some ⟨Bs, 0, none⟩)] W fun e W' => (∃ v, e = .returned v) ∧
      ((∃ ys, ys = upto (fun j => (len - 1 - j, g (len - 1 - j))) len ∧ J ys W') ∨ (∃ pre, (∃ k, k ≤ len ∧ pre = upto (fun j => (len - 1 - j, g (len - 1 - j))) k) ∧ Jx pre W')) := by
  refine callsIn_of_wp Try.func58 rfl h7 ?_ hro
  simp only [Try.ntmps58, List.size_toArray, List.length_cons, List.length_nil, Nat.reduceAdd, Nat.reduceSub, Array.replicate_succ, Array.replicate_zero, List.push_toArray, List.append_toArray, List.nil_append, List.cons_append]
  gi_wp2
  gi_loopw [3] (fun i wr => ∃ k m : Nat, k + m = len ∧ i = .int .i64 ((m : Int) - 1) ∧ J (upto (fun j => (len - 1 - j, g (len - 1 - j))) k) wr ∧ KeepB n₀ Bs W wr)
    (fun i _ => (intOf i + 1).toNat)
  case atStart => exact ⟨0, len, by omega, rfl, h0, KeepB.refl _ _ _⟩
  case round =>
    obtain ⟨k, m, hk, rfl, hJs, hnx⟩ := hrel
    cases m with
    | zero =>
      gi_wp2
      go_end0
      obtain rfl : k = len := by omega
      exact ⟨⟨_, rfl⟩, .inl ⟨_, rfl, hJs⟩⟩
    | succ m =>
      have hcx : wr.cell? ⟨b, off + m, none⟩ = some (.int .u64 (g m).1) := (hnx.1.cell (p := ⟨b, off + m, none⟩) hb).trans (hc m (by omega))
      obtain ⟨fn, tmps, assign, body, hy, hR⟩ := hY _ (m, g m) wr hJs (by rw [upto_length]; omega)
      dsimp only at hy
      have hBw := hnx.2 _ hBs
      have e1 : ((m + 1 : Nat) : Int) - 1 = (m : Int) := by omega
      rw [e1]
      gi_wp2
      refine hR.mono ?_
      rintro e W3 (⟨rfl, hJ3, hk3⟩ | ⟨rfl, hJx3⟩)
      · gi_wp2
        go_roundw
        case rel =>
          refine ⟨k + 1, m, by omega, by simp, ?_, hnx.trans hk3⟩
          rw [upto_succ]
          have : len - 1 - k = m := by omega
          rw [this]; exact hJ3
        case measure => simp [intOf]
      · gi_wp2
        refine bodyPost_ret (results_none rfl _ _ _) rfl ?_
        refine ⟨⟨_, rfl⟩, .inr ⟨_, ⟨k + 1, by omega, rfl⟩, ?_⟩⟩
        rw [upto_succ]
        have : len - 1 - k = m := by omega
        rw [this]; exact hJx3

set_option maxRecDepth 100000 in
set_option maxHeartbeats 1000000 in
/-- No round at all. -/
theorem back1_nil_in (F : Fence) (n : Nat) (h7 : F.fn 58) (hro : F.round = none) (l Bs cap : Nat) (A : Option Addr) (J : List (Nat × U64) → World → Prop) (W : World) (hBs : W.cell? ⟨Bs, 0, none⟩ = some (.slice A 0 cap)) (h0 : J [] W) :
    CallsIn F n Try.prog 58 #[.func (.yield l) #[] #[], .pointer (some ⟨Bs, 0, none⟩)] W fun e W' => (∃ v, e = .returned v) ∧ J [] W' := by
  refine callsIn_of_wp Try.func58 rfl h7 ?_ hro
  simp only [Try.ntmps58, List.size_toArray, List.length_cons, List.length_nil, Nat.reduceAdd, Nat.reduceSub, Array.replicate_succ, Array.replicate_zero, List.push_toArray, List.append_toArray, List.nil_append, List.cons_append]
  gi_wp2
  gi_loopw [3] (fun i wr => i = .int .i64 (-1) ∧ J [] wr) (fun _ _ => 0)
  case atStart => exact ⟨rfl, h0⟩
  case round =>
    obtain ⟨rfl, hJs⟩ := hrel
    gi_wp2
    go_end0
    exact ⟨⟨_, rfl⟩, hJs⟩

set_option maxHeartbeats 1000000 in
theorem back_in (F : Fence) (n : Nat) (h5 : F.fn 37) (hro : F.round = none) (a : Option Addr) (len cap : Nat) (w : World) :
    CallsIn F n Try.prog 37 #[.slice a len cap] w fun e w' => e = .returned (.func (.func 58) #[] #[.pointer (some ⟨w.heap.size, 0, none⟩)]) ∧ w' = w.alloc (.cells #[.slice a len cap] 22) := by
  refine callsIn_of_wp Try.func37 rfl h5 ?_ hro
  simp only [Try.ntmps37, List.size_toArray, List.length_cons, List.length_nil, Nat.reduceAdd, Nat.reduceSub, Array.replicate_succ, Array.replicate_zero, List.push_toArray, List.append_toArray, List.nil_append, List.cons_append]
  gi_wp2
  go_ret
  exact ⟨rfl, rfl⟩

/-- Numbers in memory that stays: in a block below n₀; or there are none. -/
def InsB (n₀ : Nat) (W : World) (sv : Value) (len : Nat) (g : Nat → U64) : Prop :=
  ∃ A cap, sv = .slice A len cap ∧ (len = 0 ∨ ∃ b off, A = some ⟨b, off, none⟩ ∧ b < n₀ ∧ ∀ j, j < len → W.cell? ⟨b, off + j, none⟩ = some (.int .u64 (g j).1))
theorem InsB.below {n₀ : Nat} {A B : World} (h : Below n₀ A B) {sv : Value} {len : Nat} {g : Nat → U64} : InsB n₀ A sv len g → InsB n₀ B sv len g
  | ⟨P, cap, e, .inl h0⟩ => ⟨P, cap, e, .inl h0⟩
  | ⟨P, cap, e, .inr ⟨b, off, e2, hb, hc⟩⟩ => ⟨P, cap, e, .inr ⟨b, off, e2, hb, fun j hj => (h.cell (p := ⟨b, off + j, none⟩) hb).trans (hc j hj)⟩⟩

def bk (len : Nat) (g : Nat → U64) (k : Nat) : List (Nat × U64) := upto (fun j => (len - 1 - j, g (len - 1 - j))) k

theorem back_stops (F : Fence) (n : Nat) (h7 : F.fn 58) (hro : F.round = none) (hn : 1 ≤ n) (Bs n₀ : Nat) (sv : Value) (len : Nat) (g : Nat → U64) (hreach : len * 8 ≤ 140737488351232) (w : World) (hBs : Bs < w.heap.size) (hn₀ : n₀ ≤ w.heap.size)
    (hc : w.cell? ⟨Bs, 0, none⟩ = some sv) (hI : InsB n₀ w sv len g) :
    SeqStopsK F n Try.prog 58 #[.pointer (some ⟨Bs, 0, none⟩)] (fun x : Nat × U64 => #[Value.int .i64 (x.1 : Int), Value.int .u64 x.2.1]) (KeepB n₀ Bs) (fun ys => ys = bk len g len)
      (fun pre => ∃ k, k ≤ len ∧ pre = bk len g k) len w := fun l J Jx W hW _ _ hY h0 => by
  have hc' := (hW.cell (p := ⟨Bs, 0, none⟩) hBs).trans hc
  obtain ⟨A, cap, rfl, rfl | ⟨b, off, rfl, hb, hcs⟩⟩ := hI.below (hW.mono hn₀)
  · exact (back1_nil_in F n h7 hro l Bs cap A J W hc' h0).mono fun e W' ⟨he, hj⟩ => ⟨he, .inl ⟨_, rfl, hj⟩⟩
  · exact back1_in F n h7 hro hn l Bs n₀ b off len cap g hreach hb J Jx hY W hc' hcs h0
theorem keepB_b {n₀ Bs : Nat} {w : World} (hn : n₀ ≤ w.heap.size) (W : World) (l : Nat) (o o' : Obj) (hl : w.heap.size ≤ l) (h : W.heap[l]? = some o) (ho : o.isCells = false) (hw : o.isWalk = false) : KeepB n₀ Bs W (W.putObj l o') := by
  refine ⟨belowK_b hn W l o o' hl h ho hw, fun v hv => ?_⟩
  exact cell_kept hv (grownBy_putObj' _ l o') (fun r e => by cases e; exact ⟨_, h, ho⟩)
end Go.Proofs.Ytlgbdfcipfekhaa

/- Package poly: the value of a polynomial. -/
namespace Go.Proofs.Ytlgbdfcipfekhaa
open Go.V Go.Num Go.RowKit Go.Shelf
open Go.Eng (wr Imm HS add_blk)
attribute [local go_sem] Oper.semAt_some
set_option maxRecDepth 100000
set_option maxHeartbeats 4000000
/-- Whatever lies stays as it lies. -/
structure Still (W W' : World) : Prop where
  heap : ∀ (b : Nat) (o : Go.Obj), W.heap[b]? = some o → W'.heap[b]? = some o
  os : W'.os = W.os
  tape : W'.tape = W.tape
  output : W'.output = W.output
theorem Still.size {W W' : World} (h : Still W W') : W.heap.size ≤ W'.heap.size := by
  rcases Nat.eq_zero_or_pos W.heap.size with e | e
  · omega
  · have h1 : W.heap[W.heap.size - 1]? = some W.heap[W.heap.size - 1] := Array.getElem?_eq_getElem (by omega)
    have := (Array.getElem?_eq_some_iff.1 (h.heap _ _ h1)).1
    omega
theorem Still.block {W W' : World} (h : Still W W') {k : Nat} (hk : k < W.heap.size) : W'.heap[k]? = W.heap[k]? := by
  rw [Array.getElem?_eq_getElem hk]; exact h.heap _ _ (Array.getElem?_eq_getElem hk)
theorem Still.below {W W' : World} (h : Still W W') {B : Nat} (hB : B ≤ W.heap.size) : Below B W W' := ⟨h.os, h.tape, h.output, h.size, fun k hk => h.block (by omega)⟩
theorem Still.others {W W' : World} (h : Still W W') : KeepsOthers W W' := ⟨h.size, fun k o hk _ => h.heap k o hk⟩
theorem Still.cell {W W' : World} (h : Still W W') {p : Addr} {v : Value} (hc : W.cell? p = some v) : W'.cell? p = some v := by
  have hlt : p.block < W.heap.size := by
    rcases Nat.lt_or_ge p.block W.heap.size with h | h
    · exact h
    · unfold World.cell? at hc
      rw [Array.getElem?_eq_none h] at hc; cases hc
  rw [← hc]; exact World.cell?_of_block (h.block hlt)
theorem Still.frozen {W W' : World} (h : Still W W') {p : Addr} (hlt : p.block < W.heap.size) : W'.frozen? p = W.frozen? p := World.frozen?_of_block (h.block hlt)
/-- A contract over numbers alone, called anywhere. -/
theorem Ct.still {P : Program} {f : FuncId} {vs : List AV} {k : IntKind} {r : Int} (h : Ct P f vs [] (Is2 (.d (.int k r)) [])) (us : List Value) (hus : ∀ I ρ, Eng.InR .u64 0 → All2 (RelA I ρ) us vs) (w : World) :
    Calls P f us.toArray w (fun e w' => e = .returned (.int k r) ∧ Still w w') := by
  have := h.run ⟨fun b => w.heap[b]?, w.os, w.tape, w.output⟩ (fun _ => .nilFunc) us [] (hus _ _ ⟨by decide, by decide⟩) .nil (fun _ _ => rfl) w [] ⟨fun b o h => h, fun _ h => (by cases h), .nil, fun _ h => (by cases h), rfl, rfl, rfl⟩
  refine this.mono ?_
  rintro e w' ⟨v, I', L', rfl, hle, ⟨ρ', r', os', q1, _, _, _, _, q6⟩, hs⟩
  obtain ⟨rfl, rfl⟩ := q6
  cases q1 with
  | d q1 =>
    cases q1
    exact ⟨rfl, fun b o hb => hs.sat b o (hle.1 b o hb), hs.os.trans hle.2.1, hs.tape.trans hle.2.2.1, hs.output.trans hle.2.2.2⟩
theorem still_ct {P : Program} {f : FuncId} {a b : Int} {r : Int} (h : Ct P f [u64 a, u64 b] [] (Is2 (u64 r) [])) (ha : 0 ≤ a ∧ a ≤ 18446744073709551615) (hb : 0 ≤ b ∧ b ≤ 18446744073709551615) (w : World) :
    Calls P f #[.int .u64 a, .int .u64 b] w (fun e w' => e = .returned (.int .u64 r) ∧ Still w w') :=
  Ct.still h [.int .u64 a, .int .u64 b] (fun I ρ _ => .cons (.d (.int ha)) (.one (.d (.int hb)))) w
/-- From the highest down. -/
def hor (x : Int) (pre : List (Nat × U64)) : Int := pre.foldl (fun o p => (o * x % 2305843009213693951 + p.2.1) % 2305843009213693951) 0
theorem hor_snoc (x : Int) (pre : List (Nat × U64)) (p : Nat × U64) : hor x (pre ++ [p]) = (hor x pre * x % 2305843009213693951 + p.2.1) % 2305843009213693951 := by unfold hor; rw [List.foldl_append]; rfl
theorem hor_rng (x : Int) (pre : List (Nat × U64)) : 0 ≤ hor x pre ∧ hor x pre < 2305843009213693951 := by
  rcases List.eq_nil_or_concat pre with rfl | ⟨q, p, rfl⟩
  · unfold hor; exact ⟨by simp, by simp⟩
  · rw [List.concat_eq_append, hor_snoc]; omega
theorem At_in (a : Option Addr) (cap : Nat) (len : Nat) (g : Nat → U64) (x : Int) (w : World) (hl : len ≤ 1000000) (hx : 0 ≤ x ∧ x ≤ 18446744073709551615) (hI : InsB w.heap.size w (.slice a len cap) len g) :
    Calls Try.prog 16 #[.slice a len cap, .int .u64 x] w fun e W' => e = .returned (.int .u64 (hor x (bk len g len))) ∧ Below w.heap.size w W' := by
  refine (callsIn_wide (n := 4)).1 ?_
  refine callsIn_of_wp_marks Try.func16 rfl trivial ?_ rfl
  simp only [Try.ntmps16, List.size_toArray, List.length_cons, List.length_nil, Nat.reduceAdd, Nat.reduceSub, Array.replicate_succ, Array.replicate_zero, List.push_toArray, List.append_toArray, List.nil_append, List.cons_append]
  gi_wp2_with (refine ⟨trivial, ?_⟩; gi_at_call 37; refine (back_in Fence.wide _ trivial rfl _ _ _ _).mono ?_; rintro e w' ⟨rfl, rfl⟩)
  have bX := Boxed.new w 23 (.int .u64 x)
  have bS := Boxed.new (w.alloc (.cells #[.int .u64 x] 23)) 23 (.int .u64 0)
  have bN := Boxed.new ((w.alloc (.cells #[.int .u64 x] 23)).alloc (.cells #[.int .u64 0] 23)) 22 (.slice a len cap)
  simp only [World.size_alloc] at bS bN
  have hB0 : Below w.heap.size w (((w.alloc (.cells #[.int .u64 x] 23)).alloc (.cells #[.int .u64 0] 23)).alloc (.cells #[.slice a len cap] 22)) := (((Below.refl _ w).alloc (Nat.le_refl _) _).alloc (by simp) _).alloc (by simp; omega) _
  refine wpIn_rangeFunc_ownG rfl (by omega) (gf := 58) (lb := #[.pointer (some ⟨w.heap.size + 1 + 1, 0, none⟩)]) rfl trivial (enters_of Try.func58 (by kernel_rfl) rfl)
    (back_stops Fence.wide _ trivial rfl (by omega) (w.heap.size + 1 + 1) w.heap.size _ len g (by omega) _ (by simp) (by simp; omega) bN.cell (hI.below hB0)) KeepB.trans (keepB_b (by simp; omega)) (Below.refl _ _) (fun _ => rfl)
    (fun pre W => (W.cell? ⟨w.heap.size, 0, none⟩ = some (.int .u64 x) ∧ W.cell? ⟨w.heap.size + 1, 0, none⟩ = some (.int .u64 (hor x pre)) ∧ W.frozen? ⟨w.heap.size + 1, 0, none⟩ = false) ∧ Below w.heap.size w W)
    (fun _ _ _ => False)
    (OwnFrom.and (Own.from (fun s A B row hs hg hr => ⟨cell_kept hs.1 hg hr, cell_kept hs.2.1 hg hr, (frozen_kept hs.2.1 hg hr).trans hs.2.2⟩) _) (ownFrom_below (Nat.le_refl _) (by simp; omega)))
    (fun _ _ _ _ _ hs _ _ => hs)
    ⟨⟨((bX.alloc _).alloc _).cell, (bS.alloc _).cell, (bS.alloc _).frozen⟩, hB0⟩
    (fun p => { tmps := #[.slice a len cap, .int .u64 x, undef, .pointer (some ⟨w.heap.size, 0, none⟩), .int .u64 0, .pointer (some ⟨w.heap.size + 1, 0, none⟩), undef, .int .u64 p.2.1, .slice a len cap, .func (.func 58) #[] #[.pointer (some ⟨w.heap.size + 1 + 1, 0, none⟩)], .int .i64 (p.1 : Int), .int .u64 p.2.1, undef, undef, undef, undef, undef, undef], defers := [] }) ?assign ?body ?done ?stop
  case assign =>
    intro l x W K hK
    gi_wp2
    exact hK
  case body =>
    rintro l pre p W ⟨⟨hcx, hco, hfo⟩, hB⟩ _
    have hr := hor_rng x pre
    have hsz := hB.size
    have hs1 : w.heap.size + 1 < W.heap.size := by
      rcases Nat.lt_or_ge (w.heap.size + 1) W.heap.size with h | h
      · exact h
      · unfold World.cell? at hco
        rw [Array.getElem?_eq_none h] at hco; cases hco
    have hp := p.2.2
    gi_wp2
    refine ⟨trivial, ?_⟩
    refine (CallsIn.inRound l (callsIn_wide.2 (still_ct (Mul_ct (hor x pre) x) (by omega) hx _))).mono ?_
    rintro e w1 ⟨rfl, s1⟩
    gi_wp2
    refine ⟨trivial, ?_⟩
    refine (CallsIn.inRound l (callsIn_wide.2 (still_ct (Add_ct (hor x pre * x % 2305843009213693951) p.2.1) (by omega) hp _))).mono ?_
    rintro e w2 ⟨rfl, s2⟩
    have hf2 : w2.frozen? ⟨w.heap.size + 1, 0, none⟩ = false := ((s2.frozen (by have := s1.size; simp; omega)).trans (s1.frozen (by simp; omega))).trans hfo
    have hc2 := s2.cell (s1.cell hco)
    gi_wp2
    have hs2 := s2.size
    have hs3 := s1.size
    refine ⟨((s1.others.trans s2.others).trans (KeepsOthers.setCell _ _ _)).from _, ⟨((s1.below (by omega)).trans (s2.below (by omega))).setCell (p := ⟨w.heap.size + 1, 0, none⟩) (by simp) _, fun v hv => ?_⟩, ⟨?_, ?_, ?_⟩, ((hB.trans (s1.below (by omega))).trans (s2.below (by omega))).setCell (p := ⟨w.heap.size + 1, 0, none⟩) (by simp) _⟩
    · rw [World.cell?_setCell_other]
      · exact s2.cell (s1.cell hv)
      · simp
    · rw [World.cell?_setCell_other]
      · exact s2.cell (s1.cell hcx)
      · simp
    · rw [hor_snoc, Int.emod_add_emod]; exact World.cell?_setCell_same' _ _ _ (by rw [hc2]; rfl)
    · rw [World.frozen?_setCell]; exact hf2
  case done =>
    rintro D ys W hD rfl ⟨⟨hx, hc, _⟩, hB⟩ hK
    gi_wp2
    refine ⟨by simp, .inl ⟨_, _, rfl, run_takeDeferred hK, ?_⟩⟩
    exact ⟨_, results_tmp rfl _ _ _, rfl, hB.trans (belowK_b (w := w) (Nat.le_refl _) W D _ _ (by simp at hD; omega) hK rfl rfl)⟩
  case stop =>
    rintro D c pre W _ _ h _
    exact h.elim
def gv (zs : List Int) (j : Nat) : U64 := if h : 0 ≤ zs.getD j 0 ∧ zs.getD j 0 ≤ 18446744073709551615 then ⟨_, h⟩ else ⟨0, by omega, by omega⟩
theorem gv_eq {zs : List Int} {j : Nat} (h : 0 ≤ zs.getD j 0 ∧ zs.getD j 0 ≤ 18446744073709551615) : (gv zs j).1 = zs.getD j 0 := by unfold gv; rw [dif_pos h]
theorem hor_bk {zs : List Int} (hz : ∀ j, j < zs.length → 0 ≤ zs.getD j 0 ∧ zs.getD j 0 ≤ 18446744073709551615) (x : Int) : ∀ k, k ≤ zs.length → hor x (bk zs.length (gv zs) k) = ev (zs.drop (zs.length - k)) x % 2305843009213693951
  | 0, _ => by
    rw [Nat.sub_zero, List.drop_length]; rfl
  | k + 1, h => by
    have hk : zs.length - (k + 1) < zs.length := by omega
    have e : zs.length - 1 - k = zs.length - (k + 1) := by omega
    unfold bk
    rw [upto_succ, hor_snoc]
    have ih := hor_bk hz x k (by omega)
    unfold bk at ih
    rw [ih, List.drop_eq_getElem_cons hk]
    have e2 : zs.length - (k + 1) + 1 = zs.length - k := by omega
    rw [e2, e, gv_eq (hz _ hk), List.getD_eq_getElem?_getD, List.getElem?_eq_getElem hk, Option.getD_some]
    show _ = (zs[zs.length - (k + 1)] + x * ev (zs.drop (zs.length - k)) x) % 2305843009213693951
    generalize ev (zs.drop (zs.length - k)) x = y
    rw [Int.emod_add_emod, Int.add_comm, ← Int.add_emod_emod, emod_mul_l, Int.add_emod_emod, Int.mul_comm]
theorem At_ct (zs : List Int) (x : Int) (hl : zs.length ≤ 1000000) : Ct Try.prog 16 [L zs, u64 x] [] (Is2 (u64 (ev zs x % 2305843009213693951)) []) := by
  refine ⟨Try.call16, fun I ρ us M hargs hh hnew w F hw => ?_⟩
  obtain ⟨v1, us1, rfl, h1, hr1⟩ := hargs.uncons
  obtain ⟨v2, us2, rfl, h2, hr2⟩ := hr1.uncons
  obtain rfl := hr2.unnil
  cases h1 with
  | d h1 =>
    cases h2 with
    | d h2 =>
      cases h2 with
      | int hx =>
        cases hh
        have hok := h1.okX
        cases h1 with
        | @ro A n c sz us' _ hn hc hm hzz hr hlen hone hxx =>
          rw [li_len] at hn
          subst hn
          have hc1 : (cellsOf (li zs)).length = zs.length := by rw [cellsOf_len (li_cells zs), li_len, Nat.mul_one]
          have hget : ∀ j, j < zs.length → (cellsOf (li zs))[j]? = some (.int .u64 (zs.getD j 0)) := fun j hj => by
            have := cellsOf_get (li_cells zs) (i := j) (x := .int .u64 (zs.getD j 0)) (by have := li_get hj; simpa using this) (j := 0) (by omega)
            simpa [D.cells] using this
          have hcell : ∀ j, j < zs.length → ∃ a, A = some a ∧ I.cell (a.add j) = some (.int .u64 (zs.getD j 0)) ∧ 0 ≤ zs.getD j 0 ∧ zs.getD j 0 ≤ 18446744073709551615 := fun j hj => by
            have hj' : j < us'.length := by rw [hlen, hc1]; exact hj
            obtain ⟨a, e1, e2⟩ := hr j _ (List.getElem?_eq_getElem hj')
            have e3 := hxx j _ _ (List.getElem?_eq_getElem hj') (hget j hj)
            generalize us'[j] = u at e2 e3
            cases e3 with
            | int hin => exact ⟨a, e1, e2, hin⟩
          have hI : InsB w.heap.size w (.slice A zs.length c) zs.length (gv zs) := by
            refine ⟨A, c, rfl, ?_⟩
            rcases Nat.eq_zero_or_pos zs.length with h0 | h0
            · exact .inl h0
            · right
              obtain ⟨a, rfl, ha, _⟩ := hcell 0 h0
              obtain ⟨b, off, spot⟩ := a
              have hs : spot = none := by
                unfold Imm.cell at ha
                simp only [Addr.add] at ha
                split at ha
                · cases spot with
                  | none => rfl
                  | some s => simp at ha
                · cases ha
              subst hs
              refine ⟨b, off, rfl, ?_, fun j hj => ?_⟩
              · have := hw.cell ha
                rw [add_blk] at this
                rcases Nat.lt_or_ge b w.heap.size with h | h
                · exact h
                · unfold World.cell? at this
                  simp only [Addr.add] at this
                  rw [Array.getElem?_eq_none h] at this; cases this
              · obtain ⟨a', e1, e2, e3⟩ := hcell j hj
                cases e1
                rw [gv_eq e3]
                rw [add_blk] at e2
                exact hw.cell e2
          refine (At_in A c zs.length (gv zs) x w hl (inr_u64 hx) hI).mono ?_
          rintro e W' ⟨rfl, hB⟩
          have hz : ∀ j, j < zs.length → 0 ≤ zs.getD j 0 ∧ zs.getD j 0 ≤ 18446744073709551615 := fun j hj => by obtain ⟨_, _, _, h⟩ := hcell j hj; exact h
          have hv := hor_bk hz x zs.length (Nat.le_refl _)
          rw [Nat.sub_self, List.drop_zero] at hv
          rw [hv]
          refine ⟨_, I, [], rfl, Imm.le_refl _, ⟨ρ, _, [], .d (.int ?_), .nil, hnew, Nat.le_refl _, fun _ _ => rfl, rfl, rfl⟩, hw.later (fun b hb => hB.block b hb) hB.os hB.tape hB.output⟩
          show 0 ≤ _ ∧ _ ≤ (18446744073709551615 : Int)
          omega
end Go.Proofs.Ytlgbdfcipfekhaa

/- Package poly's reference: which points may be, the value of the polynomial through points. -/
namespace Go.Proofs.Ytlgbdfcipfekhaa
open Go.V Go.Num
open Go.Eng (wr)
set_option maxRecDepth 100000
set_option maxHeartbeats 4000000
theorem any_take {α : Type} {f : α → Bool} {xs : List α} {i : Nat} {x : α} (h : xs[i]? = some x) : (xs.take (i + 1)).any f = ((xs.take i).any f || f x) := by
  rw [List.take_add_one, List.any_append, h]; simp
theorem getD_get {ps : List (Int × Int)} {i : Nat} (h : i < ps.length) : ps[i]? = some (ps.getD i (0, 0)) := by
  rw [List.getD_eq_getElem?_getD, List.getElem?_eq_getElem h]; rfl
theorem tw_true {ps : List (Int × Int)} {i : Nat} (hi : i < ps.length) (h : fstAt (ps.getD i (0, 0)).1 (ps.take i) = true) : tw ps = true := by
  unfold tw; rw [List.any_eq_true]; exact ⟨i, List.mem_range.2 hi, h⟩
theorem tw_false {ps : List (Int × Int)} (h : ∀ j, j < ps.length → fstAt (ps.getD j (0, 0)).1 (ps.take j) = false) : tw ps = false := by
  cases e : tw ps with
  | false => rfl
  | true =>
    unfold tw at e; rw [List.any_eq_true] at e
    obtain ⟨j, hj, hf⟩ := e
    rw [h j (List.mem_range.1 hj)] at hf; cases hf
theorem fstAt_mem {a : Int} {ps : List (Int × Int)} {k : Nat} {i : Nat} (hk : k < i) (hi : i ≤ ps.length) (h : (ps.getD k (0, 0)).1 = a) : fstAt a (ps.take i) = true := by
  unfold fstAt; rw [List.any_eq_true]
  refine ⟨ps.getD k (0, 0), ?_, decide_eq_true h⟩
  refine List.mem_of_getElem? (i := k) ?_
  rw [List.getElem?_take, if_pos hk]
  exact getD_get (by omega)
theorem Points_ct (ps : List (Int × Int)) : Ct Try.prog 20 [LP ps] [] (Is2 (i64 (soundS ps)) []) := by
  refine Ct.introF (E := E 59 0 [.tmp 2] [(6, [0, 3, 4])] [(5, [0, 3, 4]), (8, [0, 3, 4, 5])] []) tab_ok Try.call20 Try.func20 rfl rfl rfl rfl rfl (fun hin => ?_)
  have hl := lp_len ps
  have hb := hin.1.1
  (conv => whnf); refine cond_d (fun h1 => ?_) (fun h1 => ?_)
  · refine isInt ?_
    unfold soundS; rw [if_pos (by omega)]
  (conv => whnf); refine cond_d (fun h2 => ?_) (fun h2 => ?_)
  · refine isInt ?_
    unfold soundS; rw [if_neg (by omega), if_pos (by omega)]
  (conv => whnf); refine LoopI.mk (fun n vs os => ∃ i : Nat, vs = [LP ps, i64 (if (ps.take i).any badP = true then 4 else 0), i64 i] ∧ os = [] ∧ i ≤ ps.length ∧ (∀ j, j < i → fstAt (ps.getD j (0, 0)).1 (ps.take j) = false) ∧ n = ps.length - i) ps.length ⟨0, rfl, rfl, Nat.zero_le _, fun j h => by omega, rfl⟩ ?_
  rintro n _ _ ⟨i, rfl, rfl, h3, h4, rfl⟩
  (conv => whnf); refine cond_d (fun h5 => ?_) (fun h5 => ?_)
  · have hi : i < ps.length := by omega
    (conv => whnf); refine JoinI.mk (fun vs os => vs = [LP ps, i64 (if (ps.take (i + 1)).any badP = true then 4 else 0), i64 i] ∧ os = [] ∧ fstAt (ps.getD i (0, 0)).1 (ps.take i) = false) ?_ ?_
    · (conv => whnf); refine LoopI.mk (fun n vs os => ∃ k : Nat, vs = [LP ps, i64 (if (ps.take i).any badP = true then 4 else 0), i64 i, i64 k] ∧ os = [] ∧ k ≤ i ∧ fstAt (ps.getD i (0, 0)).1 (ps.take k) = false ∧ n = i - k) i ⟨0, rfl, rfl, Nat.zero_le _, rfl, rfl⟩ ?_
      rintro n _ _ ⟨k, rfl, rfl, k1, k2, rfl⟩
      (conv => whnf); refine cond_d (fun k3 => ?_) (fun k3 => ?_)
      · have hk : k < ps.length := by omega
        (conv => whnf); refine DrawI.mkF 10 [[0], [4], [25, 26], [27], [28], [0], [5], [30, 31], [32], [33]] (by decide +kernel) ?_
        repeat (first | refine DrawO.mkF _ (And.intro rfl rfl) ?_ | refine DrawO.mkF _ (Idx.mk _ rfl (And.intro rfl rfl)) ?_)
        refine DrawO.mkF _ (And.intro (by omega) (Idx.mk _ (lp_get hi) (And.intro rfl rfl))) ?_
        repeat (first | refine DrawO.mkF _ (And.intro rfl rfl) ?_ | refine DrawO.mkF _ (Idx.mk _ rfl (And.intro rfl rfl)) ?_)
        refine DrawO.mkF _ (And.intro (by omega) (Idx.mk _ (lp_get hk) (And.intro rfl rfl))) ?_
        repeat (first | refine DrawO.mkF _ (And.intro rfl rfl) ?_ | refine DrawO.mkF _ (Idx.mk _ rfl (And.intro rfl rfl)) ?_)
        (conv => whnf); refine cond_d (fun k4 => ?_) (fun k4 => ?_)
        · refine isInt ?_
          unfold soundS; rw [if_neg (by omega), if_neg (by omega), if_pos (tw_true hi (fstAt_mem (k := k) (by omega) (by omega) k4.symm))]
        · (conv => whnf); refine And.intro (by first | omega | (dsimp only [List.length]; omega) | decide) ?_
          conv => whnf
          refine ⟨i - (k + 1), by omega, k + 1, rfl, rfl, by omega, ?_, rfl⟩
          rw [fstAt_take hk, k2, decide_eq_false (fun e => k4 e.symm)]; rfl
      · have e : k = i := by omega
        subst e
        have hbad : ∀ b, badP (ps.getD k (0, 0)) = b → (ps.take (k + 1)).any badP = ((ps.take k).any badP || b) := fun b h => by rw [any_take (getD_get hi), h]
        (conv => whnf); refine And.intro (by first | omega | (dsimp only [List.length]; omega) | decide) ?_
        (conv => whnf); refine Idx.mk _ (lp_get hi) ?_; try ((conv => whnf); refine Idx.mk _ rfl ?_)
        (conv => whnf); refine cond_d (fun c1 => ?_) (fun c1 => ?_)
        · conv => whnf
          refine ⟨?_, rfl, k2⟩
          rw [hbad true (by unfold badP; rw [decide_eq_true c1]; rfl)]; simp
        (conv => whnf); refine And.intro (by first | omega | (dsimp only [List.length]; omega) | decide) ?_
        (conv => whnf); refine Idx.mk _ (lp_get hi) ?_; try ((conv => whnf); refine Idx.mk _ rfl ?_)
        (conv => whnf); refine cond_d (fun c2 => ?_) (fun c2 => ?_)
        · conv => whnf
          refine ⟨?_, rfl, k2⟩
          rw [hbad true (by unfold badP; rw [decide_eq_true (p := _ > _) c2]; simp)]; simp
        (conv => whnf); refine And.intro (by first | omega | (dsimp only [List.length]; omega) | decide) ?_
        (conv => whnf); refine Idx.mk _ (lp_get hi) ?_; try ((conv => whnf); refine Idx.mk _ rfl ?_)
        (conv => whnf); refine cond_d (fun c3 => ?_) (fun c3 => ?_)
        · conv => whnf
          refine ⟨?_, rfl, k2⟩
          rw [hbad true (by unfold badP; rw [decide_eq_true (p := _ ≥ _) c3]; simp)]; simp
        · conv => whnf
          refine ⟨?_, rfl, k2⟩
          rw [hbad false (by unfold badP; rw [decide_eq_false c1, decide_eq_false (p := _ > _) c2, decide_eq_false (p := _ ≥ _) c3]; rfl), Bool.or_false]
    · rintro _ _ ⟨rfl, rfl, k2⟩
      (conv => whnf); refine And.intro (by first | omega | (dsimp only [List.length]; omega) | decide) ?_
      conv => whnf
      refine ⟨ps.length - (i + 1), by omega, i + 1, rfl, rfl, by omega, fun j hj => ?_, rfl⟩
      by_cases e : j = i
      · rw [e]; exact k2
      · exact h4 j (by omega)
  · have e : i = ps.length := by omega
    refine isInt ?_
    have hs : soundS ps = if ps.any badP = true then 4 else 0 := by
      unfold soundS
      rw [if_neg (by omega), if_neg (by omega), tw_false (by rw [← e]; exact h4), if_neg (by simp)]
    rw [hs, List.take_of_length_le (by omega)]
def partS (x a y : Int) (rs : List Int) : Int := rs.foldl (fun p r => (p * ((x - r) % 2305843009213693951) % 2305843009213693951 * inv ((a - r) % 2305843009213693951)) % 2305843009213693951) y
theorem partS_app (x a y : Int) (rs : List Int) (r : Int) : partS x a y (rs ++ [r]) = (partS x a y rs * ((x - r) % 2305843009213693951) % 2305843009213693951 * inv ((a - r) % 2305843009213693951)) % 2305843009213693951 := by unfold partS; rw [List.foldl_append]; rfl
theorem partS_nn (x a : Int) {y : Int} (hy : 0 ≤ y) : ∀ rs : List Int, 0 ≤ partS x a y rs := fun rs => by
  rcases List.eq_nil_or_concat rs with rfl | ⟨q, r, rfl⟩
  · exact hy
  · rw [List.concat_eq_append, partS_app]; omega
def valS (ps : List (Int × Int)) (x : Int) (i : Nat) : Int := (List.range i).foldl (fun s j => (s + partS x (ps.getD j (0, 0)).1 (ps.getD j (0, 0)).2 (ot ps j ps.length)) % 2305843009213693951) 0
theorem valS_step (ps : List (Int × Int)) (x : Int) (i : Nat) : valS ps x (i + 1) = (valS ps x i + partS x (ps.getD i (0, 0)).1 (ps.getD i (0, 0)).2 (ot ps i ps.length)) % 2305843009213693951 := by unfold valS; rw [List.range_succ, List.foldl_append]; rfl
theorem Value_ct (ps : List (Int × Int)) (x : Int) (hx : 0 ≤ x) (hs : ∀ j, j < ps.length → 0 ≤ (ps.getD j (0, 0)).1 ∧ (ps.getD j (0, 0)).1 ≤ 64 ∧ 0 ≤ (ps.getD j (0, 0)).2) : Ct Try.prog 23 [LP ps, u64 x] [] (Is2 (u64 (valS ps x ps.length)) []) := by
  refine Ct.introF (E := E 59 0 [.tmp 4] [] [(3, [0, 1, 5, 6]), (7, [0, 1, 5, 6, 7, 8])] []) tab_ok Try.call23 Try.func23 rfl rfl rfl rfl rfl (fun hin => ?_)
  have hl := lp_len ps
  have hb := hin.1.1
  have hw : ∀ j, j < ps.length → wr .u64 (ps.getD j (0, 0)).1 = (ps.getD j (0, 0)).1 := fun j hj => wr_small (by have := hs j hj; omega)
  (conv => whnf); refine LoopI.mk (fun n vs os => ∃ i : Nat, vs = [LP ps, u64 x, u64 (valS ps x i), i64 i] ∧ os = [] ∧ i ≤ ps.length ∧ n = ps.length - i) ps.length ⟨0, rfl, rfl, Nat.zero_le _, rfl⟩ ?_
  rintro n _ _ ⟨i, rfl, rfl, h3, rfl⟩
  (conv => whnf); refine cond_d (fun h5 => ?_) (fun h5 => ?_)
  · have hi : i < ps.length := by omega
    (conv => whnf); refine And.intro (by first | omega | (dsimp only [List.length]; omega) | decide) ?_
    (conv => whnf); refine Idx.mk _ (lp_get hi) ?_; try ((conv => whnf); refine Idx.mk _ rfl ?_)
    (conv => whnf); refine LoopI.mk (fun n vs os => ∃ k : Nat, vs = [LP ps, u64 x, u64 (valS ps x i), i64 i, u64 (partS x (ps.getD i (0, 0)).1 (ps.getD i (0, 0)).2 (ot ps i k)), i64 k] ∧ os = [] ∧ k ≤ ps.length ∧ n = ps.length - k) ps.length ⟨0, rfl, rfl, Nat.zero_le _, rfl⟩ ?_
    rintro n _ _ ⟨k, rfl, rfl, k1, rfl⟩
    (conv => whnf); refine cond_d (fun k3 => ?_) (fun k3 => ?_)
    · have hk : k < ps.length := by omega
      have hp := partS_nn x (ps.getD i (0, 0)).1 (hs i hi).2.2 (ot ps i k)
      (conv => whnf); refine cond_d (fun k4 => ?_) (fun k4 => ?_)
      · (conv => whnf); refine And.intro (by first | omega | (dsimp only [List.length]; omega) | decide) ?_
        (conv => whnf); refine Idx.mk _ (lp_get hk) ?_; try ((conv => whnf); refine Idx.mk _ rfl ?_)
        (conv => whnf); refine (rSub_ct _ _).use ?_
        (conv => whnf); refine (rMul_ct _ _ hp (by omega)).use ?_
        (conv => whnf); refine DrawI.mkF 15 [[7], [0], [6], [40, 41], [42], [43], [44], [0], [8], [46, 47], [48], [49], [50], [45, 51], [52]] (by decide +kernel) ?_
        repeat (first | refine DrawO.mkF _ (And.intro rfl rfl) ?_ | refine DrawO.mkF _ (Idx.mk _ rfl (And.intro rfl rfl)) ?_)
        refine DrawO.mkF _ (And.intro (by omega) (Idx.mk _ (lp_get hi) (And.intro rfl rfl))) ?_
        repeat (first | refine DrawO.mkF _ (And.intro rfl rfl) ?_ | refine DrawO.mkF _ (Idx.mk _ rfl (And.intro rfl rfl)) ?_)
        refine DrawO.mkF _ (And.intro (by omega) (Idx.mk _ (lp_get hk) (And.intro rfl rfl))) ?_
        repeat (first | refine DrawO.mkF _ (And.intro rfl rfl) ?_ | refine DrawO.mkF _ (Idx.mk _ rfl (And.intro rfl rfl)) ?_)
        refine DrawO.mkF _ ((rSub_ct _ _).use (And.intro rfl rfl)) ?_
        refine DrawO.mkF _ ((rInv_ct ((wr .u64 (ps.getD i (0, 0)).1 - wr .u64 (ps.getD k (0, 0)).1) % 2305843009213693951) (by omega)).use (And.intro rfl rfl)) ?_
        (conv => whnf); refine (rMul_ct _ _ (by omega) (inv_rng _).1).use ?_
        (conv => whnf); refine And.intro (by first | omega | (dsimp only [List.length]; omega) | decide) ?_
        conv => whnf
        refine ⟨ps.length - (k + 1), by omega, k + 1, ?_, rfl, by omega, rfl⟩
        rw [ot_step, if_neg (by omega), partS_app, hw i hi, hw k hk]; rfl
      · (conv => whnf); refine And.intro (by first | omega | (dsimp only [List.length]; omega) | decide) ?_
        conv => whnf
        refine ⟨ps.length - (k + 1), by omega, k + 1, ?_, rfl, by omega, rfl⟩
        rw [ot_step, if_pos (by omega)]; rfl
    · have e : k = ps.length := by omega
      rw [e]
      (conv => whnf); refine (rAdd_ct _ _).use ?_
      (conv => whnf); refine And.intro (by first | omega | (dsimp only [List.length]; omega) | decide) ?_
      conv => whnf
      refine ⟨ps.length - (i + 1), by omega, i + 1, ?_, rfl, by omega, rfl⟩
      rw [valS_step]; rfl
  · have e : i = ps.length := by omega
    rw [e]
    exact isInt rfl
end Go.Proofs.Ytlgbdfcipfekhaa

/- Package poly's laws: what they are made of. -/
namespace Go.Proofs.Ytlgbdfcipfekhaa
open Go.V Go.Num
open Go.Eng (wr)
set_option maxRecDepth 100000
set_option maxHeartbeats 4000000
theorem few_ct (xs : List Int) : Ct Try.prog 14 [L xs] [] (Is2 (L (xs.take 12)) []) := by
  refine Ct.introF (E := E 9 0 [.tmp 2] [] [] []) tab_ok Try.call14 Try.func14 rfl rfl rfl rfl rfl (fun hin => ?_)
  have hl := li_len xs
  have hb := hin.1.1
  (conv => whnf); refine cond_d (fun h => ?_) (fun h => ?_)
  · (conv => whnf); refine And.intro (by first | omega | (dsimp only [List.length]; omega) | decide) ?_
    refine isRo ?_
    exact List.map_take.symm
  · refine isRo ?_
    rw [List.take_of_length_le (by omega)]
def somS (ps : List (Int × Int)) : List (Int × Int) := if 9 < ps.length ∧ ps.length ≤ 64 then ps.take 9 else ps
theorem some_ct (ps : List (Int × Int)) : Ct Try.prog 18 [LP ps] [] (Is2 (LP (somS ps)) []) := by
  refine Ct.introF (E := E 14 0 [.tmp 2] [] [] []) tab_ok Try.call18 Try.func18 rfl rfl rfl rfl rfl (fun hin => ?_)
  have hl := lp_len ps
  have hb := hin.1.1
  (conv => whnf); refine cond_d (fun h => ?_) (fun h => ?_)
  · (conv => whnf); refine cond_d (fun h2 => ?_) (fun h2 => ?_)
    · (conv => whnf); refine And.intro (by first | omega | (dsimp only [List.length]; omega) | decide) ?_
      refine isRo ?_
      unfold somS
      rw [if_pos ⟨by omega, by omega⟩]; exact List.map_take.symm
    · refine isRo ?_
      unfold somS
      rw [if_neg (by omega)]
  · refine isRo ?_
    unfold somS
    rw [if_neg (by omega)]
theorem thr2 : thrS [(1, 5), (2, 9)] = [1, 4] := by decide +kernel
theorem sou2 : soundS [(1, 5), (2, 9)] = 0 := by decide +kernel
theorem zer2 : zeroS [(1, 5), (2, 9)] = 1 := by decide +kernel
theorem mul2 : mulS [1, 4] [1, 4] = [1, 8, 16] := by decide +kernel
theorem add2 : addS [1, 4] [2305843009213693950] = [0, 4] := by decide +kernel
theorem awake_ct : Ct Try.prog 15 [] [] (Is2 (.d (.bool true)) []) := by
  have c1 := Through_ct [(1, 5), (2, 9)]
  have c2 := Zero_ct [(1, 5), (2, 9)]
  have c3 := pMul_ct [1, 4] [1, 4] (by simp) (by simp)
  have c4 := pAdd_ct [1, 4] [2305843009213693950] (by simp) (by simp)
  rw [thr2, sou2] at c1
  rw [zer2, sou2] at c2
  rw [mul2] at c3
  rw [add2] at c4
  refine Ct.introF (E := E 53 0 [.tmp 0] [] [] []) tab_ok Try.call15 Try.func15 rfl rfl rfl rfl rfl (fun hin => ?_)
  (conv => whnf); refine (c1).use ?_
  (conv => whnf); refine (c2).use ?_
  (conv => whnf); refine (Same_ct [1, 4] [1, 4]).use ?_
  (conv => whnf); refine (At_ct [1, 4] 10 (by simp)).use ?_
  (conv => whnf); refine (c3).use ?_
  (conv => whnf); refine (Same_ct [1, 8, 16] [1, 8, 16]).use ?_
  (conv => whnf); refine (c4).use ?_
  (conv => whnf); refine (Same_ct [0, 4] [0, 4]).use ?_
  exact isBool rfl
end Go.Proofs.Ytlgbdfcipfekhaa

/- Package poly's laws: values. -/
namespace Go.Proofs.Ytlgbdfcipfekhaa
open Go.V Go.Num
open Go.Eng (wr)
set_option maxRecDepth 100000
set_option maxHeartbeats 4000000
theorem PolyValues_ct (xs : List Int) (x : Int) : Ct Try.prog 3 [L xs, u64 x] [] (Is2 (.d (.bool true)) []) := by
  refine Ct.introF (E := E 17 0 [.tmp 4] [] [] []) tab_ok Try.call3 Try.func3 rfl rfl rfl rfl rfl (fun hin => ?_)
  have hx := inr_u64 hin.2.1
  (conv => whnf); refine (few_ct xs).use ?_
  (conv => whnf); refine (awake_ct).use ?_
  have hl : (xs.take 12).length ≤ 1000000 := by rw [List.length_take]; omega
  (conv => whnf); refine (At_ct (xs.take 12) x hl).use ?_
  (conv => whnf); refine (rAt_ct (xs.take 12) x hl hx.1).use ?_
  refine isBool ?_
  simp
end Go.Proofs.Ytlgbdfcipfekhaa
