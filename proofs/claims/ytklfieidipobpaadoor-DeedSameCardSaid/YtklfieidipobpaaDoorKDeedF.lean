/- A loop over an iterator that keeps what is left in a cell of its own. -/
import Derived.Test.YtklfieidipobpaaDoorKDeedE
import Derived.RangeFuncNested
import Derived.RangeFuncCalls
import Derived.RangeFuncLeaves
import Derived.Shelf.Abstract
import Derived.WalkKit
import Derived.OwnWalkIn
import Derived.TacticsInMore
import Derived.LoopNIn
import Derived.LoopIn
set_option linter.unusedVariables false
set_option linter.unusedSimpArgs false
set_option linter.unnecessarySimpa false
set_option linter.unusedSectionVars false
set_option linter.all false
/- A loop over an iterator that keeps what is left in a cell of its own. -/
namespace Go.Proofs.YtklfieidipobpaaDoor.Txt
open Go.RowKit Go.Shelf
attribute [local go_sem] Oper.semAt_some
set_option maxRecDepth 100000
set_option maxHeartbeats 4000000
variable {α : Type} {F : Fence} {n : Nat} {P : Program}
/-- A round keeps the iterator's cell. -/
def KeepC (Bs : Nat) (t : TypeId) (W W' : World) : Prop := ∀ v, Boxed W Bs t v → Boxed W' Bs t v
theorem KeepC.trans {Bs : Nat} {t : TypeId} {A B C : World} (h : KeepC Bs t A B) (k : KeepC Bs t B C) : KeepC Bs t A C := fun v hv => k v (h v hv)
theorem KeepC.putObj {Bs : Nat} {t : TypeId} {W : World} {l : Nat} {o : Obj} (o' : Obj) (h : W.heap[l]? = some o) (ho : o.isCells = false) : KeepC Bs t W (W.putObj l o') := fun v hv =>
  hv.kept (grownBy_putObj' W l o') (fun e => by cases e; rw [show W.heap[Bs]? = _ from hv] at h; cases h; cases ho)
/-- What a caller's word must bear: new blocks, and stores into the iterator's cell. -/
structure Bears {β : Type} (Bs : Nat) (J : β → World → Prop) : Prop where
  grow : ∀ s A A', J s A → A.grownBy A' none → J s A'
  put : ∀ s A v, J s A → J s (A.setCell ⟨Bs, 0, none⟩ v)
def SeqBox (F : Fence) (n : Nat) (P : Program) (g : Nat) (lb : Array Value) (encs : α → Array Value) (Bs : Nat) (t : TypeId) (S : List α → Prop) (Sp : List α → Prop) (N : Nat) (w : World) : Prop :=
  ∀ (l : Nat) (J Jx : List α → World → Prop) (W : World), Below w.heap.size w W → Bears Bs J →
    (∀ pre x W1, J pre W1 → pre.length < N → YieldAt F (n - 1) P l (encs x) W1 fun e W' => (e = .returned (.bool true) ∧ J (pre ++ [x]) W' ∧ KeepC Bs t W1 W') ∨ (e = .returned (.bool false) ∧ Jx (pre ++ [x]) W')) →
    J [] W →
    CallsIn F n P g (#[.func (.yield l) #[] #[]] ++ lb) W fun e W' => (∃ v, e = .returned v) ∧ ((∃ xs, S xs ∧ J xs W') ∨ (∃ pre, Sp pre ∧ Jx pre W'))
/-- How a round may end. -/
def boxPost (B Bs : Nat) (t : TypeId) (I Ix : List α → World → Prop) (xs : List α) (W : World) : Exit → Act → World → Prop
  | .normal, _, W' => KeepsFrom B W W' ∧ KeepC Bs t W W' ∧ I xs W'
  | .ret, _, W' => KeepsFrom B W W' ∧ Ix xs W'
  | _, _, _ => False
theorem wpIn_rangeBox {g : Operand} {ps : Array Tmp} {assign body : Code} {Q : Exit → Act → World → Prop} {a : Act} {w : World}
    (hro : F.round = none) (h1 : 1 ≤ n) {gf : Nat} {lb : Array Value} (hg : a.eval g = .func (.func gf) #[] lb) (hFg : F.fn gf) (eg : ∀ args w, (callFunc gf args).run P w = .ok (.enter gf args) w)
    {encs : α → Array Value} {Bs : Nat} {t : TypeId} {S Sp : List α → Prop} {N : Nat} (hseq : SeqBox F (n - 1) P gf lb encs Bs t S Sp N w) (hps : ∀ x, (encs x).size = ps.size)
    (I Ix : List α → World → Prop) (hI : OwnFrom w.heap.size I) (hIx : OwnFrom w.heap.size Ix) (hIB : ∀ s A v, I s A → I s (A.setCell ⟨Bs, 0, none⟩ v)) (h0 : I [] w) (a₁ : α → Act)
    (hassign : ∀ (l : Nat) (x : α) (W : World) (K : Act → World → Prop), K (a₁ x) W →
      assign.wpIn (F.inRound l) (n - 1 - 1) P (Exit.then K (fun _ _ _ => False)) { tmps := (ps.zip (encs x)).foldl (fun t (p, v) => t.setIfInBounds p v) a.tmps, defers := [] } W)
    (hbody : ∀ (l : Nat) (pre : List α) (x : α) (W : World), w.heap.size ≤ l → I pre W → pre.length < N → body.wpIn (F.inRound l) (n - 1 - 1) P (boxPost w.heap.size Bs t I Ix (pre ++ [x]) W) (a₁ x) W)
    (hdone : ∀ (D : Nat) (xs : List α) (W : World), w.heap.size ≤ D → S xs → I xs W → W.heap[D]? = some (.deferred (some [])) → Q .normal { a with defers := { target := .collected D, args := #[] } :: a.defers } W)
    (hstop : ∀ (D : Nat) (pre : List α) (W : World), w.heap.size ≤ D → Sp pre → Ix pre W → W.heap[D]? = some (.deferred (some [])) → Code.ret.wpIn F n P Q { a with defers := { target := .collected D, args := #[] } :: a.defers } W) :
    (Code.rangeFunc g ps assign body).wpIn F n P Q a w := by
  refine wpIn_rangeFunc ?_
  intro fn hfn
  rw [hro]
  obtain ⟨rec, hrec⟩ : ∃ rec : LoopState → Option Code → Loop, rec = fun st pe => { state := st, pending := pe, fn, tmps := a.tmps, params := ps, assign, body, defers := w.heap.size } := ⟨_, rfl⟩
  obtain ⟨V, hV⟩ : ∃ V, (w.alloc (.deferred (some []))).alloc (.loop (rec .ready none)) = V := ⟨_, rfl⟩
  have hL : V.heap[w.heap.size + 1]? = some (.loop (rec .ready none)) := by
    rw [← hV]
    have := World.alloc_heap_new (w.alloc (.deferred (some []))) (.loop (rec .ready none))
    rwa [World.size_alloc] at this
  have hK : V.heap[w.heap.size]? = some (.deferred (some [])) := by
    rw [← hV]
    exact (Below.heap_alloc _ _ _ (by simp)).trans (World.alloc_heap_new w _)
  have hb : Below w.heap.size w V := by
    rw [← hV]
    exact ((Below.refl _ w).alloc (Nat.le_refl _) _).alloc (by simp) _
  have hIV : I [] V := by
    rw [← hV]
    exact hI.alloc _ (hI.alloc _ h0)
  have keep : ∀ {A A' : World} {k : Nat} {o : Obj}, A.grownBy A' none → A.heap[k]? = some o → A'.heap[k]? = some o := fun hg hk => (hg.block _ (Array.getElem?_eq_some_iff.1 hk).1 (by simp)).trans hk
  refine ⟨w.heap.size + 1, [{ target := .collected w.heap.size, args := #[] }], V, { target := .fn (.func gf) lb, args := #[.func (.yield (w.heap.size + 1)) #[] #[]] }, V, gf,
    #[.func (.yield (w.heap.size + 1)) #[] #[]] ++ lb, V, ?_, ?_, ?_, ?_, fun _ => h1, ?_⟩
  · rw [← hV, hrec]; exact run_enterLoop_outer _ _ _ _ _
  · simp only [resolve, hg]
    simp [go_sem]
  · intro f' hf'
    simp [Target.leads] at hf'
    subst hf'
    exact hFg
  · simp [invoke, go_sem, eg]
  · refine (hseq (w.heap.size + 1)
      (fun pre W => I pre W ∧ W.heap[w.heap.size + 1]? = some (.loop (rec .ready none)) ∧ W.heap[w.heap.size]? = some (.deferred (some [])))
      (fun pre W => Ix pre W ∧ W.heap[w.heap.size + 1]? = some (.loop (rec .done (some .ret))) ∧ W.heap[w.heap.size]? = some (.deferred (some [])))
      V hb ⟨fun s A A' hs hg' => ⟨hI s A A' none hs.1 hg' (fun r e => by cases e), keep hg' hs.2.1, keep hg' hs.2.2⟩,
        fun s A v hs => ⟨hIB s A v hs.1, (KeepsOthers.setCell A _ v).same _ _ hs.2.1 rfl, (KeepsOthers.setCell A _ v).same _ _ hs.2.2 rfl⟩⟩ ?_ ⟨hIV, hL, hK⟩).mono ?_
    · rintro pre x W ⟨hi, hl, hk⟩ hlen
      have hlt : w.heap.size + 1 < W.heap.size := (Array.getElem?_eq_some_iff.1 hl).1
      have hy := run_yield (P := P) (args := encs x) hl (by rw [hrec]; exact hps x)
      rw [hrec] at hy
      refine ⟨fn, _, assign, body, hy, roundIn_of_wpIn hfn (hassign _ x W _ ⟨_, run_beginRound hl (by rw [hrec]), ?_⟩)⟩
      obtain ⟨U, hU⟩ : ∃ U, W.putObj (w.heap.size + 1) (.loop { rec .ready none with state := .busy }) = U := ⟨_, rfl⟩
      have hl2 : U.heap[w.heap.size + 1]? = some (.loop { rec .ready none with state := .busy }) := by rw [← hU]; exact World.putObj_heap_same hlt
      have hk2 : U.heap[w.heap.size]? = some (.deferred (some [])) := by rw [← hU]; exact (World.putObj_heap_other (by omega)).trans hk
      have hc2 : KeepC Bs t W U := by rw [← hU]; exact KeepC.putObj _ hl rfl
      have hi2 : I pre U := by rw [← hU]; exact hI.putObj _ hi (by omega) hl rfl
      rw [hU]
      refine wpIn_mono (hbody _ pre x U (by omega) hi2 hlen) ?_
      have fin : ∀ (jump : Option Code) (W3 : World), KeepsFrom w.heap.size U W3 →
          (Instr.endRound (w.heap.size + 1) jump).run P W3 = .ok (.bool jump.isNone) (W3.putObj (w.heap.size + 1) (.loop (rec (if jump.isNone then .ready else .done) jump))) ∧
          W3.heap[w.heap.size + 1]? = some (.loop { rec .ready none with state := .busy }) ∧
          (W3.putObj (w.heap.size + 1) (.loop (rec (if jump.isNone then .ready else .done) jump))).heap[w.heap.size + 1]? = some (.loop (rec (if jump.isNone then .ready else .done) jump)) ∧
          (W3.putObj (w.heap.size + 1) (.loop (rec (if jump.isNone then .ready else .done) jump))).heap[w.heap.size]? = some (.deferred (some [])) := fun jump W3 hk3 => by
        have hl3 := hk3.same _ _ (by omega) hl2 rfl
        have := run_endRound (P := P) jump hl3
        rw [hrec] at this ⊢
        exact ⟨this, by rw [hrec] at hl3; exact hl3, World.putObj_heap_same (Array.getElem?_eq_some_iff.1 hl3).1, (World.putObj_heap_other (by omega)).trans (hk3.same _ _ (Nat.le_refl _) hk2 rfl)⟩
      intro e a3 W3 hp
      match e, hp with
      | .normal, hp =>
        obtain ⟨q1, q2, q3⟩ := hp
        obtain ⟨hr, hl3, hl4, hk4⟩ := fin none W3 q1
        exact ⟨_, _, hr, .inl ⟨rfl, ⟨hI.putObj _ q3 (by omega) hl3 rfl, hl4, hk4⟩, (hc2.trans q2).trans (KeepC.putObj _ hl3 rfl)⟩⟩
      | .ret, hp =>
        obtain ⟨q1, q3⟩ := hp
        obtain ⟨hr, hl3, hl4, hk4⟩ := fin (some .ret) W3 q1
        exact ⟨_, _, hr, .inr ⟨rfl, hIx.putObj _ q3 (by omega) hl3 rfl, hl4, hk4⟩⟩
      | .exit _, hp => exact hp.elim
      | .goto _, hp => exact hp.elim
      | .panic _, hp => exact hp.elim
      | .outgrown, hp => exact hp.elim
    · rintro e W2 ⟨⟨v, rfl⟩, (⟨xs, hS, hi, hl, hk⟩ | ⟨pre, hSp, hi, hl, hk⟩)⟩
      · exact ⟨none, _, by have := run_endLoop (P := P) hl (by rw [hrec]; simp); rw [hrec] at this; exact this, hdone _ xs _ (Nat.le_refl _) hS (hI.putObj _ hi (by omega) hl rfl) ((World.putObj_heap_other (by omega)).trans hk)⟩
      · exact ⟨some .ret, _, by have := run_endLoop (P := P) hl (by rw [hrec]; simp); rw [hrec] at this; exact this, hstop _ pre _ (Nat.le_refl _) hSp (hIx.putObj _ hi (by omega) hl rfl) ((World.putObj_heap_other (by omega)).trans hk)⟩
end Go.Proofs.YtklfieidipobpaaDoor.Txt
