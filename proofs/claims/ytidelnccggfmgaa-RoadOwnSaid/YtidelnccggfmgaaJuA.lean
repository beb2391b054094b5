/- The engine, part A: a frame known in part, a heap of own entries beside memory that stays, and the rules for the forms of code. No function of the program is proved here. -/
import Derived.WalkKit
import Derived.WalkSpells
import Derived.WalkLawsBesides
import Derived.Laws.AppendOwn
import Derived.Laws.AppendOwnNone
import Derived.Laws.MakeOwn
import Derived.Lib.ConvBytes
import Derived.Lib.PathFns
import Derived.Lib.IndexBytes
import Derived.Lib.SlBytesConst
import Derived.Deep.Slices
import Derived.Below
import Derived.SizedLaws
import Derived.RowKit
import Derived.WideShapes
set_option linter.unusedVariables false
set_option linter.unusedSimpArgs false
set_option linter.unnecessarySimpa false
set_option linter.unusedSectionVars false
set_option linter.all false
/- The engine, part A: a frame known in part, a heap of own entries beside memory that stays, and the rules for the forms of code. No function of the program is proved here. -/
namespace Go.Eng

/-! ## Frames: slots that are known -/
abbrev Frm := List (Nat × Value)

def look : Frm → Nat → Option Value
  | [], _ => none
  | (k, v) :: l, t => bif Nat.beq k t then some v else look l t

def evF (fr : Frm) : Operand → Option Value
  | .tmp t => look fr t
  | .const v => some v
  | .global g => some (.pointer (some ⟨g, 0, none⟩))
  | .func f => some (.func (.func f) #[] #[])

structure Fr (N : Nat) (fr : Frm) (a : Act) : Prop where
  defers : a.defers = []
  size : a.tmps.size = N
  vals : ∀ t v, look fr t = some v → a.tmps.getD t undef = v

theorem Fr.ev {N : Nat} {fr : Frm} {a : Act} (h : Fr N fr a) {x : Operand} {v : Value} (hx : evF fr x = some v) : a.eval x = v := by
  cases x with
  | tmp t => exact h.vals t v hx
  | const c => simpa [evF, Act.eval] using hx
  | global g => simpa [evF, Act.eval] using hx
  | func f => simpa [evF, Act.eval] using hx

theorem look_cons (k : Nat) (v : Value) (l : Frm) (t : Nat) : look ((k, v) :: l) t = if k = t then some v else look l t := by
  show (bif Nat.beq k t then some v else look l t) = _
  by_cases h : k = t
  · subst h; simp
  · have : Nat.beq k t = false := by
      cases hb : Nat.beq k t with
      | false => rfl
      | true => exact absurd (Nat.eq_of_beq_eq_true hb) h
    rw [this, if_neg h]; rfl

theorem Fr.put {N : Nat} {fr : Frm} {a : Act} (h : Fr N fr a) {d : Nat} (hd : Nat.blt d N = true) (v : Value) : Fr N ((d, v) :: fr) (a.put (some d) v) := by
  have hlt : d < N := by simpa [Nat.blt_eq] using hd
  refine ⟨h.defers, by simp [Act.put, h.size], fun t u hl => ?_⟩
  rw [look_cons] at hl
  by_cases e : d = t
  · subst e
    rw [if_pos rfl] at hl
    simp only [Act.put]
    rw [Array.getD_eq_getD_getElem?, Array.getElem?_setIfInBounds_self_of_lt (by rw [h.size]; exact hlt)]
    simpa using hl
  · rw [if_neg e] at hl
    simp only [Act.put]
    rw [Array.getD_eq_getD_getElem?, Array.getElem?_setIfInBounds_ne e, ← Array.getD_eq_getD_getElem?]
    exact h.vals t u hl

theorem Fr.put0 {N : Nat} {fr : Frm} {a : Act} (h : Fr N fr a) (v : Value) : Fr N fr (a.put none v) := h

/-- A frame that knows no more. -/
def Sub : Frm → Frm → Prop
  | [], _ => True
  | (t, v) :: l, fr => look fr t = some v ∧ Sub l fr

theorem Sub.look {l fr : Frm} (h : Sub l fr) : ∀ t v, look l t = some v → look fr t = some v := by
  induction l with
  | nil => intro t v hl; simp [Eng.look] at hl
  | cons p l ih =>
    obtain ⟨k, u⟩ := p
    intro t v hl
    rw [look_cons] at hl
    by_cases e : k = t
    · subst e; rw [if_pos rfl] at hl; rw [← hl]; exact h.1
    · rw [if_neg e] at hl; exact ih h.2 t v hl

theorem Fr.weak {N : Nat} {fr fr' : Frm} {a : Act} (h : Fr N fr a) (hs : Sub fr' fr) : Fr N fr' a :=
  ⟨h.defers, h.size, fun t v hl => h.vals t v (hs.look t v hl)⟩

/-- The slots of a list, as a frame has them. -/
inductive Pick (fr : Frm) : List Nat → Frm → Prop where
  | nil : Pick fr [] []
  | cons {t : Nat} {v : Value} {ts : List Nat} {b : Frm} (h : look fr t = some v) (k : Pick fr ts b) : Pick fr (t :: ts) ((t, v) :: b)

theorem Pick.sub {fr : Frm} {ts : List Nat} {b : Frm} (h : Pick fr ts b) : Sub b fr := by
  induction h with
  | nil => trivial
  | cons h _ ih => exact ⟨h, ih⟩

/-! ## Memory -/
structure Imm where
  mem : Nat → Option Obj
  os : Os
  tape : Nat → Question → Nat
  output : Array (Nat × ByteArray)

def Imm.le (I J : Imm) : Prop := (∀ b o, I.mem b = some o → J.mem b = some o) ∧ J.os = I.os ∧ J.tape = I.tape ∧ J.output = I.output

theorem Imm.le_refl (I : Imm) : I.le I := ⟨fun _ _ h => h, rfl, rfl, rfl⟩
theorem Imm.le.trans {I J K : Imm} (h : I.le J) (k : J.le K) : I.le K :=
  ⟨fun b o hb => k.1 b o (h.1 b o hb), k.2.1.trans h.2.1, k.2.2.1.trans h.2.2.1, k.2.2.2.trans h.2.2.2⟩

def Imm.cell (I : Imm) (a : Addr) : Option Value :=
  match I.mem a.block with
  | some (.cells c _ _) => if a.spot.isSome then none else c[a.off]?
  | _ => none

theorem Imm.le.cell {I J : Imm} (h : I.le J) {a : Addr} {v : Value} (hc : I.cell a = some v) : J.cell a = some v := by
  unfold Imm.cell at *
  cases hm : I.mem a.block with
  | none => simp [hm] at hc
  | some o => rw [h.1 _ _ hm]; rw [hm] at hc; exact hc

inductive Ent where
  | blk (b : Nat) (t : TypeId) (cs : List Value)
  | obj (b : Nat) (o : Obj)
  | row (v : Value) (e : TypeId) (sz n : Nat) (xs : List Value)

def Ent.own : Ent → Option Nat
  | .blk b _ _ => some b
  | .obj b _ => some b
  | .row v _ _ _ _ => v.ownBlock

/-- A row of our own: its block may have more room than its cap tells. -/
def Row (w : World) (e : TypeId) (size : Nat) (v : Value) (n : Nat) (xs : List Value) : Prop :=
  xs.length = n * size ∧
  ((v = .slice none 0 0 ∧ n = 0) ∨
   ∃ g cap cur, v = .slice (some ⟨g, 0, none⟩) n cap ∧ 0 ≤ g ∧ w.heap[g]? = some (.cells cur e (0, 0)) ∧ n ≤ cap ∧ cap ≤ maxLen ∧ cap * size ≤ cur.size ∧ cur.toList.take (n * size) = xs)
theorem Row.of {w : World} {e : TypeId} {size : Nat} {v : Value} {n : Nat} {xs : List Value} (h : w.ownsRow 0 e size v n xs) : Row w e size v n xs := by
  refine ⟨h.1, ?_⟩
  rcases h.2 with h | ⟨g, cap, cur, h1, h2, h3, h4, h5, h6, h7⟩
  · exact .inl h
  · exact .inr ⟨g, cap, cur, h1, h2, h3, h4, h5, by omega, h7⟩
theorem Row.cells {w : World} {e : TypeId} {size : Nat} {v : Value} {n : Nat} {xs : List Value} (h : Row w e size v n xs) {g : Nat} (hg : v.ownBlock = some g) : ∀ j u, xs[j]? = some u → w.cell? ((⟨g, 0, none⟩ : Addr).add j) = some u := by
  intro j u hu
  rcases h.2 with ⟨rfl, _⟩ | ⟨g', cap, cur, rfl, _, hgg, _, _, _, htake⟩
  · simp [Value.ownBlock] at hg
  · simp [Value.ownBlock] at hg
    subst hg
    have hadd : (⟨g', 0, none⟩ : Addr).add j = ⟨g', j, none⟩ := by unfold Addr.add; split <;> simp_all
    rw [hadd, cell_of_row w g' j cur e (0, 0) hgg]
    rw [← htake, List.getElem?_take] at hu
    split at hu
    · simpa using hu
    · cases hu

def Ent.ok (w : World) : Ent → Prop
  | .blk b t cs => w.heap[b]? = some (.cells cs.toArray t (0, 0))
  | .obj b o => w.heap[b]? = some o
  | .row v e sz n xs => Row w e sz v n xs

def Ent.apart (e e' : Ent) : Prop := ∀ b, e.own = some b → e'.own ≠ some b
theorem Ent.apart.symm {e e' : Ent} (h : e.apart e') : e'.apart e := fun b hb hb' => h b hb' hb

structure HS (I : Imm) (L : List Ent) (w : World) : Prop where
  sat : ∀ b o, I.mem b = some o → w.heap[b]? = some o
  ents : ∀ e ∈ L, e.ok w
  dis : L.Pairwise Ent.apart
  imm : ∀ e ∈ L, ∀ b, e.own = some b → I.mem b = none
  os : w.os = I.os
  tape : w.tape = I.tape
  output : w.output = I.output

theorem Ent.ok.lt {w : World} {e : Ent} (h : e.ok w) {b : Nat} (hb : e.own = some b) : b < w.heap.size := by
  cases e with
  | blk c t cs => simp only [Ent.own, Option.some.injEq] at hb; subst hb; exact (Array.getElem?_eq_some_iff.1 h).1
  | obj c o => simp only [Ent.own, Option.some.injEq] at hb; subst hb; exact (Array.getElem?_eq_some_iff.1 h).1
  | row v e sz n xs =>
    obtain ⟨_, h | ⟨g, cap, cur, rfl, _, hg, _⟩⟩ := h
    · rw [h.1] at hb; simp [Ent.own, Value.ownBlock] at hb
    · simp only [Ent.own, Value.ownBlock, Option.some.injEq] at hb; subst hb; exact (Array.getElem?_eq_some_iff.1 hg).1

/-- What an entry says hangs on its own block alone. -/
theorem Ent.ok.same {w w' : World} {e : Ent} (h : e.ok w) (hs : ∀ b, e.own = some b → w'.heap[b]? = w.heap[b]?) : e.ok w' := by
  cases e with
  | blk c t cs => exact (hs c rfl).trans h
  | obj c o => exact (hs c rfl).trans h
  | row v e sz n xs =>
    obtain ⟨hl, h | ⟨g, cap, cur, rfl, h0, hg, h1⟩⟩ := h
    · exact ⟨hl, .inl h⟩
    · exact ⟨hl, .inr ⟨g, cap, cur, rfl, h0, (hs g rfl).trans hg, h1⟩⟩

theorem HS.lt {I : Imm} {L : List Ent} {w : World} (h : HS I L w) {b : Nat} {o : Obj} (hb : I.mem b = some o) : b < w.heap.size :=
  (Array.getElem?_eq_some_iff.1 (h.sat b o hb)).1

theorem HS.cell {I : Imm} {L : List Ent} {w : World} (h : HS I L w) {a : Addr} {v : Value} (hc : I.cell a = some v) : w.cell? a = some v := by
  unfold Imm.cell at hc
  cases hm : I.mem a.block with
  | none => simp [hm] at hc
  | some o =>
    rw [hm] at hc
    unfold World.cell?
    rw [h.sat _ _ hm]; exact hc

/-- Order is of no weight. -/
theorem HS.perm {I : Imm} {L L' : List Ent} {w : World} (h : HS I L w) (hp : L.Perm L') : HS I L' w :=
  ⟨h.sat, fun e he => h.ents e (hp.mem_iff.2 he), hp.pairwise h.dis (fun h => h.symm), fun e he => h.imm e (hp.mem_iff.2 he), h.os, h.tape, h.output⟩

theorem HS.sublist {I : Imm} {L L' : List Ent} {w : World} (h : HS I L w) (hp : L'.Sublist L) : HS I L' w :=
  ⟨h.sat, fun e he => h.ents e (hp.subset he), h.dis.sublist hp, fun e he => h.imm e (hp.subset he), h.os, h.tape, h.output⟩

theorem HS.congr {I : Imm} {L : List Ent} {w w' : World} (h : HS I L w) (hh : w'.heap = w.heap) (ho : w'.os = w.os) (ht : w'.tape = w.tape) (hu : w'.output = w.output) : HS I L w' :=
  ⟨fun b o hb => by rw [hh]; exact h.sat b o hb, fun e he => (h.ents e he).same (fun b _ => by rw [hh]), h.dis, h.imm, ho.trans h.os, ht.trans h.tape, hu.trans h.output⟩

theorem HS.drew {I : Imm} {L : List Ent} {w : World} (h : HS I L w) : HS I L w.drew := h.congr rfl rfl rfl rfl

theorem heap_alloc (w : World) (o : Obj) : (w.alloc o).heap = w.heap.push o := rfl
theorem alloc_old {w : World} {o : Obj} {b : Nat} (hb : b < w.heap.size) : (w.alloc o).heap[b]? = w.heap[b]? := by
  rw [heap_alloc, Array.getElem?_push, if_neg (by omega)]
theorem alloc_new (w : World) (o : Obj) : (w.alloc o).heap[w.heap.size]? = some o := by
  rw [heap_alloc, Array.getElem?_push, if_pos rfl]

/-- One entry in the place of another: its block may have changed, new blocks may have come. -/
theorem HS.swap {I : Imm} {e e' : Ent} {L : List Ent} {w w' : World} (h : HS I (e :: L) w)
    (hs : ∀ b, b < w.heap.size → e.own ≠ some b → w'.heap[b]? = w.heap[b]?) (hok : e'.ok w')
    (hown : ∀ b, e'.own = some b → e.own = some b ∨ w.heap.size ≤ b)
    (ho : w'.os = w.os) (ht : w'.tape = w.tape) (hu : w'.output = w.output) : HS I (e' :: L) w' := by
  have hne : ∀ x ∈ L, ∀ b, x.own = some b → e.own ≠ some b := fun x hx b hb hb' => (List.pairwise_cons.1 h.dis).1 x hx b hb' hb
  refine ⟨fun b o hb => ?_, fun x hx => ?_, ?_, fun x hx b hb => ?_, ho.trans h.os, ht.trans h.tape, hu.trans h.output⟩
  · rw [hs b (h.lt hb) (fun hc => by have := h.imm e (List.mem_cons_self) b hc; rw [this] at hb; cases hb)]
    exact h.sat b o hb
  · rcases List.mem_cons.1 hx with rfl | hx
    · exact hok
    · have hx' := h.ents x (List.mem_cons_of_mem _ hx)
      exact hx'.same (fun b hb => hs b (hx'.lt hb) (hne x hx b hb))
  · refine List.pairwise_cons.2 ⟨fun x hx b hb hb' => ?_, (List.pairwise_cons.1 h.dis).2⟩
    rcases hown b hb with h1 | h1
    · exact hne x hx b hb' h1
    · have := (h.ents x (List.mem_cons_of_mem _ hx)).lt hb'; omega
  · rcases List.mem_cons.1 hx with rfl | hx
    · rcases hown b hb with h1 | h1
      · exact h.imm e List.mem_cons_self b h1
      · cases hm : I.mem b with
        | none => rfl
        | some o => have := h.lt hm; omega
    · exact h.imm x (List.mem_cons_of_mem _ hx) b hb

/-- A new entry: nothing that was there has changed. -/
theorem HS.add {I : Imm} {e' : Ent} {L : List Ent} {w w' : World} (h : HS I L w)
    (hs : ∀ b, b < w.heap.size → w'.heap[b]? = w.heap[b]?) (hok : e'.ok w')
    (hown : ∀ b, e'.own = some b → w.heap.size ≤ b)
    (ho : w'.os = w.os) (ht : w'.tape = w.tape) (hu : w'.output = w.output) : HS I (e' :: L) w' := by
  refine ⟨fun b o hb => ?_, fun x hx => ?_, ?_, fun x hx b hb => ?_, ho.trans h.os, ht.trans h.tape, hu.trans h.output⟩
  · rw [hs b (h.lt hb)]; exact h.sat b o hb
  · rcases List.mem_cons.1 hx with rfl | hx
    · exact hok
    · have hx' := h.ents x hx
      exact hx'.same (fun b hb => hs b (hx'.lt hb))
  · refine List.pairwise_cons.2 ⟨fun x hx b hb hb' => ?_, h.dis⟩
    have := hown b hb
    have := (h.ents x hx).lt hb'; omega
  · rcases List.mem_cons.1 hx with rfl | hx
    · have h1 := hown b hb
      cases hm : I.mem b with
      | none => rfl
      | some o => have := h.lt hm; omega
    · exact h.imm x hx b hb

/-- Nothing that was there has changed. -/
theorem HS.later {I : Imm} {L : List Ent} {w w' : World} (h : HS I L w)
    (hs : ∀ b, b < w.heap.size → w'.heap[b]? = w.heap[b]?)
    (ho : w'.os = w.os) (ht : w'.tape = w.tape) (hu : w'.output = w.output) : HS I L w' := by
  refine ⟨fun b o hb => ?_, fun x hx => ?_, h.dis, h.imm, ho.trans h.os, ht.trans h.tape, hu.trans h.output⟩
  · rw [hs b (h.lt hb)]; exact h.sat b o hb
  · have hx' := h.ents x hx
    exact hx'.same (fun b hb => hs b (hx'.lt hb))

theorem HS.alloc_blk {I : Imm} {L : List Ent} {w : World} (h : HS I L w) (cs : List Value) (t : TypeId) : HS I (.blk w.heap.size t cs :: L) (w.alloc (.cells cs.toArray t)) :=
  h.add (fun b hb => alloc_old hb) (alloc_new w _) (fun b hb => by simp only [Ent.own, Option.some.injEq] at hb; omega) rfl rfl rfl

theorem HS.alloc_obj {I : Imm} {L : List Ent} {w : World} (h : HS I L w) (o : Obj) : HS I (.obj w.heap.size o :: L) (w.alloc o) :=
  h.add (fun b hb => alloc_old hb) (alloc_new w _) (fun b hb => by simp only [Ent.own, Option.some.injEq] at hb; omega) rfl rfl rfl

/-- An entry stays as it is from now on. -/
def Imm.with (I : Imm) (b : Nat) (o : Obj) : Imm := { I with mem := fun c => if c = b then some o else I.mem c }

theorem Imm.with_le {I : Imm} {b : Nat} (o : Obj) (h : I.mem b = none) : I.le (I.with b o) := by
  refine ⟨fun c x hc => ?_, rfl, rfl, rfl⟩
  simp only [Imm.with]
  rw [if_neg (by rintro rfl; rw [h] at hc; cases hc)]; exact hc

theorem HS.freeze {I : Imm} {e : Ent} {L : List Ent} {w : World} (h : HS I (e :: L) w) {b : Nat} {o : Obj} (hb : e.own = some b) (ho : w.heap[b]? = some o) : HS (I.with b o) L w := by
  have hd := List.pairwise_cons.1 h.dis
  refine ⟨fun c x hc => ?_, fun x hx => h.ents x (List.mem_cons_of_mem _ hx), hd.2, fun x hx c hc => ?_, h.os, h.tape, h.output⟩
  · simp only [Imm.with] at hc
    by_cases e1 : c = b
    · subst e1; rw [if_pos rfl] at hc; rw [← hc]; exact ho
    · rw [if_neg e1] at hc; exact h.sat c x hc
  · simp only [Imm.with]
    rw [if_neg (by rintro rfl; exact hd.1 x hx _ hb hc)]
    exact h.imm x (List.mem_cons_of_mem _ hx) c hc

/-! ## Lists of entries: one is changed, one is taken out, some are let go -/
inductive Upd : List Ent → Ent → Ent → List Ent → Prop where
  | head {e e' : Ent} {L : List Ent} : Upd (e :: L) e e' (e' :: L)
  | tail {x e e' : Ent} {L L' : List Ent} (h : Upd L e e' L') : Upd (x :: L) e e' (x :: L')

theorem Upd.split {L L' : List Ent} {e e' : Ent} (h : Upd L e e' L') : ∃ R, L.Perm (e :: R) ∧ (e' :: R).Perm L' := by
  induction h with
  | head => exact ⟨_, .refl _, .refl _⟩
  | @tail x e e' L L' _ ih =>
    obtain ⟨R, h1, h2⟩ := ih
    exact ⟨x :: R, (h1.cons x).trans (.swap _ _ _), (List.Perm.swap _ _ _).trans (h2.cons x)⟩

inductive Rem : List Ent → Ent → List Ent → Prop where
  | head {e : Ent} {L : List Ent} : Rem (e :: L) e L
  | tail {x e : Ent} {L L' : List Ent} (h : Rem L e L') : Rem (x :: L) e (x :: L')

theorem Rem.mid : ∀ {M : List Ent} {e : Ent} {R : List Ent}, Rem (M ++ e :: R) e (M ++ R)
  | [], _, _ => .head
  | _ :: _, _, _ => .tail Rem.mid

theorem Rem.eq {e e' : Ent} {L : List Ent} (h : e = e') : Rem (e :: L) e' L := by subst h; exact .head

theorem Rem.perm {L L' : List Ent} {e : Ent} (h : Rem L e L') : L.Perm (e :: L') := by
  induction h with
  | head => exact .refl _
  | tail _ ih => exact (ih.cons _).trans (.swap _ _ _)

inductive Take : List Ent → List Ent → List Ent → Prop where
  | nil {L : List Ent} : Take L [] L
  | cons {L L' R M : List Ent} {e : Ent} (h : Rem L e L') (k : Take L' M R) : Take L (e :: M) R

/-- A list that stands whole at the head of what is there. -/
theorem Take.app' : ∀ (L0 R : List Ent), Take (L0 ++ R) L0 R
  | [], _ => .nil
  | _ :: L0, R => .cons .head (Take.app' L0 R)
theorem Take.skip {x : Ent} {L M R : List Ent} (h : Take L M R) : Take (x :: L) M (x :: R) := by
  induction h with
  | nil => exact .nil
  | cons h _ ih => exact .cons (.tail h) ih

theorem Take.perm {L M R : List Ent} (h : Take L M R) : L.Perm (M ++ R) := by
  induction h with
  | nil => exact .refl _
  | cons h _ ih => exact h.perm.trans (ih.cons _)

/-- One list is all of another's entries, in some order, or fewer. -/
inductive Have : List Ent → List Ent → Prop where
  | refl {L : List Ent} : Have L L
  | skip {e : Ent} {L L' : List Ent} (h : Have L L') : Have (e :: L) L'
  | cons {e : Ent} {L M L' : List Ent} (h : Rem L e M) (k : Have M L') : Have L (e :: L')
  | perm {L M L' : List Ent} (h : L.Perm M) (k : Have M L') : Have L L'

theorem Have.app : ∀ {M R R' : List Ent}, Have R R' → Have (M ++ R) (M ++ R')
  | [], _, _, h => h
  | _ :: _, _, _, h => .cons .head (Have.app h)

theorem HS.have' {I : Imm} {L L' : List Ent} {w : World} (h : HS I L w) (hp : Have L L') : ∃ R, L.Perm (L' ++ R) := by
  clear h
  induction hp with
  | refl => exact ⟨[], by simp⟩
  | @skip e L L' _ ih => obtain ⟨R, hR⟩ := ih; exact ⟨e :: R, (hR.cons e).trans List.perm_middle.symm⟩
  | cons hr _ ih => obtain ⟨R, hR⟩ := ih; exact ⟨R, hr.perm.trans (hR.cons _)⟩
  | perm h _ ih => obtain ⟨R, hR⟩ := ih; exact ⟨R, h.trans hR⟩

theorem HS.keep {I : Imm} {L L' : List Ent} {w : World} (h : HS I L w) (hp : Have L L') : HS I L' w := by
  obtain ⟨R, hR⟩ := h.have' hp
  exact (h.perm hR).sublist (List.sublist_append_left _ _)

/-! ## Code -/
abbrev Post := Exit → Frm → Imm → List Ent → Prop

def Cd (P : Program) (N : Nat) (c : Code) (fr : Frm) (I : Imm) (L : List Ent) (Q : Post) : Prop :=
  ∀ a w, Fr N fr a → HS I L w → c.wp P (fun e a' w' => ∃ fr' I' L', Fr N fr' a' ∧ HS I' L' w' ∧ Q e fr' I' L') a w

section
variable {P : Program} {N : Nat} {fr : Frm} {I : Imm} {L : List Ent} {Q : Post} {c x y : Code}

def seqQ (P : Program) (N : Nat) (y : Code) (Q : Post) : Post
  | .normal, fr, I, L => Cd P N y fr I L Q
  | e, fr, I, L => Q e fr I L

theorem Cd.seq (h : Cd P N x fr I L (seqQ P N y Q)) : Cd P N (.seq x y) fr I L Q := by
  intro a w ha hw
  refine wp_seq (wp_mono (h a w ha hw) ?_)
  rintro e a' w' ⟨fr', I', L', ha', hw', hq⟩
  cases e with
  | normal => exact hq a' w' ha' hw'
  | _ => exact ⟨fr', I', L', ha', hw', hq⟩

theorem seqQ.normal (h : Cd P N y fr I L Q) : seqQ P N y Q .normal fr I L := h
theorem seqQ.ret (h : Q .ret fr I L) : seqQ P N y Q .ret fr I L := h
theorem seqQ.exit {id : Nat} (h : Q (.exit id) fr I L) : seqQ P N y Q (.exit id) fr I L := h

theorem Cd.skip (h : Q .normal fr I L) : Cd P N .skip fr I L Q := fun _ _ ha hw => wp_skip ⟨fr, I, L, ha, hw, h⟩
theorem Cd.exit {id : Nat} (h : Q (.exit id) fr I L) : Cd P N (.exit id) fr I L Q := fun _ _ ha hw => wp_exit ⟨fr, I, L, ha, hw, h⟩
theorem Cd.ret (h : Q .ret fr I L) : Cd P N .ret fr I L Q := fun _ _ ha hw => wp_ret ⟨fr, I, L, ha, hw, h⟩

theorem Cd.condT {o : Operand} (hc : evF fr o = some (.bool true)) (h : Cd P N x fr I L Q) : Cd P N (.cond o x y) fr I L Q :=
  fun a w ha hw => wp_cond_true (ha.ev hc) (h a w ha hw)
theorem Cd.condF {o : Operand} (hc : evF fr o = some (.bool false)) (h : Cd P N y fr I L Q) : Cd P N (.cond o x y) fr I L Q :=
  fun a w ha hw => wp_cond_false (ha.ev hc) (h a w ha hw)
theorem Cd.cond {o : Operand} {t : Bool} (hc : evF fr o = some (.bool t)) (ht : t = true → Cd P N x fr I L Q) (hf : t = false → Cd P N y fr I L Q) : Cd P N (.cond o x y) fr I L Q :=
  fun a w ha hw => wp_cond_split (ha.ev hc) (fun e => ht e a w ha hw) (fun e => hf e a w ha hw)
/-- A test on a proposition. -/
theorem Cd.condD {o : Operand} {p : Prop} [Decidable p] (hc : evF fr o = some (.bool (decide p))) (ht : p → Cd P N x fr I L Q) (hf : ¬ p → Cd P N y fr I L Q) : Cd P N (.cond o x y) fr I L Q :=
  Cd.cond hc (fun e => ht (of_decide_eq_true e)) (fun e => hf (of_decide_eq_false e))

def blkQ (id : Nat) (Q : Post) : Post
  | .exit id', fr, I, L => if id' = id then Q .normal fr I L else Q (.exit id') fr I L
  | e, fr, I, L => Q e fr I L

theorem Cd.block {id : Nat} (h : Cd P N c fr I L (blkQ id Q)) : Cd P N (.block id c) fr I L Q := by
  intro a w ha hw
  refine wp_block (wp_mono (h a w ha hw) ?_)
  rintro e a' w' ⟨fr', I', L', ha', hw', hq⟩
  cases e with
  | exit id' =>
    simp only [Exit.inBlock]
    simp only [blkQ] at hq
    split
    · rename_i hi; rw [if_pos hi] at hq; exact ⟨fr', I', L', ha', hw', hq⟩
    · rename_i hi; rw [if_neg hi] at hq; exact ⟨fr', I', L', ha', hw', hq⟩
  | _ => exact ⟨fr', I', L', ha', hw', hq⟩

theorem blkQ.normal {id : Nat} (h : Q .normal fr I L) : blkQ id Q .normal fr I L := h
theorem blkQ.ret {id : Nat} (h : Q .ret fr I L) : blkQ id Q .ret fr I L := h
theorem blkQ.here {id : Nat} (h : Q .normal fr I L) : blkQ id Q (.exit id) fr I L := by simpa [blkQ] using h
theorem blkQ.out {id id' : Nat} (hne : Nat.beq id' id = false) (h : Q (.exit id') fr I L) : blkQ id Q (.exit id') fr I L := by
  have : id' ≠ id := by rintro rfl; simp at hne
  simpa [blkQ, this] using h

/-- What a loop's round leaves. -/
def loopQ (Inv : Nat → Frm → Imm → List Ent → Prop) (n : Nat) (base : Frm) (Q : Post) : Post
  | .normal, fr, I, L => ∃ m vs L', m < n ∧ Inv m vs I L' ∧ Sub (vs ++ base) fr ∧ Have L L'
  | e, fr, I, L => Q e fr I L

theorem loopQ.ret {Inv : Nat → Frm → Imm → List Ent → Prop} {n : Nat} {base : Frm} (h : Q .ret fr I L) : loopQ Inv n base Q .ret fr I L := h
theorem loopQ.exit {Inv : Nat → Frm → Imm → List Ent → Prop} {n : Nat} {base : Frm} {id : Nat} (h : Q (.exit id) fr I L) : loopQ Inv n base Q (.exit id) fr I L := h

theorem Cd.weak {fr' : Frm} (hs : Sub fr' fr) (h : Cd P N c fr' I L Q) : Cd P N c fr I L Q := fun a w ha hw => h a w (ha.weak hs) hw
theorem Cd.pick (ts : List Nat) {base : Frm} (hb : Pick fr ts base) (h : Cd P N c base I L Q) : Cd P N c fr I L Q := fun a w ha hw => h a w (ha.weak hb.sub) hw
theorem Cd.drop {L' : List Ent} (hs : Have L L') (h : Cd P N c fr I L' Q) : Cd P N c fr I L Q := fun a w ha hw => h a w ha (hw.keep hs)


theorem wp_loop_rel {P : Program} {c : Code} {Q : Exit → Act → World → Prop} {a : Act} {w : World} (J : Nat → Act → World → Prop) {n : Nat} (h₀ : J n a w)
    (round : ∀ n a w, J n a w → c.wp P (Exit.then (fun a' w' => ∃ m, m < n ∧ J m a' w') Q) a w) : (Code.loop c).wp P Q a w := by
  intro b k cs
  have key : ∀ n a w, J n a w →
      ∃ e a' w', Q e a' w' ∧ Arrives P (lone (b.at a (.code c :: .inLoop c :: k)) cs w) b k cs e a' w' := by
    intro n
    induction n using Nat.strongRecOn with
    | _ n ih =>
      intro a w hI
      obtain ⟨e, a₁, w₁, hq, harr⟩ := round n a w hI b (.inLoop c :: k) cs
      cases e with
      | normal =>
        obtain ⟨m, hlt, hI₁⟩ := hq
        obtain ⟨e₂, a₂, w₂, hq₂, harr₂⟩ := ih m hlt a₁ w₁ hI₁
        exact ⟨e₂, a₂, w₂, hq₂, .of_steps (Steps.trans harr (.one step_inLoop)) harr₂⟩
      | exit id => exact ⟨_, a₁, w₁, hq, .pass (x := .inLoop c) rfl (fun _ _ => .inl (by simp)) harr⟩
      | goto l => exact ⟨_, a₁, w₁, hq, .pass (x := .inLoop c) rfl (fun _ _ => .inl (by simp)) harr⟩
      | ret => exact ⟨_, a₁, w₁, hq, .pass (x := .inLoop c) rfl (fun _ _ => .inl (by simp)) harr⟩
      | panic ch => exact ⟨_, a₁, w₁, hq, .pass (x := .inLoop c) rfl (fun _ _ => .inl (by simp)) harr⟩
      | outgrown => exact ⟨_, a₁, w₁, hq, .pass (x := .inLoop c) rfl (fun _ _ => .inl (by simp)) harr⟩
  obtain ⟨e, a', w', hq, harr⟩ := key n a w h₀
  exact ⟨e, a', w', hq, .of_steps (.one step_loop) harr⟩

theorem look_append (l m : Frm) (t : Nat) : look (l ++ m) t = (look l t).or (look m t) := by
  induction l with
  | nil => simp [look]
  | cons p l ih =>
    obtain ⟨k, v⟩ := p
    rw [List.cons_append, look_cons, look_cons, ih]
    split <;> simp

theorem Fr.app {N : Nat} {vs base fr : Frm} {a : Act} (h : Fr N fr a) (hv : Sub vs fr) (hb : Sub base fr) : Fr N (vs ++ base) a :=
  ⟨h.defers, h.size, fun t v hl => by
    rw [look_append] at hl
    cases hx : look vs t with
    | none => rw [hx] at hl; exact h.vals t v (hb.look t v (by simpa using hl))
    | some u => rw [hx] at hl; exact h.vals t v (by rw [hv.look t u hx]; simpa using hl)⟩

/-- A loop: 'keep': the slots that it does not turn; 'vs0': those that it turns. -/
theorem Cd.loop (keep : List Nat) (Inv : Nat → Frm → Imm → List Ent → Prop) {base : Frm} (hb : Pick fr keep base)
    (h0 : ∃ n vs L', Inv n vs I L' ∧ Sub vs fr ∧ Have L L')
    (round : ∀ n vs I L, Inv n vs I L → Cd P N c (vs ++ base) I L (loopQ Inv n base Q)) : Cd P N (.loop c) fr I L Q := by
  intro a w ha hw
  obtain ⟨n, vs, L', hi, hs, hd⟩ := h0
  refine wp_loop_rel (fun n a w => ∃ vs I L, Inv n vs I L ∧ Fr N (vs ++ base) a ∧ HS I L w) (n := n) ⟨vs, I, L', hi, ha.app hs hb.sub, hw.keep hd⟩ ?_
  rintro n a w ⟨vs, I, L, hi, ha, hw⟩
  refine wp_mono (round n vs I L hi a w ha hw) ?_
  rintro e a' w' ⟨fr', I', L', ha', hw', hq⟩
  cases e with
  | normal =>
    obtain ⟨m, vs', L2, hlt, hi', hsub, hdr⟩ := hq
    exact ⟨m, hlt, vs', I', L2, hi', ha'.weak hsub, hw'.keep hdr⟩
  | _ => exact ⟨fr', I', L', ha', hw', hq⟩

/-- Where ways meet again: what holds there. -/
theorem Cd.cut (J : Frm → Imm → List Ent → Prop) (h : Cd P N x fr I L (fun | .normal, fr, I, L => J fr I L | e, fr, I, L => Q e fr I L))
    (k : ∀ fr I L, J fr I L → Cd P N y fr I L Q) : Cd P N (.seq x y) fr I L Q := by
  refine Cd.seq fun a w ha hw => wp_mono (h a w ha hw) ?_
  rintro e a' w' ⟨fr', I', L', ha', hw', hq⟩
  refine ⟨fr', I', L', ha', hw', ?_⟩
  cases e with
  | normal => exact k _ _ _ hq
  | _ => exact hq

/-- With less known of the slots. -/
def cutQ (keep : List Nat) (J : Frm → Imm → List Ent → Prop) (base : Frm) (Q : Post) : Post
  | .normal, fr, I, L => ∃ vs L', J vs I L' ∧ Sub (vs ++ base) fr ∧ Have L L' ∧ keep = keep
  | e, fr, I, L => Q e fr I L
theorem cutQ.ret {keep : List Nat} {J : Frm → Imm → List Ent → Prop} {base : Frm} (h : Q .ret fr I L) : cutQ keep J base Q .ret fr I L := h
theorem cutQ.exit {keep : List Nat} {J : Frm → Imm → List Ent → Prop} {base : Frm} {id : Nat} (h : Q (.exit id) fr I L) : cutQ keep J base Q (.exit id) fr I L := h
theorem Cd.join (keep : List Nat) (J : Frm → Imm → List Ent → Prop) {base : Frm} (hb : Pick fr keep base) (h : Cd P N x fr I L (cutQ keep J base Q))
    (k : ∀ vs I L, J vs I L → Cd P N y (vs ++ base) I L Q) : Cd P N (.seq x y) fr I L Q := by
  have _ := hb
  refine Cd.seq fun a w ha hw => wp_mono (h a w ha hw) ?_
  rintro e a' w' ⟨fr', I', L', ha', hw', hq⟩
  cases e with
  | normal =>
    obtain ⟨vs, L2, hj, hs, hd, _⟩ := hq
    exact ⟨_, I', L2, ha'.weak hs, hw'.keep hd, k _ _ _ hj⟩
  | _ => exact ⟨fr', I', L', ha', hw', hq⟩

/-! ## Functions -/
def Meets (P : Program) (f : FuncId) (args : Array Value) (I : Imm) (L : List Ent) (post : Value → Imm → List Ent → Prop) : Prop :=
  ∀ w F, HS I (L ++ F) w → Calls P f args w fun e w' => ∃ v I' L', e = .returned v ∧ I.le I' ∧ post v I' L' ∧ HS I' (L' ++ F) w'

theorem Meets.mono {f : FuncId} {args : Array Value} {post post' : Value → Imm → List Ent → Prop} (h : Meets P f args I L post) (hp : ∀ v I' L', I.le I' → post v I' L' → post' v I' L') : Meets P f args I L post' :=
  fun w F hw => (h w F hw).mono fun _ _ ⟨v, I', L', he, hle, hq, hs⟩ => ⟨v, I', L', he, hle, hp v I' L' hle hq, hs⟩

def argF : Nat → List Value → Frm
  | _, [] => []
  | i, v :: vs => (i, v) :: argF (i + 1) vs

theorem argF_look : ∀ (vs : List Value) (i t : Nat) (v : Value), look (argF i vs) t = some v → i ≤ t ∧ vs[t - i]? = some v := by
  intro vs
  induction vs with
  | nil => intro i t v h; simp [argF, look] at h
  | cons x vs ih =>
    intro i t v h
    rw [argF, look_cons] at h
    by_cases e : i = t
    · subst e; rw [if_pos rfl] at h; simp at h; subst h; simp
    · rw [if_neg e] at h
      obtain ⟨h1, h2⟩ := ih (i + 1) t v h
      refine ⟨by omega, ?_⟩
      have : t - i = (t - (i + 1)) + 1 := by omega
      rw [this]; simpa using h2

/-- A function that only tells a value. -/
def Ret (I : Imm) (r : Value) : Value → Imm → List Ent → Prop := fun v I' L' => r = v ∧ I = I' ∧ [] = L'
theorem Ret.mk {I : Imm} {r v : Value} (h : v = r) : Ret I r v I [] := ⟨h.symm, rfl, rfl⟩

theorem look_val {fr : Frm} {t : Nat} {u v : Value} (h : look fr t = some u) (e : u = v) : look fr t = some v := by rw [h, e]
theorem int_congr {k : IntKind} {a b : Int} (h : a = b) : Value.int k a = .int k b := by rw [h]
theorem bool_congr {a b : Bool} (h : a = b) : Value.bool a = .bool b := by rw [h]
theorem str_congr {a b : ByteArray} (h : a = b) : Value.string a = .string b := by rw [h]
theorem loopQ.round {Inv : Nat → Frm → Imm → List Ent → Prop} {n m : Nat} {base : Frm} {vs : Frm} {L' : List Ent} (hi : Inv m vs I L') (hlt : m < n) (hs : Sub (vs ++ base) fr) (hh : Have L L') : loopQ Inv n base Q .normal fr I L := ⟨m, vs, L', hlt, hi, hs, hh⟩
theorem cutQ.mk {keep : List Nat} {J : Frm → Imm → List Ent → Prop} {base : Frm} {vs : Frm} {L' : List Ent} (hj : J vs I L') (hs : Sub (vs ++ base) fr) (hh : Have L L') : cutQ keep J base Q .normal fr I L := ⟨vs, L', hj, hs, hh, rfl⟩
end
end Go.Eng

/- The engine, part B: the rules for operations. No function of the program is proved here. -/
namespace Go.Eng

def wantF (all : Array Oper) (fr : Frm) (o : Oper) : Option Bool :=
  match o.guard with
  | none => some true
  | some (j, b) => match (all[j]?).bind (·.dst) with
    | some s => match look fr s with
      | some (.bool c) => some (c == b)
      | some (.tuple _) => some false
      | _ => none
    | none => none

theorem wantF_spec {all : Array Oper} {N : Nat} {fr : Frm} {a : Act} {o : Oper} {b : Bool} (ha : Fr N fr a) (h : wantF all fr o = some b) : Region.wanted o (yielded all a.tmps) = b := by
  unfold wantF at h
  unfold Region.wanted
  cases hg : o.guard with
  | none => rw [hg] at h; simpa using h
  | some p =>
    obtain ⟨j, want⟩ := p
    rw [hg] at h
    simp only at h ⊢
    cases hd : (all[j]?).bind (·.dst) with
    | none => rw [hd] at h; simp at h
    | some s =>
      rw [hd] at h
      simp only at h
      cases hl : look fr s with
      | none => rw [hl] at h; simp at h
      | some v =>
        rw [hl] at h
        have hv := ha.vals s _ hl
        cases v with
        | bool c =>
          simp at h
          have : a.tmps[s]? = some (.bool c) := by
            rw [Array.getD_eq_getD_getElem?] at hv
            cases hx : a.tmps[s]? with
            | none => rw [hx] at hv; simp [undef] at hv
            | some u => rw [hx] at hv; simpa using hv
          simp only [yielded, hd, Option.bind_some, this]
          subst h
          cases c <;> cases want <;> rfl
        | tuple vs =>
          simp at h; subst h
          have : yielded all a.tmps j = none := by
            unfold yielded
            rw [hd]
            simp only [Option.bind_some]
            rw [Array.getD_eq_getD_getElem?] at hv
            cases hx : a.tmps[s]? with
            | none => rfl
            | some u => rw [hx] at hv; simp at hv; subst hv; rfl
          rw [this]; rfl
        | _ => simp at h

section
variable {P : Program} {N : Nat} {all : Array Oper} {o : Oper} {rest : List Oper} {fr : Frm} {I : Imm} {L : List Ent}

/-- Operations, one behind the other. -/
def Opz (P : Program) (N : Nat) (all : Array Oper) (ops : List Oper) (fr : Frm) (I : Imm) (L : List Ent) (K : Frm → Imm → List Ent → Prop) : Prop :=
  ∀ a w (Q0 : Exit → Act → World → Prop), Fr N fr a → HS I L w →
    (∀ fr' I' L' a' w', Fr N fr' a' → HS I' L' w' → K fr' I' L' → Q0 .normal a' w') → wpList P all Q0 ops a w

variable {K : Frm → Imm → List Ent → Prop}

theorem Cd.region {id : Nat} {l : List Oper} {Q : Post} (h : Opz P N l.toArray l fr I L (fun fr I L => Q .normal fr I L)) : Cd P N (.region id l.toArray false) fr I L Q := by
  intro a w ha hw
  exact wp_region_lit (h a w _ ha hw (fun fr' I' L' a' w' ha' hw' hq => ⟨fr', I', L', ha', hw', hq⟩))

theorem Opz.nil (h : K fr I L) : Opz P N all [] fr I L K := fun a w Q0 ha hw hk => hk fr I L a w ha hw h

def Agree (fr : Frm) (ρ : Operand → Value) : Prop := ∀ x v, evF fr x = some v → ρ x = v

/-- An operation that only tells a value. -/
def RunsTo (P : Program) (fr : Frm) (I : Imm) (L : List Ent) (o : Oper) (v : Value) : Prop :=
  ∀ ρ w, Agree fr ρ → HS I L w → (execOp ρ o).run P w = .ok (.value v) w

theorem Fr.agree {a : Act} (h : Fr N fr a) : Agree fr a.eval := fun _ _ hx => h.ev hx

theorem Opz.val {d : Nat} {v : Value} (hr : RunsTo P fr I L o v) (hw : wantF all fr o = some true) (hd : o.dst = some d) (hlt : Nat.blt d N = true)
    (k : Opz P N all rest ((d, v) :: fr) I L K) : Opz P N all (o :: rest) fr I L K := by
  intro a w Q0 ha hs hk
  refine wpList_step fun K' hK' => ?_
  rw [if_pos (wantF_spec ha hw)]
  unfold Oper.wp
  rw [hr a.eval w ha.agree hs, Oper.upon_value, hd]
  exact hK' _ _ (k _ w Q0 (ha.put hlt v) hs hk)

theorem Opz.none {d : Nat} (hw : wantF all fr o = some false) (hd : o.dst = some d) (hlt : Nat.blt d N = true)
    (k : Opz P N all rest ((d, undef) :: fr) I L K) : Opz P N all (o :: rest) fr I L K := by
  intro a w Q0 ha hs hk
  refine wpList_step fun K' hK' => ?_
  rw [if_neg (by rw [wantF_spec ha hw]; simp), hd]
  exact hK' _ _ (k _ w Q0 (ha.put hlt undef) hs hk)

/-- A guard that is not known is either. -/
theorem Opz.guard (s : Nat) {t : Bool} {ops : List Oper} (hs : look fr s = some (.bool t)) (ht : t = true → Opz P N all ops ((s, .bool true) :: fr) I L K) (hf : t = false → Opz P N all ops ((s, .bool false) :: fr) I L K) : Opz P N all ops fr I L K := by
  intro a w Q0 ha hw hk
  have put : ∀ b, t = b → Fr N ((s, .bool b) :: fr) a := by
    rintro b rfl
    exact ⟨ha.defers, ha.size, fun u v hl => by
      rw [look_cons] at hl
      by_cases e : s = u
      · subst e; rw [if_pos rfl] at hl; rw [← Option.some.inj hl]; exact ha.vals _ _ hs
      · rw [if_neg e] at hl; exact ha.vals _ _ hl⟩
  cases ht' : t with
  | true => exact ht ht' a w Q0 (put _ ht') hw hk
  | false => exact hf ht' a w Q0 (put _ ht') hw hk

theorem Opz.guardD (s : Nat) {p : Prop} [Decidable p] {ops : List Oper} (hs : look fr s = some (.bool (decide p))) (ht : p → Opz P N all ops ((s, .bool true) :: fr) I L K) (hf : ¬ p → Opz P N all ops ((s, .bool false) :: fr) I L K) : Opz P N all ops fr I L K :=
  Opz.guard s hs (fun h => ht (of_decide_eq_true h)) (fun h => hf (of_decide_eq_false h))

theorem Opz.weak {fr' : Frm} {ops : List Oper} (hs : Sub fr' fr) (h : Opz P N all ops fr' I L K) : Opz P N all ops fr I L K := fun a w Q0 ha hw hk => h a w Q0 (ha.weak hs) hw hk

/-- An operation that may turn memory. -/
def Acts (P : Program) (N : Nat) (fr : Frm) (I : Imm) (L : List Ent) (o : Oper) (R : Value → Imm → List Ent → Prop) : Prop :=
  ∀ a w (next : Act → World → Prop) (Q : Exit → Act → World → Prop), Fr N fr a → HS I L w →
    (∀ v I' L' w', HS I' L' w' → R v I' L' → next (a.put o.dst v) w') → o.wp P a w next Q

theorem Opz.op {d : Nat} {R : Value → Imm → List Ent → Prop} (hr : Acts P N fr I L o R) (hw : wantF all fr o = some true) (hd : o.dst = some d) (hlt : Nat.blt d N = true)
    (k : ∀ v I' L', R v I' L' → Opz P N all rest ((d, v) :: fr) I' L' K) : Opz P N all (o :: rest) fr I L K := by
  intro a w Q0 ha hs hk
  refine wpList_step fun K' hK' => ?_
  rw [if_pos (wantF_spec ha hw)]
  refine hr a w _ _ ha hs (fun v I' L' w' hw' hR => ?_)
  rw [hd]
  exact hK' _ _ (k v I' L' hR _ w' Q0 (ha.put hlt v) hw' hk)

theorem Opz.opU {R : Value → Imm → List Ent → Prop} (hr : Acts P N fr I L o R) (hw : wantF all fr o = some true) (hd : o.dst = .none)
    (k : ∀ v I' L', R v I' L' → Opz P N all rest fr I' L' K) : Opz P N all (o :: rest) fr I L K := by
  intro a w Q0 ha hs hk
  refine wpList_step fun K' hK' => ?_
  rw [if_pos (wantF_spec ha hw)]
  refine hr a w _ _ ha hs (fun v I' L' w' hw' hR => ?_)
  rw [hd]
  exact hK' _ _ (k v I' L' hR _ w' Q0 ha hw' hk)

/-- What an operation leaves, outright. -/
def Is (v0 : Value) (I0 : Imm) (L0 : List Ent) : Value → Imm → List Ent → Prop := fun v I L => v0 = v ∧ I0 = I ∧ L0 = L

theorem RunsTo.acts {v : Value} (h : RunsTo P fr I L o v) : Acts P N fr I L o (Is v I L) := by
  intro a w next Q ha hs hk
  unfold Oper.wp
  rw [h a.eval w ha.agree hs]
  exact hk v I L w hs ⟨rfl, rfl, rfl⟩

/-- A step that changes no memory may come first: what is known is handed on. -/
theorem Opz.imp {ops : List Oper} {K' : Frm → Imm → List Ent → Prop} (h : Opz P N all ops fr I L K') (hk : ∀ fr I L, K' fr I L → K fr I L) : Opz P N all ops fr I L K :=
  fun a w Q0 ha hw hq => h a w Q0 ha hw (fun fr' I' L' a' w' ha' hw' h' => hq fr' I' L' a' w' ha' hw' (hk _ _ _ h'))

/-! ## Values that are only told -/
variable {ty : TypeId} {pos : String} {aft : Array Edge} {gd : Option (Nat × Bool)} {d : Option Tmp} {x y z : Operand} {v vx vy : Value}

theorem R.move (hx : evF fr x = some v) : RunsTo P fr I L ⟨d, .move x, ty, pos, aft, gd⟩ v := fun ρ w hρ _ => by simp [execOp, hρ x v hx]
theorem R.assign (hx : evF fr x = some v) : RunsTo P fr I L ⟨d, .assign x, ty, pos, aft, gd⟩ v := fun ρ w hρ _ => by simp [execOp, hρ x v hx]

theorem R.pick {t : Bool} (hx : evF fr x = some (.bool t)) (h : evF fr (bif t then y else z) = some v) : RunsTo P fr I L ⟨d, .pick x y z, ty, pos, aft, gd⟩ v := fun ρ w hρ _ => by
  have h2 := hρ _ _ h
  cases t <;> simp_all [execOp, hρ x _ hx, asBool]

theorem R.nilP {ad : Addr} (hx : evF fr x = some (.pointer (some ad))) : RunsTo P fr I L ⟨d, .nilCheck x, ty, pos, aft, gd⟩ (.pointer (some ad)) := fun ρ w hρ _ => by simp [execOp, hρ x _ hx]
theorem R.nilF {f : FuncId} {fs cs : Array Value} (hx : evF fr x = some (.func (.func f) fs cs)) : RunsTo P fr I L ⟨d, .nilCheck x, ty, pos, aft, gd⟩ (.func (.func f) fs cs) := fun ρ w hρ _ => by simp [execOp, hρ x _ hx]

/-- A field's address: 'off': where it lies. -/
theorem R.field {b k off : Nat} {s i : Nat} {fs : Array Field} {f : Field} {info : TypeInfo} (hx : evF fr x = some (.pointer (some ⟨b, k, .none⟩)))
    (hs : P.underlying s = some (.struct fs)) (hf : fs[i]? = some f) (hi : ∀ w, (typeInfo f.type).run P w = .ok info w) (h0 : Nat.beq info.size 0 = false) (hoff : k + f.offset = off) :
    RunsTo P fr I L ⟨d, .fieldAddr s x i, ty, pos, aft, gd⟩ (.pointer (some ⟨b, off, .none⟩)) := fun ρ w hρ _ => by
  have h1 : info.size ≠ 0 := by intro h; rw [h] at h0; simp at h0
  have hr : (underlying s).run P w = .ok (.struct fs) w := by simp [underlying, hs]
  have : (⟨b, k, .none⟩ : Addr).add f.offset = ⟨b, off, .none⟩ := by
    subst hoff
    unfold Addr.add
    split <;> simp_all
  simp [execOp, hρ x _ hx, Instr.fieldAt, hr, hf, Instr.sureAddr, fieldPlace, sizeOf, hi, h1, this]

/-- The same, of whatever address. -/
theorem R.fieldA {ad : Addr} {s i : Nat} {fs : Array Field} {f : Field} {info : TypeInfo} (hx : evF fr x = some (.pointer (some ad)))
    (hs : P.underlying s = some (.struct fs)) (hf : fs[i]? = some f) (hi : ∀ w, (typeInfo f.type).run P w = .ok info w) (h0 : Nat.beq info.size 0 = false) :
    RunsTo P fr I L ⟨d, .fieldAddr s x i, ty, pos, aft, gd⟩ (.pointer (some (ad.add f.offset))) := fun ρ w hρ _ => by
  have h1 : info.size ≠ 0 := by intro h; rw [h] at h0; simp at h0
  have hr : (underlying s).run P w = .ok (.struct fs) w := by simp [underlying, hs]
  simp [execOp, hρ x _ hx, Instr.fieldAt, hr, hf, Instr.sureAddr, fieldPlace, sizeOf, hi, h1]

def oneB : TypeDesc → Bool
  | .struct _ | .array _ _ => false
  | _ => true

theorem isAgg_one {t : TypeId} {td : TypeDesc} (h : P.underlying t = some td) (h1 : oneB td = true) (w : World) : (isAgg t).run P w = .ok false w := by
  have hr : (underlying t).run P w = .ok td w := by simp [underlying, h]
  unfold isAgg
  rw [Sem.run_bind, hr]
  cases td <;> first | rfl | simp [oneB] at h1

theorem isAgg_agg {t : TypeId} {td : TypeDesc} (h : P.underlying t = some td) (h1 : oneB td = false) (w : World) : (isAgg t).run P w = .ok true w := by
  have hr : (underlying t).run P w = .ok td w := by simp [underlying, h]
  unfold isAgg
  rw [Sem.run_bind, hr]
  cases td <;> first | rfl | simp [oneB] at h1

theorem run_loadVar_one {t : TypeId} {td : TypeDesc} {ad : Addr} {w : World} (h : P.underlying t = some td) (h1 : oneB td = true) (hc : w.cell? ad = some v) : (loadVar t ad).run P w = .ok v w := by
  unfold loadVar
  rw [Sem.run_bind, isAgg_one h h1]
  simp [hc]

theorem R.load {t : TypeId} {td : TypeDesc} {ad : Addr} (hx : evF fr x = some (.pointer (some ad))) (h : P.underlying t = some td) (h1 : oneB td = true)
    (hc : ∀ w, HS I L w → w.cell? ad = some v) : RunsTo P fr I L ⟨d, .load t x, ty, pos, aft, gd⟩ v := fun ρ w hρ hs => by
  simp [execOp, hρ x _ hx, Instr.loadAt, Instr.sureAddr, run_loadVar_one h h1 (hc w hs)]

theorem cellI {ad : Addr} (hc : I.cell ad = some v) : ∀ w, HS I L w → w.cell? ad = some v := fun _ hs => hs.cell hc

theorem cell_blk {w : World} {b : Nat} {t : TypeId} {cs : List Value} (hs : HS I L w) (hm : Ent.blk b t cs ∈ L) (off : Nat) : w.cell? ⟨b, off, .none⟩ = cs[off]? := by
  have := hs.ents _ hm
  simp only [Ent.ok] at this
  simp [World.cell?, this]

theorem cellL {b off : Nat} {t : TypeId} {cs : List Value} (hm : Ent.blk b t cs ∈ L) (hc : cs[off]? = some v) : ∀ w, HS I L w → w.cell? ⟨b, off, .none⟩ = some v :=
  fun _ hs => (cell_blk hs hm off).trans hc

/-- Cells, one behind the other. -/
def CellsAt (w : World) (ad : Addr) (cs : List Value) : Prop := ∀ i, i < cs.length → w.cell? (ad.add i) = cs[i]?

theorem run_loadCellsFrom {w : World} {ad : Addr} : ∀ (n i : Nat) (cs : List Value) (acc : Array Value), cs.length = n → (∀ j, j < n → w.cell? (ad.add (i + j)) = cs[j]?) →
    (loadCellsFrom ad i n acc).run P w = .ok (acc ++ cs.toArray) w := by
  intro n
  induction n with
  | zero => intro i cs acc hl _; have : cs = [] := List.length_eq_zero_iff.1 hl; subst this; simp [loadCellsFrom]
  | succ n ih =>
    intro i cs acc hl hc
    cases cs with
    | nil => simp at hl
    | cons c cs =>
      have h0 : w.cell? (ad.add i) = some c := by simpa using hc 0 (by omega)
      have := ih (i + 1) cs (acc.push c) (by simpa using hl) (fun j hj => by have := hc (j + 1) (by omega); simpa [Nat.add_assoc, Nat.add_comm 1 j] using this)
      simp [loadCellsFrom, h0, this]

theorem run_loadVar_agg {t : TypeId} {td : TypeDesc} {ad : Addr} {w : World} {cs : List Value} {info : TypeInfo} (h : P.underlying t = some td) (h1 : oneB td = false) (hi : ∀ w, (typeInfo t).run P w = .ok info w)
    (hn : info.size = cs.length) (hc : CellsAt w ad cs) : (loadVar t ad).run P w = .ok (.agg cs.toArray) w := by
  unfold loadVar
  rw [Sem.run_bind, isAgg_agg h h1]
  have hx : (loadCells ad cs.length).run P w = .ok cs.toArray w := by
    unfold loadCells
    rw [run_loadCellsFrom cs.length 0 cs #[] rfl (fun j hj => by rw [Nat.zero_add]; exact hc j hj)]
    simp
  simp [sizeOf, hi, hn, hx]

theorem R.loadAgg {t : TypeId} {td : TypeDesc} {ad : Addr} {cs : List Value} {info : TypeInfo} (hx : evF fr x = some (.pointer (some ad))) (h : P.underlying t = some td) (h1 : oneB td = false) (hi : ∀ w, (typeInfo t).run P w = .ok info w)
    (hn : info.size = cs.length) (hc : ∀ w, HS I L w → CellsAt w ad cs) : RunsTo P fr I L ⟨d, .load t x, ty, pos, aft, gd⟩ (.agg cs.toArray) := fun ρ w hρ hs => by
  simp [execOp, hρ x _ hx, Instr.loadAt, Instr.sureAddr, run_loadVar_agg h h1 hi hn (hc w hs)]

theorem cellsL {b : Nat} {t : TypeId} {cs : List Value} (hm : Ent.blk b t cs ∈ L) : ∀ w, HS I L w → CellsAt w ⟨b, 0, .none⟩ cs := by
  intro w hs i _
  have : (⟨b, 0, .none⟩ : Addr).add i = ⟨b, i, .none⟩ := by unfold Addr.add; split <;> simp_all
  rw [this]; exact cell_blk hs hm i

theorem cellsI {ad : Addr} {cs : List Value} (h : ∀ i, i < cs.length → I.cell (ad.add i) = cs[i]?) : ∀ w, HS I L w → CellsAt w ad cs := by
  intro w hs i hi
  have := h i hi
  rw [List.getElem?_eq_getElem hi] at this ⊢
  exact hs.cell this

/-! ### Numbers -/
def loK : IntKind → Int
  | .i8 => -128 | .i16 => -32768 | .i32 => -2147483648 | .i64 => -9223372036854775808 | _ => 0
def hiK : IntKind → Int
  | .i8 => 127 | .i16 => 32767 | .i32 => 2147483647 | .i64 => 9223372036854775807 | .u8 => 255 | .u16 => 65535 | .u32 => 4294967295 | .u64 => 18446744073709551615

def InR (k : IntKind) (n : Int) : Prop := loK k ≤ n ∧ n ≤ hiK k

theorem wrap_in {k : IntKind} {n : Int} (h : InR k n) : k.wrap n = n := by
  obtain ⟨h1, h2⟩ := h
  cases k <;> simp only [loK, hiK] at h1 h2
  · exact IntWalk.i8_in n ⟨h1, h2⟩
  · exact IntWalk.i16_in n ⟨h1, h2⟩
  · exact IntWalk.i32_in n ⟨h1, h2⟩
  · exact IntWalk.i64_in n ⟨h1, h2⟩
  · exact IntWalk.u8_in n ⟨h1, h2⟩
  · exact IntWalk.u16_in n ⟨h1, h2⟩
  · exact IntWalk.u32_in n ⟨h1, h2⟩
  · exact IntWalk.u64_in n ⟨h1, h2⟩

/-- A number as its kind keeps it: of an unsigned kind a remainder. -/
def wr : IntKind → Int → Int
  | .u8, n => n % 256
  | .u16, n => n % 65536
  | .u32, n => n % 4294967296
  | .u64, n => n % 18446744073709551616
  | k, n => k.wrap n
theorem wrap_wr (k : IntKind) (n : Int) : k.wrap n = wr k n := by
  cases k <;> simp [wr, IntKind.wrap, IntKind.bits, IntKind.signed]

theorem binOp_add (k : IntKind) (a b : Int) : binOp .add ty (.int k a) (.int k b) = pure (.int k (k.wrap (a + b))) := by simp [binOp, Op.intArith]
theorem binOp_sub (k : IntKind) (a b : Int) : binOp .sub ty (.int k a) (.int k b) = pure (.int k (k.wrap (a - b))) := by simp [binOp, Op.intArith]
theorem binOp_mul (k : IntKind) (a b : Int) : binOp .mul ty (.int k a) (.int k b) = pure (.int k (k.wrap (a * b))) := by simp [binOp, Op.intArith]

theorem run_guard_int {w : World} (op : BinOp) (t : TypeId) (x y : Operand) (k k' : IntKind) (a b : Int) : (eqGuard op t x y (.int k a) (.int k' b)).run P w = .ok () w := by
  unfold eqGuard; split <;> simp

theorem R.bin {op : BinOp} {t u : TypeId} {k k' : IntKind} {a b : Int} (hx : evF fr x = some (.int k a)) (hy : evF fr y = some (.int k' b)) (h : ∀ w, (binOp op t (.int k a) (.int k' b)).run P w = .ok v w) :
    RunsTo P fr I L ⟨d, .binOp op t x y u, ty, pos, aft, gd⟩ v := fun ρ w hρ _ => by
  simp only [execOp, hρ x _ hx, hρ y _ hy]
  rw [Sem.run_bind, Sem.run_bind, run_guard_int, Result.andThen_ok, h]; rfl

section
variable {t u : TypeId} {k : IntKind} {a b : Int}
theorem R.add (hx : evF fr x = some (.int k a)) (hy : evF fr y = some (.int k b)) (h : InR k (a + b)) : RunsTo P fr I L ⟨d, .binOp .add t x y u, ty, pos, aft, gd⟩ (.int k (a + b)) :=
  R.bin hx hy (fun w => by rw [binOp_add, wrap_in h]; rfl)
theorem R.addW (hx : evF fr x = some (.int k a)) (hy : evF fr y = some (.int k b)) : RunsTo P fr I L ⟨d, .binOp .add t x y u, ty, pos, aft, gd⟩ (.int k (wr k (a + b))) :=
  R.bin hx hy (fun w => by rw [binOp_add, wrap_wr]; rfl)
theorem R.sub (hx : evF fr x = some (.int k a)) (hy : evF fr y = some (.int k b)) (h : InR k (a - b)) : RunsTo P fr I L ⟨d, .binOp .sub t x y u, ty, pos, aft, gd⟩ (.int k (a - b)) :=
  R.bin hx hy (fun w => by rw [binOp_sub, wrap_in h]; rfl)
theorem R.subW (hx : evF fr x = some (.int k a)) (hy : evF fr y = some (.int k b)) : RunsTo P fr I L ⟨d, .binOp .sub t x y u, ty, pos, aft, gd⟩ (.int k (wr k (a - b))) :=
  R.bin hx hy (fun w => by rw [binOp_sub, wrap_wr]; rfl)
theorem R.mul (hx : evF fr x = some (.int k a)) (hy : evF fr y = some (.int k b)) (h : InR k (a * b)) : RunsTo P fr I L ⟨d, .binOp .mul t x y u, ty, pos, aft, gd⟩ (.int k (a * b)) :=
  R.bin hx hy (fun w => by rw [binOp_mul, wrap_in h]; rfl)
theorem R.mulW (hx : evF fr x = some (.int k a)) (hy : evF fr y = some (.int k b)) : RunsTo P fr I L ⟨d, .binOp .mul t x y u, ty, pos, aft, gd⟩ (.int k (wr k (a * b))) :=
  R.bin hx hy (fun w => by rw [binOp_mul, wrap_wr]; rfl)

theorem R.lss (hx : evF fr x = some (.int k a)) (hy : evF fr y = some (.int k b)) : RunsTo P fr I L ⟨d, .binOp .lss t x y u, ty, pos, aft, gd⟩ (.bool (decide (a < b))) :=
  R.bin hx hy (fun w => by simp [binOp, Op.intCmp])
theorem R.leq (hx : evF fr x = some (.int k a)) (hy : evF fr y = some (.int k b)) : RunsTo P fr I L ⟨d, .binOp .leq t x y u, ty, pos, aft, gd⟩ (.bool (decide (a ≤ b))) :=
  R.bin hx hy (fun w => by simp [binOp, Op.intCmp])
theorem R.gtr (hx : evF fr x = some (.int k a)) (hy : evF fr y = some (.int k b)) : RunsTo P fr I L ⟨d, .binOp .gtr t x y u, ty, pos, aft, gd⟩ (.bool (decide (b < a))) :=
  R.bin hx hy (fun w => by simp [binOp, Op.intCmp])
theorem R.geq (hx : evF fr x = some (.int k a)) (hy : evF fr y = some (.int k b)) : RunsTo P fr I L ⟨d, .binOp .geq t x y u, ty, pos, aft, gd⟩ (.bool (decide (b ≤ a))) :=
  R.bin hx hy (fun w => by simp [binOp, Op.intCmp])
theorem R.eql (hx : evF fr x = some (.int k a)) (hy : evF fr y = some (.int k b)) : RunsTo P fr I L ⟨d, .binOp .eql t x y u, ty, pos, aft, gd⟩ (.bool (decide (a = b))) :=
  R.bin hx hy (fun w => by simp [binOp, Op.intCmp]; try rfl)
theorem R.neq (hx : evF fr x = some (.int k a)) (hy : evF fr y = some (.int k b)) : RunsTo P fr I L ⟨d, .binOp .neq t x y u, ty, pos, aft, gd⟩ (.bool (decide (a ≠ b))) :=
  R.bin hx hy (fun w => by simp [binOp, Op.intCmp]; try rfl)
end
end
end Go.Eng

/- The engine, part C: more rules for operations: numbers, slices, strings, structs; and what turns memory. No function of the program is proved here. -/
namespace Go.Eng
section
variable {P : Program} {N : Nat} {all : Array Oper} {o : Oper} {rest : List Oper} {fr : Frm} {I : Imm} {L : List Ent}
variable {ty : TypeId} {pos : String} {aft : Array Edge} {gd : Option (Nat × Bool)} {d : Option Tmp} {x y z : Operand} {v vx vy : Value}

section
variable {t u : TypeId} {k k' : IntKind} {a b : Int}

theorem R.rem (hx : evF fr x = some (.int k a)) (hy : evF fr y = some (.int k b)) (h0 : 0 ≤ a) (h : b ≠ 0) : RunsTo P fr I L ⟨d, .binOp .rem t x y u, ty, pos, aft, gd⟩ (.int k (a % b)) :=
  R.bin hx hy (fun w => by simp [binOp, Op.intDiv, h, Int.tmod_eq_emod_of_nonneg h0])
theorem R.remT (hx : evF fr x = some (.int k a)) (hy : evF fr y = some (.int k b)) (h : b ≠ 0) : RunsTo P fr I L ⟨d, .binOp .rem t x y u, ty, pos, aft, gd⟩ (.int k (a.tmod b)) :=
  R.bin hx hy (fun w => by simp [binOp, Op.intDiv, h])
theorem R.quo (hx : evF fr x = some (.int k a)) (hy : evF fr y = some (.int k b)) (h0 : 0 ≤ a) (h : 0 < b) (hr : InR k a) : RunsTo P fr I L ⟨d, .binOp .quo t x y u, ty, pos, aft, gd⟩ (.int k (a / b)) :=
  R.bin hx hy (fun w => by
    have h1 : b ≠ 0 := by omega
    have e : a.tdiv b = a / b := Int.tdiv_eq_ediv_of_nonneg h0
    have h2 : 0 ≤ a / b := Int.ediv_nonneg h0 (by omega)
    have h3 : a / b ≤ a := Int.ediv_le_self b h0
    have h4 : loK k ≤ 0 := by cases k <;> decide
    have h5 : InR k (a / b) := ⟨Int.le_trans h4 h2, Int.le_trans h3 hr.2⟩
    simp [binOp, Op.intDiv, h1, e, wrap_in h5])
theorem R.quoT (hx : evF fr x = some (.int k a)) (hy : evF fr y = some (.int k b)) (h : b ≠ 0) : RunsTo P fr I L ⟨d, .binOp .quo t x y u, ty, pos, aft, gd⟩ (.int k (k.wrap (a.tdiv b))) :=
  R.bin hx hy (fun w => by simp [binOp, Op.intDiv, h])

def uns : IntKind → Bool
  | .u8 | .u16 | .u32 | .u64 => true
  | _ => false

theorem wr_uns {k : IntKind} (h : uns k = true) (n : Int) : 0 ≤ wr k n ∧ wr k n ≤ hiK k := by
  cases k <;> first | (simp [uns] at h; done) | (simp only [wr, hiK]; omega)
theorem wr_inR {k : IntKind} (h : uns k = true) (n : Int) : InR k (wr k n) := by
  have := wr_uns h n
  exact ⟨by cases k <;> first | (simp [uns] at h; done) | exact this.1, this.2⟩

theorem ofInt_toNat {w : Nat} {a : Int} (h0 : 0 ≤ a) (h1 : a < 2 ^ w) : (BitVec.ofInt w a).toNat = a.toNat := by
  obtain ⟨n, rfl⟩ := Int.eq_ofNat_of_zero_le h0
  have hn : n < 2 ^ w := by exact_mod_cast h1
  rw [show BitVec.ofInt w (n : Int) = BitVec.ofNat w n from by simp, BitVec.toNat_ofNat, Nat.mod_eq_of_lt hn]; rfl

theorem hi_lt (k : IntKind) {a : Int} (h : a ≤ hiK k) : a < 2 ^ k.bits := by
  cases k <;> simp only [hiK, IntKind.bits] at * <;> omega
theorem wrap_nat (k : IntKind) {n : Nat} (h : (n : Int) ≤ hiK k) : k.wrap n = n := wrap_in ⟨by cases k <;> simp only [loK] <;> omega, h⟩

theorem nat_le_hi (k : IntKind) {n : Nat} {a : Int} (h0 : 0 ≤ a) (ha : a ≤ hiK k) (h : n ≤ a.toNat) : (n : Int) ≤ hiK k := by omega
theorem hi_pow (k : IntKind) : ∃ m, hiK k = (2 ^ m : Nat) - 1 ∧ m ≤ k.bits := by
  cases k
  · exact ⟨7, by decide, by decide⟩
  · exact ⟨15, by decide, by decide⟩
  · exact ⟨31, by decide, by decide⟩
  · exact ⟨63, by decide, by decide⟩
  · exact ⟨8, by decide, by decide⟩
  · exact ⟨16, by decide, by decide⟩
  · exact ⟨32, by decide, by decide⟩
  · exact ⟨64, by decide, by decide⟩

theorem R.and (hx : evF fr x = some (.int k a)) (hy : evF fr y = some (.int k b)) (ha : 0 ≤ a ∧ a ≤ hiK k) (hb : 0 ≤ b ∧ b ≤ hiK k) :
    RunsTo P fr I L ⟨d, .binOp .and t x y u, ty, pos, aft, gd⟩ (.int k ((a.toNat &&& b.toNat : Nat) : Int)) :=
  R.bin hx hy (fun w => by
    have e1 := ofInt_toNat ha.1 (hi_lt k ha.2); have e2 := ofInt_toNat hb.1 (hi_lt k hb.2)
    have e3 : ((a.toNat &&& b.toNat : Nat) : Int) ≤ hiK k := nat_le_hi k ha.1 ha.2 Nat.and_le_left
    have e4 := wrap_nat k e3
    simp only [binOp, Op.intBits]
    simp [e1, e2, e4])
theorem R.or (hx : evF fr x = some (.int k a)) (hy : evF fr y = some (.int k b)) (ha : 0 ≤ a ∧ a ≤ hiK k) (hb : 0 ≤ b ∧ b ≤ hiK k) :
    RunsTo P fr I L ⟨d, .binOp .or t x y u, ty, pos, aft, gd⟩ (.int k ((a.toNat ||| b.toNat : Nat) : Int)) :=
  R.bin hx hy (fun w => by
    have e1 := ofInt_toNat ha.1 (hi_lt k ha.2); have e2 := ofInt_toNat hb.1 (hi_lt k hb.2)
    obtain ⟨m, hm, _⟩ := hi_pow k
    have e3 : ((a.toNat ||| b.toNat : Nat) : Int) ≤ hiK k := by
      have := Nat.or_lt_two_pow (x := a.toNat) (y := b.toNat) (n := m) (by omega) (by omega)
      omega
    have e4 := wrap_nat k e3
    simp only [binOp, Op.intBits]
    simp [e1, e2, e4])
theorem R.xor (hx : evF fr x = some (.int k a)) (hy : evF fr y = some (.int k b)) (ha : 0 ≤ a ∧ a ≤ hiK k) (hb : 0 ≤ b ∧ b ≤ hiK k) :
    RunsTo P fr I L ⟨d, .binOp .xor t x y u, ty, pos, aft, gd⟩ (.int k ((a.toNat ^^^ b.toNat : Nat) : Int)) :=
  R.bin hx hy (fun w => by
    have e1 := ofInt_toNat ha.1 (hi_lt k ha.2); have e2 := ofInt_toNat hb.1 (hi_lt k hb.2)
    obtain ⟨m, hm, _⟩ := hi_pow k
    have e3 : ((a.toNat ^^^ b.toNat : Nat) : Int) ≤ hiK k := by
      have := Nat.xor_lt_two_pow (x := a.toNat) (y := b.toNat) (n := m) (by omega) (by omega)
      omega
    have e4 := wrap_nat k e3
    simp only [binOp, Op.intBits]
    simp [e1, e2, e4])

/-- The lowest bits. -/
theorem R.mask {m : Int} (j : Nat) (hx : evF fr x = some (.int k a)) (hy : evF fr y = some (.int k b)) (hb : b = ((2 ^ j - 1 : Nat) : Int)) (hj : Nat.ble j (k.bits - 1) = true) (hm : ((2 ^ j : Nat) : Int) = m) (ha : 0 ≤ a ∧ a ≤ hiK k) :
    RunsTo P fr I L ⟨d, .binOp .and t x y u, ty, pos, aft, gd⟩ (.int k (a % m)) := by
  have hj' : j ≤ k.bits - 1 := Nat.le_of_ble_eq_true hj
  have hb2 : 0 ≤ b ∧ b ≤ hiK k := by
    subst hb
    refine ⟨by omega, ?_⟩
    obtain ⟨q, hq, _⟩ := hi_pow k
    have h1 : k.bits - 1 ≤ q := by
      have h2 : hiK k = ((2 ^ q : Nat) : Int) - 1 := hq
      cases k <;> simp only [hiK, IntKind.bits] at h2 ⊢ <;> (refine Nat.le_of_not_lt (fun h3 => ?_); have h4 : 2 ^ q ≤ 2 ^ _ := Nat.pow_le_pow_right (by decide) (Nat.le_sub_one_of_lt h3); simp only [Nat.add_one_sub_one, Nat.reduceSub, Nat.reducePow] at h4; omega)
    have h2 : 2 ^ j ≤ 2 ^ q := Nat.pow_le_pow_right (by decide) (Nat.le_trans hj' h1)
    have h3 := Nat.two_pow_pos j
    omega
  have h := R.and (P := P) (I := I) (L := L) (t := t) (u := u) (ty := ty) (pos := pos) (aft := aft) (gd := gd) (d := d) hx hy ha hb2
  have e : ((a.toNat &&& b.toNat : Nat) : Int) = a % m := by
    have e1 : b.toNat = 2 ^ j - 1 := by subst hb; rfl
    rw [e1, Nat.and_two_pow_sub_one_eq_mod, ← hm]
    obtain ⟨n, rfl⟩ := Int.eq_ofNat_of_zero_le ha.1
    rfl
  rw [e] at h; exact h

/-- x >> n of what is not below 0. -/
theorem R.shr (hx : evF fr x = some (.int k a)) (hy : evF fr y = some (.int k' b)) (hb : 0 ≤ b) :
    RunsTo P fr I L ⟨d, .binOp .shr t x y u, ty, pos, aft, gd⟩ (.int k (a / 2 ^ (min b.toNat k.bits))) :=
  R.bin hx hy (fun w => by
    show (Op.shift .shr k a k' b).run P w = _
    rw [shift_shr_any _ _ _ _ hb]; rfl)
theorem R.shrC {n : Nat} (hx : evF fr x = some (.int k a)) (hy : evF fr y = some (.int k' b)) (hb : Int.toNat b = n) (hn : Nat.ble n k.bits = true) (h0 : 0 ≤ b) {m : Int} (hm : (2 ^ n : Nat) = m) :
    RunsTo P fr I L ⟨d, .binOp .shr t x y u, ty, pos, aft, gd⟩ (.int k (a / m)) := by
  have e : (2 ^ (min b.toNat k.bits) : Int) = m := by
    rw [hb, Nat.min_eq_left (Nat.le_of_ble_eq_true hn), ← hm]; simp
  have := R.shr (P := P) (I := I) (L := L) (t := t) (u := u) (ty := ty) (pos := pos) (aft := aft) (gd := gd) (d := d) hx hy h0
  rw [e] at this; exact this
theorem R.shl (hx : evF fr x = some (.int k a)) (hy : evF fr y = some (.int k' b)) (hb : 0 ≤ b) :
    RunsTo P fr I L ⟨d, .binOp .shl t x y u, ty, pos, aft, gd⟩ (.int k (wr k (a * 2 ^ (min b.toNat k.bits)))) :=
  R.bin hx hy (fun w => by
    show (Op.shift .shl k a k' b).run P w = _
    rw [shift_shl_any _ _ _ _ hb, wrap_wr]; rfl)

theorem R.shlC {n : Nat} (hx : evF fr x = some (.int k a)) (hy : evF fr y = some (.int k' b)) (hb : Int.toNat b = n) (hn : Nat.ble n k.bits = true) (h0 : 0 ≤ b) {m : Int} (hm : (2 ^ n : Nat) = m) (hr : InR k (a * m)) :
    RunsTo P fr I L ⟨d, .binOp .shl t x y u, ty, pos, aft, gd⟩ (.int k (a * m)) := by
  have e : (2 ^ (min b.toNat k.bits) : Int) = m := by
    rw [hb, Nat.min_eq_left (Nat.le_of_ble_eq_true hn), ← hm]; simp
  have := R.shl (P := P) (I := I) (L := L) (t := t) (u := u) (ty := ty) (pos := pos) (aft := aft) (gd := gd) (d := d) hx hy h0
  rw [e, ← wrap_wr, wrap_in hr] at this; exact this
theorem R.shlCW {n : Nat} (hx : evF fr x = some (.int k a)) (hy : evF fr y = some (.int k' b)) (hb : Int.toNat b = n) (hn : Nat.ble n k.bits = true) (h0 : 0 ≤ b) {m : Int} (hm : (2 ^ n : Nat) = m) :
    RunsTo P fr I L ⟨d, .binOp .shl t x y u, ty, pos, aft, gd⟩ (.int k (wr k (a * m))) := by
  have e : (2 ^ (min b.toNat k.bits) : Int) = m := by
    rw [hb, Nat.min_eq_left (Nat.le_of_ble_eq_true hn), ← hm]; simp
  have := R.shl (P := P) (I := I) (L := L) (t := t) (u := u) (ty := ty) (pos := pos) (aft := aft) (gd := gd) (d := d) hx hy h0
  rw [e] at this; exact this

theorem R.neg (hx : evF fr x = some (.int k a)) : RunsTo P fr I L ⟨d, .unOp .neg t x, ty, pos, aft, gd⟩ (.int k (wr k (0 - a))) := fun ρ w hρ _ => by
  simp [execOp, hρ x _ hx, Op.unary, Op.intArith, wrap_wr]
theorem R.not {q : Bool} (hx : evF fr x = some (.bool q)) : RunsTo P fr I L ⟨d, .unOp .not t x, ty, pos, aft, gd⟩ (.bool !q) := fun ρ w hρ _ => by
  simp [execOp, hρ x _ hx, Op.unary]
/-- ^x of an unsigned number. -/
theorem R.com (hx : evF fr x = some (.int k a)) (hk : uns k = true) (ha : 0 ≤ a ∧ a ≤ hiK k) : RunsTo P fr I L ⟨d, .unOp .xor t x, ty, pos, aft, gd⟩ (.int k (hiK k - a)) := fun ρ w hρ _ => by
  have key : ∀ (m : Nat), hiK k = ((2 ^ m - 1 : Nat) : Int) → m = k.bits → k.signed = false → k.max = hiK k →
      (Op.unary .xor (.int k a)).run P w = .ok (.int k (hiK k - a)) w := by
    intro m hm hb hs hmax
    have e1 := ofInt_toNat ha.1 (hi_lt k ha.2)
    have e0 : 0 ≤ hiK k := by rw [hm]; omega
    have e2 := ofInt_toNat e0 (hi_lt k (Int.le_refl (hiK k)))
    have hlt : a.toNat < 2 ^ m := by have := Nat.two_pow_pos m; omega
    have e3 : ((hiK k).toNat ^^^ a.toNat : Nat) = 2 ^ m - 1 - a.toNat := by
      have : (hiK k).toNat = 2 ^ m - 1 := by omega
      rw [this]
      have h2 := BitVec.toNat_not (x := BitVec.ofNat m a.toNat)
      rw [BitVec.toNat_ofNat, Nat.mod_eq_of_lt hlt] at h2
      rw [← h2, ← BitVec.allOnes_xor, BitVec.toNat_xor, BitVec.toNat_allOnes, BitVec.toNat_ofNat, Nat.mod_eq_of_lt hlt]
    have e4 : (((hiK k).toNat ^^^ a.toNat : Nat) : Int) = hiK k - a := by
      rw [e3]; have := Nat.two_pow_pos m; omega
    have e5 : k.wrap (((hiK k).toNat ^^^ a.toNat : Nat) : Int) = hiK k - a := by
      rw [e4]; exact wrap_in ⟨by cases k <;> simp only [loK] <;> omega, by omega⟩
    simp only [Op.unary, Op.intBits, hs, hmax]
    simp [e1, e2, e5]
  have hr : (Op.unary .xor (.int k a)).run P w = .ok (.int k (hiK k - a)) w := by
    cases k <;> first | (simp [uns] at hk; done) | exact key _ (by decide) rfl rfl (by decide) | exact key 8 (by decide) rfl rfl (by decide) | exact key 16 (by decide) rfl rfl (by decide) | exact key 32 (by decide) rfl rfl (by decide) | exact key 64 (by decide) rfl rfl (by decide)
  simp only [execOp, hρ x _ hx]
  rw [Sem.run_bind, hr]; rfl

theorem run_und {t : TypeId} {td : TypeDesc} (h : P.underlying t = some td) (w : World) : (underlying t).run P w = .ok td w := by simp [underlying, h]

theorem run_conv {s t : TypeId} {td sd : TypeDesc} {w : World} (hs : P.underlying s = some sd) (h : P.underlying t = some (.int k)) : (convert s t (.int k' a)).run P w = .ok (.int k (k.wrap a)) w := by
  unfold convert
  rw [Sem.run_bind, run_und hs, Result.andThen_ok, Sem.run_bind, run_und h, Result.andThen_ok]
  have _ := td
  simp [Conv.intToInt]

theorem R.conv {s t : TypeId} {sd : TypeDesc} (hx : evF fr x = some (.int k' a)) (hs : P.underlying s = some sd) (h : P.underlying t = some (.int k)) (ha : InR k a) :
    RunsTo P fr I L ⟨d, .convert s t x, ty, pos, aft, gd⟩ (.int k a) := fun ρ w hρ _ => by
  simp only [execOp, hρ x _ hx]
  rw [Sem.run_bind, run_conv (td := sd) hs h, wrap_in ha]; rfl
theorem R.convW {s t : TypeId} {sd : TypeDesc} (hx : evF fr x = some (.int k' a)) (hs : P.underlying s = some sd) (h : P.underlying t = some (.int k)) :
    RunsTo P fr I L ⟨d, .convert s t x, ty, pos, aft, gd⟩ (.int k (wr k a)) := fun ρ w hρ _ => by
  simp only [execOp, hρ x _ hx]
  rw [Sem.run_bind, run_conv (td := sd) hs h, wrap_wr]; rfl
end

/-! ### Lengths, indices, pieces -/
theorem R.len {ts : Array TypeId} {t e : TypeId} {A : Option Addr} {n c : Nat} (hx : evF fr x = some (.slice A n c)) (ht : ts[0]? = some t) (h : P.underlying t = some (.slice e)) :
    RunsTo P fr I L ⟨d, .call ⟨.builtin .len, #[x], ts⟩, ty, pos, aft, gd⟩ (.int .i64 n) := fun ρ w hρ _ => by
  simp [execOp, resolve, invoke, builtin, Builtin.len_, ht, hρ x _ hx, run_und h, goInt]
theorem R.lenS {ts : Array TypeId} {t : TypeId} {s : ByteArray} (hx : evF fr x = some (.string s)) (ht : ts[0]? = some t) (h : P.underlying t = some .string) :
    RunsTo P fr I L ⟨d, .call ⟨.builtin .len, #[x], ts⟩, ty, pos, aft, gd⟩ (.int .i64 s.size) := fun ρ w hρ _ => by
  simp [execOp, resolve, invoke, builtin, Builtin.len_, ht, hρ x _ hx, run_und h, goInt]
theorem R.lenA {ts : Array TypeId} {t e : TypeId} {n : Nat} (hx : evF fr x = some v) (ht : ts[0]? = some t) (h : P.underlying t = some (.array n e)) :
    RunsTo P fr I L ⟨d, .call ⟨.builtin .len, #[x], ts⟩, ty, pos, aft, gd⟩ (.int .i64 n) := fun ρ w hρ _ => by
  simp [execOp, resolve, invoke, builtin, Builtin.len_, ht, hρ x _ hx, run_und h, goInt]
theorem R.cap {ts : Array TypeId} {t e : TypeId} {A : Option Addr} {n c : Nat} (hx : evF fr x = some (.slice A n c)) (ht : ts[0]? = some t) (h : P.underlying t = some (.slice e)) :
    RunsTo P fr I L ⟨d, .call ⟨.builtin .cap, #[x], ts⟩, ty, pos, aft, gd⟩ (.int .i64 c) := fun ρ w hρ _ => by
  simp [execOp, resolve, invoke, builtin, Builtin.cap_, ht, hρ x _ hx, run_und h, goInt]

theorem R.min2 {ts : Array TypeId} {k k' : IntKind} {a b : Int} (hx : evF fr x = some (.int k a)) (hy : evF fr y = some (.int k' b)) :
    RunsTo P fr I L ⟨d, .call ⟨.builtin .min, #[x, y], ts⟩, ty, pos, aft, gd⟩ (.int k (min a b)) := fun ρ w hρ _ => by
  simp [execOp, resolve, invoke, builtin, Builtin.min_, Builtin.min2, hρ x _ hx, hρ y _ hy]
  split <;> omega
theorem R.max2 {ts : Array TypeId} {k k' : IntKind} {a b : Int} (hx : evF fr x = some (.int k a)) (hy : evF fr y = some (.int k' b)) :
    RunsTo P fr I L ⟨d, .call ⟨.builtin .max, #[x, y], ts⟩, ty, pos, aft, gd⟩ (.int k (max a b)) := fun ρ w hρ _ => by
  simp [execOp, resolve, invoke, builtin, Builtin.max_, Builtin.max2, hρ x _ hx, hρ y _ hy]
  split <;> omega

theorem R.ixA {t e : TypeId} {ad : Addr} {n c : Nat} {k : IntKind} {i : Int} {info : TypeInfo} (hx : evF fr x = some (.slice (some ad) n c)) (hy : evF fr y = some (.int k i)) (ht : P.underlying t = some (.slice e)) (hi : ∀ w, (typeInfo e).run P w = .ok info w)
    (h : 0 ≤ i ∧ i < n) {sz : Nat} (hz : info.size = sz) : RunsTo P fr I L ⟨d, .indexAddr t x y, ty, pos, aft, gd⟩ (.pointer (some (ad.add (i.toNat * sz)))) := fun ρ w hρ _ => by
  subst hz
  simp [execOp, hρ x _ hx, hρ y _ hy, Instr.indexAt, asIntOf, run_und ht, sizeOf, hi, h.1, h.2]

/-- The same, of a slice whose address is told by a fact. -/
theorem R.ixO {t e : TypeId} {A : Option Addr} {ad : Addr} {n c : Nat} {k : IntKind} {i : Int} {info : TypeInfo} (hx : evF fr x = some (.slice A n c)) (hA : A = some ad) (hy : evF fr y = some (.int k i)) (ht : P.underlying t = some (.slice e)) (hi : ∀ w, (typeInfo e).run P w = .ok info w)
    (h : 0 ≤ i ∧ i < n) {sz : Nat} (hz : info.size = sz) : RunsTo P fr I L ⟨d, .indexAddr t x y, ty, pos, aft, gd⟩ (.pointer (some (ad.add (i.toNat * sz)))) := by
  subst hA; exact R.ixA hx hy ht hi h hz

/-- Into an array in a variable. -/
theorem R.ixArr {t e : TypeId} {b k0 n : Nat} {k : IntKind} {i : Int} {info : TypeInfo} (hx : evF fr x = some (.pointer (some ⟨b, k0, .none⟩))) (hy : evF fr y = some (.int k i)) (ht : P.underlying t = some (.array n e)) (hi : ∀ w, (typeInfo e).run P w = .ok info w)
    (h : 0 ≤ i ∧ i < n) {sz : Nat} (hz : info.size = sz) : RunsTo P fr I L ⟨d, .indexAddr t x y, ty, pos, aft, gd⟩ (.pointer (some ⟨b, k0 + i.toNat * sz, .none⟩)) := fun ρ w hρ _ => by
  subst hz
  have e : (⟨b, k0, .none⟩ : Addr).add (i.toNat * info.size) = ⟨b, k0 + i.toNat * info.size, .none⟩ := by
    unfold Addr.add; split <;> simp_all
  simp [execOp, hρ x _ hx, hρ y _ hy, Instr.indexAt, asIntOf, run_und ht, sizeOf, hi, h.1, h.2, Instr.sureAddr, e]

theorem R.ixS {t : TypeId} {s : ByteArray} {k : IntKind} {i : Int} {c : UInt8} (hx : evF fr x = some (.string s)) (hy : evF fr y = some (.int k i)) (ht : P.underlying t = some .string)
    (h0 : 0 ≤ i) (h : s.data[i.toNat]? = some c) : RunsTo P fr I L ⟨d, .index t x y, ty, pos, aft, gd⟩ (.int .u8 c.toNat) := fun ρ w hρ _ => by
  have e : s[i.toNat]? = some c := by
    obtain ⟨h1, h2⟩ := Array.getElem?_eq_some_iff.1 h
    have : i.toNat < s.size := h1
    rw [getElem?_pos s i.toNat this]; congr 1
  simp [execOp, hρ x _ hx, hρ y _ hy, Instr.index, asIntOf, run_und ht, h0, e]

theorem run_sl {t e : TypeId} {A : Option Addr} {n c l h m : Nat} {lw hw' mw : Option Value} {info : TypeInfo} {w : World} (ht : P.underlying t = some (.slice e)) (hi : ∀ w, (typeInfo e).run P w = .ok info w)
    (hb : (Instr.sliceBounds true n c lw hw' mw).run P w = .ok (l, h, m) w) : (Instr.sliceAt t (.slice A n c) lw hw' mw).run P w = .ok (.slice (if m = l then A else A.map (·.add (l * info.size))) (h - l) (m - l)) w := by
  unfold Instr.sliceAt
  rw [Sem.run_bind, run_und ht, Result.andThen_ok]
  simp only [Instr.slice]
  rw [Sem.run_bind, run_und ht, Result.andThen_ok]
  simp only [Sem.run_bind, hb, Result.andThen_ok, sizeOf, hi]
  split <;> rfl

theorem run_sb {k : IntKind} {i : Int} {y : Nat} {code : BoundsCode} {w : World} (h : 0 ≤ i ∧ i ≤ y) : (Instr.sliceBound (.int k i) y code).run P w = .ok i.toNat w := run_sliceBound _ k i y code h.1 h.2

/-- x[:h] of a slice. -/
theorem R.slH {t e : TypeId} {A : Option Addr} {n c : Nat} {k : IntKind} {i : Int} {info : TypeInfo} (hx : evF fr x = some (.slice A n c)) (hy : evF fr y = some (.int k i)) (ht : P.underlying t = some (.slice e)) (hi : ∀ w, (typeInfo e).run P w = .ok info w)
    (h : 0 ≤ i ∧ i ≤ c) : RunsTo P fr I L ⟨d, .slice t x .none (some y) .none, ty, pos, aft, gd⟩ (.slice A i.toNat c) := fun ρ w hρ _ => by
  have hb : (Instr.sliceBounds true n c .none (some (.int k i)) .none).run P w = .ok (0, i.toNat, c) w := by
    simp [Instr.sliceBounds, run_sb h]
  have := run_sl (A := A) ht hi hb
  simp [execOp, hρ x _ hx, hρ y _ hy, this]
  intro _; cases A <;> simp [Addr.add]
/-- x[l:] of a slice. -/
theorem R.slL {t e : TypeId} {A : Option Addr} {n c : Nat} {k : IntKind} {i : Int} {info : TypeInfo} (sz : Nat) (hx : evF fr x = some (.slice A n c)) (hy : evF fr y = some (.int k i)) (ht : P.underlying t = some (.slice e)) (hi : ∀ w, (typeInfo e).run P w = .ok info w)
    (hsz : info.size = sz) (h : 0 ≤ i ∧ i ≤ n) : RunsTo P fr I L ⟨d, .slice t x (some y) .none .none, ty, pos, aft, gd⟩ (.slice (if c = i.toNat then A else A.map (·.add (i.toNat * sz))) (n - i.toNat) (c - i.toNat)) := fun ρ w hρ _ => by
  subst hsz
  have hb : (Instr.sliceBounds true n c (some (.int k i)) .none .none).run P w = .ok (i.toNat, n, c) w := by
    simp [Instr.sliceBounds, run_sb h]
  have := run_sl (A := A) ht hi hb
  simp [execOp, hρ x _ hx, hρ y _ hy, this]
/-- x[l:h] of a slice. -/
theorem R.slLH {t e : TypeId} {A : Option Addr} {n c : Nat} {k k' : IntKind} {i j : Int} {info : TypeInfo} (sz : Nat) (hx : evF fr x = some (.slice A n c)) (hy : evF fr y = some (.int k i)) (hz : evF fr z = some (.int k' j)) (ht : P.underlying t = some (.slice e)) (hi : ∀ w, (typeInfo e).run P w = .ok info w)
    (hsz : info.size = sz) (h : 0 ≤ i ∧ i ≤ j ∧ j ≤ c) : RunsTo P fr I L ⟨d, .slice t x (some y) (some z) .none, ty, pos, aft, gd⟩ (.slice (if c = i.toNat then A else A.map (·.add (i.toNat * sz))) (j.toNat - i.toNat) (c - i.toNat)) := fun ρ w hρ _ => by
  subst hsz
  have hb : (Instr.sliceBounds true n c (some (.int k i)) (some (.int k' j)) .none).run P w = .ok (i.toNat, j.toNat, c) w := by
    simp [Instr.sliceBounds, run_sb (P := P) (w := w) (k := k') (i := j) (y := c) (code := .sliceAcap) ⟨by omega, by omega⟩, run_sb (P := P) (w := w) (k := k) (i := i) (y := j.toNat) (code := .sliceB) ⟨by omega, by omega⟩]
  have := run_sl (A := A) ht hi hb
  simp [execOp, hρ x _ hx, hρ y _ hy, hρ z _ hz, this]
/-- x[:h:m] of a slice. -/
theorem R.slHM {t e : TypeId} {A : Option Addr} {n c : Nat} {k k' : IntKind} {i j : Int} {info : TypeInfo} (hx : evF fr x = some (.slice A n c)) (hy : evF fr y = some (.int k i)) (hz : evF fr z = some (.int k' j)) (ht : P.underlying t = some (.slice e)) (hi : ∀ w, (typeInfo e).run P w = .ok info w)
    (h : 0 ≤ i ∧ i ≤ j ∧ j ≤ c) : RunsTo P fr I L ⟨d, .slice t x .none (some y) (some z), ty, pos, aft, gd⟩ (.slice A i.toNat j.toNat) := fun ρ w hρ _ => by
  have hb : (Instr.sliceBounds true n c .none (some (.int k i)) (some (.int k' j))).run P w = .ok (0, i.toNat, j.toNat) w := by
    simp [Instr.sliceBounds, run_sb (P := P) (w := w) (k := k') (i := j) (y := c) (code := .slice3Acap) ⟨by omega, by omega⟩, run_sb (P := P) (w := w) (k := k) (i := i) (y := j.toNat) (code := .slice3B) ⟨by omega, by omega⟩]
  have := run_sl (A := A) ht hi hb
  simp [execOp, hρ x _ hx, hρ y _ hy, hρ z _ hz, this]
  intro _; cases A <;> simp [Addr.add]

/-- Pieces of a string. -/
theorem R.stH {t : TypeId} {s : ByteArray} {k : IntKind} {i : Int} (hx : evF fr x = some (.string s)) (hy : evF fr y = some (.int k i)) (ht : P.underlying t = some .string) (h : 0 ≤ i ∧ i ≤ s.size) :
    RunsTo P fr I L ⟨d, .slice t x .none (some y) .none, ty, pos, aft, gd⟩ (.string (s.extract 0 i.toNat)) := fun ρ w hρ _ => by
  simp [execOp, hρ x _ hx, hρ y _ hy, Instr.sliceAt, Instr.slice, run_und ht, Instr.sliceBounds, run_sb h]
theorem R.stL {t : TypeId} {s : ByteArray} {k : IntKind} {i : Int} (hx : evF fr x = some (.string s)) (hy : evF fr y = some (.int k i)) (ht : P.underlying t = some .string) (h : 0 ≤ i ∧ i ≤ s.size) :
    RunsTo P fr I L ⟨d, .slice t x (some y) .none .none, ty, pos, aft, gd⟩ (.string (s.extract i.toNat s.size)) := fun ρ w hρ _ => by
  simp [execOp, hρ x _ hx, hρ y _ hy, Instr.sliceAt, Instr.slice, run_und ht, Instr.sliceBounds, run_sb h]

theorem R.ext {vs : Array Value} {i : Nat} (hx : evF fr x = some (.tuple vs)) (h : vs[i]? = some v) : RunsTo P fr I L ⟨d, .extract x i, ty, pos, aft, gd⟩ v := fun ρ w hρ _ => by
  simp [execOp, hρ x _ hx, Instr.extract, h]

/-- A field of a struct's value. -/
theorem R.fld {t : TypeId} {i : Nat} {fs : Array Field} {f : Field} {td : TypeDesc} {cs : Array Value} (hx : evF fr x = some (.agg cs)) (ht : P.underlying t = some (.struct fs)) (hf : fs[i]? = some f) (hu : P.underlying f.type = some td) (h1 : oneB td = true) (h : cs[f.offset]? = some v) :
    RunsTo P fr I L ⟨d, .field t x i, ty, pos, aft, gd⟩ v := fun ρ w hρ _ => by
  simp [execOp, hρ x _ hx, Instr.field, run_und ht, hf, asAgg, part, isAgg_one hu h1, h]
theorem R.fldA {t : TypeId} {i : Nat} {fs : Array Field} {f : Field} {td : TypeDesc} {info : TypeInfo} {cs cs' : Array Value} (hx : evF fr x = some (.agg cs)) (ht : P.underlying t = some (.struct fs)) (hf : fs[i]? = some f) (hu : P.underlying f.type = some td) (h1 : oneB td = false) (hi : ∀ w, (typeInfo f.type).run P w = .ok info w)
    (h : cs.extract f.offset (f.offset + info.size) = cs') : RunsTo P fr I L ⟨d, .field t x i, ty, pos, aft, gd⟩ (.agg cs') := fun ρ w hρ _ => by
  simp [execOp, hρ x _ hx, Instr.field, run_und ht, hf, asAgg, part, isAgg_agg hu h1, h, sizeOf, hi]

theorem R.func {fn : Fn} {first captured : Array Operand} {fs cs : Array Value} (hf : ∀ ρ, Agree fr ρ → first.map ρ = fs) (hc : ∀ ρ, Agree fr ρ → captured.map ρ = cs) :
    RunsTo P fr I L ⟨d, .makeFunc fn first captured, ty, pos, aft, gd⟩ (.func fn fs cs) := fun ρ w hρ _ => by
  simp [execOp, Instr.makeFunc, hf ρ hρ, hc ρ hρ]

/-! ### Comparing -/
theorem R.bin' {op : BinOp} {t u : TypeId} (hx : evF fr x = some vx) (hy : evF fr y = some vy) (hg : ∀ w, (eqGuard op t x y vx vy).run P w = .ok () w) (h : ∀ w, (binOp op t vx vy).run P w = .ok v w) :
    RunsTo P fr I L ⟨d, .binOp op t x y u, ty, pos, aft, gd⟩ v := fun ρ w hρ _ => by
  simp only [execOp, hρ x _ hx, hρ y _ hy]
  rw [Sem.run_bind, Sem.run_bind, hg, Result.andThen_ok, h]; rfl

theorem eql_run {t : TypeId} {w : World} {p : Bool} (hb : binOp .eql t vx vy = do pure (.bool (← Op.equal t vx vy))) (h : ∀ n, (Op.equalIn (n + 1) t vx vy).run P w = .ok p w) : (binOp .eql t vx vy).run P w = .ok (.bool p) w := by
  rw [hb, Sem.run_bind]
  show ((Op.equalIn (9999 + 1) t vx vy).run P w).andThen _ = _
  rw [h]; rfl
theorem neq_run {t : TypeId} {w : World} {p : Bool} (hb : binOp .neq t vx vy = do pure (.bool (!(← Op.equal t vx vy)))) (h : ∀ n, (Op.equalIn (n + 1) t vx vy).run P w = .ok p w) : (binOp .neq t vx vy).run P w = .ok (.bool !p) w := by
  rw [hb, Sem.run_bind]
  show ((Op.equalIn (9999 + 1) t vx vy).run P w).andThen _ = _
  rw [h]; rfl

theorem in_PN {t e : TypeId} {ad : Addr} {w : World} (ht : P.underlying t = some (.pointer e)) (n : Nat) : (Op.equalIn (n + 1) t (.pointer (some ad)) (.pointer .none)).run P w = .ok false w := by
  simp [Op.equalIn, run_und ht]
theorem in_NN {t e : TypeId} {w : World} (ht : P.underlying t = some (.pointer e)) (n : Nat) : (Op.equalIn (n + 1) t (.pointer .none) (.pointer .none)).run P w = .ok true w := by
  simp [Op.equalIn, run_und ht]
theorem in_SN {t e : TypeId} {A : Option Addr} {k c : Nat} {w : World} (ht : P.underlying t = some (.slice e)) (n : Nat) : (Op.equalIn (n + 1) t (.slice A k c) (.slice .none 0 0)).run P w = .ok A.isNone w := by
  cases A <;> simp [Op.equalIn, run_und ht]
theorem in_B {t : TypeId} {p q : Bool} {w : World} (ht : P.underlying t = some .bool) (n : Nat) : (Op.equalIn (n + 1) t (.bool p) (.bool q)).run P w = .ok (p == q) w := by
  simp [Op.equalIn, run_und ht]

theorem R.eqPN {t u e : TypeId} {ad : Addr} (hx : evF fr x = some (.pointer (some ad))) (hy : evF fr y = some (.pointer .none)) (ht : P.underlying t = some (.pointer e)) : RunsTo P fr I L ⟨d, .binOp .eql t x y u, ty, pos, aft, gd⟩ (.bool false) :=
  R.bin' hx hy (fun w => by simp [eqGuard]) (fun w => eql_run rfl (in_PN ht))
theorem R.nePN {t u e : TypeId} {ad : Addr} (hx : evF fr x = some (.pointer (some ad))) (hy : evF fr y = some (.pointer .none)) (ht : P.underlying t = some (.pointer e)) : RunsTo P fr I L ⟨d, .binOp .neq t x y u, ty, pos, aft, gd⟩ (.bool true) :=
  R.bin' hx hy (fun w => by simp [eqGuard]) (fun w => neq_run rfl (in_PN ht))
theorem R.eqNN {t u e : TypeId} (hx : evF fr x = some (.pointer .none)) (hy : evF fr y = some (.pointer .none)) (ht : P.underlying t = some (.pointer e)) : RunsTo P fr I L ⟨d, .binOp .eql t x y u, ty, pos, aft, gd⟩ (.bool true) :=
  R.bin' hx hy (fun w => by simp [eqGuard]) (fun w => eql_run rfl (in_NN ht))
theorem R.neNN {t u e : TypeId} (hx : evF fr x = some (.pointer .none)) (hy : evF fr y = some (.pointer .none)) (ht : P.underlying t = some (.pointer e)) : RunsTo P fr I L ⟨d, .binOp .neq t x y u, ty, pos, aft, gd⟩ (.bool false) :=
  R.bin' hx hy (fun w => by simp [eqGuard]) (fun w => neq_run rfl (in_NN ht))
theorem R.eqSN {t u e : TypeId} {A : Option Addr} {n c : Nat} (hx : evF fr x = some (.slice A n c)) (hy : evF fr y = some (.slice .none 0 0)) (ht : P.underlying t = some (.slice e)) : RunsTo P fr I L ⟨d, .binOp .eql t x y u, ty, pos, aft, gd⟩ (.bool A.isNone) :=
  R.bin' hx hy (fun w => by simp [eqGuard]) (fun w => eql_run rfl (in_SN ht))
theorem R.neSN {t u e : TypeId} {A : Option Addr} {n c : Nat} (hx : evF fr x = some (.slice A n c)) (hy : evF fr y = some (.slice .none 0 0)) (ht : P.underlying t = some (.slice e)) : RunsTo P fr I L ⟨d, .binOp .neq t x y u, ty, pos, aft, gd⟩ (.bool !A.isNone) :=
  R.bin' hx hy (fun w => by simp [eqGuard]) (fun w => neq_run rfl (in_SN ht))
theorem R.eqB {t u : TypeId} {p q : Bool} (hx : evF fr x = some (.bool p)) (hy : evF fr y = some (.bool q)) (ht : P.underlying t = some .bool) : RunsTo P fr I L ⟨d, .binOp .eql t x y u, ty, pos, aft, gd⟩ (.bool (p == q)) :=
  R.bin' hx hy (fun w => by simp [eqGuard]) (fun w => eql_run rfl (in_B ht))
theorem R.neB {t u : TypeId} {p q : Bool} (hx : evF fr x = some (.bool p)) (hy : evF fr y = some (.bool q)) (ht : P.underlying t = some .bool) : RunsTo P fr I L ⟨d, .binOp .neq t x y u, ty, pos, aft, gd⟩ (.bool !(p == q)) :=
  R.bin' hx hy (fun w => by simp [eqGuard]) (fun w => neq_run rfl (in_B ht))

theorem bytes_eq (s r : ByteArray) : (s.toList == r.toList) = decide (s.data.toList = r.data.toList) := by
  rw [ByteArray.toList_eq, ByteArray.toList_eq, Bool.eq_iff_iff]; simp
theorem R.eqStr {t u : TypeId} {s r : ByteArray} (hx : evF fr x = some (.string s)) (hy : evF fr y = some (.string r)) : RunsTo P fr I L ⟨d, .binOp .eql t x y u, ty, pos, aft, gd⟩ (.bool (decide (s.data.toList = r.data.toList))) :=
  R.bin' hx hy (fun w => by simp [eqGuard]) (fun w => by simp [binOp, Op.stringOp, bytes_eq])
theorem R.neStr {t u : TypeId} {s r : ByteArray} (hx : evF fr x = some (.string s)) (hy : evF fr y = some (.string r)) : RunsTo P fr I L ⟨d, .binOp .neq t x y u, ty, pos, aft, gd⟩ (.bool (decide (s.data.toList ≠ r.data.toList))) :=
  R.bin' hx hy (fun w => by simp [eqGuard]) (fun w => by simp [binOp, Op.stringOp, bytes_eq])
theorem R.cat {t u : TypeId} {s r : ByteArray} (hx : evF fr x = some (.string s)) (hy : evF fr y = some (.string r)) (h : s.size + r.size ≤ 9223372036854775807) : RunsTo P fr I L ⟨d, .binOp .add t x y u, ty, pos, aft, gd⟩ (.string (s ++ r)) :=
  R.bin' hx hy (fun w => by simp [eqGuard]) (fun w => by
    have : ¬ (((s.size + r.size : Nat) : Int) > IntKind.i64.max) := by
      rw [show IntKind.i64.max = 9223372036854775807 from by decide]; omega
    simp only [binOp, Op.stringOp]
    rw [if_neg this]; rfl)
end
end Go.Eng

/- The engine, part D: operations that turn memory, calls, rows of the call's own. No function of the program is proved here. -/
namespace Go.Eng

inductive SetAt : List Value → Nat → Value → List Value → Prop where
  | zero {x v : Value} {l : List Value} : SetAt (x :: l) 0 v (v :: l)
  | succ {x v : Value} {l l' : List Value} {n : Nat} (h : SetAt l n v l') : SetAt (x :: l) (n + 1) v (x :: l')

theorem SetAt.spec {l l' : List Value} {n : Nat} {v : Value} (h : SetAt l n v l') : n < l.length ∧ l' = l.set n v := by
  induction h with
  | zero => simp
  | succ _ ih => obtain ⟨h1, h2⟩ := ih; exact ⟨by simpa using h1, by simp [h2]⟩

def evL (fr : Frm) : List Operand → Option (List Value)
  | [] => some []
  | x :: xs => match evF fr x, evL fr xs with
    | some v, some vs => some (v :: vs)
    | _, _ => none

theorem evL_spec {fr : Frm} {ρ : Operand → Value} (hρ : Agree fr ρ) : ∀ (xs : List Operand) (vs : List Value), evL fr xs = some vs → xs.map ρ = vs := by
  intro xs
  induction xs with
  | nil => intro vs h; simp [evL] at h; simp [← h]
  | cons x xs ih =>
    intro vs h
    unfold evL at h
    split at h
    · rename_i v vs' h1 h2
      simp at h; subst h
      simp [hρ x v h1, ih vs' h2]
    · cases h

section
variable {P : Program} {N : Nat} {all : Array Oper} {o : Oper} {rest : List Oper} {fr : Frm} {I : Imm} {L : List Ent}
variable {ty : TypeId} {pos : String} {aft : Array Edge} {gd : Option (Nat × Bool)} {d : Option Tmp} {x y z : Operand} {v vx vy : Value} {K : Frm → Imm → List Ent → Prop}

theorem HS.upd {L' : List Ent} {e e' : Ent} {w w' : World} (h : HS I L w) (hu : Upd L e e' L')
    (hs : ∀ b, b < w.heap.size → e.own ≠ some b → w'.heap[b]? = w.heap[b]?) (hok : e'.ok w')
    (hown : ∀ b, e'.own = some b → e.own = some b ∨ w.heap.size ≤ b)
    (ho : w'.os = w.os) (ht : w'.tape = w.tape) (hu' : w'.output = w.output) : HS I L' w' := by
  obtain ⟨R, h1, h2⟩ := hu.split
  exact ((h.perm h1).swap hs hok hown ho ht hu').perm h2

theorem Upd.mem {L' : List Ent} {e e' : Ent} (hu : Upd L e e' L') : e ∈ L := by
  obtain ⟨R, h1, _⟩ := hu.split
  exact h1.mem_iff.2 List.mem_cons_self

theorem setCell_blk {w : World} {b : Nat} {t : TypeId} {cs : List Value} (hb : w.heap[b]? = some (.cells cs.toArray t (0, 0))) (off : Nat) (v : Value) :
    (w.setCell ⟨b, off, .none⟩ v).heap[b]? = some (.cells (cs.set off v).toArray t (0, 0)) := by
  have hlt := (Array.getElem?_eq_some_iff.1 hb).1
  simp only [World.setCell]
  rw [Array.getElem?_modify, if_pos rfl, hb]
  simp

theorem setCell_far {w : World} {b c : Nat} (h : c ≠ b) (off : Nat) (v : Value) : (w.setCell ⟨b, off, .none⟩ v).heap[c]? = w.heap[c]? := by
  simp only [World.setCell]
  rw [Array.getElem?_modify, if_neg (Ne.symm h)]

theorem run_storeVar_one {t : TypeId} {info : TypeInfo} {w : World} {ad : Addr} {u : Value} (hi : ∀ w, (typeInfo t).run P w = .ok info w) (h1 : info.size = 1) (hv : v.cells = #[v]) (h2 : v.oneCell' = true)
    (hc : w.cell? ad = some u) (hf : w.frozen? ad = false) : (storeVar t ad v).run P w = .ok () (w.setCell ad v) := by
  have e0 : ad.add 0 = ad := by simp [Addr.add]
  simp [storeVar, sizeOf, hi, h1, hv, storeCells, e0, run_store _ _ _ _ _ h2, hc, hf]

/-- A store into a block of our own. -/
theorem W.store {b off : Nat} {t tb : TypeId} {cs cs' : List Value} {L' : List Ent} {info : TypeInfo} (hx : evF fr x = some (.pointer (some ⟨b, off, .none⟩))) (hy : evF fr y = some v)
    (hv : v.cells = #[v]) (h2 : v.oneCell' = true) (hi : ∀ w, (typeInfo t).run P w = .ok info w) (h1 : info.size = 1)
    (hu : Upd L (.blk b tb cs) (.blk b tb cs') L') (hc : SetAt cs off v cs') : Acts P N fr I L ⟨d, .store t x y, ty, pos, aft, gd⟩ (Is undef I L') := by
  intro a w next Q ha hs hk
  obtain ⟨hlt, rfl⟩ := hc.spec
  have hb : w.heap[b]? = some (.cells cs.toArray tb (0, 0)) := hs.ents _ hu.mem
  have hcell : w.cell? ⟨b, off, .none⟩ = some cs[off] := by simp [World.cell?, hb, hlt]
  have hfr : w.frozen? ⟨b, off, .none⟩ = false := by simp [World.frozen?, hb]
  have hr : (execOp a.eval ⟨d, .store t x y, ty, pos, aft, gd⟩).run P w = .ok .skip (w.setCell ⟨b, off, .none⟩ v) := by
    simp [execOp, ha.ev hx, ha.ev hy, Instr.storeAt, Instr.sureAddr, run_storeVar_one hi h1 hv h2 hcell hfr]
  unfold Oper.wp
  rw [hr, Oper.upon_skip]
  refine hk undef I L' _ ?_ ⟨rfl, rfl, rfl⟩
  exact hs.upd hu (fun c _ hne => setCell_far (fun e => hne (by simp [Ent.own, e])) off v) (setCell_blk hb off v) (fun c hc => .inl hc) rfl rfl rfl

/-- A new variable that holds a value. -/
theorem W.box {e : TypeId} {cs : List Value} (hx : evF fr x = some v) (hc : v.cells.toList = cs) :
    Acts P N fr I L ⟨d, .box e x, ty, pos, aft, gd⟩ (fun v' I' L' => ∃ b, v' = .pointer (some ⟨b, 0, .none⟩) ∧ I = I' ∧ L' = .blk b e cs :: L) := by
  intro a w next Q ha hs hk
  subst hc
  have hr : (execOp a.eval ⟨d, .box e x, ty, pos, aft, gd⟩).run P w = .ok (.value (.pointer (some ⟨w.heap.size, 0, .none⟩))) (w.alloc (.cells v.cells.toList.toArray e)) := by
    simp [execOp, ha.ev hx, Instr.box, newVar, newRow]
  unfold Oper.wp
  rw [hr, Oper.upon_value]
  exact hk _ I _ _ (hs.alloc_blk _ _) ⟨_, rfl, rfl, rfl⟩

theorem W.alloc {e : TypeId} {cs : List Value} {zv : Value} (hz : ∀ w, (zeroValue e).run P w = .ok zv w) (hc : zv.cells.toList = cs) :
    Acts P N fr I L ⟨d, .alloc e, ty, pos, aft, gd⟩ (fun v' I' L' => ∃ b, v' = .pointer (some ⟨b, 0, .none⟩) ∧ I = I' ∧ L' = .blk b e cs :: L) := by
  intro a w next Q ha hs hk
  subst hc
  have hr : (execOp a.eval ⟨d, .alloc e, ty, pos, aft, gd⟩).run P w = .ok (.value (.pointer (some ⟨w.heap.size, 0, .none⟩))) (w.alloc (.cells zv.cells.toList.toArray e)) := by
    simp [execOp, Instr.alloc, hz, newVar, newRow]
  unfold Oper.wp
  rw [hr, Oper.upon_value]
  exact hk _ I _ _ (hs.alloc_blk _ _) ⟨_, rfl, rfl, rfl⟩

theorem HS.alloc_row {w : World} (h : HS I L w) (cs : List Value) (e : TypeId) (sz n c : Nat) (hc : cs.length = c * sz) (hn : n ≤ c) (hm : c ≤ maxLen) :
    HS I (.row (.slice (some ⟨w.heap.size, 0, .none⟩) n c) e sz n (cs.take (n * sz)) :: L) (w.alloc (.cells cs.toArray e)) := by
  refine h.add (fun b hb => alloc_old hb) ⟨?_, .inr ⟨w.heap.size, c, cs.toArray, rfl, Nat.zero_le _, alloc_new w _, hn, hm, by simp [hc], by simp⟩⟩ (fun b hb => by simp only [Ent.own, Value.ownBlock, Option.some.injEq] at hb; omega) rfl rfl rfl
  rw [List.length_take, hc, Nat.min_eq_left (Nat.mul_le_mul_right _ hn)]

/-- Parts that fill a row, one behind the other. -/
theorem fill_row {sz : Nat} : ∀ (vs : List Value) (k : Nat) (cells : Array Value), (∀ v ∈ vs, v.cells.size = sz) → (k + vs.length) * sz ≤ cells.size →
    Instr.fill (fun i => some (i * sz, sz)) cells ((List.range' k vs.length).zip vs) = some (cells.toList.take (k * sz) ++ vs.flatMap (fun v => v.cells.toList) ++ cells.toList.drop ((k + vs.length) * sz)).toArray := by
  intro vs
  induction vs with
  | nil => intro k cells _ _; simp [Instr.fill]
  | cons v vs ih =>
    intro k cells hv hs
    have h0 : v.cells.size = sz := hv v List.mem_cons_self
    have hk : k * sz + sz ≤ cells.size := by
      have : (k + 1) * sz ≤ (k + (v :: vs).length) * sz := Nat.mul_le_mul_right _ (by simp)
      rw [Nat.add_mul, Nat.one_mul] at this; omega
    have hfold : ∀ (l : List Value) (c : Array Value) (o j : Nat), o + j + l.length ≤ c.size →
        (l.zipIdx j).foldl (fun cs (p : Value × Nat) => cs.setIfInBounds (o + p.2) p.1) c = (c.toList.take (o + j) ++ l ++ c.toList.drop (o + j + l.length)).toArray := by
      intro l
      induction l with
      | nil => intro c o j _; simp
      | cons x l ih2 =>
        intro c o j hl
        rw [List.zipIdx_cons, List.foldl_cons, ih2 _ o (j + 1) (by simpa [Nat.add_assoc, Nat.add_comm 1] using hl)]
        simp only [List.length_cons] at hl
        apply Array.ext'
        apply List.ext_getElem?
        intro q
        simp only [Array.toList_setIfInBounds, List.getElem?_append, List.length_append, List.length_take, List.length_set, List.length_cons, Array.length_toList]
        simp only [List.getElem?_take, List.getElem?_drop, List.getElem?_set]
        by_cases h1 : q < o + j
        · rw [if_pos (by omega), if_pos (by omega), if_pos (by omega), if_neg (by omega), if_pos (by omega), if_pos (by omega), if_pos (by omega)]
        · by_cases h2 : q = o + j
          · subst h2
            rw [if_pos (by omega), if_pos (by omega), if_pos (by omega), if_pos rfl, if_pos (by rw [Array.length_toList]; omega), if_pos (by omega), if_neg (by omega)]
            have : o + j - min (o + j) c.size = 0 := by omega
            rw [this]; rfl
          · by_cases h3 : q < o + j + (l.length + 1)
            · rw [if_pos (by omega), if_neg (by omega), if_pos (by omega), if_neg (by omega)]
              have e1 : q - min (o + (j + 1)) c.size + 1 = q - min (o + j) c.size := by omega
              rw [← e1, List.getElem?_cons_succ]
            · rw [if_neg (by omega), if_neg (by omega), if_neg (by omega)]
              congr 1; omega
    have hstep : (v.cells.zipIdx.foldl (fun cs (p : Value × Nat) => cs.setIfInBounds (k * sz + p.2) p.1) cells) = (cells.toList.take (k * sz) ++ v.cells.toList ++ cells.toList.drop (k * sz + sz)).toArray := by
      have := hfold v.cells.toList cells (k * sz) 0 (by rw [Array.length_toList, h0]; omega)
      rw [Nat.add_zero, Array.length_toList, h0] at this
      rw [← this, ← Array.foldl_toList, Array.toList_zipIdx]
    rw [List.length_cons, List.range'_succ, List.zip_cons_cons, Instr.fill]
    simp only
    rw [if_neg (by simp [h0]; omega), hstep, ih (k + 1) _ (fun u hu => hv u (List.mem_cons_of_mem _ hu))]
    · congr 1
      apply congrArg List.toArray
      have e1 : (k + 1) * sz = k * sz + sz := by rw [Nat.add_mul, Nat.one_mul]
      have e2 : (k + 1 + vs.length) * sz = k * sz + sz + vs.length * sz := by rw [Nat.add_mul, e1]
      have e3 : (k + (vs.length + 1)) * sz = k * sz + sz + vs.length * sz := by rw [show k + (vs.length + 1) = k + 1 + vs.length from by omega, e2]
      rw [e1, e2, e3, List.flatMap_cons]
      have hl1 : (cells.toList.take (k * sz)).length = k * sz := by rw [List.length_take, Array.length_toList]; omega
      have hl2 : (cells.toList.take (k * sz) ++ v.cells.toList).length = k * sz + sz := by rw [List.length_append, hl1, Array.length_toList, h0]
      simp only
      rw [List.take_append_of_le_length (by rw [hl2]; exact Nat.le_refl _), List.take_of_length_le (by rw [hl2]; exact Nat.le_refl _)]
      rw [List.drop_append, hl2, List.drop_of_length_le (by rw [hl2]; omega), List.nil_append, List.drop_drop]
      rw [show k * sz + sz + (k * sz + sz + vs.length * sz - (k * sz + sz)) = k * sz + sz + vs.length * sz from by omega]
      simp only [List.append_assoc]
    · have e2 : (k + 1 + vs.length) * sz = (k + (v :: vs).length) * sz := by rw [List.length_cons]; congr 1; omega
      rw [e2]
      simp only [List.size_toArray, List.length_append, List.length_take, List.length_drop, Array.length_toList, h0]
      omega

/-- A slice's literal. -/
theorem W.buildSlice {t e : TypeId} {n sz : Nat} {parts : Array (Nat × Operand)} {vs : List Value} {info : TypeInfo} {zv : Value} (ht : P.underlying t = some (.slice e)) (hi : ∀ w, (typeInfo e).run P w = .ok info w) (hsz : info.size = sz)
    (hz : ∀ w, (zeroValue e).run P w = .ok zv w) (hvs : evL fr (parts.toList.map (·.2)) = some vs) (hix : parts.toList.map (·.1) = List.range' 0 n) (hn : vs.length = n) (hb' : n * sz ≤ 65536) (hp : 0 < n * sz)
    (hv : ∀ v ∈ vs, v.cells.size = sz) :
    Acts P N fr I L ⟨d, .buildSlice t n parts, ty, pos, aft, gd⟩ (fun v' I' L' => ∃ b, v' = .slice (some ⟨b, 0, .none⟩) n n ∧ I = I' ∧ L' = .row (.slice (some ⟨b, 0, .none⟩) n n) e sz n (vs.flatMap (fun v => v.cells.toList)) :: L) := by
  intro a w next Q ha hs hk
  subst hsz
  have hparts : (parts.map (fun (i, x) => (i, a.eval x))).toList = (List.range' 0 vs.length).zip vs := by
    have := evL_spec ha.agree _ vs hvs
    rw [hn, ← hix, ← this]
    simp [List.zip_map', List.map_map]
  have hsz' : ((Array.range (n * info.size)).map (zv.cells[· % zv.cells.size]!)).size = n * info.size := by simp
  have hfill := fill_row (sz := info.size) vs 0 ((Array.range (n * info.size)).map (zv.cells[· % zv.cells.size]!)) hv (by rw [hsz', hn, Nat.zero_add]; exact Nat.le_refl _)
  have hdrop : ((Array.range (n * info.size)).map (zv.cells[· % zv.cells.size]!)).toList.drop ((0 + vs.length) * info.size) = [] := by
    apply List.drop_of_length_le
    rw [Array.length_toList, hsz', hn, Nat.zero_add]; exact Nat.le_refl _
  rw [hdrop, Nat.zero_mul, List.take_zero, List.nil_append, List.append_nil] at hfill
  have hl : (vs.flatMap (fun v => v.cells.toList)).length = n * info.size := by
    have : ∀ l : List Value, (∀ v ∈ l, v.cells.size = info.size) → (l.flatMap (fun v => v.cells.toList)).length = l.length * info.size := by
      intro l
      induction l with
      | nil => intro _; simp
      | cons x l ih => intro h; rw [List.flatMap_cons, List.length_append, ih (fun v hv => h v (List.mem_cons_of_mem _ hv)), Array.length_toList, h x List.mem_cons_self, List.length_cons, Nat.add_mul, Nat.one_mul, Nat.add_comm]
    rw [this vs hv, hn]
  have hr : (execOp a.eval ⟨d, .buildSlice t n parts, ty, pos, aft, gd⟩).run P w = .ok (.value (.slice (some ⟨w.heap.size, 0, .none⟩) n n)) (w.alloc (.cells (vs.flatMap (fun v => v.cells.toList)).toArray e)) := by
    simp only [execOp]
    rw [Sem.run_bind]
    have : (Instr.buildSlice t n (parts.map fun (i, x) => (i, a.eval x))).run P w = .ok (.slice (some ⟨w.heap.size, 0, .none⟩) n n) (w.alloc (.cells (vs.flatMap (fun v => v.cells.toList)).toArray e)) := by
      unfold Instr.buildSlice
      rw [Sem.run_bind, run_und ht, Result.andThen_ok]
      simp only [sizeOf, Sem.run_bind, hi, Result.andThen_ok, Sem.run_pure]
      rw [if_neg (by omega), if_neg (by omega)]
      simp only [Sem.run_bind, hz, Result.andThen_ok, Sem.run_pure, hparts, hfill]
      simp [newRow]
    rw [this]; rfl
  unfold Oper.wp
  rw [hr, Oper.upon_value]
  have hn' : n ≤ maxLen := by
    have : 0 < info.size := Nat.pos_of_ne_zero (by rintro h0; rw [h0] at hp; simp at hp)
    have := Nat.le_mul_of_pos_right n this
    simp only [maxLen]; omega
  have := hs.alloc_row (vs.flatMap (fun v => v.cells.toList)) e info.size n n hl (Nat.le_refl _) hn'
  rw [← hl, List.take_length] at this
  exact hk _ I _ _ this ⟨_, rfl, rfl, rfl⟩

/-! ### Calls -/
theorem W.call {f : Operand} {args : Array Operand} {ts : Array TypeId} {k : FuncId} {fs cs : Array Value} {vs as : List Value} {Lp F : List Ent} {post : Value → Imm → List Ent → Prop}
    (hf : evF fr f = some (.func (.func k) fs cs)) (ha : evL fr args.toList = some vs) (hc : ∀ as w, (callFunc k as).run P w = .ok (.enter k as) w)
    (hs : Meets P k as.toArray I Lp post) (hag : fs.toList ++ vs ++ cs.toList = as) (ht : Take L Lp F) :
    Acts P N fr I L ⟨d, .call ⟨.value f, args, ts⟩, ty, pos, aft, gd⟩ (fun v I' L' => I.le I' ∧ ∃ M, post v I' M ∧ L' = M ++ F) := by
  intro a w next Q haF hw hk
  have hargs : args.map a.eval = vs.toArray := by
    have := evL_spec haF.agree _ _ ha
    apply Array.ext'
    rw [Array.toList_map, this]
  have hr : (execOp a.eval ⟨d, .call ⟨.value f, args, ts⟩, ty, pos, aft, gd⟩).run P w = .ok (.enter k (fs ++ vs.toArray ++ cs)) w := by
    simp [execOp, resolve, haF.ev hf, Deferred.ofValue, invoke, hc, hargs]
  unfold Oper.wp
  rw [hr, Oper.upon_enter]
  have e : as.toArray = fs ++ vs.toArray ++ cs := by
    rw [← hag]
    apply Array.ext'; simp
  rw [← e]
  refine (hs w F (hw.perm ht.perm)).mono ?_
  rintro e' w' ⟨v', I', L', rfl, hle, hp, hs'⟩
  exact hk v' I' _ w' hs' ⟨hle, L', hp, rfl⟩

/-! ### Rows -/
/-- What a row of our own holds, cell by cell. -/
theorem cellRow {A : Option Addr} {n c sz : Nat} {e : TypeId} {xs : List Value} {g j : Nat} {u : Value} (hm : Ent.row (.slice A n c) e sz n xs ∈ L) (hA : A = some ⟨g, 0, .none⟩) (hj : xs[j]? = some u) : ∀ w, HS I L w → w.cell? ⟨g, j, .none⟩ = some u := by
  intro w hs
  have h := hs.ents _ hm
  simp only [Ent.ok] at h
  have := h.cells (g := g) (by rw [hA]; rfl) j u hj
  have e1 : (⟨g, 0, .none⟩ : Addr).add j = ⟨g, j, .none⟩ := by unfold Addr.add; split <;> simp_all
  rwa [e1] at this

theorem row_some {A : Option Addr} {n c sz m : Nat} {e : TypeId} {xs : List Value} {w : World} (h : Row w e sz (.slice A m c) n xs) (hn : 0 < n) : ∃ g, A = some ⟨g, 0, .none⟩ := by
  obtain ⟨_, ⟨_, h0⟩ | ⟨g, cap, cur, h1, _⟩⟩ := h
  · omega
  · simp only [Value.slice.injEq] at h1; exact ⟨g, h1.1⟩

theorem Opz.rowSome {A : Option Addr} {n c sz : Nat} {e : TypeId} {xs : List Value} {ops : List Oper} (hm : Ent.row (.slice A n c) e sz n xs ∈ L) (hn : 0 < n)
    (k : ∀ g, A = some ⟨g, 0, .none⟩ → Opz P N all ops fr I L K) : Opz P N all ops fr I L K := by
  intro a w Q0 ha hs hk
  obtain ⟨g, hg⟩ := row_some (hs.ents _ hm) hn
  exact k g hg a w Q0 ha hs hk

/-- What is known of a row's length. -/
theorem Opz.rowLen {A : Option Addr} {n c sz : Nat} {e : TypeId} {xs : List Value} {ops : List Oper} (hm : Ent.row (.slice A n c) e sz n xs ∈ L)
    (k : xs.length = n * sz → n ≤ c → Opz P N all ops fr I L K) : Opz P N all ops fr I L K := by
  intro a w Q0 ha hs hk
  have h := hs.ents _ hm
  refine k h.1 ?_ a w Q0 ha hs hk
  obtain ⟨_, ⟨h1, h0⟩ | ⟨g, cap, cur, h1, _, _, h2, _⟩⟩ := h
  · simp only [Value.slice.injEq] at h1; omega
  · simp only [Value.slice.injEq] at h1; omega

/-- append of a slice to a row: what it does. -/
theorem run_append_own2 {w : World} (t ty e : TypeId) (i : TypeInfo) (z : Value) (size bytes : Nat) (ht : P.underlying t = some (.slice e)) (hi : P.info? e = some i) (hz : i.zero = some z)
    (hsize : i.size = size) (hby : i.bytes = bytes) (hzs : z.cells.size = size) (hsz : 0 < size)
    (v : Value) (n : Nat) (xs : List Value) (hown : Row w e size v n xs)
    (a : Addr) (m c : Nat) (news : List Value) (hl : news.length = m * size) (hnews : ∀ j u, news[j]? = some u → w.cell? (a.add j) = some u) (h1 : ∀ u ∈ news, u.oneCell' = true)
    (h63 : n + m ≤ maxLen) (hbytes : (n + m) * bytes ≤ 140737488355328) :
    ∃ v' w', (Builtin.append_ #[t, t] ty #[v, .slice (some a) m c]).run P w = .ok v' w' ∧ Row w' e size v' (n + m) (xs ++ news) ∧ w.grownBy w' v.ownBlock ∧
      (∀ b, v'.ownBlock = some b → v.ownBlock = some b ∨ w.heap.size ≤ b) := by
  subst hsize
  subst hby
  have hsmall : n + m ≤ 9223372036854775807 := by simp only [maxLen] at h63; omega
  have hlen : (xs ++ news).length = (n + m) * i.size := by rw [List.length_append, hown.1, hl, Nat.add_mul]
  have grown : ∀ (old : Nat), old < n + m → ∀ (row : Option Nat),
      Row (w.drew.alloc (.cells (xs.toArray ++ news.toArray ++ Builtin.zeroCells z.cells (grownCap w (n + m) old e - (n + m))) e)) e i.size
        (.slice (some ⟨w.heap.size, 0, none⟩) (n + m) (grownCap w (n + m) old e)) (n + m) (xs ++ news) ∧
      w.grownBy (w.drew.alloc (.cells (xs.toArray ++ news.toArray ++ Builtin.zeroCells z.cells (grownCap w (n + m) old e - (n + m))) e)) row := by
    intro old ho row
    have hge := grownCap_ge w (n + m) old e
    have hcm : grownCap w (n + m) old e ≤ maxLen := grownCap_le_maxLen w (n + m) old e h63
    refine ⟨⟨hlen, .inr ⟨w.heap.size, _, _, rfl, Nat.zero_le _, alloc_new w.drew _, hge, hcm, ?_, ?_⟩⟩, ⟨rfl, rfl, rfl, by simp, fun k hk _ => alloc_old (w := w.drew) hk⟩⟩
    · simp only [Array.size_append, List.size_toArray, size_zeroCells, hzs, hown.1, hl, ← Nat.add_mul]
      refine Nat.le_of_eq ?_
      congr 1
      omega
    · simp only [Array.toList_append, List.append_assoc]
      rw [← List.append_assoc, ← hlen]
      exact List.take_left
  rcases hown.2 with ⟨rfl, rfl⟩ | ⟨g, cap, cur, rfl, hbg, hg, hnc, hcm, hcs, htake⟩
  · have hx : xs = [] := List.eq_nil_of_length_eq_zero (by simpa using hown.1)
    subst hx
    obtain ⟨v', w', hrun, hown', hgr, _⟩ := run_append_own (P := P) (w := w) w.heap.size t ty e i z i.size i.bytes ht hi hz rfl rfl hzs hsz (.slice none 0 0) 0 [] (World.ownsRow_nil w _ e i.size) a m c news hl hnews h1 h63 hbytes (Nat.le_refl _)
    refine ⟨v', w', hrun, ⟨hown'.1, ?_⟩, hgr, fun b hb => .inr ((hown'.lt b hb).1)⟩
    rcases hown'.2 with h | ⟨g, cap, cur, h2, _, h3, h4, h5, h6, h7⟩
    · exact .inl h
    · exact .inr ⟨g, cap, cur, h2, Nat.zero_le _, h3, h4, h5, by omega, h7⟩
  · by_cases hroom : n + m ≤ cap
    · have hfit : n * i.size + news.length ≤ cur.size := by rw [hl, ← Nat.add_mul]; exact Nat.le_trans (Nat.mul_le_mul_right _ hroom) hcs
      have hr := run_append_room (P := P) w t ty e i ht hi g n cap cur hg a m c news hl hnews h1 hroom hfit
      refine ⟨_, _, hr, ⟨hlen, .inr ⟨g, cap, _, rfl, hbg, setRow_heap w g cur _ e _ hg, hroom, hcm, ?_, ?_⟩⟩, ⟨rfl, rfl, rfl, by simp, fun k _ hk => setRow_other w g k _ (fun e => hk (by simp [Value.ownBlock, e]))⟩, fun b hb => .inl (by simpa [Value.ownBlock] using hb)⟩
      · simp only [List.size_toArray, List.length_append, List.length_take, List.length_drop, Array.length_toList]
        omega
      · rw [htake, ← hlen]
        exact List.take_left
    · have holds : ∀ j u, xs[j]? = some u → w.cell? ((⟨g, 0, none⟩ : Addr).add j) = some u := hown.cells (g := g) rfl
      have hr := run_append_grow (P := P) w t ty e i z ht hi hz ⟨g, 0, none⟩ n cap xs hown.1 holds a m c news hl hnews (by omega) (by omega) (growslice_fits (by omega) hbytes)
      have hgr := grown cap (by omega) (Value.ownBlock (.slice (some ⟨g, 0, none⟩) n cap))
      exact ⟨_, _, hr, hgr.1, hgr.2, fun b hb => .inr (by simp [Value.ownBlock] at hb; omega)⟩

/-- What is appended is a row of our own. -/
theorem newsRow {A : Option Addr} {m c sz : Nat} {e : TypeId} {xs : List Value} (hm : Ent.row (.slice A m c) e sz m xs ∈ L) :
    ∀ w, HS I L w → ∀ j u, xs[j]? = some u → ∃ a, A = some a ∧ w.cell? (a.add j) = some u := by
  intro w hs j u hj
  have h := hs.ents _ hm
  simp only [Ent.ok] at h
  have hj' : j < xs.length := (List.getElem?_eq_some_iff.1 hj).1
  have hl := h.1
  obtain ⟨g, hg⟩ := row_some h (Nat.pos_of_ne_zero (by rintro rfl; rw [Nat.zero_mul] at hl; omega))
  subst hg
  exact ⟨_, rfl, h.cells (g := g) rfl j u hj⟩

/-- append of a slice to a row of our own. -/
theorem W.append {t e : TypeId} {ad : Option Addr} {n c m c' sz by' : Nat} {A : Option Addr} {xs news : List Value} {L' : List Ent} {info : TypeInfo} {zv : Value} (hx : evF fr x = some (.slice A n c)) (hy : evF fr y = some (.slice ad m c'))
    (ht : P.underlying t = some (.slice e)) (hi : P.info? e = some info) (hz : info.zero = some zv) (hsz : info.size = sz) (hby : info.bytes = by') (hzs : zv.cells.size = sz) (hpos : Nat.blt 0 sz = true)
    (hr : Rem L (.row (.slice A n c) e sz n xs) L') (hl : news.length = m * sz) (hnews : ∀ w, HS I L w → ∀ j u, news[j]? = some u → ∃ a, ad = some a ∧ w.cell? (a.add j) = some u) (h1 : ∀ u ∈ news, u.oneCell' = true)
    (hb : (n + m) * by' ≤ 140737488355328) (hby0 : Nat.blt 0 by' = true) :
    Acts P N fr I L ⟨d, .call ⟨.builtin .append, #[x, y], #[t, t]⟩, ty, pos, aft, gd⟩ (fun v I' L2 => ∃ A' cp, v = .slice A' (n + m) cp ∧ I = I' ∧ L2 = .row (.slice A' (n + m) cp) e sz (n + m) (xs ++ news) :: L') := by
  intro a w next Q ha hs hk
  have hp : 0 < sz := by simpa [Nat.blt_eq] using hpos
  have hbp : 0 < by' := by simpa [Nat.blt_eq] using hby0
  have hown : Row w e sz (.slice A n c) n xs := hs.ents _ (hr.perm.mem_iff.2 List.mem_cons_self)
  have hnm : n + m ≤ maxLen := by
    have : n + m ≤ (n + m) * by' := Nat.le_mul_of_pos_right _ hbp
    simp only [maxLen]; omega
  have key : ∃ v' w', (Builtin.append_ #[t, t] ty #[.slice A n c, .slice ad m c']).run P w = .ok v' w' ∧ Row w' e sz v' (n + m) (xs ++ news) ∧ w.grownBy w' (Value.ownBlock (.slice A n c)) ∧ (∀ b, v'.ownBlock = some b → Value.ownBlock (.slice A n c) = some b ∨ w.heap.size ≤ b) := by
    cases ad with
    | some ad =>
      obtain ⟨v', w', hrun, hown', hg, hbk⟩ := run_append_own2 (P := P) (w := w) t ty e info zv sz by' ht hi hz hsz hby hzs hp (.slice A n c) n xs hown ad m c' news hl (fun j u hj => by obtain ⟨a, ha, hc⟩ := hnews w hs j u hj; simp only [Option.some.injEq] at ha; subst ha; exact hc) h1 hnm hb
      exact ⟨v', w', hrun, hown', hg, hbk⟩
    | none =>
      have hn0 : news = [] := by
        cases news with
        | nil => rfl
        | cons u l => obtain ⟨a, ha, _⟩ := hnews w hs 0 u rfl; cases ha
      subst hn0
      have hm0 : m = 0 := by
        simp only [List.length_nil] at hl
        rcases Nat.mul_eq_zero.1 hl.symm with h | h
        · exact h
        · omega
      subst hm0
      have hnc : n ≤ c := by
        obtain ⟨_, ⟨h1, h0⟩ | ⟨g, cap, cur, h1, _, _, h2, _⟩⟩ := hown
        · simp only [Value.slice.injEq] at h1; omega
        · simp only [Value.slice.injEq] at h1; omega
      refine ⟨.slice A n c, w, ?_, by simpa using hown, ⟨rfl, rfl, rfl, Nat.le_refl _, fun _ _ _ => rfl⟩, fun b hb => .inl hb⟩
      cases A <;> simp [Builtin.append_, run_und ht, sizeOf, typeInfo, hi, Builtin.lenOf, Builtin.firstCells, hnc, storeCells]
  obtain ⟨v', w', hrun, hown', hg, hbk⟩ := key
  have hr' : (execOp a.eval ⟨d, .call ⟨.builtin .append, #[x, y], #[t, t]⟩, ty, pos, aft, gd⟩).run P w = .ok (.value v') w' := by
    simp [execOp, resolve, invoke, builtin, ha.ev hx, ha.ev hy, hrun]
  unfold Oper.wp
  rw [hr', Oper.upon_value]
  have hv' : ∃ A' cp, v' = .slice A' (n + m) cp := by
    obtain ⟨_, ⟨h1, h0⟩ | ⟨g, cap, cur, h1, _⟩⟩ := hown'
    · exact ⟨.none, 0, by rw [h1, h0]⟩
    · exact ⟨_, _, h1⟩
  obtain ⟨A', cp, rfl⟩ := hv'
  refine hk _ I _ w' ?_ ⟨A', cp, rfl, rfl, rfl⟩
  exact (hs.perm hr.perm).swap (fun b hb hne => hg.block b hb (fun e => hne e.symm)) hown' hbk hg.os hg.tape hg.output
end
end Go.Eng

/- The engine, part E: how data lie in memory that stays. No function of the program is proved here. -/
namespace Go.Eng

theorem add_add (a : Addr) (m k : Nat) : (a.add m).add k = a.add (m + k) := by
  unfold Addr.add
  by_cases h : m = 0
  · subst h; simp
  · by_cases h2 : k = 0
    · subst h2; simp
    · simp [h, h2, Nat.add_assoc]

theorem add_blk (b o k : Nat) : (⟨b, o, none⟩ : Addr).add k = ⟨b, o + k, none⟩ := by unfold Addr.add; split <;> simp_all

/-- How a thing lies in cells. -/
structure Enc (α : Type) where
  sz : Nat
  rep : Imm → α → List Value → Prop
  len : ∀ {I : Imm} {x : α} {cs : List Value}, rep I x cs → cs.length = sz
  mono : ∀ {I J : Imm} {x : α} {cs : List Value}, I.le J → rep I x cs → rep J x cs
  one : ∀ {I : Imm} {x : α} {cs : List Value}, rep I x cs → ∀ u ∈ cs, u.oneCell' = true

/-- Things, one behind the other, from an address on. -/
def Rd {α : Type} (E : Enc α) (I : Imm) (A : Option Addr) (xs : List α) : Prop :=
  ∀ i x, xs[i]? = some x → ∃ cs, E.rep I x cs ∧ ∀ j u, cs[j]? = some u → ∃ a, A = some a ∧ I.cell (a.add (i * E.sz + j)) = some u

theorem Rd.mono {α : Type} {E : Enc α} {I J : Imm} {A : Option Addr} {xs : List α} (h : Rd E I A xs) (hle : I.le J) : Rd E J A xs := by
  intro i x hx
  obtain ⟨cs, h1, h2⟩ := h i x hx
  exact ⟨cs, E.mono hle h1, fun j u hj => by obtain ⟨a, ha, hc⟩ := h2 j u hj; exact ⟨a, ha, hle.cell hc⟩⟩

theorem Rd.nil {α : Type} {E : Enc α} {I : Imm} {A : Option Addr} : Rd E I A ([] : List α) := fun i x hx => by simp at hx

def eInt (k : IntKind) : Enc Int where
  sz := 1
  rep _ n cs := cs = [.int k n] ∧ InR k n
  len h := by rw [h.1]; rfl
  mono _ h := h
  one h u hu := by rw [h.1] at hu; simp at hu; subst hu; rfl

def eByte : Enc UInt8 where
  sz := 1
  rep _ b cs := cs = [.int .u8 b.toNat]
  len h := by rw [h]; rfl
  mono _ h := h
  one h u hu := by rw [h] at hu; simp at hu; subst hu; rfl

def eU32 : Enc UInt32 where
  sz := 1
  rep _ b cs := cs = [.int .u32 b.toNat]
  len h := by rw [h]; rfl
  mono _ h := h
  one h u hu := by rw [h] at hu; simp at hu; subst hu; rfl

def eBool : Enc Bool where
  sz := 1
  rep _ b cs := cs = [.bool b]
  len h := by rw [h]; rfl
  mono _ h := h
  one h u hu := by rw [h] at hu; simp at hu; subst hu; rfl

def eStr : Enc ByteArray where
  sz := 1
  rep _ b cs := cs = [.string b]
  len h := by rw [h]; rfl
  mono _ h := h
  one h u hu := by rw [h] at hu; simp at hu; subst hu; rfl

/-- A slice: its things lie elsewhere. -/
def eSl {α : Type} (E : Enc α) : Enc (List α) where
  sz := 1
  rep I xs cs := ∃ A c, cs = [.slice A xs.length c] ∧ xs.length ≤ c ∧ Rd E I A xs
  len h := by obtain ⟨A, c, rfl, _⟩ := h; rfl
  mono hle h := by obtain ⟨A, c, h1, h2, h3⟩ := h; exact ⟨A, c, h1, h2, h3.mono hle⟩
  one h u hu := by obtain ⟨A, c, rfl, _⟩ := h; simp at hu; subst hu; rfl

/-- One thing, and another one behind it. -/
def ePair {α β : Type} (E : Enc α) (G : Enc β) : Enc (α × β) where
  sz := E.sz + G.sz
  rep I x cs := ∃ c1 c2, cs = c1 ++ c2 ∧ E.rep I x.1 c1 ∧ G.rep I x.2 c2
  len h := by obtain ⟨c1, c2, rfl, h1, h2⟩ := h; rw [List.length_append, E.len h1, G.len h2]
  mono hle h := by obtain ⟨c1, c2, h0, h1, h2⟩ := h; exact ⟨c1, c2, h0, E.mono hle h1, G.mono hle h2⟩
  one h u hu := by
    obtain ⟨c1, c2, rfl, h1, h2⟩ := h
    rcases List.mem_append.1 hu with hu | hu
    · exact E.one h1 u hu
    · exact G.one h2 u hu

/-- The same cells, told as another thing. -/
def eIso {α β : Type} (E : Enc α) (f : β → α) : Enc β where
  sz := E.sz
  rep I x cs := E.rep I (f x) cs
  len h := E.len h
  mono hle h := E.mono hle h
  one h := E.one h

section
variable {P : Program} {N : Nat} {all : Array Oper} {o : Oper} {rest : List Oper} {fr : Frm} {I : Imm} {L : List Ent}
variable {ty : TypeId} {pos : String} {aft : Array Edge} {gd : Option (Nat × Bool)} {d : Option Tmp} {x y z : Operand} {v vx vy : Value} {K : Frm → Imm → List Ent → Prop}

/-- The address of what there is. -/
theorem Rd.addr {α : Type} {E : Enc α} {A : Option Addr} {xs : List α} (h : Rd E I A xs) (hz : 0 < E.sz) (hn : 0 < xs.length) : ∃ a, A = some a := by
  obtain ⟨cs, h1, h2⟩ := h 0 xs[0] (by simp)
  have hl := E.len h1
  obtain ⟨a, ha, _⟩ := h2 0 cs[0] (by simp)
  exact ⟨a, ha⟩

theorem rdBytes {A : Option Addr} {bs : List UInt8} (h : Rd eByte I A bs) : ∀ w, HS I L w → ∀ (j : Nat) (b : UInt8), bs[j]? = some b → ∃ a, A = some a ∧ w.cell? (a.add j) = some (.int .u8 b.toNat) := by
  intro w hs j b hj
  obtain ⟨cs, h1, h2⟩ := h j b hj
  simp only [eByte] at h1
  subst h1
  obtain ⟨a, ha, hc⟩ := h2 0 _ rfl
  exact ⟨a, ha, hs.cell (by simpa [eByte] using hc)⟩

/-- The bytes of a row of our own. -/
theorem rowBytes {A : Option Addr} {n c : Nat} {e : TypeId} {bs : List UInt8} (hm : Ent.row (.slice A n c) e 1 n (bs.map fun b => .int .u8 b.toNat) ∈ L) :
    ∀ w, HS I L w → ∀ (j : Nat) (b : UInt8), bs[j]? = some b → ∃ a, A = some a ∧ w.cell? (a.add j) = some (.int .u8 b.toNat) := by
  intro w hs j b hj
  have h := hs.ents _ hm
  simp only [Ent.ok] at h
  have hj' : j < bs.length := (List.getElem?_eq_some_iff.1 hj).1
  have hl := h.1
  simp only [List.length_map, Nat.mul_one] at hl
  obtain ⟨g, hg⟩ := row_some h (by omega)
  subst hg
  exact ⟨_, rfl, h.cells (g := g) rfl j _ (by simp [hj])⟩

theorem byteAt {A : Option Addr} {bs : List UInt8} {a : Addr} (h : Rd eByte I A bs) (hA : A = some a) {i : Nat} {b : UInt8} (hi : bs[i]? = some b) : I.cell (a.add (i * 1)) = some (.int .u8 b.toNat) := by
  obtain ⟨cs, h1, h2⟩ := h i b hi
  simp only [eByte] at h1
  subst h1
  obtain ⟨a', ha, hc⟩ := h2 0 _ rfl
  rw [hA] at ha; simp only [Option.some.injEq] at ha; subst ha
  simpa [eByte] using hc

theorem u32At {A : Option Addr} {bs : List UInt32} {a : Addr} (h : Rd eU32 I A bs) (hA : A = some a) {i : Nat} {b : UInt32} (hi : bs[i]? = some b) : I.cell (a.add (i * 1)) = some (.int .u32 b.toNat) := by
  obtain ⟨cs, h1, h2⟩ := h i b hi
  simp only [eU32] at h1
  subst h1
  obtain ⟨a', ha, hc⟩ := h2 0 _ rfl
  rw [hA] at ha; simp only [Option.some.injEq] at ha; subst ha
  simpa [eU32] using hc

theorem intAt {k : IntKind} {A : Option Addr} {ns : List Int} {a : Addr} (h : Rd (eInt k) I A ns) (hA : A = some a) {i : Nat} {n : Int} (hi : ns[i]? = some n) : I.cell (a.add (i * 1)) = some (.int k n) ∧ InR k n := by
  obtain ⟨cs, h1, h2⟩ := h i n hi
  simp only [eInt] at h1
  obtain ⟨rfl, hr⟩ := h1
  obtain ⟨a', ha, hc⟩ := h2 0 _ rfl
  rw [hA] at ha; simp only [Option.some.injEq] at ha; subst ha
  exact ⟨by simpa [eInt] using hc, hr⟩

/-- Bytes as a string. -/
theorem R.bytesStr {s t e : TypeId} {A : Option Addr} {n c : Nat} {bs : List UInt8} (hx : evF fr x = some (.slice A n c)) (hs : P.underlying s = some (.slice e)) (he : P.underlying e = some (.int .u8)) (ht : P.underlying t = some .string)
    (hn : bs.length = n) (hb : ∀ w, HS I L w → ∀ (j : Nat) (b : UInt8), bs[j]? = some b → ∃ a, A = some a ∧ w.cell? (a.add j) = some (.int .u8 b.toNat)) : RunsTo P fr I L ⟨d, .convert s t x, ty, pos, aft, gd⟩ (.string ⟨bs.toArray⟩) := fun ρ w hρ hs' => by
  have hc : (convert s t (.slice A n c)).run P w = .ok (.string ⟨bs.toArray⟩) w := by
    subst hn
    cases A with
    | none =>
      have : bs = [] := by
        cases bs with
        | nil => rfl
        | cons b l => obtain ⟨a, ha, _⟩ := hb w hs' 0 b rfl; cases ha
      subst this
      unfold convert
      rw [Sem.run_bind, run_und hs, Result.andThen_ok, Sem.run_bind, run_und ht, Result.andThen_ok]
      simp [run_und he, Conv.bytesToString]
      rfl
    | some ad =>
      refine run_convert_bytes_back w s t e ad c bs hs he ht (fun j hj => ?_)
      obtain ⟨a, ha, hc⟩ := hb w hs' j bs[j] (by simp [hj])
      simp only [Option.some.injEq] at ha; subst ha
      exact hc
  simp only [execOp, hρ x _ hx]
  rw [Sem.run_bind, hc]; rfl

/-- A string as bytes: they stay. -/
theorem W.strBytes {s t e : TypeId} {td : TypeDesc} {q : ByteArray} (hx : evF fr x = some (.string q)) (hs : P.underlying s = some td) (ht : P.underlying t = some (.slice e)) (he : P.underlying e = some (.int .u8)) :
    Acts P N fr I L ⟨d, .convert s t x, ty, pos, aft, gd⟩ (fun v I' L' => ∃ A c, v = .slice A q.data.toList.length c ∧ I.le I' ∧ Rd eByte I' A q.data.toList ∧ q.data.toList.length ≤ c ∧ L = L') := by
  intro a w next Q ha hw hk
  have hr : (execOp a.eval ⟨d, .convert s t x, ty, pos, aft, gd⟩).run P w = .ok (.value (.slice (some ⟨w.heap.size, 0, none⟩) q.size (grownCap w q.size 0 e))) (Lib.bytesWorld w e q) := by
    simp only [execOp, ha.ev hx]
    rw [Sem.run_bind, Lib.run_convert_string_bytes w s t e q hs ht he]; rfl
  unfold Oper.wp
  rw [hr, Oper.upon_value]
  have hnone : I.mem w.heap.size = none := by
    cases hm : I.mem w.heap.size with
    | none => rfl
    | some o => have := hw.lt hm; omega
  have h1 : HS I (.obj w.heap.size (.cells (Lib.bytesCells w e q) e ((Lib.bytesCells w e q).size, (Lib.bytesCells w e q).size + 1)) :: L) (Lib.bytesWorld w e q) :=
    hw.add (fun b hb => Lib.bytesWorld_at_old w e q b hb) (Lib.bytesWorld_at_new w e q) (fun b hb => by simp only [Ent.own, Option.some.injEq] at hb; omega) rfl rfl rfl
  have h2 := h1.freeze (b := w.heap.size) rfl (Lib.bytesWorld_at_new w e q)
  have hlen : q.data.toList.length = q.size := by rw [Array.length_toList]; rfl
  refine hk _ _ L _ h2 ⟨some ⟨w.heap.size, 0, none⟩, grownCap w q.size 0 e, by rw [hlen], Imm.with_le _ hnone, ?_, by rw [hlen]; exact grownCap_ge _ _ _ _, rfl⟩
  intro i b hi
  refine ⟨[.int .u8 b.toNat], rfl, fun j u hj => ⟨_, rfl, ?_⟩⟩
  have hj0 : j = 0 := by
    have := (List.getElem?_eq_some_iff.1 hj).1
    simpa using this
  subst hj0
  simp only [List.getElem?_cons_zero, Option.some.injEq] at hj
  subst hj
  have hi' : i < q.size := by rw [← hlen]; exact (List.getElem?_eq_some_iff.1 hi).1
  rw [add_blk]
  have hc := Lib.bytesWorld_cell w e q i hi'
  have hg : q.data.toList.getD i 0 = b := by rw [List.getD_eq_getElem?_getD, hi]; rfl
  rw [hg] at hc
  have hcell : (I.with w.heap.size (.cells (Lib.bytesCells w e q) e ((Lib.bytesCells w e q).size, (Lib.bytesCells w e q).size + 1))).cell ⟨w.heap.size, i, none⟩ = (Lib.bytesWorld w e q).cell? ⟨w.heap.size, i, none⟩ := by
    simp only [Imm.cell, Imm.with, World.cell?, Lib.bytesWorld_at_new]
    simp
  simp only [eByte, Nat.mul_one, Nat.zero_add, Nat.add_zero]
  rw [hcell]; exact hc

/-- A row of our own stays as it is from now on. -/
theorem Opz.freeze {A : Option Addr} {n c sz : Nat} {e : TypeId} {xs : List Value} {L' : List Ent} {ops : List Oper} (hr : Rem L (.row (.slice A n c) e sz n xs) L')
    (k : ∀ I', I.le I' → (∀ j u, xs[j]? = some u → ∃ a, A = some a ∧ I'.cell (a.add j) = some u) → xs.length = n * sz → n ≤ c → Opz P N all ops fr I' L' K) : Opz P N all ops fr I L K := by
  intro a w Q0 ha hs hk
  have hs' := hs.perm hr.perm
  have h := hs'.ents _ List.mem_cons_self
  simp only [Ent.ok] at h
  obtain ⟨hl, ⟨h1, h0⟩ | ⟨g, cap, cur, h1, _, hg, hnc, hcm, hcs, htake⟩⟩ := h
  · simp only [Value.slice.injEq] at h1
    obtain ⟨rfl, rfl, rfl⟩ := h1
    have hx : xs = [] := by simpa using hl
    subst hx
    exact k I I.le_refl (fun j u hj => by simp at hj) (by simp) (Nat.le_refl _) a w Q0 ha (hs'.sublist (List.sublist_cons_self _ _)) hk
  · simp only [Value.slice.injEq] at h1
    obtain ⟨rfl, _, rfl⟩ := h1
    have hI := hs'.imm _ List.mem_cons_self g rfl
    refine k _ (Imm.with_le _ hI) (fun j u hj => ⟨_, rfl, ?_⟩) hl hnc a w Q0 ha (hs'.freeze (b := g) rfl hg) hk
    rw [add_blk, Nat.zero_add]
    simp only [Imm.cell, Imm.with, if_true]
    have hjx : j < xs.length := (List.getElem?_eq_some_iff.1 hj).1
    rw [← htake] at hj
    rw [List.getElem?_take_of_lt (by rw [← hl]; exact hjx)] at hj
    simpa using hj

theorem Rd.ofBytes {J : Imm} {A : Option Addr} {bs : List UInt8} (h : ∀ j u, (bs.map fun b => Value.int .u8 b.toNat)[j]? = some u → ∃ a, A = some a ∧ J.cell (a.add j) = some u) : Rd eByte J A bs := by
  intro i b hi
  refine ⟨[.int .u8 b.toNat], rfl, fun j u hj => ?_⟩
  have hj0 : j = 0 := by
    have := (List.getElem?_eq_some_iff.1 hj).1
    simpa using this
  subst hj0
  simp only [List.getElem?_cons_zero, Option.some.injEq] at hj
  subst hj
  obtain ⟨a, ha, hc⟩ := h i (.int .u8 b.toNat) (by simp [hi])
  exact ⟨a, ha, by simpa [eByte] using hc⟩
end
end Go.Eng

/- The engine, part F: a region that draws its order: operations that only tell are taken whenever they may be; those that turn memory are taken in each order that the region allows. No function of the program is proved here. -/
namespace Go.Eng
section
variable {P : Program} {N : Nat} {ops : Array Oper} {fr : Frm} {I : Imm} {L : List Ent} {K : Frm → Imm → List Ent → Prop}

def bnd (e : Edge) : Bool := Region.binds .any e

/-- Edges lead back; no slot is written twice. -/
def okRegion (ops : Array Oper) : Bool :=
  (List.range ops.size).all fun i => match ops[i]? with
    | none => false
    | some o => (o.after.toList.all fun e => !bnd e || Nat.blt e.on i) &&
      (match o.dst with
       | none => true
       | some d => (List.range ops.size).all fun j => Nat.beq j i || (match ops[j]? with | none => true | some u => match u.dst with | none => true | some d' => !Nat.beq d' d))

/-- A slot that an operation may read: nobody of the region writes it, or one ahead of it. -/
def slotOK (ops : Array Oper) (i : Nat) (t : Nat) : Bool :=
  (List.range ops.size).all fun j => match ops[j]? with
    | none => true
    | some u => match u.dst with
      | none => true
      | some d => !Nat.beq d t || (match ops[i]? with | none => false | some o => o.after.toList.any fun e => bnd e && Nat.beq e.on j)

def slotsOK (ops : Array Oper) (i : Nat) (frs : Frm) : Bool := frs.all fun p => slotOK ops i p.1

def memB (l : List Nat) (i : Nat) : Bool := l.any fun j => Nat.beq j i
theorem memB_iff {l : List Nat} {i : Nat} : memB l i = true ↔ i ∈ l := by
  simp [memB]

/-- Who may come next, of those that turn memory. -/
def stepOK (ops : Array Oper) (D S R : List Nat) : Bool :=
  (List.range ops.size).all fun i => memB D i || memB S i || memB R i || (match ops[i]? with | none => true | some o => o.after.toList.any fun e => bnd e && !memB D e.on && !memB S e.on)

def Ext (fr fr' : Frm) : Prop := ∀ t v, look fr t = some v → look fr' t = some v
theorem Ext.refl (fr : Frm) : Ext fr fr := fun _ _ h => h
theorem Ext.cons {d : Nat} (v : Value) (h : look fr d = none) : Ext fr ((d, v) :: fr) := fun t u hl => by
  rw [look_cons, if_neg (by rintro rfl; rw [h] at hl; cases hl)]; exact hl
theorem Sub.ext {frs fr fr' : Frm} (h : Sub frs fr) (he : Ext fr fr') : Sub frs fr' := by
  induction frs with
  | nil => trivial
  | cons p l ih => exact ⟨he _ _ h.1, ih h.2⟩
theorem Sub.key' {frs fr : Frm} {t : Nat} {v : Value} (h : Sub frs fr) (hl : Eng.look frs t = some v) : Eng.look fr t = some v := h.look t v hl
theorem key_mem : ∀ {frs : Frm} {t : Nat} {v : Value}, look frs t = some v → ∃ u, (t, u) ∈ frs := by
  intro frs
  induction frs with
  | nil => intro t v h; simp [look] at h
  | cons p l ih =>
    obtain ⟨k, u⟩ := p
    intro t v h
    rw [look_cons] at h
    by_cases e : k = t
    · subst e; exact ⟨u, List.mem_cons_self⟩
    · rw [if_neg e] at h; obtain ⟨u', hu⟩ := ih h; exact ⟨u', List.mem_cons_of_mem _ hu⟩

def PureOK (P : Program) (N : Nat) (ops : Array Oper) (fr : Frm) (I : Imm) (i : Nat) : Prop :=
  ∃ (o : Oper) (d : Nat) (v : Value) (frs : Frm), ops[i]? = some o ∧ o.dst = some d ∧ Nat.blt d N = true ∧ look fr d = some v ∧ Sub frs fr ∧ slotsOK ops i frs = true ∧
    ((wantF ops frs o = some true ∧ ∀ I' L', I.le I' → RunsTo P frs I' L' o v) ∨ (wantF ops frs o = some false ∧ v = undef))

theorem PureOK.mono {fr' : Frm} {I' : Imm} {i : Nat} (h : PureOK P N ops fr I i) (he : Ext fr fr') (hI : I.le I') : PureOK P N ops fr' I' i := by
  obtain ⟨o, d, v, frs, h1, h2, h3, h4, h5, h6, h7⟩ := h
  refine ⟨o, d, v, frs, h1, h2, h3, he _ _ h4, h5.ext he, h6, ?_⟩
  rcases h7 with ⟨h7, h8⟩ | h7
  · exact .inl ⟨h7, fun J L' hJ => h8 J L' (hI.trans hJ)⟩
  · exact .inr h7

structure StT (ops : Array Oper) (D S : List Nat) (T : Array Bool) : Prop where
  size : T.size = ops.size
  sub : ∀ i, T[i]? = some true → i ∈ D ∨ i ∈ S
  chain : ∀ c ∈ S, T[c]? = some true

def cnt (T : Array Bool) : Nat := (T.toList.filter (! ·)).length

def FrT (N : Nat) (ops : Array Oper) (T : Array Bool) (fr : Frm) (a : Act) : Prop :=
  a.defers = [] ∧ a.tmps.size = N ∧ ∀ t v, look fr t = some v → (∃ (i : Nat) (o : Oper), ops[i]? = some o ∧ o.dst = some t ∧ T[i]? = some false) ∨ a.tmps.getD t undef = v

/-- From here on the region ends well, in whatever order. -/
def Pot (P : Program) (N : Nat) (ops : Array Oper) (D S : List Nat) (fr : Frm) (I : Imm) (L : List Ent) (K : Frm → Imm → List Ent → Prop) : Prop :=
  (∀ i ∈ D, PureOK P N ops fr I i) → ∀ (Q0 : Exit → Act → World → Prop), (∀ fr' I' L' a' w', Fr N fr' a' → HS I' L' w' → K fr' I' L' → Q0 .normal a' w') →
    ∀ fuel T a w, cnt T ≤ fuel → StT ops D S T → FrT N ops T fr a → HS I L w → wpAny P .any ops Q0 fuel T a w

theorem cnt_set {T : Array Bool} {i : Nat} (h : T[i]? = some false) : cnt (T.setIfInBounds i true) + 1 = cnt T := by
  obtain ⟨hlt, he⟩ := Array.getElem?_eq_some_iff.1 h
  have key : ∀ (l : List Bool) (i : Nat), l[i]? = some false → ((l.set i true).filter (! ·)).length + 1 = (l.filter (! ·)).length := by
    intro l
    induction l with
    | nil => intro i h; simp at h
    | cons b l ih =>
      intro i h
      cases i with
      | zero => simp at h; subst h; simp
      | succ i =>
        rw [List.getElem?_cons_succ] at h
        have := ih i h
        rw [List.set_cons_succ]
        cases b <;> simp at * <;> omega
  unfold cnt
  rw [Array.toList_setIfInBounds]
  exact key _ _ (by simpa using h)

theorem cnt_zero {T : Array Bool} (h : cnt T = 0) : ∀ i, i < T.size → T[i]? = some true := by
  intro i hi
  unfold cnt at h
  rw [List.length_eq_zero_iff, List.filter_eq_nil_iff] at h
  have := h T[i] (by simp)
  rw [Array.getElem?_eq_getElem hi]
  cases hT : T[i] with
  | true => rfl
  | false => rw [hT] at this; simp at this

theorem ready_iff {T : Array Bool} {i : Nat} : i ∈ Region.ready .any ops T ↔ ∃ o : Oper, ops[i]? = some o ∧ T.getD i true = false ∧ ∀ e ∈ o.after, bnd e = true → T.getD e.on false = true := by
  unfold Region.ready
  rw [List.mem_filter, List.mem_range]
  constructor
  · rintro ⟨hlt, h⟩
    rw [Array.getElem?_eq_getElem hlt] at h
    simp only [Option.map_some, Option.getD_some, Bool.and_eq_true, Bool.not_eq_true', Array.all_eq_true_iff_forall_mem, Bool.or_eq_true] at h
    refine ⟨ops[i], Array.getElem?_eq_getElem hlt, h.1, fun e he hb => ?_⟩
    rcases h.2 e he with h2 | h2
    · rw [show bnd e = Region.binds .any e from rfl, h2] at hb; cases hb
    · exact h2
  · rintro ⟨o, ho, hT, hd⟩
    obtain ⟨hlt, rfl⟩ := Array.getElem?_eq_some_iff.1 ho
    refine ⟨hlt, ?_⟩
    rw [Array.getElem?_eq_getElem hlt]
    simp only [Option.map_some, Option.getD_some, Bool.and_eq_true, Bool.not_eq_true', Array.all_eq_true_iff_forall_mem, Bool.or_eq_true]
    refine ⟨hT, fun e he => ?_⟩
    cases hb : Region.binds .any e with
    | false => exact .inl rfl
    | true => exact .inr (hd e he hb)

theorem okRegion_edge (hok : okRegion ops = true) {i : Nat} {o : Oper} (ho : ops[i]? = some o) : ∀ e ∈ o.after, bnd e = true → e.on < i := by
  intro e he hb
  have hlt := (Array.getElem?_eq_some_iff.1 ho).1
  unfold okRegion at hok
  rw [List.all_eq_true] at hok
  have := hok i (List.mem_range.2 hlt)
  rw [ho] at this
  simp only [Bool.and_eq_true, List.all_eq_true] at this
  have h2 := this.1 e (by simpa using he)
  rw [hb] at h2
  simpa [Nat.blt_eq] using h2

theorem okRegion_dst (hok : okRegion ops = true) {i j : Nat} {o u : Oper} {d : Nat} (ho : ops[i]? = some o) (hu : ops[j]? = some u) (h1 : o.dst = some d) (h2 : u.dst = some d) : i = j := by
  have hlt := (Array.getElem?_eq_some_iff.1 ho).1
  have hlt2 := (Array.getElem?_eq_some_iff.1 hu).1
  unfold okRegion at hok
  rw [List.all_eq_true] at hok
  have := hok i (List.mem_range.2 hlt)
  rw [ho] at this
  simp only [Bool.and_eq_true] at this
  have h3 := this.2
  rw [h1] at h3
  simp only [List.all_eq_true] at h3
  have h4 := h3 j (List.mem_range.2 hlt2)
  rw [hu] at h4
  simp only [h2] at h4
  simp at h4
  exact h4.symm

theorem all_listed (hok : okRegion ops = true) {T : Array Bool} (hs : T.size = ops.size) (hr : Region.ready .any ops T = []) : ∀ i, i < ops.size → T[i]? = some true := by
  intro i
  induction i using Nat.strongRecOn with
  | _ i ih =>
    intro hi
    cases hT : T[i]? with
    | none => rw [Array.getElem?_eq_none_iff] at hT; omega
    | some b =>
      cases b with
      | true => rfl
      | false =>
        exfalso
        have : i ∈ Region.ready .any ops T := ready_iff.2 ⟨ops[i], Array.getElem?_eq_getElem hi, by rw [Array.getD_eq_getD_getElem?, hT]; rfl, fun e he hb => by
          have h1 := okRegion_edge hok (Array.getElem?_eq_getElem hi) e he hb
          rw [Array.getD_eq_getD_getElem?, ih e.on h1 (by omega)]; rfl⟩
        rw [hr] at this; cases this

theorem FrT.toFr {T : Array Bool} {a : Act} {i : Nat} {frs : Frm} {o : Oper} (h : FrT N ops T fr a) (hok : okRegion ops = true) (hs : Sub frs fr) (hsl : slotsOK ops i frs = true)
    (ho : ops[i]? = some o) (hd : ∀ e ∈ o.after, bnd e = true → T.getD e.on false = true) : Fr N frs a := by
  refine ⟨h.1, h.2.1, fun t v hl => ?_⟩
  rcases h.2.2 t v (hs.key' hl) with ⟨j, u, hu, hdst, hT⟩ | h1
  · exfalso
    obtain ⟨x, hx⟩ := key_mem hl
    unfold slotsOK at hsl
    rw [List.all_eq_true] at hsl
    have h2 := hsl _ hx
    unfold slotOK at h2
    rw [List.all_eq_true] at h2
    have hlt := (Array.getElem?_eq_some_iff.1 hu).1
    have h3 := h2 j (List.mem_range.2 hlt)
    rw [hu] at h3
    simp only [hdst, ho] at h3
    simp only [Nat.beq_eq_true_eq, Bool.or_eq_true, Bool.not_eq_true', List.any_eq_true, Bool.and_eq_true] at h3
    rcases h3 with h3 | ⟨e, he, hb, hj⟩
    · simp at h3
    · have h4 := hd e (by simpa using he) hb
      have h5 : e.on = j := by simpa using hj
      rw [h5, Array.getD_eq_getD_getElem?, hT] at h4
      cases h4
  · exact h1

theorem FrT.put {T : Array Bool} {a : Act} {i d : Nat} {v : Value} {o : Oper} (h : FrT N ops T fr a) (hok : okRegion ops = true) (ho : ops[i]? = some o) (hd : o.dst = some d) (hN : Nat.blt d N = true) (hT : i < T.size) (hl : look fr d = some v) :
    FrT N ops (T.setIfInBounds i true) fr (a.put (some d) v) := by
  have hlt : d < N := by simpa [Nat.blt_eq] using hN
  refine ⟨h.1, by simp [Act.put, h.2.1], fun t u hlu => ?_⟩
  by_cases e : d = t
  · subst e
    right
    rw [hl] at hlu
    simp only [Option.some.injEq] at hlu
    subst hlu
    simp only [Act.put]
    rw [Array.getD_eq_getD_getElem?, Array.getElem?_setIfInBounds_self_of_lt (by rw [h.2.1]; exact hlt)]; rfl
  · rcases h.2.2 t u hlu with ⟨j, x, hx, hdst, hTj⟩ | h1
    · left
      refine ⟨j, x, hx, hdst, ?_⟩
      have : i ≠ j := by
        rintro rfl
        rw [ho] at hx; simp only [Option.some.injEq] at hx; subst hx
        rw [hd] at hdst; simp only [Option.some.injEq] at hdst; exact e hdst
      rw [Array.getElem?_setIfInBounds_ne this]; exact hTj
    · right
      simp only [Act.put]
      rw [Array.getD_eq_getD_getElem?, Array.getElem?_setIfInBounds_ne e, ← Array.getD_eq_getD_getElem?]; exact h1

def AllR : List Nat → (Nat → Prop) → Prop
  | [], _ => True
  | c :: cs, p => p c ∧ AllR cs p
theorem AllR.get {l : List Nat} {p : Nat → Prop} (h : AllR l p) : ∀ c ∈ l, p c := by
  induction l with
  | nil => intro c hc; cases hc
  | cons x l ih =>
    intro c hc
    rcases List.mem_cons.1 hc with rfl | hc
    · exact h.1
    · exact ih h.2 c hc

def dstF (o : Oper) (v : Value) (fr : Frm) : Frm :=
  match o.dst with
  | some d => (d, v) :: fr
  | none => fr

/-- One that turns memory is taken next. -/
def ChainOK (P : Program) (N : Nat) (ops : Array Oper) (D S : List Nat) (fr : Frm) (I : Imm) (L : List Ent) (K : Frm → Imm → List Ent → Prop) (c : Nat) : Prop :=
  ∃ (o : Oper) (frs : Frm), ops[c]? = some o ∧ Sub frs fr ∧ slotsOK ops c frs = true ∧ (∀ d, o.dst = some d → Nat.blt d N = true ∧ look fr d = none) ∧
    ((wantF ops frs o = some true ∧ ∃ R, Acts P N frs I L o R ∧ ∀ v I' L', R v I' L' → I.le I' ∧ Pot P N ops D (c :: S) (dstF o v fr) I' L' K) ∨
     (wantF ops frs o = some false ∧ Pot P N ops D (c :: S) (dstF o undef fr) I L K))

theorem StT.add {D S : List Nat} {T : Array Bool} {i : Nat} (h : StT ops D S T) (hi : i ∈ D) : StT ops D S (T.setIfInBounds i true) := by
  refine ⟨by rw [Array.size_setIfInBounds, h.size], fun j hj => ?_, fun c hc => ?_⟩
  · by_cases e : i = j
    · subst e; exact .inl hi
    · rw [Array.getElem?_setIfInBounds_ne e] at hj; exact h.sub j hj
  · by_cases e : i = c
    · subst e
      have h1 := h.chain i hc
      exact Array.getElem?_setIfInBounds_self_of_lt (Array.getElem?_eq_some_iff.1 h1).1
    · rw [Array.getElem?_setIfInBounds_ne e]; exact h.chain c hc

theorem StT.addS {D S : List Nat} {T : Array Bool} {i : Nat} (h : StT ops D S T) (hi : i < T.size) : StT ops D (i :: S) (T.setIfInBounds i true) := by
  refine ⟨by rw [Array.size_setIfInBounds, h.size], fun j hj => ?_, fun c hc => ?_⟩
  · by_cases e : i = j
    · subst e; exact .inr List.mem_cons_self
    · rw [Array.getElem?_setIfInBounds_ne e] at hj
      exact (h.sub j hj).imp id (List.mem_cons_of_mem _)
  · by_cases e : i = c
    · subst e; exact Array.getElem?_setIfInBounds_self_of_lt hi
    · rw [Array.getElem?_setIfInBounds_ne e]
      rcases List.mem_cons.1 hc with rfl | hc
      · exact absurd rfl e
      · exact h.chain c hc

theorem pot_core {D S : List Nat} (R : List Nat) (hok : okRegion ops = true) (hs : stepOK ops D S R = true) (hD : ∀ i ∈ D, PureOK P N ops fr I i) {Q0 : Exit → Act → World → Prop}
    (hfin : ∀ T a w, (∀ i, i < ops.size → T[i]? = some true) → StT ops D S T → FrT N ops T fr a → HS I L w → Q0 .normal a w)
    (hch : ∀ c ∈ R, ∀ fuel T a w, cnt T ≤ fuel + 1 → StT ops D S T → FrT N ops T fr a → HS I L w → T[c]? = some false → (∀ o, ops[c]? = some o → ∀ e ∈ o.after, bnd e = true → T.getD e.on false = true) →
      wpOp P ops Q0 c (wpAny P .any ops Q0 fuel (T.setIfInBounds c true)) a w) :
    ∀ fuel T a w, cnt T ≤ fuel → StT ops D S T → FrT N ops T fr a → HS I L w → wpAny P .any ops Q0 fuel T a w := by
  have blocked : ∀ {T : Array Bool} {i : Nat}, StT ops D S T → i ∈ Region.ready .any ops T → i ∈ D ∨ i ∈ R := by
    intro T i hT hr
    obtain ⟨o, ho, hTi, hd⟩ := ready_iff.1 hr
    have hlt := (Array.getElem?_eq_some_iff.1 ho).1
    unfold stepOK at hs
    rw [List.all_eq_true] at hs
    have h1 := hs i (List.mem_range.2 hlt)
    rw [ho] at h1
    simp only [Bool.or_eq_true, List.any_eq_true, Bool.and_eq_true, Bool.not_eq_true'] at h1
    rcases h1 with ((h1 | h1) | h1) | ⟨e, he, ⟨hb, h2⟩, h3⟩
    · exact .inl (memB_iff.1 h1)
    · have := hT.chain i (memB_iff.1 h1)
      rw [Array.getD_eq_getD_getElem?, this] at hTi; cases hTi
    · exact .inr (memB_iff.1 h1)
    · exfalso
      have h4 := hd e (by simpa using he) hb
      rw [Array.getD_eq_getD_getElem?] at h4
      cases hx : T[e.on]? with
      | none => rw [hx] at h4; cases h4
      | some b =>
        rw [hx] at h4
        simp only [Option.getD_some] at h4
        subst h4
        rcases hT.sub e.on hx with h5 | h5
        · rw [memB_iff.2 h5] at h2; cases h2
        · rw [memB_iff.2 h5] at h3; cases h3
  have unl : ∀ {T : Array Bool} {i : Nat} {o : Oper}, StT ops D S T → ops[i]? = some o → T.getD i true = false → T[i]? = some false := by
    intro T i o hT ho h
    have hlt := (Array.getElem?_eq_some_iff.1 ho).1
    rw [Array.getD_eq_getD_getElem?] at h
    cases hx : T[i]? with
    | none => rw [Array.getElem?_eq_none_iff, hT.size] at hx; omega
    | some b => rw [hx] at h; simp only [Option.getD_some] at h; rw [h]
  intro fuel
  induction fuel with
  | zero =>
    intro T a w hcnt hT hF hw
    have hall := cnt_zero (Nat.le_zero.1 hcnt)
    refine ⟨?_, hfin T a w (fun i hi => hall i (by rw [hT.size]; exact hi)) hT hF hw⟩
    cases hr : Region.ready .any ops T with
    | nil => rfl
    | cons i l =>
      exfalso
      have hi : i ∈ Region.ready .any ops T := by rw [hr]; exact List.mem_cons_self
      obtain ⟨o, ho, hTi, _⟩ := ready_iff.1 hi
      have h1 := unl hT ho hTi
      rw [hall i (Array.getElem?_eq_some_iff.1 h1).1] at h1; cases h1
  | succ fuel ih =>
    intro T a w hcnt hT hF hw
    refine ⟨fun hr => hfin T a w (all_listed hok hT.size hr) hT hF hw, fun i hi => ?_⟩
    obtain ⟨o, ho, hTi, hd⟩ := ready_iff.1 hi
    have hTf := unl hT ho hTi
    rcases blocked hT hi with hiD | hiR
    · obtain ⟨o', d, v, frs, h1, h2, h3, h4, h5, h6, h7⟩ := hD i hiD
      rw [ho] at h1; simp only [Option.some.injEq] at h1; subst h1
      have hfr : Fr N frs a := hF.toFr hok h5 h6 ho hd
      have hnext : ∀ u, u = v → wpAny P .any ops Q0 fuel (T.setIfInBounds i true) (a.put o.dst u) w := by
        rintro u rfl
        rw [h2]
        exact ih _ _ w (by have := cnt_set hTf; omega) (hT.add hiD) (hF.put hok ho h2 h3 (Array.getElem?_eq_some_iff.1 hTf).1 h4) hw
      simp only [wpOp, ho]
      rcases h7 with ⟨h7, h8⟩ | ⟨h7, rfl⟩
      · rw [if_pos (wantF_spec hfr h7)]
        left
        unfold Oper.wp
        rw [h8 I L I.le_refl a.eval w hfr.agree hw, Oper.upon_value]
        exact hnext v rfl
      · rw [if_neg (by rw [wantF_spec hfr h7]; simp)]
        exact hnext undef rfl
    · exact hch i hiR fuel T a w hcnt hT hF hw hTf (fun o' ho' => by rw [ho] at ho'; simp only [Option.some.injEq] at ho'; subst ho'; exact hd)

theorem Pot.step {D S : List Nat} (R : List Nat) (hok : okRegion ops = true) (hs : stepOK ops D S R = true) (hne : ((List.range ops.size).any fun i => !memB D i && !memB S i) = true)
    (hc : AllR R (ChainOK P N ops D S fr I L K)) : Pot P N ops D S fr I L K := by
  intro hD Q0 hk
  refine pot_core R hok hs hD (fun T a w hall hT _ _ => ?_) (fun c hcR fuel T a w hcnt hT hF hw hTf hd => ?_)
  · exfalso
    rw [List.any_eq_true] at hne
    obtain ⟨i, hi, h1⟩ := hne
    simp only [Bool.and_eq_true, Bool.not_eq_true'] at h1
    rcases hT.sub i (hall i (List.mem_range.1 hi)) with h2 | h2
    · rw [memB_iff.2 h2] at h1; cases h1.1
    · rw [memB_iff.2 h2] at h1; cases h1.2
  · obtain ⟨o, frs, h1, h2, h3, h4, h5⟩ := hc.get c hcR
    have hfr : Fr N frs a := hF.toFr hok h2 h3 h1 (hd o h1)
    have hlt := (Array.getElem?_eq_some_iff.1 hTf).1
    have hT' : StT ops D (c :: S) (T.setIfInBounds c true) := hT.addS hlt
    have hcn : cnt (T.setIfInBounds c true) ≤ fuel := by have := cnt_set hTf; omega
    have hext : ∀ v, Ext fr (dstF o v fr) := by
      intro v
      unfold dstF
      cases hdd : o.dst with
      | none => exact Ext.refl _
      | some d => exact Ext.cons v (h4 d hdd).2
    have hF' : ∀ v, FrT N ops (T.setIfInBounds c true) (dstF o v fr) (a.put o.dst v) := by
      intro v
      unfold dstF
      cases hdd : o.dst with
      | none =>
        refine ⟨hF.1, hF.2.1, fun t u hl => ?_⟩
        rcases hF.2.2 t u hl with ⟨j, x, hx, hdst, hTj⟩ | h6
        · left
          refine ⟨j, x, hx, hdst, ?_⟩
          have : c ≠ j := by
            rintro rfl
            rw [h1] at hx; simp only [Option.some.injEq] at hx; subst hx
            rw [hdd] at hdst; cases hdst
          rw [Array.getElem?_setIfInBounds_ne this]; exact hTj
        · exact .inr h6
      | some d =>
        have hF2 : FrT N ops T ((d, v) :: fr) a := by
          refine ⟨hF.1, hF.2.1, fun t u hl => ?_⟩
          rw [look_cons] at hl
          by_cases e : d = t
          · subst e; exact .inl ⟨c, o, h1, hdd, hTf⟩
          · rw [if_neg e] at hl; exact hF.2.2 t u hl
        exact hF2.put hok h1 hdd (h4 d hdd).1 hlt (by rw [look_cons, if_pos rfl])
    simp only [wpOp, h1]
    rcases h5 with ⟨h5, R', hact, hnext⟩ | ⟨h5, hnext⟩
    · rw [if_pos (wantF_spec hfr h5)]
      left
      refine hact a w _ _ hfr hw (fun v I' L' w' hw' hR => ?_)
      obtain ⟨hle, hp⟩ := hnext v I' L' hR
      exact hp (fun i hi => (hD i hi).mono (hext v) hle) Q0 hk fuel _ _ w' hcn hT' (hF' v) hw'
    · rw [if_neg (by rw [wantF_spec hfr h5]; simp)]
      exact hnext (fun i hi => (hD i hi).mono (hext undef) I.le_refl) Q0 hk fuel _ _ w hcn hT' (hF' undef) hw

theorem Pot.done {D S : List Nat} (hok : okRegion ops = true) (hs : ((List.range ops.size).all fun i => memB D i || memB S i) = true) (h : K fr I L) : Pot P N ops D S fr I L K := by
  intro hD Q0 hk
  refine pot_core [] hok ?_ hD (fun T a w hall hT hF hw => ?_) (fun c hcR => by cases hcR)
  · unfold stepOK
    rw [List.all_eq_true] at hs ⊢
    intro i hi
    have := hs i hi
    simp only [Bool.or_eq_true] at this ⊢
    rcases this with h1 | h1
    · exact .inl (.inl (.inl h1))
    · exact .inl (.inl (.inr h1))
  · refine hk fr I L a w ⟨hF.1, hF.2.1, fun t v hl => ?_⟩ hw h
    rcases hF.2.2 t v hl with ⟨j, x, hx, _, hTj⟩ | h6
    · rw [hall j (Array.getElem?_eq_some_iff.1 hx).1] at hTj; cases hTj
    · exact h6

/-- One that only tells a value: it may be taken whenever the region likes. -/
theorem Pot.pure {D S : List Nat} (i : Nat) {o : Oper} {d : Nat} {v : Value} {ts : List Nat} {frs : Frm} (ho : ops[i]? = some o) (hd : o.dst = some d) (hN : Nat.blt d N = true) (hp : Pick fr ts frs) (hl : look fr d = none) (hsl : slotsOK ops i frs = true) (hw : wantF ops frs o = some true)
    (hr : ∀ I' L', I.le I' → RunsTo P frs I' L' o v) (hnd : memB S i = false) (k : Pot P N ops (i :: D) S ((d, v) :: fr) I L K) : Pot P N ops D S fr I L K := by
  intro hD Q0 hk fuel T a w hcnt hT hF hw'
  have _ := hnd
  refine k (fun j hj => ?_) Q0 hk fuel T a w hcnt ⟨hT.size, fun j hj => (hT.sub j hj).imp (List.mem_cons_of_mem _) id, hT.chain⟩ ⟨hF.1, hF.2.1, fun t u hlu => ?_⟩ hw'
  · rcases List.mem_cons.1 hj with rfl | hj
    · exact ⟨o, d, v, frs, ho, hd, hN, by rw [look_cons, if_pos rfl], hp.sub.ext (Ext.cons v hl), hsl, .inl ⟨hw, hr⟩⟩
    · exact (hD j hj).mono (Ext.cons v hl) I.le_refl
  · rw [look_cons] at hlu
    by_cases e : d = t
    · subst e
      -- it has not been taken yet, or it would be known already
      cases hx : T[i]? with
      | none =>
        have := (Array.getElem?_eq_some_iff.1 ho).1
        rw [Array.getElem?_eq_none_iff, hT.size] at hx; omega
      | some b =>
        cases b with
        | false => exact .inl ⟨i, o, ho, hd, hx⟩
        | true =>
          exfalso
          rcases hT.sub i hx with h1 | h1
          · obtain ⟨o', d', v', frs', e1, e2, _, e4, _⟩ := hD i h1
            rw [ho] at e1; simp only [Option.some.injEq] at e1; subst e1
            rw [hd] at e2; simp only [Option.some.injEq] at e2; subst e2
            rw [hl] at e4; cases e4
          · rw [memB_iff.2 h1] at hnd; cases hnd
    · rw [if_neg e] at hlu; exact hF.2.2 t u hlu

theorem Pot.skip {D S : List Nat} (i : Nat) {o : Oper} {d : Nat} {ts : List Nat} {frs : Frm} (ho : ops[i]? = some o) (hd : o.dst = some d) (hN : Nat.blt d N = true) (hp : Pick fr ts frs) (hl : look fr d = none) (hsl : slotsOK ops i frs = true) (hw : wantF ops frs o = some false)
    (hnd : memB S i = false) (k : Pot P N ops (i :: D) S ((d, undef) :: fr) I L K) : Pot P N ops D S fr I L K := by
  intro hD Q0 hk fuel T a w hcnt hT hF hw'
  refine k (fun j hj => ?_) Q0 hk fuel T a w hcnt ⟨hT.size, fun j hj => (hT.sub j hj).imp (List.mem_cons_of_mem _) id, hT.chain⟩ ⟨hF.1, hF.2.1, fun t u hlu => ?_⟩ hw'
  · rcases List.mem_cons.1 hj with rfl | hj
    · exact ⟨o, d, undef, frs, ho, hd, hN, by rw [look_cons, if_pos rfl], hp.sub.ext (Ext.cons undef hl), hsl, .inr ⟨hw, rfl⟩⟩
    · exact (hD j hj).mono (Ext.cons undef hl) I.le_refl
  · rw [look_cons] at hlu
    by_cases e : d = t
    · subst e
      cases hx : T[i]? with
      | none =>
        have := (Array.getElem?_eq_some_iff.1 ho).1
        rw [Array.getElem?_eq_none_iff, hT.size] at hx; omega
      | some b =>
        cases b with
        | false => exact .inl ⟨i, o, ho, hd, hx⟩
        | true =>
          exfalso
          rcases hT.sub i hx with h1 | h1
          · obtain ⟨o', d', v', frs', e1, e2, _, e4, _⟩ := hD i h1
            rw [ho] at e1; simp only [Option.some.injEq] at e1; subst e1
            rw [hd] at e2; simp only [Option.some.injEq] at e2; subst e2
            rw [hl] at e4; cases e4
          · rw [memB_iff.2 h1] at hnd; cases hnd
    · rw [if_neg e] at hlu; exact hF.2.2 t u hlu

/-- A guard that is not known is either. -/
theorem Pot.guard {D S : List Nat} (s : Nat) {t : Bool} (hs : look fr s = some (.bool t)) (ht : t = true → Pot P N ops D S fr I L K) (hf : t = false → Pot P N ops D S fr I L K) : Pot P N ops D S fr I L K := by
  have _ := hs
  cases h : t with
  | true => exact ht h
  | false => exact hf h

theorem ChainOK.op {D S : List Nat} {c : Nat} {o : Oper} {ts : List Nat} {frs : Frm} {d : Nat} {R : Value → Imm → List Ent → Prop} (ho : ops[c]? = some o) (hd : o.dst = some d) (hN : Nat.blt d N = true) (hp : Pick fr ts frs) (hl : look fr d = none) (hsl : slotsOK ops c frs = true) (hw : wantF ops frs o = some true)
    (ha : Acts P N frs I L o R) (k : ∀ v I' L', R v I' L' → I.le I' ∧ Pot P N ops D (c :: S) ((d, v) :: fr) I' L' K) : ChainOK P N ops D S fr I L K c :=
  ⟨o, frs, ho, hp.sub, hsl, fun d' hd' => by rw [hd] at hd'; simp only [Option.some.injEq] at hd'; subst hd'; exact ⟨hN, hl⟩, .inl ⟨hw, R, ha, fun v I' L' hR => by
    have := k v I' L' hR
    unfold dstF; rw [hd]; exact this⟩⟩

theorem ChainOK.opU {D S : List Nat} {c : Nat} {o : Oper} {ts : List Nat} {frs : Frm} {R : Value → Imm → List Ent → Prop} (ho : ops[c]? = some o) (hd : o.dst = none) (hp : Pick fr ts frs) (hsl : slotsOK ops c frs = true) (hw : wantF ops frs o = some true)
    (ha : Acts P N frs I L o R) (k : ∀ v I' L', R v I' L' → I.le I' ∧ Pot P N ops D (c :: S) fr I' L' K) : ChainOK P N ops D S fr I L K c :=
  ⟨o, frs, ho, hp.sub, hsl, fun d' hd' => by (rw [hd] at hd'; cases hd'), .inl ⟨hw, R, ha, fun v I' L' hR => by
    have := k v I' L' hR
    unfold dstF; rw [hd]; exact this⟩⟩

theorem ChainOK.skip {D S : List Nat} {c : Nat} {o : Oper} {ts : List Nat} {frs : Frm} {d : Nat} (ho : ops[c]? = some o) (hd : o.dst = some d) (hN : Nat.blt d N = true) (hp : Pick fr ts frs) (hl : look fr d = none) (hsl : slotsOK ops c frs = true) (hw : wantF ops frs o = some false)
    (k : Pot P N ops D (c :: S) ((d, undef) :: fr) I L K) : ChainOK P N ops D S fr I L K c :=
  ⟨o, frs, ho, hp.sub, hsl, fun d' hd' => by rw [hd] at hd'; simp only [Option.some.injEq] at hd'; subst hd'; exact ⟨hN, hl⟩, .inr ⟨hw, by
    unfold dstF; rw [hd]; exact k⟩⟩

theorem Cd.draw {id : Nat} {l : List Oper} {Q : Post} (hm : P.follows .mixedOrders = true) (h : Pot P N l.toArray [] [] fr I L (fun fr I L => Q .normal fr I L)) : Cd P N (.region id l.toArray true) fr I L Q := by
  intro a w ha hw
  refine wp_region_any hm ?_
  refine h (fun i hi => by cases hi) _ (fun fr' I' L' a' w' ha' hw' hq => ⟨fr', I', L', ha', hw', hq⟩) _ _ a _ ?_ ⟨by simp, fun i hi => ?_, fun c hc => by cases hc⟩ ⟨ha.defers, ha.size, fun t v hl => .inr (ha.vals t v hl)⟩ hw.drew
  · unfold cnt
    refine Nat.le_trans (List.length_filter_le _ _) ?_
    simp
  · exfalso
    have := (Array.getElem?_eq_some_iff.1 hi).1
    simp at this
    rw [Array.getElem?_replicate] at hi
    simp [this] at hi
end
end Go.Eng

/- The engine, part G: cells that can be read, of our own or of what stays; rows and blocks turned into each other. No function of the program is proved here. -/
namespace Go.Eng
section
variable {P : Program} {N : Nat} {all : Array Oper} {o : Oper} {rest : List Oper} {fr : Frm} {I : Imm} {L : List Ent}
variable {ty : TypeId} {pos : String} {aft : Array Edge} {gd : Option (Nat × Bool)} {d : Option Tmp} {x y z : Operand} {v vx vy : Value} {K : Frm → Imm → List Ent → Prop}

/-- Cells that can be read from an address on. -/
def RdC (I : Imm) (L : List Ent) (A : Option Addr) (cs : List Value) : Prop :=
  ∀ w, HS I L w → ∀ j u, cs[j]? = some u → ∃ a, A = some a ∧ w.cell? (a.add j) = some u

theorem RdC.row {A : Option Addr} {n c sz : Nat} {e : TypeId} {cs : List Value} : RdC I [.row (.slice A n c) e sz n cs] A cs := newsRow List.mem_cons_self
theorem RdC.mem {A : Option Addr} {n c sz : Nat} {e : TypeId} {cs : List Value} (hm : Ent.row (.slice A n c) e sz n cs ∈ L) : RdC I L A cs := newsRow hm
theorem RdC.blk {b : Nat} {t : TypeId} {cs : List Value} {k : Nat} (hm : Ent.blk b t cs ∈ L) : RdC I L (some ⟨b, 0, none⟩) (cs.take k) := by
  intro w hs j u hj
  refine ⟨_, rfl, ?_⟩
  rw [add_blk, Nat.zero_add]
  refine cellL hm ?_ w hs
  rw [List.getElem?_take] at hj
  split at hj
  · exact hj
  · cases hj

theorem RdC.imm {A : Option Addr} {cs : List Value} (h : ∀ (j : Nat) (u : Value), cs[j]? = some u → ∃ a, A = some a ∧ I.cell (a.add j) = some u) : RdC I L A cs :=
  fun _ hs j u hj => by obtain ⟨a, ha, hc⟩ := h j u hj; exact ⟨a, ha, hs.cell hc⟩

def bytesV (bs : List UInt8) : List Value := bs.map fun b => .int .u8 b.toNat
theorem bytesV_app (a b : List UInt8) : bytesV (a ++ b) = bytesV a ++ bytesV b := by simp [bytesV]
theorem bytesV_len (a : List UInt8) : (bytesV a).length = a.length := by simp [bytesV]
theorem bytesV_get (a : List UInt8) (i : Nat) : (bytesV a)[i]? = (a[i]?).map fun b => .int .u8 b.toNat := by simp [bytesV]
theorem bytesV_one (a : List UInt8) : ∀ u ∈ bytesV a, u.oneCell' = true := by
  intro u hu
  obtain ⟨b, _, rfl⟩ := List.mem_map.1 hu
  rfl

theorem Rd.cells {A : Option Addr} {bs : List UInt8} (h : Rd eByte I A bs) : RdC I L A (bytesV bs) := by
  intro w hs j u hj
  rw [bytesV_get] at hj
  cases hb : bs[j]? with
  | none => rw [hb] at hj; cases hj
  | some b => rw [hb] at hj; simp only [Option.map_some, Option.some.injEq] at hj; subst hj; exact rdBytes h w hs j b hb

theorem RdC.bytes {A : Option Addr} {bs : List UInt8} (h : RdC I L A (bytesV bs)) : ∀ w, HS I L w → ∀ (j : Nat) (b : UInt8), bs[j]? = some b → ∃ a, A = some a ∧ w.cell? (a.add j) = some (.int .u8 b.toNat) :=
  fun w hs j b hj => h w hs j _ (by rw [bytesV_get, hj]; rfl)

theorem RdC.app {A : Option Addr} {cs : List Value} (h : RdC I L A cs) (F : List Ent) : RdC I (L ++ F) A cs := fun w hs => h w (hs.sublist (List.sublist_append_left _ _))
theorem RdC.cons {A : Option Addr} {cs : List Value} (h : RdC I L A cs) (e : Ent) : RdC I (e :: L) A cs := fun w hs => h w (hs.sublist (List.sublist_cons_self _ _))
theorem RdC.some {A : Option Addr} {cs : List Value} (h : RdC I L A cs) (hn : 0 < cs.length) {w : World} (hs : HS I L w) : ∃ a, A = some a := by
  obtain ⟨a, ha, _⟩ := h w hs 0 cs[0] (by simp)
  exact ⟨a, ha⟩

theorem RdC.at {A : Option Addr} {cs : List Value} {a : Addr} {j : Nat} {u : Value} (h : RdC I L A cs) (hA : A = Option.some a) (hj : cs[j]? = Option.some u) : ∀ w, HS I L w → w.cell? (a.add (j * 1)) = Option.some u := by
  intro w hs
  obtain ⟨a', ha, hc⟩ := h w hs j u hj
  rw [hA] at ha; simp only [Option.some.injEq] at ha; subst ha
  rw [Nat.mul_one]; exact hc

theorem RdC.take {A : Option Addr} {cs : List Value} (h : RdC I L A cs) (n : Nat) : RdC I L A (cs.take n) := by
  intro w hs j u hj
  rw [List.getElem?_take] at hj
  split at hj
  · exact h w hs j u hj
  · cases hj

theorem RdC.drop {A : Option Addr} {cs : List Value} {c : Nat} (h : RdC I L A cs) (n sz : Nat) (hc : cs.length ≤ c * sz) : RdC I L (if c = n then A else A.map (·.add (n * sz))) (cs.drop (n * sz)) := by
  intro w hs j u hj
  rw [List.getElem?_drop] at hj
  have hlt := (List.getElem?_eq_some_iff.1 hj).1
  obtain ⟨a, rfl, hcell⟩ := h w hs _ u hj
  rw [if_neg (by rintro rfl; omega)]
  exact ⟨a.add (n * sz), rfl, by rw [add_add]; exact hcell⟩

theorem bytesV_take (a : List UInt8) (n : Nat) : (bytesV a).take n = bytesV (a.take n) := by simp [bytesV]
theorem bytesV_drop (a : List UInt8) (n : Nat) : (bytesV a).drop n = bytesV (a.drop n) := by simp [bytesV]

theorem Opz.rdSome {A : Option Addr} {cs : List Value} {ops : List Oper} (h : RdC I L A cs) (hn : 0 < cs.length) (k : ∀ a, A = some a → Opz P N all ops fr I L K) : Opz P N all ops fr I L K := by
  intro a w Q0 ha hs hk
  obtain ⟨ad, hA⟩ := h.some hn hs
  exact k ad hA a w Q0 ha hs hk

theorem Cd.rdSome {A : Option Addr} {cs : List Value} {c : Code} {Q : Post} (h : RdC I L A cs) (hn : 0 < cs.length) (k : ∀ a, A = some a → Cd P N c fr I L Q) : Cd P N c fr I L Q := by
  intro a w ha hs
  obtain ⟨ad, hA⟩ := h.some hn hs
  exact k ad hA a w ha hs

theorem Cd.rdNone {A : Option Addr} {cs : List Value} {c : Code} {Q : Post} (h : RdC I L A cs) (hA : A = none) (k : cs = [] → Cd P N c fr I L Q) : Cd P N c fr I L Q := by
  intro a w ha hs
  refine k ?_ a w ha hs
  cases cs with
  | nil => rfl
  | cons u l => obtain ⟨ad, h1⟩ := h.some (by simp) hs; rw [hA] at h1; cases h1

theorem Cd.rowLen {A : Option Addr} {n c sz : Nat} {e : TypeId} {xs : List Value} {cd : Code} {Q : Post} (hm : Ent.row (.slice A n c) e sz n xs ∈ L)
    (k : xs.length = n * sz → n ≤ c → Cd P N cd fr I L Q) : Cd P N cd fr I L Q := by
  intro a w ha hs
  have h := hs.ents _ hm
  refine k h.1 ?_ a w ha hs
  obtain ⟨_, ⟨h1, h0⟩ | ⟨g, cap, cur, h1, _, _, h2, _⟩⟩ := h
  · simp only [Value.slice.injEq] at h1; omega
  · simp only [Value.slice.injEq] at h1; omega

/-- Nothing is a row of our own. -/
theorem HS.addNil {w : World} (h : HS I L w) (e : TypeId) (sz : Nat) : HS I (.row (.slice none 0 0) e sz 0 [] :: L) w :=
  h.add (fun _ _ => rfl) ⟨by simp, .inl ⟨rfl, rfl⟩⟩ (fun b hb => by simp [Ent.own, Value.ownBlock] at hb) rfl rfl rfl
theorem Cd.addNil {c : Code} {Q : Post} (e : TypeId) (sz : Nat) (k : Cd P N c fr I (.row (.slice none 0 0) e sz 0 [] :: L) Q) : Cd P N c fr I L Q := fun a w ha hs => k a w ha (hs.addNil e sz)
theorem Opz.addNil {ops : List Oper} (e : TypeId) (sz : Nat) (k : Opz P N all ops fr I (.row (.slice .none 0 0) e sz 0 [] :: L) K) : Opz P N all ops fr I L K := fun a w Q0 ha hs hk => k a w Q0 ha (hs.addNil e sz) hk

/-- A row as a block. -/
theorem HS.rowBlk {w : World} {A : Option Addr} {n c sz : Nat} {e : TypeId} {xs : List Value} (h : HS I (.row (.slice A n c) e sz n xs :: L) w) (hn : 0 < n) :
    ∃ g spare, A = some ⟨g, 0, none⟩ ∧ HS I (.blk g e (xs ++ spare) :: L) w := by
  obtain ⟨hl, ⟨h1, h0⟩ | ⟨g, cap, cur, h1, _, hg, hnc, hcm, hcs, htake⟩⟩ := h.ents _ List.mem_cons_self
  · omega
  · simp only [Value.slice.injEq] at h1
    obtain ⟨rfl, _, rfl⟩ := h1
    refine ⟨g, cur.toList.drop (n * sz), rfl, ?_⟩
    have : (xs ++ cur.toList.drop (n * sz)).toArray = cur := by rw [← htake, List.take_append_drop]
    refine h.swap (fun _ _ _ => rfl) ?_ (fun b hb => .inl (by simpa [Ent.own, Value.ownBlock] using hb)) rfl rfl rfl
    simp only [Ent.ok, this]; exact hg

theorem Opz.rowBlk {A : Option Addr} {n c sz : Nat} {e : TypeId} {xs : List Value} {L' : List Ent} {ops : List Oper} (hr : Rem L (.row (.slice A n c) e sz n xs) L') (hn : 0 < n)
    (k : ∀ g spare, A = some ⟨g, 0, .none⟩ → Opz P N all ops fr I (.blk g e (xs ++ spare) :: L') K) : Opz P N all ops fr I L K := by
  intro a w Q0 ha hs hk
  obtain ⟨g, spare, hA, hs'⟩ := (hs.perm hr.perm).rowBlk hn
  exact k g spare hA a w Q0 ha hs' hk
theorem Cd.rowBlk {A : Option Addr} {n c sz : Nat} {e : TypeId} {xs : List Value} {L' : List Ent} {cd : Code} {Q : Post} (hr : Rem L (.row (.slice A n c) e sz n xs) L') (hn : 0 < n)
    (k : ∀ g spare, A = some ⟨g, 0, none⟩ → Cd P N cd fr I (.blk g e (xs ++ spare) :: L') Q) : Cd P N cd fr I L Q := by
  intro a w ha hs
  obtain ⟨g, spare, hA, hs'⟩ := (hs.perm hr.perm).rowBlk hn
  exact k g spare hA a w ha hs'

/-- A block stays as it is from now on. -/
theorem HS.freezeBlk {w : World} {b : Nat} {t : TypeId} {cs : List Value} (h : HS I (.blk b t cs :: L) w) :
    ∃ I', I.le I' ∧ (∀ j, I'.cell ⟨b, j, none⟩ = cs[j]?) ∧ HS I' L w := by
  have hb := h.ents _ List.mem_cons_self
  refine ⟨_, Imm.with_le _ (h.imm _ List.mem_cons_self b rfl), fun j => ?_, h.freeze (b := b) rfl hb⟩
  simp [Imm.cell, Imm.with]
theorem Opz.freezeBlk {b : Nat} {t : TypeId} {cs : List Value} {L' : List Ent} {ops : List Oper} (hr : Rem L (.blk b t cs) L')
    (k : ∀ I', I.le I' → (∀ j, I'.cell ⟨b, j, .none⟩ = cs[j]?) → Opz P N all ops fr I' L' K) : Opz P N all ops fr I L K := by
  intro a w Q0 ha hs hk
  obtain ⟨I', hle, hc, hs'⟩ := (hs.perm hr.perm).freezeBlk
  exact k I' hle hc a w Q0 ha hs' hk
theorem Cd.freezeBlk {b : Nat} {t : TypeId} {cs : List Value} {L' : List Ent} {cd : Code} {Q : Post} (hr : Rem L (.blk b t cs) L')
    (k : ∀ I', I.le I' → (∀ j, I'.cell ⟨b, j, none⟩ = cs[j]?) → Cd P N cd fr I' L' Q) : Cd P N cd fr I L Q := by
  intro a w ha hs
  obtain ⟨I', hle, hc, hs'⟩ := (hs.perm hr.perm).freezeBlk
  exact k I' hle hc a w ha hs'
theorem Cd.freeze {A : Option Addr} {n c sz : Nat} {e : TypeId} {xs : List Value} {L' : List Ent} {cd : Code} {Q : Post} (hr : Rem L (.row (.slice A n c) e sz n xs) L')
    (k : ∀ I', I.le I' → (∀ j u, xs[j]? = some u → ∃ a, A = some a ∧ I'.cell (a.add j) = some u) → xs.length = n * sz → n ≤ c → Cd P N cd fr I' L' Q) : Cd P N cd fr I L Q := by
  intro a w ha hs
  have hs' := hs.perm hr.perm
  have h := hs'.ents _ List.mem_cons_self
  simp only [Ent.ok] at h
  by_cases hn : 0 < n
  · obtain ⟨g, spare, rfl, h2⟩ := hs'.rowBlk hn
    obtain ⟨I', hle, hc, h3⟩ := h2.freezeBlk
    refine k I' hle (fun j u hj => ⟨_, rfl, ?_⟩) h.1 ?_ a w ha h3
    · rw [add_blk, Nat.zero_add, hc, List.getElem?_append_left (List.getElem?_eq_some_iff.1 hj).1]; exact hj
    · obtain ⟨_, ⟨h1, h0⟩ | ⟨g, cap, cur, h1, _, _, h2, _⟩⟩ := h
      · simp only [Value.slice.injEq] at h1; omega
      · simp only [Value.slice.injEq] at h1; omega
  · have hn0 : n = 0 := by omega
    subst hn0
    have hx : xs = [] := by simpa using h.1
    subst hx
    exact k I I.le_refl (fun j u hj => by simp at hj) (by simp) (Nat.zero_le _) a w ha (hs'.sublist (List.sublist_cons_self _ _))

/-- Parts are laid into cells. -/
inductive FillTo (place : Nat → Option (Nat × Nat)) : List Value → List (Nat × Value) → List Value → Prop where
  | nil {cs : List Value} : FillTo place cs [] cs
  | one {cs cs1 cs2 : List Value} {i off : Nat} {v : Value} {l : List (Nat × Value)} (hp : place i = some (off, 1)) (hv : v.cells = #[v]) (hs : SetAt cs off v cs1) (k : FillTo place cs1 l cs2) : FillTo place cs ((i, v) :: l) cs2
  | agg {cs cs2 vs : List Value} {i off n : Nat} {v : Value} {l : List (Nat × Value)} (hp : place i = some (off, n)) (hv : v.cells.toList = vs) (hn : vs.length = n) (hb : off + n ≤ cs.length) (k : FillTo place (cs.take off ++ vs ++ cs.drop (off + n)) l cs2) : FillTo place cs ((i, v) :: l) cs2

theorem fold_set : ∀ (l : List Value) (c : Array Value) (o j : Nat), o + j + l.length ≤ c.size →
    (l.zipIdx j).foldl (fun cs (p : Value × Nat) => cs.setIfInBounds (o + p.2) p.1) c = (c.toList.take (o + j) ++ l ++ c.toList.drop (o + j + l.length)).toArray := by
  intro l
  induction l with
  | nil => intro c o j _; simp
  | cons x l ih2 =>
    intro c o j hl
    rw [List.zipIdx_cons, List.foldl_cons, ih2 _ o (j + 1) (by simpa [Nat.add_assoc, Nat.add_comm 1] using hl)]
    simp only [List.length_cons] at hl
    apply Array.ext'
    apply List.ext_getElem?
    intro q
    simp only [Array.toList_setIfInBounds, List.getElem?_append, List.length_append, List.length_take, List.length_set, List.length_cons, Array.length_toList]
    simp only [List.getElem?_take, List.getElem?_drop, List.getElem?_set]
    by_cases h1 : q < o + j
    · rw [if_pos (by omega), if_pos (by omega), if_pos (by omega), if_neg (by omega), if_pos (by omega), if_pos (by omega), if_pos (by omega)]
    · by_cases h2 : q = o + j
      · subst h2
        rw [if_pos (by omega), if_pos (by omega), if_pos (by omega), if_pos rfl, if_pos (by rw [Array.length_toList]; omega), if_pos (by omega), if_neg (by omega)]
        have : o + j - min (o + j) c.size = 0 := by omega
        rw [this]; rfl
      · by_cases h3 : q < o + j + (l.length + 1)
        · rw [if_pos (by omega), if_neg (by omega), if_pos (by omega), if_neg (by omega)]
          have e1 : q - min (o + (j + 1)) c.size + 1 = q - min (o + j) c.size := by omega
          rw [← e1, List.getElem?_cons_succ]
        · rw [if_neg (by omega), if_neg (by omega), if_neg (by omega)]
          congr 1; omega

theorem FillTo.fill {place : Nat → Option (Nat × Nat)} {cs cs2 : List Value} {l : List (Nat × Value)} (h : FillTo place cs l cs2) : Instr.fill place cs.toArray l = some cs2.toArray := by
  induction h with
  | nil => rfl
  | @one cs cs1 cs2 i off v l hp hv hs _ ih =>
    obtain ⟨hlt, rfl⟩ := hs.spec
    unfold Instr.fill
    simp only [hp, hv]
    rw [if_neg (by simp; omega)]
    simpa using ih
  | @agg cs cs2 vs i off n v l hp hv hn hb _ ih =>
    unfold Instr.fill
    simp only [hp]
    have hsz : v.cells.size = n := by rw [← Array.length_toList, hv, hn]
    rw [if_neg (by simp [hsz]; omega)]
    have := fold_set v.cells.toList cs.toArray off 0 (by rw [hv, hn]; simpa using hb)
    rw [Nat.add_zero, hv, hn] at this
    rw [← Array.foldl_toList, Array.toList_zipIdx, hv, this]
    exact ih

/-- A struct's value, out of its fields'. -/
theorem R.build {t : TypeId} {parts : Array (Nat × Operand)} {fs : Array Field} {zv : Value} {zs vals cs : List Value} (places : Array (Nat × Nat)) (ht : P.underlying t = some (.struct fs)) (hz : ∀ w, (zeroValue t).run P w = .ok zv w) (hzc : zv.cells.toList = zs)
    (hpl : ∀ w, (fs.mapM fun (f : Field) => do pure (f.offset, ← sizeOf f.type)).run P w = .ok places w) (hvs : evL fr (parts.toList.map (·.2)) = some vals) (hf : FillTo (places[·]?) zs ((parts.toList.map (·.1)).zip vals) cs) :
    RunsTo P fr I L ⟨d, .build t parts, ty, pos, aft, gd⟩ (.agg cs.toArray) := fun ρ w hρ _ => by
  have hp : (parts.map (fun (i, x) => (i, ρ x))).toList = (parts.toList.map (·.1)).zip vals := by
    have := evL_spec hρ _ vals hvs
    rw [← this]
    simp [List.zip_map', List.map_map]
  have hr : (Instr.build t (parts.map fun (i, x) => (i, ρ x))).run P w = .ok (.agg cs.toArray) w := by
    unfold Instr.build
    rw [Sem.run_bind, hz, Result.andThen_ok, Sem.run_bind, run_und ht, Result.andThen_ok]
    simp only
    rw [Sem.run_bind, hpl, Result.andThen_ok]
    have e : zv.cells = zs.toArray := by rw [← hzc]
    rw [hp, e, hf.fill]
    rfl
  simp only [execOp]
  rw [Sem.run_bind, hr]; rfl

/-- A literal of nothing. -/
theorem W.buildNone {t e : TypeId} {sz : Nat} {info : TypeInfo} (ht : P.underlying t = some (.slice e)) (hi : ∀ w, (typeInfo e).run P w = .ok info w) (hsz : info.size = sz) {ps : Array (Nat × Operand)} (hp : ps = #[]) :
    Acts P N fr I L ⟨d, .buildSlice t 0 ps, ty, pos, aft, gd⟩ (fun v' I' L' => ∃ b, v' = .slice (some ⟨b, 0, .none⟩) 0 0 ∧ I = I' ∧ L' = .row (.slice (some ⟨b, 0, .none⟩) 0 0) e sz 0 [] :: L) := by
  intro a w next Q ha hs hk
  subst hsz
  subst hp
  have hr : (execOp a.eval ⟨d, .buildSlice t 0 #[], ty, pos, aft, gd⟩).run P w = .ok (.value (.slice (some ⟨w.heap.size, 0, .none⟩) 0 0)) (w.alloc (.cells ([] : List Value).toArray e)) := by
    simp [execOp, Instr.buildSlice, run_und ht, sizeOf, hi, Instr.fill, newRow]
    simp [show Array.range 0 = #[] from by simp [Array.range]]
  unfold Oper.wp
  rw [hr, Oper.upon_value]
  have := hs.alloc_row [] e info.size 0 0 (by simp) (Nat.le_refl _) (Nat.zero_le _)
  rw [List.take_nil] at this
  exact hk _ I _ _ this ⟨_, rfl, rfl, rfl⟩

/-- A literal of things of one cell each. -/
theorem W.build1 {t e : TypeId} {n : Nat} {parts : Array (Nat × Operand)} {vs : List Value} {info : TypeInfo} {zv : Value} (ht : P.underlying t = some (.slice e)) (hi : ∀ w, (typeInfo e).run P w = .ok info w) (hsz : info.size = 1)
    (hz : ∀ w, (zeroValue e).run P w = .ok zv w) (hvs : evL fr (parts.toList.map (·.2)) = some vs) (hix : parts.toList.map (·.1) = List.range' 0 n) (hn : vs.length = n) (hbig : n ≤ 65536) (hpos : 0 < n)
    (hv : ∀ v ∈ vs, v.cells = #[v]) :
    Acts P N fr I L ⟨d, .buildSlice t n parts, ty, pos, aft, gd⟩ (fun v' I' L' => ∃ b, v' = .slice (some ⟨b, 0, .none⟩) n n ∧ I = I' ∧ L' = .row (.slice (some ⟨b, 0, .none⟩) n n) e 1 n vs :: L) := by
  have hf : ∀ l : List Value, (∀ v ∈ l, v.cells = #[v]) → l.flatMap (fun v => v.cells.toList) = l := by
    intro l
    induction l with
    | nil => intro _; rfl
    | cons x l ih => intro h; rw [List.flatMap_cons, h x List.mem_cons_self, ih (fun v hv => h v (List.mem_cons_of_mem _ hv))]; rfl
  have := W.buildSlice (P := P) (N := N) (fr := fr) (I := I) (L := L) (d := d) (ty := ty) (pos := pos) (aft := aft) (gd := gd) ht hi hsz hz hvs hix hn (by omega) (by omega) (fun v h => by rw [hv v h]; rfl)
  rw [hf vs hv] at this
  exact this

/-- A store into a block of our own, at a place that is reckoned. -/
theorem W.storeAt {b off : Nat} {t tb : TypeId} {cs : List Value} {L' : List Ent} {info : TypeInfo} {ad : Addr} (hx : evF fr x = some (.pointer (some ad))) (had : ad = ⟨b, off, .none⟩) (hy : evF fr y = some v)
    (hv : v.cells = #[v]) (h2 : v.oneCell' = true) (hi : ∀ w, (typeInfo t).run P w = .ok info w) (h1 : info.size = 1)
    (hu : Upd L (.blk b tb cs) (.blk b tb (cs.set off v)) L') (hlt : off < cs.length) : Acts P N fr I L ⟨d, .store t x y, ty, pos, aft, gd⟩ (Is undef I L') := by
  subst had
  intro a w next Q ha hs hk
  have hb : w.heap[b]? = some (.cells cs.toArray tb (0, 0)) := hs.ents _ hu.mem
  have hcell : w.cell? ⟨b, off, .none⟩ = some cs[off] := by simp [World.cell?, hb, hlt]
  have hfr : w.frozen? ⟨b, off, .none⟩ = false := by simp [World.frozen?, hb]
  have hr : (execOp a.eval ⟨d, .store t x y, ty, pos, aft, gd⟩).run P w = .ok .skip (w.setCell ⟨b, off, .none⟩ v) := by
    simp [execOp, ha.ev hx, ha.ev hy, Instr.storeAt, Instr.sureAddr, run_storeVar_one hi h1 hv h2 hcell hfr]
  unfold Oper.wp
  rw [hr, Oper.upon_skip]
  refine hk undef I L' _ ?_ ⟨rfl, rfl, rfl⟩
  exact hs.upd hu (fun c _ hne => setCell_far (fun e => hne (by simp [Ent.own, e])) off v) (setCell_blk hb off v) (fun c hc => .inl hc) rfl rfl rfl
end
end Go.Eng

/- The engine, part H: results, whole structs, strings as lists of bytes. No function of the program is proved here. -/
namespace Go.Eng
section
variable {P : Program} {N : Nat} {all : Array Oper} {o : Oper} {rest : List Oper} {fr : Frm} {I : Imm} {L : List Ent} {Q : Post} {c : Code}
variable {ty : TypeId} {pos : String} {aft : Array Edge} {gd : Option (Nat × Bool)} {d : Option Tmp} {x y z : Operand} {v vx vy : Value} {K : Frm → Imm → List Ent → Prop}

/-- A function's results, where it ends. -/
inductive ResOK (P : Program) (fr : Frm) (L : List Ent) : List ResultVar → List Value → Prop where
  | nil : ResOK P fr L [] []
  | tmp {t : Nat} {v : Value} {rs : List ResultVar} {vs : List Value} (h : look fr t = some v) (k : ResOK P fr L rs vs) : ResOK P fr L (.tmp t :: rs) (v :: vs)
  | agg {a b : Nat} {ty tb : TypeId} {td : TypeDesc} {info : TypeInfo} {cs : List Value} {rs : List ResultVar} {vs : List Value} (h : look fr a = some (.pointer (some ⟨b, 0, none⟩))) (hm : Ent.blk b tb cs ∈ L)
      (hu : P.underlying ty = some td) (h1 : oneB td = false) (hi : ∀ w, (typeInfo ty).run P w = .ok info w) (hn : info.size = cs.length) (k : ResOK P fr L rs vs) : ResOK P fr L (.cell a ty :: rs) (.agg cs.toArray :: vs)
  | one {a b : Nat} {ty tb : TypeId} {td : TypeDesc} {v : Value} {cs : List Value} {rs : List ResultVar} {vs : List Value} (h : look fr a = some (.pointer (some ⟨b, 0, none⟩))) (hm : Ent.blk b tb cs ∈ L)
      (hu : P.underlying ty = some td) (h1 : oneB td = true) (hc : cs[0]? = some v) (k : ResOK P fr L rs vs) : ResOK P fr L (.cell a ty :: rs) (v :: vs)

def tupV : List Value → Value
  | [v] => v
  | vs => .tuple vs.toArray

def resOne (a : Act) : ResultVar → Sem Value
  | .tmp t => pure (a.tmps.getD t undef)
  | .cell p t => do loadVar t (← asAddr (a.tmps.getD p undef))

theorem resOne_tmp {a : Act} {t : Nat} {v : Value} {w : World} (h : a.tmps.getD t undef = v) : (resOne a (.tmp t)).run P w = .ok v w := by
  subst h; rfl
theorem resOne_cell {a : Act} {t : Nat} {ty : TypeId} {ad : Addr} {v : Value} {w : World} (h : a.tmps.getD t undef = .pointer (some ad)) (hl : (loadVar ty ad).run P w = .ok v w) : (resOne a (.cell t ty)).run P w = .ok v w := by
  show (do loadVar ty (← asAddr (a.tmps.getD t undef)) : Sem Value).run P w = _
  rw [h, Sem.run_bind]
  exact hl

theorem ResOK.mapM {rs : List ResultVar} {vs : List Value} (h : ResOK P fr L rs vs) {a : Act} {w : World} (ha : Fr N fr a) (hs : HS I L w) :
    (rs.mapM (resOne a)).run P w = .ok vs w := by
  induction h with
  | nil => simp
  | tmp h _ ih =>
    rw [List.mapM_cons, Sem.run_bind, resOne_tmp (ha.vals _ _ h), Result.andThen_ok, Sem.run_bind, ih]; rfl
  | agg h hm hu h1 hi hn _ ih =>
    rw [List.mapM_cons, Sem.run_bind, resOne_cell (ha.vals _ _ h) (run_loadVar_agg hu h1 hi hn (cellsL hm w hs)), Result.andThen_ok, Sem.run_bind, ih]; rfl
  | one h hm hu h1 hc _ ih =>
    rw [List.mapM_cons, Sem.run_bind, resOne_cell (ha.vals _ _ h) (run_loadVar_one hu h1 (cellL hm hc w hs)), Result.andThen_ok, Sem.run_bind, ih]; rfl

theorem ResOK.run {fn : Func} {rs : List ResultVar} {vs : List Value} (h : ResOK P fr L rs vs) (hr : fn.results = rs.toArray) {a : Act} {w : World} (ha : Fr N fr a) (hs : HS I L w) : (results fn a.tmps).run P w = .ok (tupV vs) w := by
  have e : results fn a.tmps = (do
      let vs ← fn.results.mapM (resOne a)
      pure (if h : vs.size = 1 then vs[0] else .tuple vs)) := rfl
  rw [e, hr, List.mapM_toArray, Sem.run_bind, Sem.run_map, h.mapM ha hs, Result.andThen_ok, Result.andThen_ok, Sem.run_pure]
  congr 1
  by_cases h1 : vs.length = 1
  · obtain ⟨u, rfl⟩ := List.length_eq_one_iff.1 h1
    rfl
  · rw [dif_neg (by simpa using h1)]
    unfold tupV
    split
    · simp at h1
    · rfl

/-- What is asked at a function's end. -/
def finQ (P : Program) (I0 : Imm) (F : List Ent) (rs : List ResultVar) (post : Value → Imm → List Ent → Prop) : Post
  | .normal, fr, I, L | .ret, fr, I, L => ∃ vs L', ResOK P fr L rs vs ∧ I0.le I ∧ post (tupV vs) I L' ∧ Have L (L' ++ F)
  | _, _, _, _ => False

theorem Meets.intro {f : FuncId} {fn : Func} {rs : List ResultVar} {args : List Value} {post : Value → Imm → List Ent → Prop}
    (hf : P.funcs[f]? = some fn) (hb : fn.body = some c) (hN : fn.ntmps = N) (hr : fn.results = rs.toArray) (hn : Nat.ble args.length N = true)
    (h : ∀ F, Cd P N c (argF 0 args) I (L ++ F) (finQ P I F rs post)) : Meets P f args.toArray I L post := by
  intro w F hw
  have hn' : args.length ≤ N := Nat.le_of_ble_eq_true hn
  refine calls_of_wp hf hb ?_
  refine wp_mono (h F { tmps := args.toArray ++ Array.replicate (fn.ntmps - args.toArray.size) undef, defers := [] } w ⟨rfl, ?_, ?_⟩ hw) ?_
  · simp [hN]; omega
  · intro t v hl
    obtain ⟨_, h2⟩ := argF_look args 0 t v hl
    have hlt : t < args.length := by
      have := (List.getElem?_eq_some_iff.1 h2).1
      simpa using this
    rw [Array.getD_eq_getD_getElem?, Array.getElem?_append_left (by simpa using hlt)]
    have h3 : args[t]? = some v := by simpa using h2
    simp [h3]
  · rintro e a' w' ⟨fr', I', L', ha', hw', hq⟩
    have fin : (∃ vs L'', ResOK P fr' L' rs vs ∧ I.le I' ∧ post (tupV vs) I' L'' ∧ Have L' (L'' ++ F)) → a'.defers = [] ∧ ∃ v, (results fn a'.tmps).run P w' = .ok v w' ∧ ∃ v' I' L', Ending.returned v = .returned v' ∧ I.le I' ∧ post v' I' L' ∧ HS I' (L' ++ F) w' := by
      rintro ⟨vs, L'', hv, hle, hp, hd⟩
      refine ⟨ha'.defers, tupV vs, hv.run hr ha' hw', tupV vs, I', L'', rfl, hle, hp, ?_⟩
      exact hw'.keep hd
    cases e with
    | normal => exact fin hq
    | ret => exact fin hq
    | exit _ => exact hq.elim
    | goto _ => exact hq.elim
    | panic _ => exact hq.elim
    | outgrown => exact hq.elim

theorem fin.ret {I0 : Imm} {F : List Ent} {rs : List ResultVar} {post : Value → Imm → List Ent → Prop} {vs : List Value} {L' : List Ent} (hv : ResOK P fr L rs vs) (hle : I0.le I) (hh : Have L (L' ++ F)) (hp : post (tupV vs) I L') : finQ P I0 F rs post .ret fr I L := ⟨vs, L', hv, hle, hp, hh⟩
theorem fin.normal {I0 : Imm} {F : List Ent} {rs : List ResultVar} {post : Value → Imm → List Ent → Prop} {vs : List Value} {L' : List Ent} (hv : ResOK P fr L rs vs) (hle : I0.le I) (hh : Have L (L' ++ F)) (hp : post (tupV vs) I L') : finQ P I0 F rs post .normal fr I L := ⟨vs, L', hv, hle, hp, hh⟩

/-! ### Whole structs in variables -/
theorem W.box1 {e : TypeId} (hx : evF fr x = some v) (hc : v.cells = #[v]) :
    Acts P N fr I L ⟨d, .box e x, ty, pos, aft, gd⟩ (fun v' I' L' => ∃ b, v' = .pointer (some ⟨b, 0, .none⟩) ∧ I = I' ∧ L' = .blk b e [v] :: L) := W.box hx (by rw [hc])
theorem W.boxA {e : TypeId} {cs : List Value} (hx : evF fr x = some (.agg cs.toArray)) :
    Acts P N fr I L ⟨d, .box e x, ty, pos, aft, gd⟩ (fun v' I' L' => ∃ b, v' = .pointer (some ⟨b, 0, .none⟩) ∧ I = I' ∧ L' = .blk b e cs :: L) := W.box hx rfl
theorem W.alloc1 {e : TypeId} (hz : ∀ w, (zeroValue e).run P w = .ok v w) (hc : v.cells = #[v]) :
    Acts P N fr I L ⟨d, .alloc e, ty, pos, aft, gd⟩ (fun v' I' L' => ∃ b, v' = .pointer (some ⟨b, 0, .none⟩) ∧ I = I' ∧ L' = .blk b e [v] :: L) := W.alloc hz (by rw [hc])
theorem W.allocA {e : TypeId} {cs : List Value} (hz : ∀ w, (zeroValue e).run P w = .ok (.agg cs.toArray) w) :
    Acts P N fr I L ⟨d, .alloc e, ty, pos, aft, gd⟩ (fun v' I' L' => ∃ b, v' = .pointer (some ⟨b, 0, .none⟩) ∧ I = I' ∧ L' = .blk b e cs :: L) := W.alloc hz rfl

theorem run_storeCells : ∀ (vs : List Value) (i : Nat) (w : World) (b : Nat) (t : TypeId) (cs : List Value), w.heap[b]? = some (.cells cs.toArray t (0, 0)) → i + vs.length ≤ cs.length → (∀ v ∈ vs, v.oneCell' = true) →
    ∃ w', (storeCells ⟨b, 0, none⟩ vs i).run P w = .ok () w' ∧ w'.heap[b]? = some (.cells (cs.take i ++ vs ++ cs.drop (i + vs.length)).toArray t (0, 0)) ∧ (∀ c, c ≠ b → w'.heap[c]? = w.heap[c]?) ∧ w'.heap.size = w.heap.size ∧ w'.os = w.os ∧ w'.tape = w.tape ∧ w'.output = w.output := by
  intro vs
  induction vs with
  | nil => intro i w b t cs hb _ _; exact ⟨w, by simp [storeCells], by simpa using hb, fun _ _ => rfl, rfl, rfl, rfl, rfl⟩
  | cons v vs ih =>
    intro i w b t cs hb hl h1
    simp only [List.length_cons] at hl
    have hlt : i < cs.length := by omega
    have hcell : w.cell? ⟨b, i, none⟩ = some cs[i] := by simp [World.cell?, hb, hlt]
    have hfr : w.frozen? ⟨b, i, none⟩ = false := by simp [World.frozen?, hb]
    have hst : (store ((⟨b, 0, none⟩ : Addr).add i) v).run P w = .ok () (w.setCell ⟨b, i, none⟩ v) := by
      rw [add_blk, Nat.zero_add, run_store _ _ _ _ _ (h1 v List.mem_cons_self), hcell]
      simp [hfr]
    obtain ⟨w', hr, hh, hfar, hsz, ho, ht, hu⟩ := ih (i + 1) (w.setCell ⟨b, i, none⟩ v) b t (cs.set i v) (setCell_blk hb i v) (by rw [List.length_set]; omega) (fun u hu => h1 u (List.mem_cons_of_mem _ hu))
    refine ⟨w', ?_, ?_, fun c hc => (hfar c hc).trans (setCell_far hc i v), by rw [hsz]; simp, ho, ht, hu⟩
    · simp only [storeCells, Sem.run_bind, hst, Result.andThen_ok, hr]
    · rw [hh]
      congr 3
      apply List.ext_getElem?
      intro q
      simp only [List.getElem?_append, List.length_append, List.length_take, List.length_set, List.length_cons, List.getElem?_take, List.getElem?_drop, List.getElem?_set]
      by_cases q1 : q < i
      · rw [if_pos (by omega), if_pos (by omega), if_pos (by omega), if_neg (by omega), if_pos (by omega), if_pos (by omega), if_pos (by omega)]
      · by_cases q2 : q = i
        · subst q2
          rw [if_pos (by omega), if_pos (by omega), if_pos (by omega), if_pos rfl, if_pos (by omega), if_pos (by omega), if_neg (by omega)]
          have : q - min q cs.length = 0 := by omega
          rw [this]; rfl
        · by_cases q3 : q < i + (vs.length + 1)
          · rw [if_pos (by omega), if_neg (by omega), if_pos (by omega), if_neg (by omega)]
            have e1 : q - min (i + 1) cs.length + 1 = q - min i cs.length := by omega
            rw [← e1, List.getElem?_cons_succ]
          · rw [if_neg (by omega), if_neg (by omega), if_neg (by omega)]
            congr 1; omega

/-- A struct is stored whole into its variable. -/
theorem W.storeAll {b : Nat} {t tb : TypeId} {cs vs : List Value} {L' : List Ent} {info : TypeInfo} (hx : evF fr x = some (.pointer (some ⟨b, 0, .none⟩))) (hy : evF fr y = some (.agg vs.toArray))
    (hi : ∀ w, (typeInfo t).run P w = .ok info w) (h1 : info.size = vs.length) (hu : Upd L (.blk b tb cs) (.blk b tb vs) L') (hl : cs.length = vs.length) (hone : ∀ v ∈ vs, v.oneCell' = true) :
    Acts P N fr I L ⟨d, .store t x y, ty, pos, aft, gd⟩ (Is undef I L') := by
  intro a w next Q ha hs hk
  have hb : w.heap[b]? = some (.cells cs.toArray tb (0, 0)) := hs.ents _ hu.mem
  obtain ⟨w', hr, hh, hfar, hsz, ho, ht, hou⟩ := run_storeCells (P := P) vs 0 w b tb cs hb (by omega) hone
  have hr' : (execOp a.eval ⟨d, .store t x y, ty, pos, aft, gd⟩).run P w = .ok .skip w' := by
    have hc : (Value.agg vs.toArray).cells.size = info.size := by simp [Value.cells, h1]
    have hst : (storeVar t ⟨b, 0, none⟩ (.agg vs.toArray)).run P w = .ok () w' := by
      unfold storeVar
      simp only [sizeOf, Sem.run_bind, hi, Result.andThen_ok, Sem.run_pure]
      rw [if_neg (by simp [hc])]
      simpa [Value.cells] using hr
    simp [execOp, ha.ev hx, ha.ev hy, Instr.storeAt, Instr.sureAddr, hst]
  unfold Oper.wp
  rw [hr', Oper.upon_skip]
  refine hk undef I L' w' ?_ ⟨rfl, rfl, rfl⟩
  refine hs.upd hu (fun c _ hne => hfar c (fun e => hne (by simp [Ent.own, e]))) ?_ (fun c hc => .inl hc) ho ht hou
  simp only [Ent.ok]
  rw [hh]
  simp [hl]

/-! ### Strings -/
def strOf (l : List UInt8) : ByteArray := ⟨l.toArray⟩
theorem strOf_data (l : List UInt8) : (strOf l).data.toList = l := rfl
theorem strOf_size (l : List UInt8) : (strOf l).size = l.length := by simp [strOf, ByteArray.size]
theorem strOf_eq (s : ByteArray) : s = strOf s.data.toList := rfl
theorem strOf_inj {a b : List UInt8} (h : strOf a = strOf b) : a = b := by
  have := congrArg (fun s : ByteArray => s.data.toList) h
  exact this
theorem bytes_ext {a b : ByteArray} (h : a.data.toList = b.data.toList) : a = b := by
  cases a; cases b
  simp only at h
  exact congrArg ByteArray.mk (Array.ext' h)

theorem extract_upto (s : ByteArray) (k : Nat) : (s.extract 0 k).data.toList = s.data.toList.take k := by
  simp [ByteArray.data_extract]

theorem R.lenT {ts : Array TypeId} {t : TypeId} {l : List UInt8} (hx : evF fr x = some (.string (strOf l))) (ht : ts[0]? = some t) (h : P.underlying t = some .string) :
    RunsTo P fr I L ⟨d, .call ⟨.builtin .len, #[x], ts⟩, ty, pos, aft, gd⟩ (.int .i64 l.length) := by
  have := R.lenS (I := I) (L := L) (d := d) (ty := ty) (pos := pos) (aft := aft) (gd := gd) hx ht h
  rwa [strOf_size] at this
theorem R.catT {t u : TypeId} {a b : List UInt8} (hx : evF fr x = some (.string (strOf a))) (hy : evF fr y = some (.string (strOf b))) (h : a.length + b.length ≤ 9223372036854775807) : RunsTo P fr I L ⟨d, .binOp .add t x y u, ty, pos, aft, gd⟩ (.string (strOf (a ++ b))) := by
  have := R.cat (I := I) (L := L) (t := t) (u := u) (d := d) (ty := ty) (pos := pos) (aft := aft) (gd := gd) (P := P) hx hy (by rw [strOf_size, strOf_size]; exact h)
  have e : strOf a ++ strOf b = strOf (a ++ b) := bytes_ext (by rw [strOf_data]; simp [strOf, ByteArray.data_append])
  rwa [e] at this
theorem R.stHT {t : TypeId} {l : List UInt8} {k : IntKind} {i : Int} (hx : evF fr x = some (.string (strOf l))) (hy : evF fr y = some (.int k i)) (ht : P.underlying t = some .string) (h : 0 ≤ i ∧ i ≤ l.length) :
    RunsTo P fr I L ⟨d, .slice t x .none (some y) .none, ty, pos, aft, gd⟩ (.string (strOf (l.take i.toNat))) := by
  have := R.stH (I := I) (L := L) (d := d) (ty := ty) (pos := pos) (aft := aft) (gd := gd) hx hy ht (by rw [strOf_size]; exact h)
  have e : (strOf l).extract 0 i.toNat = strOf (l.take i.toNat) := bytes_ext (by rw [strOf_data, extract_upto, strOf_data])
  rwa [e] at this
theorem R.stLT {t : TypeId} {l : List UInt8} {k : IntKind} {i : Int} (hx : evF fr x = some (.string (strOf l))) (hy : evF fr y = some (.int k i)) (ht : P.underlying t = some .string) (h : 0 ≤ i ∧ i ≤ l.length) :
    RunsTo P fr I L ⟨d, .slice t x (some y) .none .none, ty, pos, aft, gd⟩ (.string (strOf (l.drop i.toNat))) := by
  have := R.stL (I := I) (L := L) (d := d) (ty := ty) (pos := pos) (aft := aft) (gd := gd) hx hy ht (by rw [strOf_size]; exact h)
  have e : (strOf l).extract i.toNat (strOf l).size = strOf (l.drop i.toNat) := bytes_ext (by rw [strOf_data, Lib.extract_to_end, strOf_data])
  rwa [e] at this
theorem R.ixT {t : TypeId} {l : List UInt8} {k : IntKind} {i : Int} {c : UInt8} (hx : evF fr x = some (.string (strOf l))) (hy : evF fr y = some (.int k i)) (ht : P.underlying t = some .string)
    (h0 : 0 ≤ i) (h : l[i.toNat]? = some c) : RunsTo P fr I L ⟨d, .index t x y, ty, pos, aft, gd⟩ (.int .u8 c.toNat) :=
  R.ixS hx hy ht h0 (by simpa [strOf] using h)
theorem R.eqT {t u : TypeId} {a b : List UInt8} (hx : evF fr x = some (.string (strOf a))) (hy : evF fr y = some (.string (strOf b))) : RunsTo P fr I L ⟨d, .binOp .eql t x y u, ty, pos, aft, gd⟩ (.bool (decide (a = b))) := R.eqStr hx hy
theorem R.neT {t u : TypeId} {a b : List UInt8} (hx : evF fr x = some (.string (strOf a))) (hy : evF fr y = some (.string (strOf b))) : RunsTo P fr I L ⟨d, .binOp .neq t x y u, ty, pos, aft, gd⟩ (.bool (decide (a ≠ b))) := R.neStr hx hy
theorem R.bytesT {s t e : TypeId} {A : Option Addr} {n c : Nat} {bs : List UInt8} (hx : evF fr x = some (.slice A n c)) (hs : P.underlying s = some (.slice e)) (he : P.underlying e = some (.int .u8)) (ht : P.underlying t = some .string)
    (hn : bs.length = n) (hb : RdC I L A (bytesV bs)) : RunsTo P fr I L ⟨d, .convert s t x, ty, pos, aft, gd⟩ (.string (strOf bs)) := R.bytesStr hx hs he ht hn hb.bytes
end
end Go.Eng

/- The engine, part I: bytes of a constant string, whole struct variables, more rules. No function of the program is proved here. -/
namespace Go.Eng
section
variable {P : Program} {N : Nat} {all : Array Oper} {o : Oper} {rest : List Oper} {fr : Frm} {I : Imm} {L : List Ent} {Q : Post} {c : Code}
variable {ty : TypeId} {pos : String} {aft : Array Edge} {gd : Option (Nat × Bool)} {d : Option Tmp} {x y z : Operand} {v vx vy : Value} {K : Frm → Imm → List Ent → Prop}

/-- The bytes of a constant string: a row that was just laid is marked, and stays from now on. -/
theorem W.mark {t e e' : TypeId} {A : Option Addr} {n c : Nat} {xs : List Value} {L' : List Ent} (hx : evF fr x = some (.slice A n c)) (ht : P.underlying t = some (.slice e)) (he : P.underlying e = some (.int .u8))
    (hr : Rem L (.row (.slice A n c) e' 1 n xs) L') (hn : 0 < n) :
    Acts P N fr I L ⟨d, .convert t t x, ty, pos, aft, gd⟩ (fun v' J M => v' = .slice A n c ∧ I.le J ∧ (∀ j u, xs[j]? = some u → ∃ a, A = some a ∧ J.cell (a.add j) = some u) ∧ M = L') := by
  intro a w next Q ha hs hk
  have hs1 := hs.perm hr.perm
  have hlen : xs.length = n * 1 := (hs1.ents _ List.mem_cons_self).1
  obtain ⟨g, spare, rfl, h2⟩ := hs1.rowBlk hn
  have hb : w.heap[g]? = some (.cells (xs ++ spare).toArray e' (0, 0)) := h2.ents _ List.mem_cons_self
  have hsh : w.shape? g = some (e', (xs ++ spare).toArray.size) := by unfold World.shape?; rw [hb]
  have hrun : (convert t t (.slice (some ⟨g, 0, none⟩) n c)).run P w = .ok (.slice (some ⟨g, 0, none⟩) n c) (w.freeze ⟨g, (xs ++ spare).toArray.size, none⟩ 1) := by
    simp [convert, run_underlying ht, run_underlying he, markStringish, hsh]
  have hr' : (execOp a.eval ⟨d, .convert t t x, ty, pos, aft, gd⟩).run P w = .ok (.value (.slice (some ⟨g, 0, none⟩) n c)) (w.freeze ⟨g, (xs ++ spare).toArray.size, none⟩ 1) := by
    simp only [execOp, ha.ev hx]
    rw [Sem.run_bind, hrun]; rfl
  unfold Oper.wp
  rw [hr', Oper.upon_value]
  have hnew : (w.freeze ⟨g, (xs ++ spare).toArray.size, none⟩ 1).heap[g]? = some (.cells (xs ++ spare).toArray e' ((xs ++ spare).toArray.size, (xs ++ spare).toArray.size + 1)) := by
    unfold World.freeze
    rw [if_neg (by decide)]
    simp only [Array.getElem?_modify, if_true, hb, Option.map_some]
    rfl
  have hold : ∀ b, b ≠ g → (w.freeze ⟨g, (xs ++ spare).toArray.size, none⟩ 1).heap[b]? = w.heap[b]? := by
    intro b hne
    unfold World.freeze
    rw [if_neg (by decide)]
    simp only [Array.getElem?_modify, if_neg (Ne.symm hne)]
  have h3 : HS I (.obj g (.cells (xs ++ spare).toArray e' ((xs ++ spare).toArray.size, (xs ++ spare).toArray.size + 1)) :: L') (w.freeze ⟨g, (xs ++ spare).toArray.size, none⟩ 1) := by
    refine h2.swap (fun b _ hne => hold b (fun e => hne (by simp [Ent.own, e]))) hnew (fun b hb => .inl hb) ?_ ?_ ?_ <;> (unfold World.freeze; rw [if_neg (by decide)])
  have h4 := h3.freeze (b := g) rfl hnew
  refine hk _ _ L' _ h4 ⟨rfl, Imm.with_le _ (h2.imm _ List.mem_cons_self g rfl), ?_, rfl⟩
  intro j u hj
  refine ⟨_, rfl, ?_⟩
  rw [add_blk, Nat.zero_add]
  have hj' := (List.getElem?_eq_some_iff.1 hj).1
  have : (xs ++ spare).toArray[j]? = some u := by simp [List.getElem?_append_left hj', hj]
  simpa [Imm.cell, Imm.with] using this
theorem HS.le {J : Imm} {w : World} (h : HS J L w) (hle : I.le J) : HS I L w := by
  refine ⟨fun b o hb => h.sat b o (hle.1 b o hb), h.ents, h.dis, fun e he b hb => ?_, h.os.trans hle.2.1, h.tape.trans hle.2.2.1, h.output.trans hle.2.2.2⟩
  cases hm : I.mem b with
  | none => rfl
  | some o => have := hle.1 b o hm; rw [h.imm e he b hb] at this; cases this
theorem Rd.take {α : Type} {E : Enc α} {A : Option Addr} {xs : List α} (h : Rd E I A xs) (n : Nat) : Rd E I A (xs.take n) := fun i x hx => by
  rw [List.getElem?_take] at hx
  split at hx
  · exact h i x hx
  · cases hx
theorem RdC.blkApp {b : Nat} {t : TypeId} {cs sp : List Value} (hm : Ent.blk b t (cs ++ sp) ∈ L) : RdC I L (Option.some ⟨b, 0, Option.none⟩) cs := by
  have h := RdC.blk (I := I) (k := cs.length) hm
  rwa [List.take_left] at h
/-- A pointer and itself. -/
theorem in_PS {t e : TypeId} {ad : Addr} {w : World} {info : TypeInfo} (ht : P.underlying t = some (.pointer e)) (hi : ∀ w, (typeInfo e).run P w = .ok info w) (n : Nat) : (Op.equalIn (n + 1) t (.pointer (some ad)) (.pointer (some ad))).run P w = .ok true w := by
  simp [Op.equalIn, run_und ht, sizeOf, hi, sameAddr]
theorem R.eqPS {t u e : TypeId} {ad : Addr} {info : TypeInfo} (hx : evF fr x = some (.pointer (some ad))) (hy : evF fr y = some (.pointer (some ad))) (ht : P.underlying t = some (.pointer e)) (hi : ∀ w, (typeInfo e).run P w = .ok info w) : RunsTo P fr I L ⟨d, .binOp .eql t x y u, ty, pos, aft, gd⟩ (.bool true) :=
  R.bin' hx hy (fun w => by simp [eqGuard]) (fun w => eql_run rfl (in_PS ht hi))
theorem R.nePS {t u e : TypeId} {ad : Addr} {info : TypeInfo} (hx : evF fr x = some (.pointer (some ad))) (hy : evF fr y = some (.pointer (some ad))) (ht : P.underlying t = some (.pointer e)) (hi : ∀ w, (typeInfo e).run P w = .ok info w) : RunsTo P fr I L ⟨d, .binOp .neq t x y u, ty, pos, aft, gd⟩ (.bool false) :=
  R.bin' hx hy (fun w => by simp [eqGuard]) (fun w => neq_run rfl (in_PS ht hi))
/-- The cells of a thing in a row that stays. -/
theorem cellsOfRd {A : Option Addr} {ad : Addr} {cs : List Value} {i sz : Nat} (hA : A = Option.some ad) (h2 : ∀ (j : Nat) (u : Value), cs[j]? = Option.some u → ∃ a, A = Option.some a ∧ I.cell (a.add (i * sz + j)) = Option.some u) :
    ∀ w, HS I L w → CellsAt w (ad.add (i * sz)) cs := by
  refine cellsI fun j hj => ?_
  obtain ⟨a, ha, hc⟩ := h2 j cs[j] (List.getElem?_eq_getElem hj)
  rw [hA] at ha
  cases ha
  rw [add_add, hc, List.getElem?_eq_getElem hj]
theorem Rd.some {α : Type} {E : Enc α} {A : Option Addr} {xs : List α} {i : Nat} {x : α} (h : Rd E I A xs) (hz : 0 < E.sz) (hx : xs[i]? = Option.some x) : ∃ a, A = Option.some a := by
  obtain ⟨cs, h1, h2⟩ := h i x hx
  have hl := E.len h1
  obtain ⟨a, ha, _⟩ := h2 0 (cs[0]'(by omega)) (List.getElem?_eq_getElem _)
  exact ⟨a, ha⟩
/-- What is left of a slice whose things lie in one cell each. -/
theorem Rd.drop {A : Option Addr} {xs : List UInt8} (h : Rd eByte I A xs) (n c : Nat) (hc : xs.length ≤ c) : Rd eByte I (if c = n then A else A.map (·.add n)) (xs.drop n) := fun i x hx => by
  rw [List.getElem?_drop] at hx
  have hlt := (List.getElem?_eq_some_iff.1 hx).1
  obtain ⟨cs, h1, h2⟩ := h _ x hx
  refine ⟨cs, h1, fun j u hj => ?_⟩
  obtain ⟨a, rfl, hcell⟩ := h2 j u hj
  rw [if_neg (by omega)]
  refine ⟨a.add n, rfl, ?_⟩
  rw [add_add]
  have e : (n + i) * eByte.sz + j = n + (i * eByte.sz + j) := by simp only [eByte]; omega
  rw [← e]; exact hcell
theorem RdC.mono {J : Imm} {A : Option Addr} {cs : List Value} (h : RdC I L A cs) (hle : I.le J) : RdC J L A cs := fun w hs => h w (hs.le hle)
end
end Go.Eng

/- The engine, part L: where a law begins: memory at the start, the given arguments as typed things. No function of the program is proved here. -/
namespace Go.Eng
open Go.RowKit

def immOf (W : World) : Imm := ⟨fun b => W.heap[b]?, W.os, W.tape, W.output⟩
theorem HS.start (W : World) : HS (immOf W) [] W := ⟨fun _ _ h => h, fun _ h => (by cases h), List.Pairwise.nil, fun _ h => (by cases h), rfl, rfl, rfl⟩

theorem Meets.law {P : Program} {f : FuncId} {args : Array Value} {W : World} (h : Meets P f args (immOf W) [] (fun v _ L' => .bool true = v ∧ [] = L')) :
    Calls P f args W fun e w' => e = .returned (.bool true) ∧ Below W.heap.size W w' := by
  refine (h W [] (HS.start W)).mono ?_
  rintro e w' ⟨v, I', L', rfl, hle, ⟨rfl, rfl⟩, hs⟩
  have hb : ∀ b, b < W.heap.size → w'.heap[b]? = W.heap[b]? := fun b hb => by
    have h1 : W.heap[b]? = some W.heap[b] := Array.getElem?_eq_getElem hb
    rw [h1]
    exact hs.sat b _ (hle.1 b _ h1)
  refine ⟨rfl, ⟨hs.os.trans hle.2.1, hs.tape.trans hle.2.2.1, hs.output.trans hle.2.2.2, ?_, hb⟩⟩
  rcases Nat.lt_or_ge w'.heap.size W.heap.size with h2 | h2
  · have := hb _ h2
    rw [Array.getElem?_eq_none (Nat.le_refl _), Array.getElem?_eq_getElem h2] at this
    cases this
  · exact h2

theorem immOf_cell {W : World} {a : Addr} {v : Value} (h : W.cell? a = some v) : (immOf W).cell a = some v := by
  unfold World.cell? at h
  unfold Imm.cell
  simp only [immOf]
  cases hb : W.heap[a.block]? with
  | none => rw [hb] at h; cases h
  | some o => rw [hb] at h; exact h

theorem cells_each {w : World} {base : Nat} {a : Addr} {n : Nat} {cs : List Value} (h : w.cells? base a n = some cs) : cs.length = n ∧ ∀ (j : Nat) (u : Value), cs[j]? = some u → w.cell? (a.add j) = some u := by
  unfold World.cells? at h
  split at h
  · have key : ∀ (l : List Nat) (cs : List Value), l.mapM (fun i => w.cell? (a.add i)) = some cs → cs.length = l.length ∧ ∀ (j : Nat) (u : Value), cs[j]? = some u → ∃ i, l[j]? = some i ∧ w.cell? (a.add i) = some u := by
      intro l
      induction l with
      | nil => intro cs h; simp at h; subst h; exact ⟨rfl, fun j u hj => by simp at hj⟩
      | cons i l ih =>
        intro cs h
        rw [List.mapM_cons] at h
        cases hc : w.cell? (a.add i) with
        | none => simp [hc] at h
        | some v =>
          cases hm : l.mapM (fun i => w.cell? (a.add i)) with
          | none => simp [hc, hm] at h
          | some vs =>
            simp [hc, hm] at h
            subst h
            obtain ⟨h1, h2⟩ := ih vs hm
            refine ⟨by simp [h1], fun j u hj => ?_⟩
            cases j with
            | zero => simp at hj; subst hj; exact ⟨i, rfl, hc⟩
            | succ j => simpa using h2 j u (by simpa using hj)
    obtain ⟨h1, h2⟩ := key _ _ h
    refine ⟨by simpa using h1, fun j u hj => ?_⟩
    obtain ⟨i, hi, hc⟩ := h2 j u hj
    have : i = j := by
      rw [List.getElem?_range (by have := (List.getElem?_eq_some_iff.1 hj).1; simp at h1; omega)] at hi
      exact (Option.some.inj hi).symm
    subst this; exact hc
  · cases h

theorem InR_of_wf {k : IntKind} {n : Int} (h : (Lit.int k n).wf = true) : InR k n := by
  cases k <;> simp [Lit.wf, IntKind.min, IntKind.max, IntKind.signed, IntKind.bits] at h <;> exact ⟨by simp only [loK]; omega, by simp only [hiK]; omega⟩

/-- What a type's data come to: a typed thing, and what is known of its size. -/
def Fits {α : Type} (P : Program) (t : TypeId) (E : Enc α) (Ok : α → Prop) : Prop :=
  ∀ {H : Type} (enc : TypeId × Value → H) (W : World) (fuel : Nat) (cs : List Value) (x : DataW H × List MemPlace),
    DataW.trod enc P W 0 (fun _ => true) true fuel t cs = some x → (x.1.weights P t).all (· ≤ reachBytes) = true → ∃ a, E.rep (immOf W) a cs ∧ Ok a

theorem Fits.int {P : Program} {t : TypeId} {k : IntKind} (ht : P.underlying t = some (.int k)) : Fits P t (eInt k) (fun n => InR k n) := by
  intro H enc W fuel cs x h _
  obtain ⟨n, rfl, rfl, hw⟩ := DataW.trod_int ht h
  exact ⟨n, ⟨rfl, InR_of_wf hw⟩, InR_of_wf hw⟩
theorem Fits.byte {P : Program} {t : TypeId} (ht : P.underlying t = some (.int .u8)) : Fits P t eByte (fun _ => True) := by
  intro H enc W fuel cs x h _
  obtain ⟨n, rfl, rfl, hw⟩ := DataW.trod_int ht h
  obtain ⟨h0, h1⟩ := InR_of_wf hw
  simp only [loK, hiK] at h0 h1
  refine ⟨UInt8.ofNat n.toNat, ?_, trivial⟩
  have : ((UInt8.ofNat n.toNat).toNat : Int) = n := by rw [UInt8.toNat_ofNat_of_lt' (by show _ < 256; omega)]; omega
  simp only [eByte, this]
theorem Fits.u32 {P : Program} {t : TypeId} (ht : P.underlying t = some (.int .u32)) : Fits P t eU32 (fun _ => True) := by
  intro H enc W fuel cs x h _
  obtain ⟨n, rfl, rfl, hw⟩ := DataW.trod_int ht h
  obtain ⟨h0, h1⟩ := InR_of_wf hw
  simp only [loK, hiK] at h0 h1
  refine ⟨UInt32.ofNat n.toNat, ?_, trivial⟩
  have : ((UInt32.ofNat n.toNat).toNat : Int) = n := by rw [UInt32.toNat_ofNat_of_lt' (by show _ < 4294967296; omega)]; omega
  simp only [eU32, this]
theorem Fits.bool {P : Program} {t : TypeId} (ht : P.underlying t = some .bool) : Fits P t eBool (fun _ => True) := by
  intro H enc W fuel cs x h _
  obtain ⟨b, rfl, rfl⟩ := DataW.trod_bool ht h
  exact ⟨b, rfl, trivial⟩
theorem Fits.str {P : Program} {t : TypeId} (ht : P.underlying t = some .string) : Fits P t eStr (fun s => s.size ≤ 140737488351232) := by
  intro H enc W fuel cs x h hw
  cases fuel with
  | zero => simp [DataW.trod] at h
  | succ n =>
    unfold DataW.trod at h
    rw [ht] at h
    split at h <;> simp_all
    obtain ⟨hs, rfl⟩ := h
    simp only [DataW.weights] at hw
    refine ⟨_, rfl, ?_⟩
    have h2 := hw _ List.mem_cons_self
    rw [Array.length_toList] at h2
    exact h2

theorem weightsAll_each {H : Type} {P : Program} {e : TypeId} {p : Nat → Bool} : ∀ {l : List (DataW H)}, (DataW.weightsAll P e l).all p = true → ∀ d ∈ l, (d.weights P e).all p = true
  | [], _, _, h => by cases h
  | d :: l, h, x, hx => by
    simp only [DataW.weightsAll, List.all_append, Bool.and_eq_true] at h
    rcases List.mem_cons.1 hx with rfl | hx
    · exact h.1
    · exact weightsAll_each h.2 x hx

theorem list_choose {α : Type} {R : Nat → α → Prop} : ∀ n, (∀ i, i < n → ∃ a, R i a) → ∃ l : List α, l.length = n ∧ ∀ i a, l[i]? = some a → R i a
  | 0, _ => ⟨[], rfl, fun i a h => by simp at h⟩
  | n + 1, h => by
    obtain ⟨l, hl, hr⟩ := list_choose n (fun i hi => h i (by omega))
    obtain ⟨a, ha⟩ := h n (by omega)
    refine ⟨l ++ [a], by simp [hl], fun i b hb => ?_⟩
    rw [List.getElem?_append] at hb
    split at hb
    · exact hr i b hb
    · have : i = n := by
        have := (List.getElem?_eq_some_iff.1 hb).1
        simp at this; omega
      subst this
      simp [hl] at hb
      subst hb; exact ha

theorem Fits.slice {α : Type} {P : Program} {t e : TypeId} {E : Enc α} {Ok : α → Prop} (by' : Nat) (ht : P.underlying t = some (.slice e)) (hc : P.cellsOf e = E.sz) (hb : P.bytesOf e = by') (he : Fits P e E Ok) :
    Fits P t (eSl E) (fun xs => xs.length * by' ≤ 140737488351232 ∧ ∀ x ∈ xs, Ok x) := by
  subst hb
  intro H enc W fuel cs x h hw
  rcases Deep.open_slice ht h with ⟨rfl, rfl⟩ | ⟨a, len, cap, m, n, D, Pl, rfl, hb0, hl, hm, hmm, rfl, hx⟩
  · exact ⟨[], ⟨none, 0, rfl, Nat.le_refl _, Rd.nil⟩, by simp, fun x hx => by cases hx⟩
  · simp only [DataW.weights, ht, List.all_cons, List.all_append, Bool.and_eq_true, List.length_map, List.length_range, decide_eq_true_eq] at hw
    obtain ⟨hw1, hw2, _⟩ := hw
    have hlm : len ≤ m := by rw [hmm]; split <;> omega
    obtain ⟨l, hlen, hl2⟩ := list_choose (R := fun i y => (∃ cs', W.cells? 0 (a.add (i * P.cellsOf e)) (P.cellsOf e) = some cs' ∧ E.rep (immOf W) y cs') ∧ Ok y) len (fun i hi => by
      obtain ⟨cs', h1, h2⟩ := hx i (by omega)
      obtain ⟨y, hy, hok⟩ := he enc W n cs' _ h2 (weightsAll_each hw2 (D i) (List.mem_map.2 ⟨i, by simpa using hi, rfl⟩))
      exact ⟨y, ⟨cs', h1, hy⟩, hok⟩)
    refine ⟨l, ⟨some a, cap, by rw [hlen], by omega, ?_⟩, ?_, ?_⟩
    · intro i y hi
      obtain ⟨⟨cs', h1, h2⟩, _⟩ := hl2 i y hi
      refine ⟨cs', h2, fun j u hj => ⟨a, rfl, immOf_cell ?_⟩⟩
      have := (cells_each h1).2 j u hj
      rw [← add_add, ← hc]; exact this
    · rw [hlen]
      have : len * P.bytesOf e ≤ (len + (m - len)) * P.bytesOf e := Nat.mul_le_mul_right _ (by omega)
      have : reachBytes = 140737488351232 := rfl
      omega
    · intro y hy
      obtain ⟨i, hi⟩ := List.getElem?_of_mem hy
      exact (hl2 i y hi).2

def eUnit : Enc Unit where
  sz := 0
  rep _ _ cs := cs = []
  len h := by rw [h]; rfl
  mono _ h := h
  one h u hu := by rw [h] at hu; cases hu

/-- What a struct's fields come to, from a place on. -/
def FitsL {α : Type} (P : Program) (fs : List Field) (off : Nat) (E : Enc α) (Ok : α → Prop) : Prop :=
  ∀ {H : Type} (enc : TypeId × Value → H) (W : World) (fuel : Nat) (cs : List Value) (xs : List (DataW H × List MemPlace)),
    (fs.mapM fun f => DataW.trod enc P W 0 (fun _ => true) true fuel f.type ((cs.drop f.offset).take (P.cellsOf f.type))) = some xs → (DataW.weightsEach P (fs.map (·.type)) (xs.map (·.1))).all (· ≤ reachBytes) = true →
    ∃ a, E.rep (immOf W) a ((cs.drop off).take E.sz) ∧ Ok a

theorem FitsL.nil {P : Program} {off : Nat} : FitsL P [] off eUnit (fun _ => True) := fun _ _ _ _ _ _ _ => ⟨(), by simp [eUnit], trivial⟩
theorem FitsL.cons {α β : Type} {P : Program} {f : Field} {fs : List Field} {off : Nat} {E : Enc α} {G : Enc β} {Ok : α → Prop} {Ok' : β → Prop} (ho : f.offset = off) (hc : P.cellsOf f.type = E.sz)
    (h1 : Fits P f.type E Ok) (h2 : FitsL P fs (off + E.sz) G Ok') : FitsL P (f :: fs) off (ePair E G) (fun x => Ok x.1 ∧ Ok' x.2) := by
  intro H enc W fuel cs xs h hw
  rw [List.mapM_cons] at h
  cases ha : DataW.trod enc P W 0 (fun _ => true) true fuel f.type ((cs.drop f.offset).take (P.cellsOf f.type)) with
  | none => simp [ha] at h
  | some y =>
    cases hm : (fs.mapM fun f => DataW.trod enc P W 0 (fun _ => true) true fuel f.type ((cs.drop f.offset).take (P.cellsOf f.type))) with
    | none => simp [ha, hm] at h
    | some ys =>
      simp [ha, hm] at h
      subst h
      simp only [List.map_cons, DataW.weightsEach, List.all_append, Bool.and_eq_true] at hw
      obtain ⟨a, hra, hoa⟩ := h1 enc W fuel _ _ ha hw.1
      obtain ⟨b, hrb, hob⟩ := h2 enc W fuel _ _ hm hw.2
      refine ⟨(a, b), ⟨_, _, ?_, hra, hrb⟩, hoa, hob⟩
      rw [ho, hc]
      show List.take (E.sz + G.sz) (List.drop off cs) = _
      rw [List.take_add, List.drop_drop]

theorem Fits.struct {α : Type} {P : Program} {t : TypeId} {fs : Array Field} {E : Enc α} {Ok : α → Prop} (ht : P.underlying t = some (.struct fs)) (hc : P.cellsOf t = E.sz) (h : FitsL P fs.toList 0 E Ok) : Fits P t E Ok := by
  intro H enc W fuel cs x hx hw
  cases fuel with
  | zero => simp [DataW.trod] at hx
  | succ n =>
    unfold DataW.trod at hx
    rw [ht] at hx
    simp only at hx
    split at hx
    · next hl =>
      cases hm : (fs.toList.mapM fun f => DataW.trod enc P W 0 (fun _ => true) true n f.type ((cs.drop f.offset).take (P.cellsOf f.type))) with
      | none => simp [hm] at hx
      | some xs =>
        simp [hm] at hx
        subst hx
        simp only [DataW.weights, ht] at hw
        obtain ⟨a, ha, hok⟩ := h enc W n cs xs hm hw
        refine ⟨a, ?_, hok⟩
        rwa [List.drop_zero, List.take_of_length_le (by omega)] at ha
    · cases hx

/-- An argument of one cell. -/
theorem Fits.arg {α H : Type} {P : Program} {t : TypeId} {E : Enc α} {Ok : α → Prop} (h : Fits P t E Ok) {enc : TypeId × Value → H} {W : World} {v : Value} {d : DataW H} {ps : List MemPlace} (hv : v.cells = #[v])
    (hd : DataW.Trod enc P W 0 (fun _ => true) true t v d ps) {ts : List TypeId} {ds : List (DataW H)} (hw : (DataW.weightsEach P ts ds).all (· ≤ reachBytes) = true) {j : Nat} (hj : ts[j]? = some t) (hdj : ds[j]? = some d) :
    ∃ a, E.rep (immOf W) a [v] ∧ Ok a := by
  obtain ⟨fuel, hf⟩ := hd
  rw [hv] at hf
  refine h enc W fuel [v] _ hf ?_
  rw [List.all_eq_true] at hw ⊢
  exact fun x hx => hw x (DataW.weights_mem_each hj hdj x hx)
end Go.Eng

/- The engine, part J: pieces of a row in place: append onto a piece, clear, a row as a block and back. No function of the program is proved here. -/
namespace Go.Eng
section
variable {P : Program} {N : Nat} {all : Array Oper} {o : Oper} {rest : List Oper} {fr : Frm} {I : Imm} {L : List Ent} {Q : Post} {c : Code}
variable {ty : TypeId} {pos : String} {aft : Array Edge} {gd : Option (Nat × Bool)} {d : Option Tmp} {x y z q : Operand} {v vx vy : Value} {K : Frm → Imm → List Ent → Prop}

/-- Order is of no weight. -/
theorem Cd.perm {L' : List Ent} {cd : Code} {Q : Post} (hp : L.Perm L') (k : Cd P N cd fr I L' Q) : Cd P N cd fr I L Q := fun a w ha hs => k a w ha (hs.perm hp)
theorem Opz.perm {L' : List Ent} {ops : List Oper} (hp : L.Perm L') (k : Opz P N all ops fr I L' K) : Opz P N all ops fr I L K := fun a w Q0 ha hs hk => k a w Q0 ha (hs.perm hp) hk
theorem RdC.of {A : Option Addr} {cs : List Value} {L' : List Ent} (h : RdC I L A cs) (hs : L.Sublist L') : RdC I L' A cs := fun w hw => h w (hw.sublist hs)
theorem cellsOfRow {A : Option Addr} {ad : Addr} {cs ds : List Value} {i sz : Nat} (hr : RdC I L A cs) (hA : A = some ad) (hsub : ∀ (j : Nat) (u : Value), ds[j]? = some u → cs[i * sz + j]? = some u) : ∀ w, HS I L w → CellsAt w (ad.add (i * sz)) ds := by
  intro w hs j hj
  obtain ⟨a, ha, hc⟩ := hr w hs (i * sz + j) ds[j] (hsub j _ (List.getElem?_eq_getElem hj))
  rw [hA] at ha
  cases ha
  rw [add_add, hc, List.getElem?_eq_getElem hj]
theorem cellOfRow {A : Option Addr} {ad : Addr} {cs : List Value} {i sz j : Nat} {u : Value} (hr : RdC I L A cs) (hA : A = some ad) (h : cs[i * sz + j]? = some u) : ∀ w, HS I L w → w.cell? ((ad.add (i * sz)).add j) = some u := by
  intro w hs
  obtain ⟨a, ha, hc⟩ := hr w hs (i * sz + j) u h
  rw [hA] at ha
  cases ha
  rw [add_add]; exact hc
theorem Take.whole : ∀ (L : List Ent), Take L L []
  | [] => .nil
  | _ :: L => .cons .head (Take.whole L)
/-- A call that is handed all there is. -/
theorem W.callAll {f : Operand} {args : Array Operand} {ts : Array TypeId} {k : FuncId} {fs cs : Array Value} {vs as : List Value} {post : Value → Imm → List Ent → Prop}
    (hf : evF fr f = some (.func (.func k) fs cs)) (ha : evL fr args.toList = some vs) (hc : ∀ as w, (callFunc k as).run P w = .ok (.enter k as) w)
    (hs : Meets P k as.toArray I L post) (hag : fs.toList ++ vs ++ cs.toList = as) :
    Acts P N fr I L ⟨d, .call ⟨.value f, args, ts⟩, ty, pos, aft, gd⟩ (fun v I' L' => I.le I' ∧ post v I' L') := by
  intro a w next Q haF hw hk
  refine W.call (F := []) hf ha hc hs hag (L := L) ?_ a w next Q haF hw (fun v I' L' w' hs' hp => ?_)
  · exact Take.whole L
  · obtain ⟨hle, M, hp, rfl⟩ := hp
    rw [List.append_nil] at hs' 
    exact hk v I' M w' hs' ⟨hle, hp⟩
theorem Take.skipL : ∀ (M0 : List Ent) {L M R : List Ent}, Take L M R → Take (M0 ++ L) M (M0 ++ R)
  | [], _, _, _, h => h
  | _ :: M0, _, _, _, h => Take.skip (Take.skipL M0 h)
/-- A call that takes what stands behind some entries, which stay in front. -/
theorem W.callB {f : Operand} {args : Array Operand} {ts : Array TypeId} {k : FuncId} {fs cs : Array Value} {vs as : List Value} {Lp F : List Ent} {post : Value → Imm → List Ent → Prop} (B : List Ent)
    (hf : evF fr f = some (.func (.func k) fs cs)) (ha : evL fr args.toList = some vs) (hc : ∀ as w, (callFunc k as).run P w = .ok (.enter k as) w)
    (hs : Meets P k as.toArray I Lp post) (hag : fs.toList ++ vs ++ cs.toList = as) (ht : Take L Lp (B ++ F)) :
    Acts P N fr I L ⟨d, .call ⟨.value f, args, ts⟩, ty, pos, aft, gd⟩ (fun v I' L' => I.le I' ∧ ∃ M, post v I' M ∧ L' = B ++ (M ++ F)) := by
  intro a w next Q haF hw hk
  refine W.call (F := B ++ F) hf ha hc hs hag ht a w next Q haF hw (fun v I' L' w' hs' hp => ?_)
  obtain ⟨hle, M, hp, rfl⟩ := hp
  exact hk v I' _ w' (hs'.perm (List.perm_append_comm_assoc _ _ _)) ⟨hle, M, hp, rfl⟩
/-- x[l:h:m] of a slice. -/
theorem R.slLHM {t e : TypeId} {A : Option Addr} {n c : Nat} {k k' k'' : IntKind} {i j m : Int} {info : TypeInfo} (sz : Nat) (hx : evF fr x = some (.slice A n c)) (hy : evF fr y = some (.int k i)) (hz : evF fr z = some (.int k' j)) (hq : evF fr q = some (.int k'' m)) (ht : P.underlying t = some (.slice e)) (hi : ∀ w, (typeInfo e).run P w = .ok info w)
    (hsz : info.size = sz) (h : 0 ≤ i ∧ i ≤ j ∧ j ≤ m ∧ m ≤ c) : RunsTo P fr I L ⟨d, .slice t x (some y) (some z) (some q), ty, pos, aft, gd⟩ (.slice (if m.toNat = i.toNat then A else A.map (·.add (i.toNat * sz))) (j.toNat - i.toNat) (m.toNat - i.toNat)) := fun ρ w hρ _ => by
  subst hsz
  have hb : (Instr.sliceBounds true n c (some (.int k i)) (some (.int k' j)) (some (.int k'' m))).run P w = .ok (i.toNat, j.toNat, m.toNat) w := by
    simp [Instr.sliceBounds, run_sb (P := P) (w := w) (k := k'') (i := m) (y := c) (code := .slice3Acap) ⟨by omega, by omega⟩, run_sb (P := P) (w := w) (k := k') (i := j) (y := m.toNat) (code := .slice3B) ⟨by omega, by omega⟩, run_sb (P := P) (w := w) (k := k) (i := i) (y := j.toNat) (code := .slice3C) ⟨by omega, by omega⟩]
  have := run_sl (A := A) ht hi hb
  simp [execOp, hρ x _ hx, hρ y _ hy, hρ z _ hz, hρ q _ hq, this]

/-- A row as a block, with its room. -/
theorem HS.rowBlkC {w : World} {A : Option Addr} {n c sz : Nat} {e : TypeId} {xs : List Value} (h : HS I (.row (.slice A n c) e sz n xs :: L) w) (hn : 0 < n) :
    ∃ g spare, A = some ⟨g, 0, none⟩ ∧ c * sz ≤ (xs ++ spare).length ∧ n ≤ c ∧ c ≤ maxLen ∧ xs.length = n * sz ∧ HS I (.blk g e (xs ++ spare) :: L) w := by
  obtain ⟨hl, ⟨h1, h0⟩ | ⟨g, cap, cur, h1, _, hg, hnc, hcm, hcs, htake⟩⟩ := h.ents _ List.mem_cons_self
  · omega
  · simp only [Value.slice.injEq] at h1
    obtain ⟨rfl, _, rfl⟩ := h1
    have e1 : (xs ++ cur.toList.drop (n * sz)).toArray = cur := by rw [← htake, List.take_append_drop]
    refine ⟨g, cur.toList.drop (n * sz), rfl, ?_, hnc, hcm, hl, ?_⟩
    · rw [← htake, List.take_append_drop, Array.length_toList]; exact hcs
    · refine h.swap (fun _ _ _ => rfl) ?_ (fun b hb => .inl (by simpa [Ent.own, Value.ownBlock] using hb)) rfl rfl rfl
      simp only [Ent.ok, e1]; exact hg
theorem Cd.rowBlkC {A : Option Addr} {n c sz : Nat} {e : TypeId} {xs : List Value} {L' : List Ent} {cd : Code} {Q : Post} (hr : Rem L (.row (.slice A n c) e sz n xs) L') (hn : 0 < n)
    (k : ∀ g spare, A = some ⟨g, 0, none⟩ → c * sz ≤ (xs ++ spare).length → n ≤ c → c ≤ maxLen → xs.length = n * sz → Cd P N cd fr I (.blk g e (xs ++ spare) :: L') Q) : Cd P N cd fr I L Q := by
  intro a w ha hs
  obtain ⟨g, spare, hA, h1, h2, h3, h4, hs'⟩ := (hs.perm hr.perm).rowBlkC hn
  exact k g spare hA h1 h2 h3 h4 a w ha hs'
/-- A block as a row. -/
theorem HS.blkRow {w : World} {g n c sz : Nat} {e : TypeId} {cs : List Value} (h : HS I (.blk g e cs :: L) w) (hl : c * sz ≤ cs.length) (hn : n ≤ c) (hc : c ≤ maxLen) :
    HS I (.row (.slice (some ⟨g, 0, none⟩) n c) e sz n (cs.take (n * sz)) :: L) w := by
  have hg : w.heap[g]? = some (.cells cs.toArray e (0, 0)) := h.ents _ List.mem_cons_self
  refine h.swap (fun _ _ _ => rfl) ⟨?_, .inr ⟨g, c, cs.toArray, rfl, Nat.zero_le _, hg, hn, hc, by simpa using hl, rfl⟩⟩ (fun b hb => .inl (by simpa [Ent.own, Value.ownBlock] using hb)) rfl rfl rfl
  rw [List.length_take]
  exact Nat.min_eq_left (Nat.le_trans (Nat.mul_le_mul_right _ hn) hl)
theorem Cd.blkRow {g : Nat} (n c sz : Nat) {e : TypeId} {cs : List Value} {L' : List Ent} {cd : Code} {Q : Post} (hr : Rem L (.blk g e cs) L') (hl : c * sz ≤ cs.length) (hn : n ≤ c) (hc : c ≤ maxLen)
    (k : Cd P N cd fr I (.row (.slice (some ⟨g, 0, none⟩) n c) e sz n (cs.take (n * sz)) :: L') Q) : Cd P N cd fr I L Q := fun a w ha hs => k a w ha ((hs.perm hr.perm).blkRow hl hn hc)
theorem Opz.blkRow {g : Nat} (n c sz : Nat) {e : TypeId} {cs : List Value} {L' : List Ent} {ops : List Oper} (hr : Rem L (.blk g e cs) L') (hl : c * sz ≤ cs.length) (hn : n ≤ c) (hc : c ≤ maxLen)
    (k : Opz P N all ops fr I (.row (.slice (some ⟨g, 0, .none⟩) n c) e sz n (cs.take (n * sz)) :: L') K) : Opz P N all ops fr I L K := fun a w Q0 ha hs hk => k a w Q0 ha ((hs.perm hr.perm).blkRow hl hn hc) hk

theorem storeCells_base (b : Nat) : ∀ (vs : List Value) (off i : Nat), storeCells ⟨b, off, none⟩ vs i = storeCells ⟨b, 0, none⟩ vs (off + i)
  | [], _, _ => rfl
  | v :: vs, off, i => by
    have h1 : (⟨b, off, none⟩ : Addr).add i = (⟨b, 0, none⟩ : Addr).add (off + i) := by rw [add_blk, add_blk, Nat.zero_add]
    simp only [storeCells, h1, storeCells_base b vs off (i + 1), Nat.add_assoc]

/-- What is appended lies in the room of a block of our own. -/
theorem W.appendIn {t e : TypeId} {ad : Option Addr} {g n c m c' sz : Nat} {cs news : List Value} {L' : List Ent} {info : TypeInfo} (hx : evF fr x = some (.slice (some ⟨g, 0, .none⟩) n c)) (hy : evF fr y = some (.slice ad m c'))
    (ht : P.underlying t = some (.slice e)) (hi : ∀ w, (typeInfo e).run P w = .ok info w) (hsz : info.size = sz)
    (hl : news.length = m * sz) (hnews : ∀ w, HS I L w → ∀ j u, news[j]? = some u → ∃ a, ad = some a ∧ w.cell? (a.add j) = some u) (h1 : ∀ u ∈ news, u.oneCell' = true) (hm0 : ad = none → m = 0)
    (hroom : n + m ≤ c) (hfit : n * sz + news.length ≤ cs.length) (hu : Upd L (.blk g e cs) (.blk g e (cs.take (n * sz) ++ news ++ cs.drop (n * sz + news.length))) L') :
    Acts P N fr I L ⟨d, .call ⟨.builtin .append, #[x, y], #[t, t]⟩, ty, pos, aft, gd⟩ (Is (.slice (some ⟨g, 0, .none⟩) (n + m) c) I L') := by
  subst hsz
  intro a w next Q ha hs hk
  have hb : w.heap[g]? = some (.cells cs.toArray e (0, 0)) := hs.ents _ hu.mem
  obtain ⟨w', hr, hh, hfar, hsz', ho, htp, hou⟩ := run_storeCells (P := P) news (n * info.size) w g e cs hb hfit h1
  have hfirst : (Builtin.firstCells info.size m (.slice ad m c')).run P w = .ok news.toArray w := by
    cases ad with
    | none =>
      have hm := hm0 rfl
      subst hm
      have : news = [] := List.eq_nil_of_length_eq_zero (by simpa using hl)
      subst this
      simp [Builtin.firstCells]
    | some ad => exact run_firstCells_some (P := P) w info.size m ad m c' news hl (fun j u hj => by obtain ⟨a, ha, hc⟩ := hnews w hs j u hj; simp only [Option.some.injEq] at ha; subst ha; exact hc)
  have hrun : (Builtin.append_ #[t, t] ty #[.slice (some ⟨g, 0, none⟩) n c, .slice ad m c']).run P w = .ok (.slice (some ⟨g, 0, none⟩) (n + m) c) w' := by
    have hst : (storeCells ((⟨g, 0, none⟩ : Addr).add (n * info.size)) news 0).run P w = .ok () w' := by
      rw [add_blk, Nat.zero_add, storeCells_base, Nat.add_zero]; exact hr
    simp [Builtin.append_, run_und ht, sizeOf, hi, Builtin.lenOf, hroom, hfirst, hst]
  have hr' : (execOp a.eval ⟨d, .call ⟨.builtin .append, #[x, y], #[t, t]⟩, ty, pos, aft, gd⟩).run P w = .ok (.value (.slice (some ⟨g, 0, none⟩) (n + m) c)) w' := by
    simp [execOp, resolve, invoke, builtin, ha.ev hx, ha.ev hy, hrun]
  unfold Oper.wp
  rw [hr', Oper.upon_value]
  exact hk _ _ L' w' (hs.upd hu (fun c _ hne => hfar c (fun e => hne (by simp [Ent.own, e]))) hh (fun c hc => .inl hc) ho htp hou) ⟨rfl, rfl, rfl⟩

theorem mem_zeroCells {z : Array Value} {n : Nat} {u : Value} (h : u ∈ Builtin.zeroCells z n) : u ∈ z := by
  unfold Builtin.zeroCells at h
  obtain ⟨i, hi, rfl⟩ := Array.mem_map.1 h
  have hn : i < n * z.size := by simpa using hi
  have hp : 0 < z.size := Nat.pos_of_ne_zero (by intro e; rw [e, Nat.mul_zero] at hn; omega)
  have hlt : i % z.size < z.size := Nat.mod_lt _ hp
  rw [getElem!_pos z (i % z.size) hlt]
  exact Array.getElem_mem hlt
/-- clear of a piece of a block of our own. -/
theorem W.clear {t e : TypeId} {g off m c sz : Nat} {ad : Addr} {cs : List Value} {L' : List Value → List Ent} {zv : Value} (hx : evF fr x = some (.slice (some ad) m c)) (had : ad = ⟨g, off, .none⟩)
    (ht : P.underlying t = some (.slice e)) (hz : ∀ w, (zeroValue e).run P w = .ok zv w) (hzs : zv.cells.size = sz) (hz1 : ∀ u ∈ zv.cells, u.oneCell' = true) (hfit : off + m * sz ≤ cs.length)
    (hu : ∀ zs : List Value, Upd L (.blk g e cs) (.blk g e (cs.take off ++ zs ++ cs.drop (off + m * sz))) (L' zs)) :
    Acts P N fr I L ⟨d, .call ⟨.builtin .clear, #[x], #[t]⟩, ty, pos, aft, gd⟩ (fun _ I2 L2 => ∃ zs : List Value, zs.length = m * sz ∧ I = I2 ∧ L2 = L' zs) := by
  subst had
  intro a w next Q ha hs hk
  have hb : w.heap[g]? = some (.cells cs.toArray e (0, 0)) := hs.ents _ (hu []).mem
  have hzl : (Builtin.zeroCells zv.cells m).size = m * sz := by rw [size_zeroCells, hzs]
  have hz1' : ∀ u ∈ (Builtin.zeroCells zv.cells m).toList, u.oneCell' = true := by
    intro u hu
    refine hz1 u ?_
    have := mem_zeroCells (Array.mem_toList_iff.1 hu)
    exact this
  obtain ⟨w', hr, hh, hfar, hsz', ho, htp, hou⟩ := run_storeCells (P := P) (Builtin.zeroCells zv.cells m).toList off w g e cs hb (by rw [Array.length_toList, hzl]; exact hfit) hz1'
  by_cases hm : m = 0
  · subst hm
    have hr' : (execOp a.eval ⟨d, .call ⟨.builtin .clear, #[x], #[t]⟩, ty, pos, aft, gd⟩).run P w = .ok (.value (.tuple #[])) w := by
      simp [execOp, resolve, invoke, builtin, ha.ev hx, Builtin.clear_, run_und ht]
    unfold Oper.wp
    rw [hr', Oper.upon_value]
    refine hk _ I (L' []) w ?_ ⟨[], by simp, rfl, rfl⟩
    refine hs.upd (hu []) (fun _ _ _ => rfl) ?_ (fun c hc => .inl hc) rfl rfl rfl
    simp only [Ent.ok, List.append_nil, Nat.zero_mul, Nat.add_zero, List.take_append_drop]; exact hb
  · have hr' : (execOp a.eval ⟨d, .call ⟨.builtin .clear, #[x], #[t]⟩, ty, pos, aft, gd⟩).run P w = .ok (.value (.tuple #[])) w' := by
      have hcl : (Builtin.clear_ #[t] ty #[.slice (some ⟨g, off, none⟩) m c]).run P w = .ok (.tuple #[]) w' := by
        have hst : (storeCells ⟨g, off, none⟩ (Builtin.zeroCells zv.cells m).toList 0).run P w = .ok () w' := by rw [storeCells_base, Nat.add_zero]; exact hr
        cases m with
        | zero => exact absurd rfl hm
        | succ m => simp [Builtin.clear_, run_und ht, hz, hst]
      simp [execOp, resolve, invoke, builtin, ha.ev hx, hcl]
    unfold Oper.wp
    rw [hr', Oper.upon_value]
    refine hk _ I (L' (Builtin.zeroCells zv.cells m).toList) w' ?_ ⟨_, by rw [Array.length_toList, hzl], rfl, rfl⟩
    refine hs.upd (hu _) (fun c _ hne => hfar c (fun e => hne (by simp [Ent.own, e]))) ?_ (fun c hc => .inl hc) ho htp hou
    simp only [Ent.ok]
    rw [hh, Array.length_toList, hzl]
end
end Go.Eng

/- The engine, part K: a region that draws its order, whose last operation follows all the others. No function of the program is proved here. -/
namespace Go.Eng
section
variable {P : Program} {N : Nat} {fr : Frm} {I : Imm} {L : List Ent} {K : Frm → Imm → List Ent → Prop}

/-- It follows all the others, and stands under no guard; no other one is guarded by it. -/
def lastOK (l : List Oper) (o : Oper) : Bool :=
  ((List.range l.length).all fun j => o.after.toList.any fun e => bnd e && Nat.beq e.on j) && (o.after.toList.all fun e => !bnd e || Nat.blt e.on l.length) && o.guard.isNone &&
  (l.all fun u => match u.guard with | none => true | some g => Nat.blt g.1 l.length)

def lastQ (P : Program) (o : Oper) (Q : Exit → Act → World → Prop) : Exit → Act → World → Prop
  | .normal, a, w => o.wp P a w (fun a' w' => Q .normal a' w') Q ∨ (o.asks P a w ∧ LetsOut Q)
  | e, a, w => Q e a w

theorem lastQ_letsOut {o : Oper} {Q : Exit → Act → World → Prop} (h : LetsOut (lastQ P o Q)) : LetsOut Q := by
  obtain ⟨a, w, h⟩ := h; exact ⟨a, w, h⟩

theorem wp_lastQ {o u : Oper} {a : Act} {w : World} {K K' : Act → World → Prop} {Q : Exit → Act → World → Prop} (h : ∀ a w, K a w → K' a w) (hh : u.wp P a w K (lastQ P o Q)) : u.wp P a w K' Q := by
  unfold Oper.wp at *
  generalize (execOp a.eval u).run P w = r at *
  cases r with
  | ok n w' =>
    cases n <;> simp only [Oper.upon] at hh ⊢ <;>
      first
        | exact h _ _ hh
        | exact Calls.mono hh (fun e w'' he => by cases e <;> first | exact h _ _ he | exact he | exact lastQ_letsOut he)
        | exact Rows.mono hh (fun _ _ he => h _ _ he)
  | halt x w' => cases x <;> simp only [Oper.upon] at hh ⊢ <;> exact hh

theorem yielded_last {l : List Oper} {o : Oper} {t : Array Value} {j : Nat} (h : j < l.length) : yielded (l ++ [o]).toArray t j = yielded l.toArray t j := by
  unfold yielded
  have : ((l ++ [o]).toArray)[j]? = (l.toArray)[j]? := by simp [List.getElem?_append_left h]
  rw [this]

theorem wpOp_lastQ {l : List Oper} {o : Oper} {i : Nat} {a : Act} {w : World} {K K' : Act → World → Prop} {Q : Exit → Act → World → Prop} (hl : lastOK l o = true) (hi : i < l.length) (h : ∀ a w, K a w → K' a w)
    (hh : wpOp P l.toArray (lastQ P o Q) i K a w) : wpOp P (l ++ [o]).toArray Q i K' a w := by
  have e1 : ((l ++ [o]).toArray)[i]? = some l[i] := by simp [List.getElem?_append_left hi]
  have e2 : (l.toArray)[i]? = some l[i] := by simp [hi]
  unfold wpOp at *
  rw [e2] at hh
  rw [e1]
  simp only at hh ⊢
  have hw : Region.wanted l[i] (yielded (l ++ [o]).toArray a.tmps) = Region.wanted l[i] (yielded l.toArray a.tmps) := by
    unfold Region.wanted
    cases hg : l[i].guard with
    | none => rfl
    | some p =>
      obtain ⟨j, want⟩ := p
      simp only
      unfold lastOK at hl
      simp only [Bool.and_eq_true, List.all_eq_true] at hl
      have h3 := hl.2 l[i] (List.getElem_mem hi)
      rw [hg] at h3
      rw [yielded_last (by simpa [Nat.blt_eq] using h3)]
  rw [hw]
  split
  · next hc =>
    rw [if_pos hc] at hh
    rcases hh with hh | ⟨h1, h2⟩
    · exact .inl (wp_lastQ h hh)
    · exact .inr ⟨h1, lastQ_letsOut h2⟩
  · next hc => rw [if_neg hc] at hh; exact h _ _ hh

theorem ready_last {l : List Oper} {o : Oper} {T : Array Bool} (hT : T.size = l.length) {i : Nat} (h : i ∈ Region.ready .any (l ++ [o]).toArray (T.push false)) (hok : okRegion l.toArray = true) :
    i = l.length ∨ (i < l.length ∧ i ∈ Region.ready .any l.toArray T) := by
  obtain ⟨u, hu, hTi, hd⟩ := ready_iff.1 h
  have hlt := (Array.getElem?_eq_some_iff.1 hu).1
  simp at hlt
  rcases Nat.lt_or_ge i l.length with h1 | h1
  · right
    have hu' : (l.toArray)[i]? = some u := by simpa [List.getElem?_append_left h1] using hu
    refine ⟨h1, ready_iff.2 ⟨u, hu', ?_, fun e he hb => ?_⟩⟩
    · rw [Array.getD_eq_getD_getElem?, Array.getElem?_push, if_neg (by omega)] at hTi
      rw [Array.getD_eq_getD_getElem?]; exact hTi
    · have h2 := hd e he hb
      have h3 := okRegion_edge hok hu' e he hb
      rw [Array.getD_eq_getD_getElem?, Array.getElem?_push, if_neg (by omega)] at h2
      rw [Array.getD_eq_getD_getElem?]; exact h2
  · left; omega

theorem wpAny_all {ops : Array Oper} {Q : Exit → Act → World → Prop} {fuel : Nat} {T : Array Bool} {a : Act} {w : World} (hall : ∀ i, i < ops.size → T[i]? = some true) (h : Q .normal a w) : wpAny P .any ops Q fuel T a w := by
  have hr : Region.ready .any ops T = [] := by
    cases hr : Region.ready .any ops T with
    | nil => rfl
    | cons i r =>
      exfalso
      have hi : i ∈ Region.ready .any ops T := by rw [hr]; exact List.mem_cons_self
      obtain ⟨u, hu, hTi, _⟩ := ready_iff.1 hi
      rw [Array.getD_eq_getD_getElem?, hall i (Array.getElem?_eq_some_iff.1 hu).1] at hTi
      cases hTi
  cases fuel with
  | zero => exact ⟨hr, h⟩
  | succ n => exact ⟨fun _ => h, fun i hi => by rw [hr] at hi; cases hi⟩

theorem push_all {T : Array Bool} {n : Nat} (hT : T.size = n) (h : ∀ i, i < n → T[i]? = some true) : ∀ i, i < n + 1 → ((T.push false).setIfInBounds n true)[i]? = some true := by
  intro i hi
  rw [Array.getElem?_setIfInBounds]
  split
  · next e => subst e; simp [hT]
  · next e => rw [Array.getElem?_push, if_neg (by omega)]; exact h i (by omega)

/-- The last one is taken behind all the others. -/
theorem wpAny_last {l : List Oper} {o : Oper} {Q : Exit → Act → World → Prop} (hok : okRegion l.toArray = true) (hl : lastOK l o = true) :
    ∀ fuel (T : Array Bool) a w, T.size = l.length → wpAny P .any l.toArray (lastQ P o Q) fuel T a w → wpAny P .any (l ++ [o]).toArray Q (fuel + 1) (T.push false) a w := by
  have hl' := hl
  unfold lastOK at hl'
  simp only [Bool.and_eq_true, List.all_eq_true, List.any_eq_true, List.mem_range, Option.isNone_iff_eq_none] at hl'
  obtain ⟨⟨⟨hcov, hbk⟩, hgn⟩, _⟩ := hl'
  have eo : ((l ++ [o]).toArray)[l.length]? = some o := by simp
  -- the last one, when all the others are taken
  have fin : ∀ fuel (T : Array Bool) a w, T.size = l.length → (∀ i, i < l.length → T[i]? = some true) → lastQ P o Q .normal a w → wpOp P (l ++ [o]).toArray Q l.length (wpAny P .any (l ++ [o]).toArray Q fuel ((T.push false).setIfInBounds l.length true)) a w := by
    intro fuel T a w hT hall h
    unfold wpOp
    rw [eo]
    simp only
    rw [if_pos (by unfold Region.wanted; rw [hgn])]
    rcases h with h | h
    · exact .inl (Oper.wp_mono (fun a' w' hq => wpAny_all (fun i hi => push_all hT hall i (by simpa using hi)) hq) h)
    · exact .inr h
  -- it may not come before
  have notyet : ∀ (T : Array Bool), T.size = l.length → l.length ∈ Region.ready .any (l ++ [o]).toArray (T.push false) → ∀ i, i < l.length → T[i]? = some true := by
    intro T hT h i hi
    obtain ⟨u, hu, _, hd⟩ := ready_iff.1 h
    rw [eo] at hu; simp only [Option.some.injEq] at hu; subst hu
    obtain ⟨e, he, hb, hj⟩ := hcov i hi
    have hj' : e.on = i := by simpa using hj
    have h2 := hd e (by simpa using he) hb
    rw [hj', Array.getD_eq_getD_getElem?, Array.getElem?_push, if_neg (by omega)] at h2
    cases hx : T[i]? with
    | none => rw [hx] at h2; cases h2
    | some b => rw [hx] at h2; simp at h2; rw [h2]
  -- when none of the others may come next, all are taken, and the last one may
  have isready : ∀ (T : Array Bool), T.size = l.length → Region.ready .any l.toArray T = [] → l.length ∈ Region.ready .any (l ++ [o]).toArray (T.push false) := by
    intro T hT hr
    have hall := all_listed hok (by simpa using hT) hr
    refine ready_iff.2 ⟨o, eo, ?_, fun e he hb => ?_⟩
    · rw [Array.getD_eq_getD_getElem?, Array.getElem?_push, if_pos (by omega)]; rfl
    · have h3 := hbk e (by simpa using he)
      rw [hb] at h3
      have h4 : e.on < l.length := by simpa [Nat.blt_eq] using h3
      rw [Array.getD_eq_getD_getElem?, Array.getElem?_push, if_neg (by omega), hall e.on (by simpa using h4)]; rfl
  intro fuel
  induction fuel with
  | zero =>
    intro T a w hT h
    obtain ⟨hr, hq⟩ := h
    refine ⟨fun he => ?_, fun i hi => ?_⟩
    · have := isready T hT hr; rw [he] at this; cases this
    · rcases ready_last hT hi hok with rfl | ⟨_, h2⟩
      · exact fin 0 T a w hT (notyet T hT hi) hq
      · rw [hr] at h2; cases h2
  | succ fuel ih =>
    intro T a w hT h
    obtain ⟨hq, hs⟩ := h
    refine ⟨fun he => ?_, fun i hi => ?_⟩
    · cases hr : Region.ready .any l.toArray T with
      | nil => have := isready T hT hr; rw [he] at this; cases this
      | cons j r =>
        exfalso
        have hj : j ∈ Region.ready .any l.toArray T := by rw [hr]; exact List.mem_cons_self
        obtain ⟨u, hu, hTj, hd⟩ := ready_iff.1 hj
        have hjl := (Array.getElem?_eq_some_iff.1 hu).1
        simp at hjl
        have : j ∈ Region.ready .any (l ++ [o]).toArray (T.push false) := by
          refine ready_iff.2 ⟨u, by simpa [List.getElem?_append_left hjl] using hu, ?_, fun e he hb => ?_⟩
          · rw [Array.getD_eq_getD_getElem?, Array.getElem?_push, if_neg (by omega)]
            rw [Array.getD_eq_getD_getElem?] at hTj; exact hTj
          · have h2 := hd e he hb
            have h3 := okRegion_edge hok hu e he hb
            rw [Array.getD_eq_getD_getElem?, Array.getElem?_push, if_neg (by omega)]
            rw [Array.getD_eq_getD_getElem?] at h2; exact h2
        rw [he] at this; cases this
    · rcases ready_last hT hi hok with rfl | ⟨h1, h2⟩
      · have hall := notyet T hT hi
        have hr : Region.ready .any l.toArray T = [] := by
          cases hr : Region.ready .any l.toArray T with
          | nil => rfl
          | cons j r =>
            exfalso
            have hj : j ∈ Region.ready .any l.toArray T := by rw [hr]; exact List.mem_cons_self
            obtain ⟨u, hu, hTj, _⟩ := ready_iff.1 hj
            have hjl := (Array.getElem?_eq_some_iff.1 hu).1
            simp at hjl
            rw [Array.getD_eq_getD_getElem?, hall j hjl] at hTj; cases hTj
        exact fin _ T a w hT hall (hq hr)
      · refine wpOp_lastQ hl h1 (fun a' w' hk => ?_) (hs i h2)
        have e3 : (T.push false).setIfInBounds i true = (T.setIfInBounds i true).push false := by
          apply Array.ext_getElem?
          intro j
          simp only [Array.getElem?_setIfInBounds, Array.getElem?_push, Array.size_setIfInBounds, Array.size_push]
          by_cases hij : i = j
          · subst hij
            rw [if_pos rfl, if_pos (by omega), if_neg (by omega), if_pos rfl, if_pos (by omega)]
          · rw [if_neg hij, if_neg hij]
        rw [e3]
        exact ih _ _ _ (by rw [Array.size_setIfInBounds, hT]) hk

/-- A region whose last operation follows all the others: the others in any order, then the last. -/
theorem Cd.drawLast {id : Nat} {l l0 : List Oper} {o : Oper} {Q : Post} (hm : P.follows .mixedOrders = true) (h0 : l.dropLast = l0) (h1 : l.getLast? = some o) (hok : okRegion l0.toArray = true) (hl : lastOK l0 o = true)
    (h : Pot P N l0.toArray [] [] fr I L (fun fr I L => Opz P N l0.toArray [o] fr I L (fun fr I L => Q .normal fr I L))) : Cd P N (.region id l.toArray true) fr I L Q := by
  have hs : l = l0 ++ [o] := by
    rw [← h0]
    obtain ⟨ys, hy⟩ := List.getLast?_eq_some_iff.1 h1
    rw [hy]; simp
  subst hs
  have hg : o.guard = none := by
    unfold lastOK at hl
    simp only [Bool.and_eq_true, Option.isNone_iff_eq_none] at hl
    exact hl.1.2
  intro a w ha hw
  refine wp_region_any hm ?_
  have e1 : (l0 ++ [o]).toArray.size = l0.length + 1 := by simp
  have e2 : Array.replicate (l0.length + 1) false = (Array.replicate l0.length false).push false := by
    rw [Array.replicate_succ]
  rw [e1, e2]
  refine wpAny_last hok hl _ _ _ _ (by simp) ?_
  refine h (fun i hi => by cases hi) _ (fun fr' I' L' a' w' ha' hw' hq => ?_) _ _ a _ ?_ ⟨by simp, fun i hi => ?_, fun c hc => by cases hc⟩ ⟨ha.defers, ha.size, fun t v hl => .inr (ha.vals t v hl)⟩ hw.drew
  · have h2 := hq a' w' (fun e a' w' => ∃ fr' I' L', Fr N fr' a' ∧ HS I' L' w' ∧ Q e fr' I' L') ha' hw' (fun fr'' I'' L'' a'' w'' ha'' hw'' hq' => ⟨fr'', I'', L'', ha'', hw'', hq'⟩)
    simp only [wpList] at h2
    rw [if_pos (by unfold Region.wanted; rw [hg])] at h2
    exact h2
  · unfold cnt
    refine Nat.le_trans (List.length_filter_le _ _) ?_
    simp
  · exfalso
    have := (Array.getElem?_eq_some_iff.1 hi).1
    simp at this
    rw [Array.getElem?_replicate] at hi
    simp [this] at hi
end
end Go.Eng
