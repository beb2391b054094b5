/- The engine, part A: a frame known in part, a heap of own entries beside memory that stays, and the rules for the forms of code. No function of the program is proved here. -/
import Derived.WalkKit
import Derived.WalkSpells
import Derived.WalkLawsBesides
namespace Go.Eng

/-! ## Frames: slots that are known -/
abbrev Frm := List (Nat × Value)

def look : Frm → Nat → Option Value
  | [], _ => none
  | (k, v) :: l, t => bif Nat.beq k t then some v else look l t

def evF (fr : Frm) : Operand → Option Value
  | .tmp t => look fr t
  | .const v => some v
  | .global g => some (.pointer (some ⟨g, 0, none⟩))
  | .func f => some (.func (.func f) #[] #[])

structure Fr (N : Nat) (fr : Frm) (a : Act) : Prop where
  defers : a.defers = []
  size : a.tmps.size = N
  vals : ∀ t v, look fr t = some v → a.tmps.getD t undef = v

theorem Fr.ev {N : Nat} {fr : Frm} {a : Act} (h : Fr N fr a) {x : Operand} {v : Value} (hx : evF fr x = some v) : a.eval x = v := by
  cases x with
  | tmp t => exact h.vals t v hx
  | const c => simpa [evF, Act.eval] using hx
  | global g => simpa [evF, Act.eval] using hx
  | func f => simpa [evF, Act.eval] using hx

theorem look_cons (k : Nat) (v : Value) (l : Frm) (t : Nat) : look ((k, v) :: l) t = if k = t then some v else look l t := by
  show (bif Nat.beq k t then some v else look l t) = _
  by_cases h : k = t
  · subst h; simp
  · have : Nat.beq k t = false := by
      cases hb : Nat.beq k t with
      | false => rfl
      | true => exact absurd (Nat.eq_of_beq_eq_true hb) h
    rw [this, if_neg h]; rfl

theorem Fr.put {N : Nat} {fr : Frm} {a : Act} (h : Fr N fr a) {d : Nat} (hd : Nat.blt d N = true) (v : Value) : Fr N ((d, v) :: fr) (a.put (some d) v) := by
  have hlt : d < N := by simpa [Nat.blt_eq] using hd
  refine ⟨h.defers, by simp [Act.put, h.size], fun t u hl => ?_⟩
  rw [look_cons] at hl
  by_cases e : d = t
  · subst e
    rw [if_pos rfl] at hl
    simp only [Act.put]
    rw [Array.getD_eq_getD_getElem?, Array.getElem?_setIfInBounds_self_of_lt (by rw [h.size]; exact hlt)]
    simpa using hl
  · rw [if_neg e] at hl
    simp only [Act.put]
    rw [Array.getD_eq_getD_getElem?, Array.getElem?_setIfInBounds_ne e, ← Array.getD_eq_getD_getElem?]
    exact h.vals t u hl

theorem Fr.put0 {N : Nat} {fr : Frm} {a : Act} (h : Fr N fr a) (v : Value) : Fr N fr (a.put none v) := h

/-- A frame that knows no more. -/
def Sub : Frm → Frm → Prop
  | [], _ => True
  | (t, v) :: l, fr => look fr t = some v ∧ Sub l fr

theorem Sub.look {l fr : Frm} (h : Sub l fr) : ∀ t v, look l t = some v → look fr t = some v := by
  induction l with
  | nil => intro t v hl; simp [Eng.look] at hl
  | cons p l ih =>
    obtain ⟨k, u⟩ := p
    intro t v hl
    rw [look_cons] at hl
    by_cases e : k = t
    · subst e; rw [if_pos rfl] at hl; rw [← hl]; exact h.1
    · rw [if_neg e] at hl; exact ih h.2 t v hl

theorem Fr.weak {N : Nat} {fr fr' : Frm} {a : Act} (h : Fr N fr a) (hs : Sub fr' fr) : Fr N fr' a :=
  ⟨h.defers, h.size, fun t v hl => h.vals t v (hs.look t v hl)⟩

/-- The slots of a list, as a frame has them. -/
inductive Pick (fr : Frm) : List Nat → Frm → Prop where
  | nil : Pick fr [] []
  | cons {t : Nat} {v : Value} {ts : List Nat} {b : Frm} (h : look fr t = some v) (k : Pick fr ts b) : Pick fr (t :: ts) ((t, v) :: b)

theorem Pick.sub {fr : Frm} {ts : List Nat} {b : Frm} (h : Pick fr ts b) : Sub b fr := by
  induction h with
  | nil => trivial
  | cons h _ ih => exact ⟨h, ih⟩

/-! ## Memory -/
structure Imm where
  mem : Nat → Option Obj
  os : Os
  tape : Nat → Question → Nat
  output : Array (Nat × ByteArray)

def Imm.le (I J : Imm) : Prop := (∀ b o, I.mem b = some o → J.mem b = some o) ∧ J.os = I.os ∧ J.tape = I.tape ∧ J.output = I.output

theorem Imm.le_refl (I : Imm) : I.le I := ⟨fun _ _ h => h, rfl, rfl, rfl⟩
theorem Imm.le.trans {I J K : Imm} (h : I.le J) (k : J.le K) : I.le K :=
  ⟨fun b o hb => k.1 b o (h.1 b o hb), k.2.1.trans h.2.1, k.2.2.1.trans h.2.2.1, k.2.2.2.trans h.2.2.2⟩

def Imm.cell (I : Imm) (a : Addr) : Option Value :=
  match I.mem a.block with
  | some (.cells c _ _) => if a.spot.isSome then none else c[a.off]?
  | _ => none

theorem Imm.le.cell {I J : Imm} (h : I.le J) {a : Addr} {v : Value} (hc : I.cell a = some v) : J.cell a = some v := by
  unfold Imm.cell at *
  cases hm : I.mem a.block with
  | none => simp [hm] at hc
  | some o => rw [h.1 _ _ hm]; rw [hm] at hc; exact hc

inductive Ent where
  | blk (b : Nat) (t : TypeId) (cs : List Value)
  | obj (b : Nat) (o : Obj)
  | row (v : Value) (e : TypeId) (sz n : Nat) (xs : List Value)

def Ent.own : Ent → Option Nat
  | .blk b _ _ => some b
  | .obj b _ => some b
  | .row v _ _ _ _ => v.ownBlock

def Ent.ok (w : World) : Ent → Prop
  | .blk b t cs => w.heap[b]? = some (.cells cs.toArray t (0, 0))
  | .obj b o => w.heap[b]? = some o
  | .row v e sz n xs => w.ownsRow 0 e sz v n xs

def Ent.apart (e e' : Ent) : Prop := ∀ b, e.own = some b → e'.own ≠ some b
theorem Ent.apart.symm {e e' : Ent} (h : e.apart e') : e'.apart e := fun b hb hb' => h b hb' hb

structure HS (I : Imm) (L : List Ent) (w : World) : Prop where
  sat : ∀ b o, I.mem b = some o → w.heap[b]? = some o
  ents : ∀ e ∈ L, e.ok w
  dis : L.Pairwise Ent.apart
  imm : ∀ e ∈ L, ∀ b, e.own = some b → I.mem b = none
  os : w.os = I.os
  tape : w.tape = I.tape
  output : w.output = I.output

theorem Ent.ok.lt {w : World} {e : Ent} (h : e.ok w) {b : Nat} (hb : e.own = some b) : b < w.heap.size := by
  cases e with
  | blk c t cs => simp only [Ent.own, Option.some.injEq] at hb; subst hb; exact (Array.getElem?_eq_some_iff.1 h).1
  | obj c o => simp only [Ent.own, Option.some.injEq] at hb; subst hb; exact (Array.getElem?_eq_some_iff.1 h).1
  | row v e sz n xs =>
    obtain ⟨_, h | ⟨g, cap, cur, rfl, _, hg, _⟩⟩ := h
    · rw [h.1] at hb; simp [Ent.own, Value.ownBlock] at hb
    · simp only [Ent.own, Value.ownBlock, Option.some.injEq] at hb; subst hb; exact (Array.getElem?_eq_some_iff.1 hg).1

/-- What an entry says hangs on its own block alone. -/
theorem Ent.ok.same {w w' : World} {e : Ent} (h : e.ok w) (hs : ∀ b, e.own = some b → w'.heap[b]? = w.heap[b]?) : e.ok w' := by
  cases e with
  | blk c t cs => exact (hs c rfl).trans h
  | obj c o => exact (hs c rfl).trans h
  | row v e sz n xs =>
    obtain ⟨hl, h | ⟨g, cap, cur, rfl, h0, hg, h1⟩⟩ := h
    · exact ⟨hl, .inl h⟩
    · exact ⟨hl, .inr ⟨g, cap, cur, rfl, h0, (hs g rfl).trans hg, h1⟩⟩

theorem HS.lt {I : Imm} {L : List Ent} {w : World} (h : HS I L w) {b : Nat} {o : Obj} (hb : I.mem b = some o) : b < w.heap.size :=
  (Array.getElem?_eq_some_iff.1 (h.sat b o hb)).1

theorem HS.cell {I : Imm} {L : List Ent} {w : World} (h : HS I L w) {a : Addr} {v : Value} (hc : I.cell a = some v) : w.cell? a = some v := by
  unfold Imm.cell at hc
  cases hm : I.mem a.block with
  | none => simp [hm] at hc
  | some o =>
    rw [hm] at hc
    unfold World.cell?
    rw [h.sat _ _ hm]; exact hc

/-- Order is of no weight. -/
theorem HS.perm {I : Imm} {L L' : List Ent} {w : World} (h : HS I L w) (hp : L.Perm L') : HS I L' w :=
  ⟨h.sat, fun e he => h.ents e (hp.mem_iff.2 he), hp.pairwise h.dis (fun h => h.symm), fun e he => h.imm e (hp.mem_iff.2 he), h.os, h.tape, h.output⟩

theorem HS.sublist {I : Imm} {L L' : List Ent} {w : World} (h : HS I L w) (hp : L'.Sublist L) : HS I L' w :=
  ⟨h.sat, fun e he => h.ents e (hp.subset he), h.dis.sublist hp, fun e he => h.imm e (hp.subset he), h.os, h.tape, h.output⟩

theorem HS.congr {I : Imm} {L : List Ent} {w w' : World} (h : HS I L w) (hh : w'.heap = w.heap) (ho : w'.os = w.os) (ht : w'.tape = w.tape) (hu : w'.output = w.output) : HS I L w' :=
  ⟨fun b o hb => by rw [hh]; exact h.sat b o hb, fun e he => (h.ents e he).same (fun b _ => by rw [hh]), h.dis, h.imm, ho.trans h.os, ht.trans h.tape, hu.trans h.output⟩

theorem HS.drew {I : Imm} {L : List Ent} {w : World} (h : HS I L w) : HS I L w.drew := h.congr rfl rfl rfl rfl

theorem heap_alloc (w : World) (o : Obj) : (w.alloc o).heap = w.heap.push o := rfl
theorem alloc_old {w : World} {o : Obj} {b : Nat} (hb : b < w.heap.size) : (w.alloc o).heap[b]? = w.heap[b]? := by
  rw [heap_alloc, Array.getElem?_push, if_neg (by omega)]
theorem alloc_new (w : World) (o : Obj) : (w.alloc o).heap[w.heap.size]? = some o := by
  rw [heap_alloc, Array.getElem?_push, if_pos rfl]

/-- One entry in the place of another: its block may have changed, new blocks may have come. -/
theorem HS.swap {I : Imm} {e e' : Ent} {L : List Ent} {w w' : World} (h : HS I (e :: L) w)
    (hs : ∀ b, b < w.heap.size → e.own ≠ some b → w'.heap[b]? = w.heap[b]?) (hok : e'.ok w')
    (hown : ∀ b, e'.own = some b → e.own = some b ∨ w.heap.size ≤ b)
    (ho : w'.os = w.os) (ht : w'.tape = w.tape) (hu : w'.output = w.output) : HS I (e' :: L) w' := by
  have hne : ∀ x ∈ L, ∀ b, x.own = some b → e.own ≠ some b := fun x hx b hb hb' => (List.pairwise_cons.1 h.dis).1 x hx b hb' hb
  refine ⟨fun b o hb => ?_, fun x hx => ?_, ?_, fun x hx b hb => ?_, ho.trans h.os, ht.trans h.tape, hu.trans h.output⟩
  · rw [hs b (h.lt hb) (fun hc => by have := h.imm e (List.mem_cons_self) b hc; rw [this] at hb; cases hb)]
    exact h.sat b o hb
  · rcases List.mem_cons.1 hx with rfl | hx
    · exact hok
    · have hx' := h.ents x (List.mem_cons_of_mem _ hx)
      exact hx'.same (fun b hb => hs b (hx'.lt hb) (hne x hx b hb))
  · refine List.pairwise_cons.2 ⟨fun x hx b hb hb' => ?_, (List.pairwise_cons.1 h.dis).2⟩
    rcases hown b hb with h1 | h1
    · exact hne x hx b hb' h1
    · have := (h.ents x (List.mem_cons_of_mem _ hx)).lt hb'; omega
  · rcases List.mem_cons.1 hx with rfl | hx
    · rcases hown b hb with h1 | h1
      · exact h.imm e List.mem_cons_self b h1
      · cases hm : I.mem b with
        | none => rfl
        | some o => have := h.lt hm; omega
    · exact h.imm x (List.mem_cons_of_mem _ hx) b hb

/-- A new entry: nothing that was there has changed. -/
theorem HS.add {I : Imm} {e' : Ent} {L : List Ent} {w w' : World} (h : HS I L w)
    (hs : ∀ b, b < w.heap.size → w'.heap[b]? = w.heap[b]?) (hok : e'.ok w')
    (hown : ∀ b, e'.own = some b → w.heap.size ≤ b)
    (ho : w'.os = w.os) (ht : w'.tape = w.tape) (hu : w'.output = w.output) : HS I (e' :: L) w' := by
  refine ⟨fun b o hb => ?_, fun x hx => ?_, ?_, fun x hx b hb => ?_, ho.trans h.os, ht.trans h.tape, hu.trans h.output⟩
  · rw [hs b (h.lt hb)]; exact h.sat b o hb
  · rcases List.mem_cons.1 hx with rfl | hx
    · exact hok
    · have hx' := h.ents x hx
      exact hx'.same (fun b hb => hs b (hx'.lt hb))
  · refine List.pairwise_cons.2 ⟨fun x hx b hb hb' => ?_, h.dis⟩
    have := hown b hb
    have := (h.ents x hx).lt hb'; omega
  · rcases List.mem_cons.1 hx with rfl | hx
    · have h1 := hown b hb
      cases hm : I.mem b with
      | none => rfl
      | some o => have := h.lt hm; omega
    · exact h.imm x hx b hb

/-- Nothing that was there has changed. -/
theorem HS.later {I : Imm} {L : List Ent} {w w' : World} (h : HS I L w)
    (hs : ∀ b, b < w.heap.size → w'.heap[b]? = w.heap[b]?)
    (ho : w'.os = w.os) (ht : w'.tape = w.tape) (hu : w'.output = w.output) : HS I L w' := by
  refine ⟨fun b o hb => ?_, fun x hx => ?_, h.dis, h.imm, ho.trans h.os, ht.trans h.tape, hu.trans h.output⟩
  · rw [hs b (h.lt hb)]; exact h.sat b o hb
  · have hx' := h.ents x hx
    exact hx'.same (fun b hb => hs b (hx'.lt hb))

theorem HS.alloc_blk {I : Imm} {L : List Ent} {w : World} (h : HS I L w) (cs : List Value) (t : TypeId) : HS I (.blk w.heap.size t cs :: L) (w.alloc (.cells cs.toArray t)) :=
  h.add (fun b hb => alloc_old hb) (alloc_new w _) (fun b hb => by simp only [Ent.own, Option.some.injEq] at hb; omega) rfl rfl rfl

theorem HS.alloc_obj {I : Imm} {L : List Ent} {w : World} (h : HS I L w) (o : Obj) : HS I (.obj w.heap.size o :: L) (w.alloc o) :=
  h.add (fun b hb => alloc_old hb) (alloc_new w _) (fun b hb => by simp only [Ent.own, Option.some.injEq] at hb; omega) rfl rfl rfl

/-- An entry stays as it is from now on. -/
def Imm.with (I : Imm) (b : Nat) (o : Obj) : Imm := { I with mem := fun c => if c = b then some o else I.mem c }

theorem Imm.with_le {I : Imm} {b : Nat} (o : Obj) (h : I.mem b = none) : I.le (I.with b o) := by
  refine ⟨fun c x hc => ?_, rfl, rfl, rfl⟩
  simp only [Imm.with]
  rw [if_neg (by rintro rfl; rw [h] at hc; cases hc)]; exact hc

theorem HS.freeze {I : Imm} {e : Ent} {L : List Ent} {w : World} (h : HS I (e :: L) w) {b : Nat} {o : Obj} (hb : e.own = some b) (ho : w.heap[b]? = some o) : HS (I.with b o) L w := by
  have hd := List.pairwise_cons.1 h.dis
  refine ⟨fun c x hc => ?_, fun x hx => h.ents x (List.mem_cons_of_mem _ hx), hd.2, fun x hx c hc => ?_, h.os, h.tape, h.output⟩
  · simp only [Imm.with] at hc
    by_cases e1 : c = b
    · subst e1; rw [if_pos rfl] at hc; rw [← hc]; exact ho
    · rw [if_neg e1] at hc; exact h.sat c x hc
  · simp only [Imm.with]
    rw [if_neg (by rintro rfl; exact hd.1 x hx _ hb hc)]
    exact h.imm x (List.mem_cons_of_mem _ hx) c hc

/-! ## Lists of entries: one is changed, one is taken out, some are let go -/
inductive Upd : List Ent → Ent → Ent → List Ent → Prop where
  | head {e e' : Ent} {L : List Ent} : Upd (e :: L) e e' (e' :: L)
  | tail {x e e' : Ent} {L L' : List Ent} (h : Upd L e e' L') : Upd (x :: L) e e' (x :: L')

theorem Upd.split {L L' : List Ent} {e e' : Ent} (h : Upd L e e' L') : ∃ R, L.Perm (e :: R) ∧ (e' :: R).Perm L' := by
  induction h with
  | head => exact ⟨_, .refl _, .refl _⟩
  | @tail x e e' L L' _ ih =>
    obtain ⟨R, h1, h2⟩ := ih
    exact ⟨x :: R, (h1.cons x).trans (.swap _ _ _), (List.Perm.swap _ _ _).trans (h2.cons x)⟩

inductive Rem : List Ent → Ent → List Ent → Prop where
  | head {e : Ent} {L : List Ent} : Rem (e :: L) e L
  | tail {x e : Ent} {L L' : List Ent} (h : Rem L e L') : Rem (x :: L) e (x :: L')

theorem Rem.mid : ∀ {M : List Ent} {e : Ent} {R : List Ent}, Rem (M ++ e :: R) e (M ++ R)
  | [], _, _ => .head
  | _ :: _, _, _ => .tail Rem.mid

theorem Rem.eq {e e' : Ent} {L : List Ent} (h : e = e') : Rem (e :: L) e' L := by subst h; exact .head

theorem Rem.perm {L L' : List Ent} {e : Ent} (h : Rem L e L') : L.Perm (e :: L') := by
  induction h with
  | head => exact .refl _
  | tail _ ih => exact (ih.cons _).trans (.swap _ _ _)

inductive Take : List Ent → List Ent → List Ent → Prop where
  | nil {L : List Ent} : Take L [] L
  | cons {L L' R M : List Ent} {e : Ent} (h : Rem L e L') (k : Take L' M R) : Take L (e :: M) R

/-- A list that stands whole at the head of what is there. -/
theorem Take.app' : ∀ (L0 R : List Ent), Take (L0 ++ R) L0 R
  | [], _ => .nil
  | _ :: L0, R => .cons .head (Take.app' L0 R)
theorem Take.skip {x : Ent} {L M R : List Ent} (h : Take L M R) : Take (x :: L) M (x :: R) := by
  induction h with
  | nil => exact .nil
  | cons h _ ih => exact .cons (.tail h) ih

theorem Take.perm {L M R : List Ent} (h : Take L M R) : L.Perm (M ++ R) := by
  induction h with
  | nil => exact .refl _
  | cons h _ ih => exact h.perm.trans (ih.cons _)

/-- One list is all of another's entries, in some order, or fewer. -/
inductive Have : List Ent → List Ent → Prop where
  | refl {L : List Ent} : Have L L
  | skip {e : Ent} {L L' : List Ent} (h : Have L L') : Have (e :: L) L'
  | cons {e : Ent} {L M L' : List Ent} (h : Rem L e M) (k : Have M L') : Have L (e :: L')

theorem Have.app : ∀ {M R R' : List Ent}, Have R R' → Have (M ++ R) (M ++ R')
  | [], _, _, h => h
  | _ :: _, _, _, h => .cons .head (Have.app h)

theorem HS.have' {I : Imm} {L L' : List Ent} {w : World} (h : HS I L w) (hp : Have L L') : ∃ R, L.Perm (L' ++ R) := by
  clear h
  induction hp with
  | refl => exact ⟨[], by simp⟩
  | @skip e L L' _ ih => obtain ⟨R, hR⟩ := ih; exact ⟨e :: R, (hR.cons e).trans List.perm_middle.symm⟩
  | cons hr _ ih => obtain ⟨R, hR⟩ := ih; exact ⟨R, hr.perm.trans (hR.cons _)⟩

theorem HS.keep {I : Imm} {L L' : List Ent} {w : World} (h : HS I L w) (hp : Have L L') : HS I L' w := by
  obtain ⟨R, hR⟩ := h.have' hp
  exact (h.perm hR).sublist (List.sublist_append_left _ _)

/-! ## Code -/
abbrev Post := Exit → Frm → Imm → List Ent → Prop

def Cd (P : Program) (N : Nat) (c : Code) (fr : Frm) (I : Imm) (L : List Ent) (Q : Post) : Prop :=
  ∀ a w, Fr N fr a → HS I L w → c.wp P (fun e a' w' => ∃ fr' I' L', Fr N fr' a' ∧ HS I' L' w' ∧ Q e fr' I' L') a w

section
variable {P : Program} {N : Nat} {fr : Frm} {I : Imm} {L : List Ent} {Q : Post} {c x y : Code}

def seqQ (P : Program) (N : Nat) (y : Code) (Q : Post) : Post
  | .normal, fr, I, L => Cd P N y fr I L Q
  | e, fr, I, L => Q e fr I L

theorem Cd.seq (h : Cd P N x fr I L (seqQ P N y Q)) : Cd P N (.seq x y) fr I L Q := by
  intro a w ha hw
  refine wp_seq (wp_mono (h a w ha hw) ?_)
  rintro e a' w' ⟨fr', I', L', ha', hw', hq⟩
  cases e with
  | normal => exact hq a' w' ha' hw'
  | _ => exact ⟨fr', I', L', ha', hw', hq⟩

theorem seqQ.normal (h : Cd P N y fr I L Q) : seqQ P N y Q .normal fr I L := h
theorem seqQ.ret (h : Q .ret fr I L) : seqQ P N y Q .ret fr I L := h
theorem seqQ.exit {id : Nat} (h : Q (.exit id) fr I L) : seqQ P N y Q (.exit id) fr I L := h

theorem Cd.skip (h : Q .normal fr I L) : Cd P N .skip fr I L Q := fun _ _ ha hw => wp_skip ⟨fr, I, L, ha, hw, h⟩
theorem Cd.exit {id : Nat} (h : Q (.exit id) fr I L) : Cd P N (.exit id) fr I L Q := fun _ _ ha hw => wp_exit ⟨fr, I, L, ha, hw, h⟩
theorem Cd.ret (h : Q .ret fr I L) : Cd P N .ret fr I L Q := fun _ _ ha hw => wp_ret ⟨fr, I, L, ha, hw, h⟩

theorem Cd.condT {o : Operand} (hc : evF fr o = some (.bool true)) (h : Cd P N x fr I L Q) : Cd P N (.cond o x y) fr I L Q :=
  fun a w ha hw => wp_cond_true (ha.ev hc) (h a w ha hw)
theorem Cd.condF {o : Operand} (hc : evF fr o = some (.bool false)) (h : Cd P N y fr I L Q) : Cd P N (.cond o x y) fr I L Q :=
  fun a w ha hw => wp_cond_false (ha.ev hc) (h a w ha hw)
theorem Cd.cond {o : Operand} {t : Bool} (hc : evF fr o = some (.bool t)) (ht : t = true → Cd P N x fr I L Q) (hf : t = false → Cd P N y fr I L Q) : Cd P N (.cond o x y) fr I L Q :=
  fun a w ha hw => wp_cond_split (ha.ev hc) (fun e => ht e a w ha hw) (fun e => hf e a w ha hw)
/-- A test on a proposition. -/
theorem Cd.condD {o : Operand} {p : Prop} [Decidable p] (hc : evF fr o = some (.bool (decide p))) (ht : p → Cd P N x fr I L Q) (hf : ¬ p → Cd P N y fr I L Q) : Cd P N (.cond o x y) fr I L Q :=
  Cd.cond hc (fun e => ht (of_decide_eq_true e)) (fun e => hf (of_decide_eq_false e))

def blkQ (id : Nat) (Q : Post) : Post
  | .exit id', fr, I, L => if id' = id then Q .normal fr I L else Q (.exit id') fr I L
  | e, fr, I, L => Q e fr I L

theorem Cd.block {id : Nat} (h : Cd P N c fr I L (blkQ id Q)) : Cd P N (.block id c) fr I L Q := by
  intro a w ha hw
  refine wp_block (wp_mono (h a w ha hw) ?_)
  rintro e a' w' ⟨fr', I', L', ha', hw', hq⟩
  cases e with
  | exit id' =>
    simp only [Exit.inBlock]
    simp only [blkQ] at hq
    split
    · rename_i hi; rw [if_pos hi] at hq; exact ⟨fr', I', L', ha', hw', hq⟩
    · rename_i hi; rw [if_neg hi] at hq; exact ⟨fr', I', L', ha', hw', hq⟩
  | _ => exact ⟨fr', I', L', ha', hw', hq⟩

theorem blkQ.normal {id : Nat} (h : Q .normal fr I L) : blkQ id Q .normal fr I L := h
theorem blkQ.ret {id : Nat} (h : Q .ret fr I L) : blkQ id Q .ret fr I L := h
theorem blkQ.here {id : Nat} (h : Q .normal fr I L) : blkQ id Q (.exit id) fr I L := by simpa [blkQ] using h
theorem blkQ.out {id id' : Nat} (hne : Nat.beq id' id = false) (h : Q (.exit id') fr I L) : blkQ id Q (.exit id') fr I L := by
  have : id' ≠ id := by rintro rfl; simp at hne
  simpa [blkQ, this] using h

/-- What a loop's round leaves. -/
def loopQ (Inv : Nat → Frm → Imm → List Ent → Prop) (n : Nat) (base : Frm) (Q : Post) : Post
  | .normal, fr, I, L => ∃ m vs L', m < n ∧ Inv m vs I L' ∧ Sub (vs ++ base) fr ∧ Have L L'
  | e, fr, I, L => Q e fr I L

theorem loopQ.ret {Inv : Nat → Frm → Imm → List Ent → Prop} {n : Nat} {base : Frm} (h : Q .ret fr I L) : loopQ Inv n base Q .ret fr I L := h
theorem loopQ.exit {Inv : Nat → Frm → Imm → List Ent → Prop} {n : Nat} {base : Frm} {id : Nat} (h : Q (.exit id) fr I L) : loopQ Inv n base Q (.exit id) fr I L := h

theorem Cd.weak {fr' : Frm} (hs : Sub fr' fr) (h : Cd P N c fr' I L Q) : Cd P N c fr I L Q := fun a w ha hw => h a w (ha.weak hs) hw
theorem Cd.pick (ts : List Nat) {base : Frm} (hb : Pick fr ts base) (h : Cd P N c base I L Q) : Cd P N c fr I L Q := fun a w ha hw => h a w (ha.weak hb.sub) hw
theorem Cd.drop {L' : List Ent} (hs : Have L L') (h : Cd P N c fr I L' Q) : Cd P N c fr I L Q := fun a w ha hw => h a w ha (hw.keep hs)


theorem wp_loop_rel {P : Program} {c : Code} {Q : Exit → Act → World → Prop} {a : Act} {w : World} (J : Nat → Act → World → Prop) {n : Nat} (h₀ : J n a w)
    (round : ∀ n a w, J n a w → c.wp P (Exit.then (fun a' w' => ∃ m, m < n ∧ J m a' w') Q) a w) : (Code.loop c).wp P Q a w := by
  intro b k cs
  have key : ∀ n a w, J n a w →
      ∃ e a' w', Q e a' w' ∧ Arrives P (lone (b.at a (.code c :: .inLoop c :: k)) cs w) b k cs e a' w' := by
    intro n
    induction n using Nat.strongRecOn with
    | _ n ih =>
      intro a w hI
      obtain ⟨e, a₁, w₁, hq, harr⟩ := round n a w hI b (.inLoop c :: k) cs
      cases e with
      | normal =>
        obtain ⟨m, hlt, hI₁⟩ := hq
        obtain ⟨e₂, a₂, w₂, hq₂, harr₂⟩ := ih m hlt a₁ w₁ hI₁
        exact ⟨e₂, a₂, w₂, hq₂, .of_steps (Steps.trans harr (.one step_inLoop)) harr₂⟩
      | exit id => exact ⟨_, a₁, w₁, hq, .pass (x := .inLoop c) rfl (fun _ _ => .inl (by simp)) harr⟩
      | goto l => exact ⟨_, a₁, w₁, hq, .pass (x := .inLoop c) rfl (fun _ _ => .inl (by simp)) harr⟩
      | ret => exact ⟨_, a₁, w₁, hq, .pass (x := .inLoop c) rfl (fun _ _ => .inl (by simp)) harr⟩
      | panic ch => exact ⟨_, a₁, w₁, hq, .pass (x := .inLoop c) rfl (fun _ _ => .inl (by simp)) harr⟩
      | outgrown => exact ⟨_, a₁, w₁, hq, .pass (x := .inLoop c) rfl (fun _ _ => .inl (by simp)) harr⟩
  obtain ⟨e, a', w', hq, harr⟩ := key n a w h₀
  exact ⟨e, a', w', hq, .of_steps (.one step_loop) harr⟩

theorem look_append (l m : Frm) (t : Nat) : look (l ++ m) t = (look l t).or (look m t) := by
  induction l with
  | nil => simp [look]
  | cons p l ih =>
    obtain ⟨k, v⟩ := p
    rw [List.cons_append, look_cons, look_cons, ih]
    split <;> simp

theorem Fr.app {N : Nat} {vs base fr : Frm} {a : Act} (h : Fr N fr a) (hv : Sub vs fr) (hb : Sub base fr) : Fr N (vs ++ base) a :=
  ⟨h.defers, h.size, fun t v hl => by
    rw [look_append] at hl
    cases hx : look vs t with
    | none => rw [hx] at hl; exact h.vals t v (hb.look t v (by simpa using hl))
    | some u => rw [hx] at hl; exact h.vals t v (by rw [hv.look t u hx]; simpa using hl)⟩

/-- A loop: 'keep': the slots that it does not turn; 'vs0': those that it turns. -/
theorem Cd.loop (keep : List Nat) (Inv : Nat → Frm → Imm → List Ent → Prop) {base : Frm} (hb : Pick fr keep base)
    (h0 : ∃ n vs L', Inv n vs I L' ∧ Sub vs fr ∧ Have L L')
    (round : ∀ n vs I L, Inv n vs I L → Cd P N c (vs ++ base) I L (loopQ Inv n base Q)) : Cd P N (.loop c) fr I L Q := by
  intro a w ha hw
  obtain ⟨n, vs, L', hi, hs, hd⟩ := h0
  refine wp_loop_rel (fun n a w => ∃ vs I L, Inv n vs I L ∧ Fr N (vs ++ base) a ∧ HS I L w) (n := n) ⟨vs, I, L', hi, ha.app hs hb.sub, hw.keep hd⟩ ?_
  rintro n a w ⟨vs, I, L, hi, ha, hw⟩
  refine wp_mono (round n vs I L hi a w ha hw) ?_
  rintro e a' w' ⟨fr', I', L', ha', hw', hq⟩
  cases e with
  | normal =>
    obtain ⟨m, vs', L2, hlt, hi', hsub, hdr⟩ := hq
    exact ⟨m, hlt, vs', I', L2, hi', ha'.weak hsub, hw'.keep hdr⟩
  | _ => exact ⟨fr', I', L', ha', hw', hq⟩

/-- Where ways meet again: what holds there. -/
theorem Cd.cut (J : Frm → Imm → List Ent → Prop) (h : Cd P N x fr I L (fun | .normal, fr, I, L => J fr I L | e, fr, I, L => Q e fr I L))
    (k : ∀ fr I L, J fr I L → Cd P N y fr I L Q) : Cd P N (.seq x y) fr I L Q := by
  refine Cd.seq fun a w ha hw => wp_mono (h a w ha hw) ?_
  rintro e a' w' ⟨fr', I', L', ha', hw', hq⟩
  refine ⟨fr', I', L', ha', hw', ?_⟩
  cases e with
  | normal => exact k _ _ _ hq
  | _ => exact hq

/-- With less known of the slots. -/
def cutQ (keep : List Nat) (J : Frm → Imm → List Ent → Prop) (base : Frm) (Q : Post) : Post
  | .normal, fr, I, L => ∃ vs L', J vs I L' ∧ Sub (vs ++ base) fr ∧ Have L L' ∧ keep = keep
  | e, fr, I, L => Q e fr I L
theorem cutQ.ret {keep : List Nat} {J : Frm → Imm → List Ent → Prop} {base : Frm} (h : Q .ret fr I L) : cutQ keep J base Q .ret fr I L := h
theorem cutQ.exit {keep : List Nat} {J : Frm → Imm → List Ent → Prop} {base : Frm} {id : Nat} (h : Q (.exit id) fr I L) : cutQ keep J base Q (.exit id) fr I L := h
theorem Cd.join (keep : List Nat) (J : Frm → Imm → List Ent → Prop) {base : Frm} (hb : Pick fr keep base) (h : Cd P N x fr I L (cutQ keep J base Q))
    (k : ∀ vs I L, J vs I L → Cd P N y (vs ++ base) I L Q) : Cd P N (.seq x y) fr I L Q := by
  have _ := hb
  refine Cd.seq fun a w ha hw => wp_mono (h a w ha hw) ?_
  rintro e a' w' ⟨fr', I', L', ha', hw', hq⟩
  cases e with
  | normal =>
    obtain ⟨vs, L2, hj, hs, hd, _⟩ := hq
    exact ⟨_, I', L2, ha'.weak hs, hw'.keep hd, k _ _ _ hj⟩
  | _ => exact ⟨fr', I', L', ha', hw', hq⟩

/-! ## Functions -/
def Meets (P : Program) (f : FuncId) (args : Array Value) (I : Imm) (L : List Ent) (post : Value → Imm → List Ent → Prop) : Prop :=
  ∀ w F, HS I (L ++ F) w → Calls P f args w fun e w' => ∃ v I' L', e = .returned v ∧ I.le I' ∧ post v I' L' ∧ HS I' (L' ++ F) w'

theorem Meets.mono {f : FuncId} {args : Array Value} {post post' : Value → Imm → List Ent → Prop} (h : Meets P f args I L post) (hp : ∀ v I' L', I.le I' → post v I' L' → post' v I' L') : Meets P f args I L post' :=
  fun w F hw => (h w F hw).mono fun _ _ ⟨v, I', L', he, hle, hq, hs⟩ => ⟨v, I', L', he, hle, hp v I' L' hle hq, hs⟩

def argF : Nat → List Value → Frm
  | _, [] => []
  | i, v :: vs => (i, v) :: argF (i + 1) vs

theorem argF_look : ∀ (vs : List Value) (i t : Nat) (v : Value), look (argF i vs) t = some v → i ≤ t ∧ vs[t - i]? = some v := by
  intro vs
  induction vs with
  | nil => intro i t v h; simp [argF, look] at h
  | cons x vs ih =>
    intro i t v h
    rw [argF, look_cons] at h
    by_cases e : i = t
    · subst e; rw [if_pos rfl] at h; simp at h; subst h; simp
    · rw [if_neg e] at h
      obtain ⟨h1, h2⟩ := ih (i + 1) t v h
      refine ⟨by omega, ?_⟩
      have : t - i = (t - (i + 1)) + 1 := by omega
      rw [this]; simpa using h2

/-- A function that only tells a value. -/
def Ret (I : Imm) (r : Value) : Value → Imm → List Ent → Prop := fun v I' L' => r = v ∧ I = I' ∧ [] = L'
theorem Ret.mk {I : Imm} {r v : Value} (h : v = r) : Ret I r v I [] := ⟨h.symm, rfl, rfl⟩

theorem look_val {fr : Frm} {t : Nat} {u v : Value} (h : look fr t = some u) (e : u = v) : look fr t = some v := by rw [h, e]
theorem int_congr {k : IntKind} {a b : Int} (h : a = b) : Value.int k a = .int k b := by rw [h]
theorem bool_congr {a b : Bool} (h : a = b) : Value.bool a = .bool b := by rw [h]
theorem str_congr {a b : ByteArray} (h : a = b) : Value.string a = .string b := by rw [h]
theorem loopQ.round {Inv : Nat → Frm → Imm → List Ent → Prop} {n m : Nat} {base : Frm} {vs : Frm} {L' : List Ent} (hi : Inv m vs I L') (hlt : m < n) (hs : Sub (vs ++ base) fr) (hh : Have L L') : loopQ Inv n base Q .normal fr I L := ⟨m, vs, L', hlt, hi, hs, hh⟩
theorem cutQ.mk {keep : List Nat} {J : Frm → Imm → List Ent → Prop} {base : Frm} {vs : Frm} {L' : List Ent} (hj : J vs I L') (hs : Sub (vs ++ base) fr) (hh : Have L L') : cutQ keep J base Q .normal fr I L := ⟨vs, L', hj, hs, hh, rfl⟩
end
end Go.Eng
