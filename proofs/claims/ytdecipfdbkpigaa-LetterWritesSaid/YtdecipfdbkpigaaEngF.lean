/- The engine, part F: a region that draws its order: operations that only tell are taken whenever they may be; those that turn memory are taken in each order that the region allows. No function of the program is proved here. -/
import Derived.Test.YtdecipfdbkpigaaEngE
namespace Go.Eng
section
variable {P : Program} {N : Nat} {ops : Array Oper} {fr : Frm} {I : Imm} {L : List Ent} {K : Frm → Imm → List Ent → Prop}

def bnd (e : Edge) : Bool := Region.binds .any e

/-- Edges lead back; no slot is written twice. -/
def okRegion (ops : Array Oper) : Bool :=
  (List.range ops.size).all fun i => match ops[i]? with
    | none => false
    | some o => (o.after.toList.all fun e => !bnd e || Nat.blt e.on i) &&
      (match o.dst with
       | none => true
       | some d => (List.range ops.size).all fun j => Nat.beq j i || (match ops[j]? with | none => true | some u => match u.dst with | none => true | some d' => !Nat.beq d' d))

/-- A slot that an operation may read: nobody of the region writes it, or one ahead of it. -/
def slotOK (ops : Array Oper) (i : Nat) (t : Nat) : Bool :=
  (List.range ops.size).all fun j => match ops[j]? with
    | none => true
    | some u => match u.dst with
      | none => true
      | some d => !Nat.beq d t || (match ops[i]? with | none => false | some o => o.after.toList.any fun e => bnd e && Nat.beq e.on j)

def slotsOK (ops : Array Oper) (i : Nat) (frs : Frm) : Bool := frs.all fun p => slotOK ops i p.1

def memB (l : List Nat) (i : Nat) : Bool := l.any fun j => Nat.beq j i
theorem memB_iff {l : List Nat} {i : Nat} : memB l i = true ↔ i ∈ l := by
  simp [memB]

/-- Who may come next, of those that turn memory. -/
def stepOK (ops : Array Oper) (D S R : List Nat) : Bool :=
  (List.range ops.size).all fun i => memB D i || memB S i || memB R i || (match ops[i]? with | none => true | some o => o.after.toList.any fun e => bnd e && !memB D e.on && !memB S e.on)

def Ext (fr fr' : Frm) : Prop := ∀ t v, look fr t = some v → look fr' t = some v
theorem Ext.refl (fr : Frm) : Ext fr fr := fun _ _ h => h
theorem Ext.cons {d : Nat} (v : Value) (h : look fr d = none) : Ext fr ((d, v) :: fr) := fun t u hl => by
  rw [look_cons, if_neg (by rintro rfl; rw [h] at hl; cases hl)]; exact hl
theorem Sub.ext {frs fr fr' : Frm} (h : Sub frs fr) (he : Ext fr fr') : Sub frs fr' := by
  induction frs with
  | nil => trivial
  | cons p l ih => exact ⟨he _ _ h.1, ih h.2⟩
theorem Sub.key' {frs fr : Frm} {t : Nat} {v : Value} (h : Sub frs fr) (hl : Eng.look frs t = some v) : Eng.look fr t = some v := h.look t v hl
theorem key_mem : ∀ {frs : Frm} {t : Nat} {v : Value}, look frs t = some v → ∃ u, (t, u) ∈ frs := by
  intro frs
  induction frs with
  | nil => intro t v h; simp [look] at h
  | cons p l ih =>
    obtain ⟨k, u⟩ := p
    intro t v h
    rw [look_cons] at h
    by_cases e : k = t
    · subst e; exact ⟨u, List.mem_cons_self⟩
    · rw [if_neg e] at h; obtain ⟨u', hu⟩ := ih h; exact ⟨u', List.mem_cons_of_mem _ hu⟩

def PureOK (P : Program) (N : Nat) (ops : Array Oper) (fr : Frm) (I : Imm) (i : Nat) : Prop :=
  ∃ (o : Oper) (d : Nat) (v : Value) (frs : Frm), ops[i]? = some o ∧ o.dst = some d ∧ Nat.blt d N = true ∧ look fr d = some v ∧ Sub frs fr ∧ slotsOK ops i frs = true ∧
    ((wantF ops frs o = some true ∧ ∀ I' L', I.le I' → RunsTo P frs I' L' o v) ∨ (wantF ops frs o = some false ∧ v = undef))

theorem PureOK.mono {fr' : Frm} {I' : Imm} {i : Nat} (h : PureOK P N ops fr I i) (he : Ext fr fr') (hI : I.le I') : PureOK P N ops fr' I' i := by
  obtain ⟨o, d, v, frs, h1, h2, h3, h4, h5, h6, h7⟩ := h
  refine ⟨o, d, v, frs, h1, h2, h3, he _ _ h4, h5.ext he, h6, ?_⟩
  rcases h7 with ⟨h7, h8⟩ | h7
  · exact .inl ⟨h7, fun J L' hJ => h8 J L' (hI.trans hJ)⟩
  · exact .inr h7

structure StT (ops : Array Oper) (D S : List Nat) (T : Array Bool) : Prop where
  size : T.size = ops.size
  sub : ∀ i, T[i]? = some true → i ∈ D ∨ i ∈ S
  chain : ∀ c ∈ S, T[c]? = some true

def cnt (T : Array Bool) : Nat := (T.toList.filter (! ·)).length

def FrT (N : Nat) (ops : Array Oper) (T : Array Bool) (fr : Frm) (a : Act) : Prop :=
  a.defers = [] ∧ a.tmps.size = N ∧ ∀ t v, look fr t = some v → (∃ (i : Nat) (o : Oper), ops[i]? = some o ∧ o.dst = some t ∧ T[i]? = some false) ∨ a.tmps.getD t undef = v

/-- From here on the region ends well, in whatever order. -/
def Pot (P : Program) (N : Nat) (ops : Array Oper) (D S : List Nat) (fr : Frm) (I : Imm) (L : List Ent) (K : Frm → Imm → List Ent → Prop) : Prop :=
  (∀ i ∈ D, PureOK P N ops fr I i) → ∀ (Q0 : Exit → Act → World → Prop), (∀ fr' I' L' a' w', Fr N fr' a' → HS I' L' w' → K fr' I' L' → Q0 .normal a' w') →
    ∀ fuel T a w, cnt T ≤ fuel → StT ops D S T → FrT N ops T fr a → HS I L w → wpAny P .any ops Q0 fuel T a w

theorem cnt_set {T : Array Bool} {i : Nat} (h : T[i]? = some false) : cnt (T.setIfInBounds i true) + 1 = cnt T := by
  obtain ⟨hlt, he⟩ := Array.getElem?_eq_some_iff.1 h
  have key : ∀ (l : List Bool) (i : Nat), l[i]? = some false → ((l.set i true).filter (! ·)).length + 1 = (l.filter (! ·)).length := by
    intro l
    induction l with
    | nil => intro i h; simp at h
    | cons b l ih =>
      intro i h
      cases i with
      | zero => simp at h; subst h; simp
      | succ i =>
        rw [List.getElem?_cons_succ] at h
        have := ih i h
        rw [List.set_cons_succ]
        cases b <;> simp at * <;> omega
  unfold cnt
  rw [Array.toList_setIfInBounds]
  exact key _ _ (by simpa using h)

theorem cnt_zero {T : Array Bool} (h : cnt T = 0) : ∀ i, i < T.size → T[i]? = some true := by
  intro i hi
  unfold cnt at h
  rw [List.length_eq_zero_iff, List.filter_eq_nil_iff] at h
  have := h T[i] (by simp)
  rw [Array.getElem?_eq_getElem hi]
  cases hT : T[i] with
  | true => rfl
  | false => rw [hT] at this; simp at this

theorem ready_iff {T : Array Bool} {i : Nat} : i ∈ Region.ready .any ops T ↔ ∃ o : Oper, ops[i]? = some o ∧ T.getD i true = false ∧ ∀ e ∈ o.after, bnd e = true → T.getD e.on false = true := by
  unfold Region.ready
  rw [List.mem_filter, List.mem_range]
  constructor
  · rintro ⟨hlt, h⟩
    rw [Array.getElem?_eq_getElem hlt] at h
    simp only [Option.map_some, Option.getD_some, Bool.and_eq_true, Bool.not_eq_true', Array.all_eq_true_iff_forall_mem, Bool.or_eq_true] at h
    refine ⟨ops[i], Array.getElem?_eq_getElem hlt, h.1, fun e he hb => ?_⟩
    rcases h.2 e he with h2 | h2
    · rw [show bnd e = Region.binds .any e from rfl, h2] at hb; cases hb
    · exact h2
  · rintro ⟨o, ho, hT, hd⟩
    obtain ⟨hlt, rfl⟩ := Array.getElem?_eq_some_iff.1 ho
    refine ⟨hlt, ?_⟩
    rw [Array.getElem?_eq_getElem hlt]
    simp only [Option.map_some, Option.getD_some, Bool.and_eq_true, Bool.not_eq_true', Array.all_eq_true_iff_forall_mem, Bool.or_eq_true]
    refine ⟨hT, fun e he => ?_⟩
    cases hb : Region.binds .any e with
    | false => exact .inl rfl
    | true => exact .inr (hd e he hb)

theorem okRegion_edge (hok : okRegion ops = true) {i : Nat} {o : Oper} (ho : ops[i]? = some o) : ∀ e ∈ o.after, bnd e = true → e.on < i := by
  intro e he hb
  have hlt := (Array.getElem?_eq_some_iff.1 ho).1
  unfold okRegion at hok
  rw [List.all_eq_true] at hok
  have := hok i (List.mem_range.2 hlt)
  rw [ho] at this
  simp only [Bool.and_eq_true, List.all_eq_true] at this
  have h2 := this.1 e (by simpa using he)
  rw [hb] at h2
  simpa [Nat.blt_eq] using h2

theorem okRegion_dst (hok : okRegion ops = true) {i j : Nat} {o u : Oper} {d : Nat} (ho : ops[i]? = some o) (hu : ops[j]? = some u) (h1 : o.dst = some d) (h2 : u.dst = some d) : i = j := by
  have hlt := (Array.getElem?_eq_some_iff.1 ho).1
  have hlt2 := (Array.getElem?_eq_some_iff.1 hu).1
  unfold okRegion at hok
  rw [List.all_eq_true] at hok
  have := hok i (List.mem_range.2 hlt)
  rw [ho] at this
  simp only [Bool.and_eq_true] at this
  have h3 := this.2
  rw [h1] at h3
  simp only [List.all_eq_true] at h3
  have h4 := h3 j (List.mem_range.2 hlt2)
  rw [hu] at h4
  simp only [h2] at h4
  simp at h4
  exact h4.symm

theorem all_listed (hok : okRegion ops = true) {T : Array Bool} (hs : T.size = ops.size) (hr : Region.ready .any ops T = []) : ∀ i, i < ops.size → T[i]? = some true := by
  intro i
  induction i using Nat.strongRecOn with
  | _ i ih =>
    intro hi
    cases hT : T[i]? with
    | none => rw [Array.getElem?_eq_none_iff] at hT; omega
    | some b =>
      cases b with
      | true => rfl
      | false =>
        exfalso
        have : i ∈ Region.ready .any ops T := ready_iff.2 ⟨ops[i], Array.getElem?_eq_getElem hi, by rw [Array.getD_eq_getD_getElem?, hT]; rfl, fun e he hb => by
          have h1 := okRegion_edge hok (Array.getElem?_eq_getElem hi) e he hb
          rw [Array.getD_eq_getD_getElem?, ih e.on h1 (by omega)]; rfl⟩
        rw [hr] at this; cases this

theorem FrT.toFr {T : Array Bool} {a : Act} {i : Nat} {frs : Frm} {o : Oper} (h : FrT N ops T fr a) (hok : okRegion ops = true) (hs : Sub frs fr) (hsl : slotsOK ops i frs = true)
    (ho : ops[i]? = some o) (hd : ∀ e ∈ o.after, bnd e = true → T.getD e.on false = true) : Fr N frs a := by
  refine ⟨h.1, h.2.1, fun t v hl => ?_⟩
  rcases h.2.2 t v (hs.key' hl) with ⟨j, u, hu, hdst, hT⟩ | h1
  · exfalso
    obtain ⟨x, hx⟩ := key_mem hl
    unfold slotsOK at hsl
    rw [List.all_eq_true] at hsl
    have h2 := hsl _ hx
    unfold slotOK at h2
    rw [List.all_eq_true] at h2
    have hlt := (Array.getElem?_eq_some_iff.1 hu).1
    have h3 := h2 j (List.mem_range.2 hlt)
    rw [hu] at h3
    simp only [hdst, ho] at h3
    simp only [Nat.beq_eq_true_eq, Bool.or_eq_true, Bool.not_eq_true', List.any_eq_true, Bool.and_eq_true] at h3
    rcases h3 with h3 | ⟨e, he, hb, hj⟩
    · simp at h3
    · have h4 := hd e (by simpa using he) hb
      have h5 : e.on = j := by simpa using hj
      rw [h5, Array.getD_eq_getD_getElem?, hT] at h4
      cases h4
  · exact h1

theorem FrT.put {T : Array Bool} {a : Act} {i d : Nat} {v : Value} {o : Oper} (h : FrT N ops T fr a) (hok : okRegion ops = true) (ho : ops[i]? = some o) (hd : o.dst = some d) (hN : Nat.blt d N = true) (hT : i < T.size) (hl : look fr d = some v) :
    FrT N ops (T.setIfInBounds i true) fr (a.put (some d) v) := by
  have hlt : d < N := by simpa [Nat.blt_eq] using hN
  refine ⟨h.1, by simp [Act.put, h.2.1], fun t u hlu => ?_⟩
  by_cases e : d = t
  · subst e
    right
    rw [hl] at hlu
    simp only [Option.some.injEq] at hlu
    subst hlu
    simp only [Act.put]
    rw [Array.getD_eq_getD_getElem?, Array.getElem?_setIfInBounds_self_of_lt (by rw [h.2.1]; exact hlt)]; rfl
  · rcases h.2.2 t u hlu with ⟨j, x, hx, hdst, hTj⟩ | h1
    · left
      refine ⟨j, x, hx, hdst, ?_⟩
      have : i ≠ j := by
        rintro rfl
        rw [ho] at hx; simp only [Option.some.injEq] at hx; subst hx
        rw [hd] at hdst; simp only [Option.some.injEq] at hdst; exact e hdst
      rw [Array.getElem?_setIfInBounds_ne this]; exact hTj
    · right
      simp only [Act.put]
      rw [Array.getD_eq_getD_getElem?, Array.getElem?_setIfInBounds_ne e, ← Array.getD_eq_getD_getElem?]; exact h1

def AllR : List Nat → (Nat → Prop) → Prop
  | [], _ => True
  | c :: cs, p => p c ∧ AllR cs p
theorem AllR.get {l : List Nat} {p : Nat → Prop} (h : AllR l p) : ∀ c ∈ l, p c := by
  induction l with
  | nil => intro c hc; cases hc
  | cons x l ih =>
    intro c hc
    rcases List.mem_cons.1 hc with rfl | hc
    · exact h.1
    · exact ih h.2 c hc

def dstF (o : Oper) (v : Value) (fr : Frm) : Frm :=
  match o.dst with
  | some d => (d, v) :: fr
  | none => fr

/-- One that turns memory is taken next. -/
def ChainOK (P : Program) (N : Nat) (ops : Array Oper) (D S : List Nat) (fr : Frm) (I : Imm) (L : List Ent) (K : Frm → Imm → List Ent → Prop) (c : Nat) : Prop :=
  ∃ (o : Oper) (frs : Frm), ops[c]? = some o ∧ Sub frs fr ∧ slotsOK ops c frs = true ∧ (∀ d, o.dst = some d → Nat.blt d N = true ∧ look fr d = none) ∧
    ((wantF ops frs o = some true ∧ ∃ R, Acts P N frs I L o R ∧ ∀ v I' L', R v I' L' → I.le I' ∧ Pot P N ops D (c :: S) (dstF o v fr) I' L' K) ∨
     (wantF ops frs o = some false ∧ Pot P N ops D (c :: S) (dstF o undef fr) I L K))

theorem StT.add {D S : List Nat} {T : Array Bool} {i : Nat} (h : StT ops D S T) (hi : i ∈ D) : StT ops D S (T.setIfInBounds i true) := by
  refine ⟨by rw [Array.size_setIfInBounds, h.size], fun j hj => ?_, fun c hc => ?_⟩
  · by_cases e : i = j
    · subst e; exact .inl hi
    · rw [Array.getElem?_setIfInBounds_ne e] at hj; exact h.sub j hj
  · by_cases e : i = c
    · subst e
      have h1 := h.chain i hc
      exact Array.getElem?_setIfInBounds_self_of_lt (Array.getElem?_eq_some_iff.1 h1).1
    · rw [Array.getElem?_setIfInBounds_ne e]; exact h.chain c hc

theorem StT.addS {D S : List Nat} {T : Array Bool} {i : Nat} (h : StT ops D S T) (hi : i < T.size) : StT ops D (i :: S) (T.setIfInBounds i true) := by
  refine ⟨by rw [Array.size_setIfInBounds, h.size], fun j hj => ?_, fun c hc => ?_⟩
  · by_cases e : i = j
    · subst e; exact .inr List.mem_cons_self
    · rw [Array.getElem?_setIfInBounds_ne e] at hj
      exact (h.sub j hj).imp id (List.mem_cons_of_mem _)
  · by_cases e : i = c
    · subst e; exact Array.getElem?_setIfInBounds_self_of_lt hi
    · rw [Array.getElem?_setIfInBounds_ne e]
      rcases List.mem_cons.1 hc with rfl | hc
      · exact absurd rfl e
      · exact h.chain c hc

theorem pot_core {D S : List Nat} (R : List Nat) (hok : okRegion ops = true) (hs : stepOK ops D S R = true) (hD : ∀ i ∈ D, PureOK P N ops fr I i) {Q0 : Exit → Act → World → Prop}
    (hfin : ∀ T a w, (∀ i, i < ops.size → T[i]? = some true) → StT ops D S T → FrT N ops T fr a → HS I L w → Q0 .normal a w)
    (hch : ∀ c ∈ R, ∀ fuel T a w, cnt T ≤ fuel + 1 → StT ops D S T → FrT N ops T fr a → HS I L w → T[c]? = some false → (∀ o, ops[c]? = some o → ∀ e ∈ o.after, bnd e = true → T.getD e.on false = true) →
      wpOp P ops Q0 c (wpAny P .any ops Q0 fuel (T.setIfInBounds c true)) a w) :
    ∀ fuel T a w, cnt T ≤ fuel → StT ops D S T → FrT N ops T fr a → HS I L w → wpAny P .any ops Q0 fuel T a w := by
  have blocked : ∀ {T : Array Bool} {i : Nat}, StT ops D S T → i ∈ Region.ready .any ops T → i ∈ D ∨ i ∈ R := by
    intro T i hT hr
    obtain ⟨o, ho, hTi, hd⟩ := ready_iff.1 hr
    have hlt := (Array.getElem?_eq_some_iff.1 ho).1
    unfold stepOK at hs
    rw [List.all_eq_true] at hs
    have h1 := hs i (List.mem_range.2 hlt)
    rw [ho] at h1
    simp only [Bool.or_eq_true, List.any_eq_true, Bool.and_eq_true, Bool.not_eq_true'] at h1
    rcases h1 with ((h1 | h1) | h1) | ⟨e, he, ⟨hb, h2⟩, h3⟩
    · exact .inl (memB_iff.1 h1)
    · have := hT.chain i (memB_iff.1 h1)
      rw [Array.getD_eq_getD_getElem?, this] at hTi; cases hTi
    · exact .inr (memB_iff.1 h1)
    · exfalso
      have h4 := hd e (by simpa using he) hb
      rw [Array.getD_eq_getD_getElem?] at h4
      cases hx : T[e.on]? with
      | none => rw [hx] at h4; cases h4
      | some b =>
        rw [hx] at h4
        simp only [Option.getD_some] at h4
        subst h4
        rcases hT.sub e.on hx with h5 | h5
        · rw [memB_iff.2 h5] at h2; cases h2
        · rw [memB_iff.2 h5] at h3; cases h3
  have unl : ∀ {T : Array Bool} {i : Nat} {o : Oper}, StT ops D S T → ops[i]? = some o → T.getD i true = false → T[i]? = some false := by
    intro T i o hT ho h
    have hlt := (Array.getElem?_eq_some_iff.1 ho).1
    rw [Array.getD_eq_getD_getElem?] at h
    cases hx : T[i]? with
    | none => rw [Array.getElem?_eq_none_iff, hT.size] at hx; omega
    | some b => rw [hx] at h; simp only [Option.getD_some] at h; rw [h]
  intro fuel
  induction fuel with
  | zero =>
    intro T a w hcnt hT hF hw
    have hall := cnt_zero (Nat.le_zero.1 hcnt)
    refine ⟨?_, hfin T a w (fun i hi => hall i (by rw [hT.size]; exact hi)) hT hF hw⟩
    cases hr : Region.ready .any ops T with
    | nil => rfl
    | cons i l =>
      exfalso
      have hi : i ∈ Region.ready .any ops T := by rw [hr]; exact List.mem_cons_self
      obtain ⟨o, ho, hTi, _⟩ := ready_iff.1 hi
      have h1 := unl hT ho hTi
      rw [hall i (Array.getElem?_eq_some_iff.1 h1).1] at h1; cases h1
  | succ fuel ih =>
    intro T a w hcnt hT hF hw
    refine ⟨fun hr => hfin T a w (all_listed hok hT.size hr) hT hF hw, fun i hi => ?_⟩
    obtain ⟨o, ho, hTi, hd⟩ := ready_iff.1 hi
    have hTf := unl hT ho hTi
    rcases blocked hT hi with hiD | hiR
    · obtain ⟨o', d, v, frs, h1, h2, h3, h4, h5, h6, h7⟩ := hD i hiD
      rw [ho] at h1; simp only [Option.some.injEq] at h1; subst h1
      have hfr : Fr N frs a := hF.toFr hok h5 h6 ho hd
      have hnext : ∀ u, u = v → wpAny P .any ops Q0 fuel (T.setIfInBounds i true) (a.put o.dst u) w := by
        rintro u rfl
        rw [h2]
        exact ih _ _ w (by have := cnt_set hTf; omega) (hT.add hiD) (hF.put hok ho h2 h3 (Array.getElem?_eq_some_iff.1 hTf).1 h4) hw
      simp only [wpOp, ho]
      rcases h7 with ⟨h7, h8⟩ | ⟨h7, rfl⟩
      · rw [if_pos (wantF_spec hfr h7)]
        left
        unfold Oper.wp
        rw [h8 I L I.le_refl a.eval w hfr.agree hw, Oper.upon_value]
        exact hnext v rfl
      · rw [if_neg (by rw [wantF_spec hfr h7]; simp)]
        exact hnext undef rfl
    · exact hch i hiR fuel T a w hcnt hT hF hw hTf (fun o' ho' => by rw [ho] at ho'; simp only [Option.some.injEq] at ho'; subst ho'; exact hd)

theorem Pot.step {D S : List Nat} (R : List Nat) (hok : okRegion ops = true) (hs : stepOK ops D S R = true) (hne : ((List.range ops.size).any fun i => !memB D i && !memB S i) = true)
    (hc : AllR R (ChainOK P N ops D S fr I L K)) : Pot P N ops D S fr I L K := by
  intro hD Q0 hk
  refine pot_core R hok hs hD (fun T a w hall hT _ _ => ?_) (fun c hcR fuel T a w hcnt hT hF hw hTf hd => ?_)
  · exfalso
    rw [List.any_eq_true] at hne
    obtain ⟨i, hi, h1⟩ := hne
    simp only [Bool.and_eq_true, Bool.not_eq_true'] at h1
    rcases hT.sub i (hall i (List.mem_range.1 hi)) with h2 | h2
    · rw [memB_iff.2 h2] at h1; cases h1.1
    · rw [memB_iff.2 h2] at h1; cases h1.2
  · obtain ⟨o, frs, h1, h2, h3, h4, h5⟩ := hc.get c hcR
    have hfr : Fr N frs a := hF.toFr hok h2 h3 h1 (hd o h1)
    have hlt := (Array.getElem?_eq_some_iff.1 hTf).1
    have hT' : StT ops D (c :: S) (T.setIfInBounds c true) := hT.addS hlt
    have hcn : cnt (T.setIfInBounds c true) ≤ fuel := by have := cnt_set hTf; omega
    have hext : ∀ v, Ext fr (dstF o v fr) := by
      intro v
      unfold dstF
      cases hdd : o.dst with
      | none => exact Ext.refl _
      | some d => exact Ext.cons v (h4 d hdd).2
    have hF' : ∀ v, FrT N ops (T.setIfInBounds c true) (dstF o v fr) (a.put o.dst v) := by
      intro v
      unfold dstF
      cases hdd : o.dst with
      | none =>
        refine ⟨hF.1, hF.2.1, fun t u hl => ?_⟩
        rcases hF.2.2 t u hl with ⟨j, x, hx, hdst, hTj⟩ | h6
        · left
          refine ⟨j, x, hx, hdst, ?_⟩
          have : c ≠ j := by
            rintro rfl
            rw [h1] at hx; simp only [Option.some.injEq] at hx; subst hx
            rw [hdd] at hdst; cases hdst
          rw [Array.getElem?_setIfInBounds_ne this]; exact hTj
        · exact .inr h6
      | some d =>
        have hF2 : FrT N ops T ((d, v) :: fr) a := by
          refine ⟨hF.1, hF.2.1, fun t u hl => ?_⟩
          rw [look_cons] at hl
          by_cases e : d = t
          · subst e; exact .inl ⟨c, o, h1, hdd, hTf⟩
          · rw [if_neg e] at hl; exact hF.2.2 t u hl
        exact hF2.put hok h1 hdd (h4 d hdd).1 hlt (by rw [look_cons, if_pos rfl])
    simp only [wpOp, h1]
    rcases h5 with ⟨h5, R', hact, hnext⟩ | ⟨h5, hnext⟩
    · rw [if_pos (wantF_spec hfr h5)]
      left
      refine hact a w _ _ hfr hw (fun v I' L' w' hw' hR => ?_)
      obtain ⟨hle, hp⟩ := hnext v I' L' hR
      exact hp (fun i hi => (hD i hi).mono (hext v) hle) Q0 hk fuel _ _ w' hcn hT' (hF' v) hw'
    · rw [if_neg (by rw [wantF_spec hfr h5]; simp)]
      exact hnext (fun i hi => (hD i hi).mono (hext undef) I.le_refl) Q0 hk fuel _ _ w hcn hT' (hF' undef) hw

theorem Pot.done {D S : List Nat} (hok : okRegion ops = true) (hs : ((List.range ops.size).all fun i => memB D i || memB S i) = true) (h : K fr I L) : Pot P N ops D S fr I L K := by
  intro hD Q0 hk
  refine pot_core [] hok ?_ hD (fun T a w hall hT hF hw => ?_) (fun c hcR => by cases hcR)
  · unfold stepOK
    rw [List.all_eq_true] at hs ⊢
    intro i hi
    have := hs i hi
    simp only [Bool.or_eq_true] at this ⊢
    rcases this with h1 | h1
    · exact .inl (.inl (.inl h1))
    · exact .inl (.inl (.inr h1))
  · refine hk fr I L a w ⟨hF.1, hF.2.1, fun t v hl => ?_⟩ hw h
    rcases hF.2.2 t v hl with ⟨j, x, hx, _, hTj⟩ | h6
    · rw [hall j (Array.getElem?_eq_some_iff.1 hx).1] at hTj; cases hTj
    · exact h6

/-- One that only tells a value: it may be taken whenever the region likes. -/
theorem Pot.pure {D S : List Nat} (i : Nat) {o : Oper} {d : Nat} {v : Value} {ts : List Nat} {frs : Frm} (ho : ops[i]? = some o) (hd : o.dst = some d) (hN : Nat.blt d N = true) (hp : Pick fr ts frs) (hl : look fr d = none) (hsl : slotsOK ops i frs = true) (hw : wantF ops frs o = some true)
    (hr : ∀ I' L', I.le I' → RunsTo P frs I' L' o v) (hnd : memB S i = false) (k : Pot P N ops (i :: D) S ((d, v) :: fr) I L K) : Pot P N ops D S fr I L K := by
  intro hD Q0 hk fuel T a w hcnt hT hF hw'
  have _ := hnd
  refine k (fun j hj => ?_) Q0 hk fuel T a w hcnt ⟨hT.size, fun j hj => (hT.sub j hj).imp (List.mem_cons_of_mem _) id, hT.chain⟩ ⟨hF.1, hF.2.1, fun t u hlu => ?_⟩ hw'
  · rcases List.mem_cons.1 hj with rfl | hj
    · exact ⟨o, d, v, frs, ho, hd, hN, by rw [look_cons, if_pos rfl], hp.sub.ext (Ext.cons v hl), hsl, .inl ⟨hw, hr⟩⟩
    · exact (hD j hj).mono (Ext.cons v hl) I.le_refl
  · rw [look_cons] at hlu
    by_cases e : d = t
    · subst e
      -- it has not been taken yet, or it would be known already
      cases hx : T[i]? with
      | none =>
        have := (Array.getElem?_eq_some_iff.1 ho).1
        rw [Array.getElem?_eq_none_iff, hT.size] at hx; omega
      | some b =>
        cases b with
        | false => exact .inl ⟨i, o, ho, hd, hx⟩
        | true =>
          exfalso
          rcases hT.sub i hx with h1 | h1
          · obtain ⟨o', d', v', frs', e1, e2, _, e4, _⟩ := hD i h1
            rw [ho] at e1; simp only [Option.some.injEq] at e1; subst e1
            rw [hd] at e2; simp only [Option.some.injEq] at e2; subst e2
            rw [hl] at e4; cases e4
          · rw [memB_iff.2 h1] at hnd; cases hnd
    · rw [if_neg e] at hlu; exact hF.2.2 t u hlu

theorem Pot.skip {D S : List Nat} (i : Nat) {o : Oper} {d : Nat} {ts : List Nat} {frs : Frm} (ho : ops[i]? = some o) (hd : o.dst = some d) (hN : Nat.blt d N = true) (hp : Pick fr ts frs) (hl : look fr d = none) (hsl : slotsOK ops i frs = true) (hw : wantF ops frs o = some false)
    (hnd : memB S i = false) (k : Pot P N ops (i :: D) S ((d, undef) :: fr) I L K) : Pot P N ops D S fr I L K := by
  intro hD Q0 hk fuel T a w hcnt hT hF hw'
  refine k (fun j hj => ?_) Q0 hk fuel T a w hcnt ⟨hT.size, fun j hj => (hT.sub j hj).imp (List.mem_cons_of_mem _) id, hT.chain⟩ ⟨hF.1, hF.2.1, fun t u hlu => ?_⟩ hw'
  · rcases List.mem_cons.1 hj with rfl | hj
    · exact ⟨o, d, undef, frs, ho, hd, hN, by rw [look_cons, if_pos rfl], hp.sub.ext (Ext.cons undef hl), hsl, .inr ⟨hw, rfl⟩⟩
    · exact (hD j hj).mono (Ext.cons undef hl) I.le_refl
  · rw [look_cons] at hlu
    by_cases e : d = t
    · subst e
      cases hx : T[i]? with
      | none =>
        have := (Array.getElem?_eq_some_iff.1 ho).1
        rw [Array.getElem?_eq_none_iff, hT.size] at hx; omega
      | some b =>
        cases b with
        | false => exact .inl ⟨i, o, ho, hd, hx⟩
        | true =>
          exfalso
          rcases hT.sub i hx with h1 | h1
          · obtain ⟨o', d', v', frs', e1, e2, _, e4, _⟩ := hD i h1
            rw [ho] at e1; simp only [Option.some.injEq] at e1; subst e1
            rw [hd] at e2; simp only [Option.some.injEq] at e2; subst e2
            rw [hl] at e4; cases e4
          · rw [memB_iff.2 h1] at hnd; cases hnd
    · rw [if_neg e] at hlu; exact hF.2.2 t u hlu

/-- A guard that is not known is either. -/
theorem Pot.guard {D S : List Nat} (s : Nat) {t : Bool} (hs : look fr s = some (.bool t)) (ht : t = true → Pot P N ops D S fr I L K) (hf : t = false → Pot P N ops D S fr I L K) : Pot P N ops D S fr I L K := by
  have _ := hs
  cases h : t with
  | true => exact ht h
  | false => exact hf h

theorem ChainOK.op {D S : List Nat} {c : Nat} {o : Oper} {ts : List Nat} {frs : Frm} {d : Nat} {R : Value → Imm → List Ent → Prop} (ho : ops[c]? = some o) (hd : o.dst = some d) (hN : Nat.blt d N = true) (hp : Pick fr ts frs) (hl : look fr d = none) (hsl : slotsOK ops c frs = true) (hw : wantF ops frs o = some true)
    (ha : Acts P N frs I L o R) (k : ∀ v I' L', R v I' L' → I.le I' ∧ Pot P N ops D (c :: S) ((d, v) :: fr) I' L' K) : ChainOK P N ops D S fr I L K c :=
  ⟨o, frs, ho, hp.sub, hsl, fun d' hd' => by rw [hd] at hd'; simp only [Option.some.injEq] at hd'; subst hd'; exact ⟨hN, hl⟩, .inl ⟨hw, R, ha, fun v I' L' hR => by
    have := k v I' L' hR
    unfold dstF; rw [hd]; exact this⟩⟩

theorem ChainOK.opU {D S : List Nat} {c : Nat} {o : Oper} {ts : List Nat} {frs : Frm} {R : Value → Imm → List Ent → Prop} (ho : ops[c]? = some o) (hd : o.dst = none) (hp : Pick fr ts frs) (hsl : slotsOK ops c frs = true) (hw : wantF ops frs o = some true)
    (ha : Acts P N frs I L o R) (k : ∀ v I' L', R v I' L' → I.le I' ∧ Pot P N ops D (c :: S) fr I' L' K) : ChainOK P N ops D S fr I L K c :=
  ⟨o, frs, ho, hp.sub, hsl, fun d' hd' => by (rw [hd] at hd'; cases hd'), .inl ⟨hw, R, ha, fun v I' L' hR => by
    have := k v I' L' hR
    unfold dstF; rw [hd]; exact this⟩⟩

theorem ChainOK.skip {D S : List Nat} {c : Nat} {o : Oper} {ts : List Nat} {frs : Frm} {d : Nat} (ho : ops[c]? = some o) (hd : o.dst = some d) (hN : Nat.blt d N = true) (hp : Pick fr ts frs) (hl : look fr d = none) (hsl : slotsOK ops c frs = true) (hw : wantF ops frs o = some false)
    (k : Pot P N ops D (c :: S) ((d, undef) :: fr) I L K) : ChainOK P N ops D S fr I L K c :=
  ⟨o, frs, ho, hp.sub, hsl, fun d' hd' => by rw [hd] at hd'; simp only [Option.some.injEq] at hd'; subst hd'; exact ⟨hN, hl⟩, .inr ⟨hw, by
    unfold dstF; rw [hd]; exact k⟩⟩

theorem Cd.draw {id : Nat} {l : List Oper} {Q : Post} (hm : P.follows .mixedOrders = true) (h : Pot P N l.toArray [] [] fr I L (fun fr I L => Q .normal fr I L)) : Cd P N (.region id l.toArray true) fr I L Q := by
  intro a w ha hw
  refine wp_region_any hm ?_
  refine h (fun i hi => by cases hi) _ (fun fr' I' L' a' w' ha' hw' hq => ⟨fr', I', L', ha', hw', hq⟩) _ _ a _ ?_ ⟨by simp, fun i hi => ?_, fun c hc => by cases hc⟩ ⟨ha.defers, ha.size, fun t v hl => .inr (ha.vals t v hl)⟩ hw.drew
  · unfold cnt
    refine Nat.le_trans (List.length_filter_le _ _) ?_
    simp
  · exfalso
    have := (Array.getElem?_eq_some_iff.1 hi).1
    simp at this
    rw [Array.getElem?_replicate] at hi
    simp [this] at hi
end
end Go.Eng
