/- The engine, part B: the rules for operations. No function of the program is proved here. -/
import Derived.Test.YtdecipfdbkpigaaEngA
namespace Go.Eng

def wantF (all : Array Oper) (fr : Frm) (o : Oper) : Option Bool :=
  match o.guard with
  | none => some true
  | some (j, b) => match (all[j]?).bind (·.dst) with
    | some s => match look fr s with
      | some (.bool c) => some (c == b)
      | _ => none
    | none => none

theorem wantF_spec {all : Array Oper} {N : Nat} {fr : Frm} {a : Act} {o : Oper} {b : Bool} (ha : Fr N fr a) (h : wantF all fr o = some b) : Region.wanted o (yielded all a.tmps) = b := by
  unfold wantF at h
  unfold Region.wanted
  cases hg : o.guard with
  | none => rw [hg] at h; simpa using h
  | some p =>
    obtain ⟨j, want⟩ := p
    rw [hg] at h
    simp only at h ⊢
    cases hd : (all[j]?).bind (·.dst) with
    | none => rw [hd] at h; simp at h
    | some s =>
      rw [hd] at h
      simp only at h
      cases hl : look fr s with
      | none => rw [hl] at h; simp at h
      | some v =>
        rw [hl] at h
        cases v <;> simp at h
        rename_i c
        have hv := ha.vals s _ hl
        have : a.tmps[s]? = some (.bool c) := by
          rw [Array.getD_eq_getD_getElem?] at hv
          cases hx : a.tmps[s]? with
          | none => rw [hx] at hv; simp [undef] at hv
          | some u => rw [hx] at hv; simpa using hv
        simp only [yielded, hd, Option.bind_some, this]
        subst h
        cases c <;> cases want <;> rfl

section
variable {P : Program} {N : Nat} {all : Array Oper} {o : Oper} {rest : List Oper} {fr : Frm} {I : Imm} {L : List Ent}

/-- Operations, one behind the other. -/
def Opz (P : Program) (N : Nat) (all : Array Oper) (ops : List Oper) (fr : Frm) (I : Imm) (L : List Ent) (K : Frm → Imm → List Ent → Prop) : Prop :=
  ∀ a w (Q0 : Exit → Act → World → Prop), Fr N fr a → HS I L w →
    (∀ fr' I' L' a' w', Fr N fr' a' → HS I' L' w' → K fr' I' L' → Q0 .normal a' w') → wpList P all Q0 ops a w

variable {K : Frm → Imm → List Ent → Prop}

theorem Cd.region {id : Nat} {l : List Oper} {Q : Post} (h : Opz P N l.toArray l fr I L (fun fr I L => Q .normal fr I L)) : Cd P N (.region id l.toArray false) fr I L Q := by
  intro a w ha hw
  exact wp_region_lit (h a w _ ha hw (fun fr' I' L' a' w' ha' hw' hq => ⟨fr', I', L', ha', hw', hq⟩))

theorem Opz.nil (h : K fr I L) : Opz P N all [] fr I L K := fun a w Q0 ha hw hk => hk fr I L a w ha hw h

def Agree (fr : Frm) (ρ : Operand → Value) : Prop := ∀ x v, evF fr x = some v → ρ x = v

/-- An operation that only tells a value. -/
def RunsTo (P : Program) (fr : Frm) (I : Imm) (L : List Ent) (o : Oper) (v : Value) : Prop :=
  ∀ ρ w, Agree fr ρ → HS I L w → (execOp ρ o).run P w = .ok (.value v) w

theorem Fr.agree {a : Act} (h : Fr N fr a) : Agree fr a.eval := fun _ _ hx => h.ev hx

theorem Opz.val {d : Nat} {v : Value} (hr : RunsTo P fr I L o v) (hw : wantF all fr o = some true) (hd : o.dst = some d) (hlt : Nat.blt d N = true)
    (k : Opz P N all rest ((d, v) :: fr) I L K) : Opz P N all (o :: rest) fr I L K := by
  intro a w Q0 ha hs hk
  refine wpList_step fun K' hK' => ?_
  rw [if_pos (wantF_spec ha hw)]
  unfold Oper.wp
  rw [hr a.eval w ha.agree hs, Oper.upon_value, hd]
  exact hK' _ _ (k _ w Q0 (ha.put hlt v) hs hk)

theorem Opz.none {d : Nat} (hw : wantF all fr o = some false) (hd : o.dst = some d) (hlt : Nat.blt d N = true)
    (k : Opz P N all rest ((d, undef) :: fr) I L K) : Opz P N all (o :: rest) fr I L K := by
  intro a w Q0 ha hs hk
  refine wpList_step fun K' hK' => ?_
  rw [if_neg (by rw [wantF_spec ha hw]; simp), hd]
  exact hK' _ _ (k _ w Q0 (ha.put hlt undef) hs hk)

/-- A guard that is not known is either. -/
theorem Opz.guard (s : Nat) {t : Bool} {ops : List Oper} (hs : look fr s = some (.bool t)) (ht : t = true → Opz P N all ops ((s, .bool true) :: fr) I L K) (hf : t = false → Opz P N all ops ((s, .bool false) :: fr) I L K) : Opz P N all ops fr I L K := by
  intro a w Q0 ha hw hk
  have put : ∀ b, t = b → Fr N ((s, .bool b) :: fr) a := by
    rintro b rfl
    exact ⟨ha.defers, ha.size, fun u v hl => by
      rw [look_cons] at hl
      by_cases e : s = u
      · subst e; rw [if_pos rfl] at hl; rw [← Option.some.inj hl]; exact ha.vals _ _ hs
      · rw [if_neg e] at hl; exact ha.vals _ _ hl⟩
  cases ht' : t with
  | true => exact ht ht' a w Q0 (put _ ht') hw hk
  | false => exact hf ht' a w Q0 (put _ ht') hw hk

theorem Opz.guardD (s : Nat) {p : Prop} [Decidable p] {ops : List Oper} (hs : look fr s = some (.bool (decide p))) (ht : p → Opz P N all ops ((s, .bool true) :: fr) I L K) (hf : ¬ p → Opz P N all ops ((s, .bool false) :: fr) I L K) : Opz P N all ops fr I L K :=
  Opz.guard s hs (fun h => ht (of_decide_eq_true h)) (fun h => hf (of_decide_eq_false h))

theorem Opz.weak {fr' : Frm} {ops : List Oper} (hs : Sub fr' fr) (h : Opz P N all ops fr' I L K) : Opz P N all ops fr I L K := fun a w Q0 ha hw hk => h a w Q0 (ha.weak hs) hw hk

/-- An operation that may turn memory. -/
def Acts (P : Program) (N : Nat) (fr : Frm) (I : Imm) (L : List Ent) (o : Oper) (R : Value → Imm → List Ent → Prop) : Prop :=
  ∀ a w (next : Act → World → Prop) (Q : Exit → Act → World → Prop), Fr N fr a → HS I L w →
    (∀ v I' L' w', HS I' L' w' → R v I' L' → next (a.put o.dst v) w') → o.wp P a w next Q

theorem Opz.op {d : Nat} {R : Value → Imm → List Ent → Prop} (hr : Acts P N fr I L o R) (hw : wantF all fr o = some true) (hd : o.dst = some d) (hlt : Nat.blt d N = true)
    (k : ∀ v I' L', R v I' L' → Opz P N all rest ((d, v) :: fr) I' L' K) : Opz P N all (o :: rest) fr I L K := by
  intro a w Q0 ha hs hk
  refine wpList_step fun K' hK' => ?_
  rw [if_pos (wantF_spec ha hw)]
  refine hr a w _ _ ha hs (fun v I' L' w' hw' hR => ?_)
  rw [hd]
  exact hK' _ _ (k v I' L' hR _ w' Q0 (ha.put hlt v) hw' hk)

theorem Opz.opU {R : Value → Imm → List Ent → Prop} (hr : Acts P N fr I L o R) (hw : wantF all fr o = some true) (hd : o.dst = .none)
    (k : ∀ v I' L', R v I' L' → Opz P N all rest fr I' L' K) : Opz P N all (o :: rest) fr I L K := by
  intro a w Q0 ha hs hk
  refine wpList_step fun K' hK' => ?_
  rw [if_pos (wantF_spec ha hw)]
  refine hr a w _ _ ha hs (fun v I' L' w' hw' hR => ?_)
  rw [hd]
  exact hK' _ _ (k v I' L' hR _ w' Q0 ha hw' hk)

/-- What an operation leaves, outright. -/
def Is (v0 : Value) (I0 : Imm) (L0 : List Ent) : Value → Imm → List Ent → Prop := fun v I L => v0 = v ∧ I0 = I ∧ L0 = L

theorem RunsTo.acts {v : Value} (h : RunsTo P fr I L o v) : Acts P N fr I L o (Is v I L) := by
  intro a w next Q ha hs hk
  unfold Oper.wp
  rw [h a.eval w ha.agree hs]
  exact hk v I L w hs ⟨rfl, rfl, rfl⟩

/-- A step that changes no memory may come first: what is known is handed on. -/
theorem Opz.imp {ops : List Oper} {K' : Frm → Imm → List Ent → Prop} (h : Opz P N all ops fr I L K') (hk : ∀ fr I L, K' fr I L → K fr I L) : Opz P N all ops fr I L K :=
  fun a w Q0 ha hw hq => h a w Q0 ha hw (fun fr' I' L' a' w' ha' hw' h' => hq fr' I' L' a' w' ha' hw' (hk _ _ _ h'))

/-! ## Values that are only told -/
variable {ty : TypeId} {pos : String} {aft : Array Edge} {gd : Option (Nat × Bool)} {d : Option Tmp} {x y z : Operand} {v vx vy : Value}

theorem R.move (hx : evF fr x = some v) : RunsTo P fr I L ⟨d, .move x, ty, pos, aft, gd⟩ v := fun ρ w hρ _ => by simp [execOp, hρ x v hx]
theorem R.assign (hx : evF fr x = some v) : RunsTo P fr I L ⟨d, .assign x, ty, pos, aft, gd⟩ v := fun ρ w hρ _ => by simp [execOp, hρ x v hx]

theorem R.pick {t : Bool} (hx : evF fr x = some (.bool t)) (h : evF fr (bif t then y else z) = some v) : RunsTo P fr I L ⟨d, .pick x y z, ty, pos, aft, gd⟩ v := fun ρ w hρ _ => by
  have h2 := hρ _ _ h
  cases t <;> simp_all [execOp, hρ x _ hx, asBool]

theorem R.nilP {ad : Addr} (hx : evF fr x = some (.pointer (some ad))) : RunsTo P fr I L ⟨d, .nilCheck x, ty, pos, aft, gd⟩ (.pointer (some ad)) := fun ρ w hρ _ => by simp [execOp, hρ x _ hx]
theorem R.nilF {f : FuncId} {fs cs : Array Value} (hx : evF fr x = some (.func (.func f) fs cs)) : RunsTo P fr I L ⟨d, .nilCheck x, ty, pos, aft, gd⟩ (.func (.func f) fs cs) := fun ρ w hρ _ => by simp [execOp, hρ x _ hx]

/-- A field's address: 'off': where it lies. -/
theorem R.field {b k off : Nat} {s i : Nat} {fs : Array Field} {f : Field} {info : TypeInfo} (hx : evF fr x = some (.pointer (some ⟨b, k, .none⟩)))
    (hs : P.underlying s = some (.struct fs)) (hf : fs[i]? = some f) (hi : ∀ w, (typeInfo f.type).run P w = .ok info w) (h0 : Nat.beq info.size 0 = false) (hoff : k + f.offset = off) :
    RunsTo P fr I L ⟨d, .fieldAddr s x i, ty, pos, aft, gd⟩ (.pointer (some ⟨b, off, .none⟩)) := fun ρ w hρ _ => by
  have h1 : info.size ≠ 0 := by intro h; rw [h] at h0; simp at h0
  have hr : (underlying s).run P w = .ok (.struct fs) w := by simp [underlying, hs]
  have : (⟨b, k, .none⟩ : Addr).add f.offset = ⟨b, off, .none⟩ := by
    subst hoff
    unfold Addr.add
    split <;> simp_all
  simp [execOp, hρ x _ hx, Instr.fieldAt, hr, hf, Instr.sureAddr, fieldPlace, sizeOf, hi, h1, this]

/-- The same, of whatever address. -/
theorem R.fieldA {ad : Addr} {s i : Nat} {fs : Array Field} {f : Field} {info : TypeInfo} (hx : evF fr x = some (.pointer (some ad)))
    (hs : P.underlying s = some (.struct fs)) (hf : fs[i]? = some f) (hi : ∀ w, (typeInfo f.type).run P w = .ok info w) (h0 : Nat.beq info.size 0 = false) :
    RunsTo P fr I L ⟨d, .fieldAddr s x i, ty, pos, aft, gd⟩ (.pointer (some (ad.add f.offset))) := fun ρ w hρ _ => by
  have h1 : info.size ≠ 0 := by intro h; rw [h] at h0; simp at h0
  have hr : (underlying s).run P w = .ok (.struct fs) w := by simp [underlying, hs]
  simp [execOp, hρ x _ hx, Instr.fieldAt, hr, hf, Instr.sureAddr, fieldPlace, sizeOf, hi, h1]

def oneB : TypeDesc → Bool
  | .struct _ | .array _ _ => false
  | _ => true

theorem isAgg_one {t : TypeId} {td : TypeDesc} (h : P.underlying t = some td) (h1 : oneB td = true) (w : World) : (isAgg t).run P w = .ok false w := by
  have hr : (underlying t).run P w = .ok td w := by simp [underlying, h]
  unfold isAgg
  rw [Sem.run_bind, hr]
  cases td <;> first | rfl | simp [oneB] at h1

theorem isAgg_agg {t : TypeId} {td : TypeDesc} (h : P.underlying t = some td) (h1 : oneB td = false) (w : World) : (isAgg t).run P w = .ok true w := by
  have hr : (underlying t).run P w = .ok td w := by simp [underlying, h]
  unfold isAgg
  rw [Sem.run_bind, hr]
  cases td <;> first | rfl | simp [oneB] at h1

theorem run_loadVar_one {t : TypeId} {td : TypeDesc} {ad : Addr} {w : World} (h : P.underlying t = some td) (h1 : oneB td = true) (hc : w.cell? ad = some v) : (loadVar t ad).run P w = .ok v w := by
  unfold loadVar
  rw [Sem.run_bind, isAgg_one h h1]
  simp [hc]

theorem R.load {t : TypeId} {td : TypeDesc} {ad : Addr} (hx : evF fr x = some (.pointer (some ad))) (h : P.underlying t = some td) (h1 : oneB td = true)
    (hc : ∀ w, HS I L w → w.cell? ad = some v) : RunsTo P fr I L ⟨d, .load t x, ty, pos, aft, gd⟩ v := fun ρ w hρ hs => by
  simp [execOp, hρ x _ hx, Instr.loadAt, Instr.sureAddr, run_loadVar_one h h1 (hc w hs)]

theorem cellI {ad : Addr} (hc : I.cell ad = some v) : ∀ w, HS I L w → w.cell? ad = some v := fun _ hs => hs.cell hc

theorem cell_blk {w : World} {b : Nat} {t : TypeId} {cs : List Value} (hs : HS I L w) (hm : Ent.blk b t cs ∈ L) (off : Nat) : w.cell? ⟨b, off, .none⟩ = cs[off]? := by
  have := hs.ents _ hm
  simp only [Ent.ok] at this
  simp [World.cell?, this]

theorem cellL {b off : Nat} {t : TypeId} {cs : List Value} (hm : Ent.blk b t cs ∈ L) (hc : cs[off]? = some v) : ∀ w, HS I L w → w.cell? ⟨b, off, .none⟩ = some v :=
  fun _ hs => (cell_blk hs hm off).trans hc

/-- Cells, one behind the other. -/
def CellsAt (w : World) (ad : Addr) (cs : List Value) : Prop := ∀ i, i < cs.length → w.cell? (ad.add i) = cs[i]?

theorem run_loadCellsFrom {w : World} {ad : Addr} : ∀ (n i : Nat) (cs : List Value) (acc : Array Value), cs.length = n → (∀ j, j < n → w.cell? (ad.add (i + j)) = cs[j]?) →
    (loadCellsFrom ad i n acc).run P w = .ok (acc ++ cs.toArray) w := by
  intro n
  induction n with
  | zero => intro i cs acc hl _; have : cs = [] := List.length_eq_zero_iff.1 hl; subst this; simp [loadCellsFrom]
  | succ n ih =>
    intro i cs acc hl hc
    cases cs with
    | nil => simp at hl
    | cons c cs =>
      have h0 : w.cell? (ad.add i) = some c := by simpa using hc 0 (by omega)
      have := ih (i + 1) cs (acc.push c) (by simpa using hl) (fun j hj => by have := hc (j + 1) (by omega); simpa [Nat.add_assoc, Nat.add_comm 1 j] using this)
      simp [loadCellsFrom, h0, this]

theorem run_loadVar_agg {t : TypeId} {td : TypeDesc} {ad : Addr} {w : World} {cs : List Value} {info : TypeInfo} (h : P.underlying t = some td) (h1 : oneB td = false) (hi : ∀ w, (typeInfo t).run P w = .ok info w)
    (hn : info.size = cs.length) (hc : CellsAt w ad cs) : (loadVar t ad).run P w = .ok (.agg cs.toArray) w := by
  unfold loadVar
  rw [Sem.run_bind, isAgg_agg h h1]
  have hx : (loadCells ad cs.length).run P w = .ok cs.toArray w := by
    unfold loadCells
    rw [run_loadCellsFrom cs.length 0 cs #[] rfl (fun j hj => by rw [Nat.zero_add]; exact hc j hj)]
    simp
  simp [sizeOf, hi, hn, hx]

theorem R.loadAgg {t : TypeId} {td : TypeDesc} {ad : Addr} {cs : List Value} {info : TypeInfo} (hx : evF fr x = some (.pointer (some ad))) (h : P.underlying t = some td) (h1 : oneB td = false) (hi : ∀ w, (typeInfo t).run P w = .ok info w)
    (hn : info.size = cs.length) (hc : ∀ w, HS I L w → CellsAt w ad cs) : RunsTo P fr I L ⟨d, .load t x, ty, pos, aft, gd⟩ (.agg cs.toArray) := fun ρ w hρ hs => by
  simp [execOp, hρ x _ hx, Instr.loadAt, Instr.sureAddr, run_loadVar_agg h h1 hi hn (hc w hs)]

theorem cellsL {b : Nat} {t : TypeId} {cs : List Value} (hm : Ent.blk b t cs ∈ L) : ∀ w, HS I L w → CellsAt w ⟨b, 0, .none⟩ cs := by
  intro w hs i _
  have : (⟨b, 0, .none⟩ : Addr).add i = ⟨b, i, .none⟩ := by unfold Addr.add; split <;> simp_all
  rw [this]; exact cell_blk hs hm i

theorem cellsI {ad : Addr} {cs : List Value} (h : ∀ i, i < cs.length → I.cell (ad.add i) = cs[i]?) : ∀ w, HS I L w → CellsAt w ad cs := by
  intro w hs i hi
  have := h i hi
  rw [List.getElem?_eq_getElem hi] at this ⊢
  exact hs.cell this

/-! ### Numbers -/
def loK : IntKind → Int
  | .i8 => -128 | .i16 => -32768 | .i32 => -2147483648 | .i64 => -9223372036854775808 | _ => 0
def hiK : IntKind → Int
  | .i8 => 127 | .i16 => 32767 | .i32 => 2147483647 | .i64 => 9223372036854775807 | .u8 => 255 | .u16 => 65535 | .u32 => 4294967295 | .u64 => 18446744073709551615

def InR (k : IntKind) (n : Int) : Prop := loK k ≤ n ∧ n ≤ hiK k

theorem wrap_in {k : IntKind} {n : Int} (h : InR k n) : k.wrap n = n := by
  obtain ⟨h1, h2⟩ := h
  cases k <;> simp only [loK, hiK] at h1 h2
  · exact IntWalk.i8_in n ⟨h1, h2⟩
  · exact IntWalk.i16_in n ⟨h1, h2⟩
  · exact IntWalk.i32_in n ⟨h1, h2⟩
  · exact IntWalk.i64_in n ⟨h1, h2⟩
  · exact IntWalk.u8_in n ⟨h1, h2⟩
  · exact IntWalk.u16_in n ⟨h1, h2⟩
  · exact IntWalk.u32_in n ⟨h1, h2⟩
  · exact IntWalk.u64_in n ⟨h1, h2⟩

/-- A number as its kind keeps it: of an unsigned kind a remainder. -/
def wr : IntKind → Int → Int
  | .u8, n => n % 256
  | .u16, n => n % 65536
  | .u32, n => n % 4294967296
  | .u64, n => n % 18446744073709551616
  | k, n => k.wrap n
theorem wrap_wr (k : IntKind) (n : Int) : k.wrap n = wr k n := by
  cases k <;> simp [wr, IntKind.wrap, IntKind.bits, IntKind.signed]

theorem binOp_add (k : IntKind) (a b : Int) : binOp .add ty (.int k a) (.int k b) = pure (.int k (k.wrap (a + b))) := by simp [binOp, Op.intArith]
theorem binOp_sub (k : IntKind) (a b : Int) : binOp .sub ty (.int k a) (.int k b) = pure (.int k (k.wrap (a - b))) := by simp [binOp, Op.intArith]
theorem binOp_mul (k : IntKind) (a b : Int) : binOp .mul ty (.int k a) (.int k b) = pure (.int k (k.wrap (a * b))) := by simp [binOp, Op.intArith]

theorem run_guard_int {w : World} (op : BinOp) (t : TypeId) (x y : Operand) (k k' : IntKind) (a b : Int) : (eqGuard op t x y (.int k a) (.int k' b)).run P w = .ok () w := by
  unfold eqGuard; split <;> simp

theorem R.bin {op : BinOp} {t u : TypeId} {k k' : IntKind} {a b : Int} (hx : evF fr x = some (.int k a)) (hy : evF fr y = some (.int k' b)) (h : ∀ w, (binOp op t (.int k a) (.int k' b)).run P w = .ok v w) :
    RunsTo P fr I L ⟨d, .binOp op t x y u, ty, pos, aft, gd⟩ v := fun ρ w hρ _ => by
  simp only [execOp, hρ x _ hx, hρ y _ hy]
  rw [Sem.run_bind, Sem.run_bind, run_guard_int, Result.andThen_ok, h]; rfl

section
variable {t u : TypeId} {k : IntKind} {a b : Int}
theorem R.add (hx : evF fr x = some (.int k a)) (hy : evF fr y = some (.int k b)) (h : InR k (a + b)) : RunsTo P fr I L ⟨d, .binOp .add t x y u, ty, pos, aft, gd⟩ (.int k (a + b)) :=
  R.bin hx hy (fun w => by rw [binOp_add, wrap_in h]; rfl)
theorem R.addW (hx : evF fr x = some (.int k a)) (hy : evF fr y = some (.int k b)) : RunsTo P fr I L ⟨d, .binOp .add t x y u, ty, pos, aft, gd⟩ (.int k (wr k (a + b))) :=
  R.bin hx hy (fun w => by rw [binOp_add, wrap_wr]; rfl)
theorem R.sub (hx : evF fr x = some (.int k a)) (hy : evF fr y = some (.int k b)) (h : InR k (a - b)) : RunsTo P fr I L ⟨d, .binOp .sub t x y u, ty, pos, aft, gd⟩ (.int k (a - b)) :=
  R.bin hx hy (fun w => by rw [binOp_sub, wrap_in h]; rfl)
theorem R.subW (hx : evF fr x = some (.int k a)) (hy : evF fr y = some (.int k b)) : RunsTo P fr I L ⟨d, .binOp .sub t x y u, ty, pos, aft, gd⟩ (.int k (wr k (a - b))) :=
  R.bin hx hy (fun w => by rw [binOp_sub, wrap_wr]; rfl)
theorem R.mul (hx : evF fr x = some (.int k a)) (hy : evF fr y = some (.int k b)) (h : InR k (a * b)) : RunsTo P fr I L ⟨d, .binOp .mul t x y u, ty, pos, aft, gd⟩ (.int k (a * b)) :=
  R.bin hx hy (fun w => by rw [binOp_mul, wrap_in h]; rfl)
theorem R.mulW (hx : evF fr x = some (.int k a)) (hy : evF fr y = some (.int k b)) : RunsTo P fr I L ⟨d, .binOp .mul t x y u, ty, pos, aft, gd⟩ (.int k (wr k (a * b))) :=
  R.bin hx hy (fun w => by rw [binOp_mul, wrap_wr]; rfl)

theorem R.lss (hx : evF fr x = some (.int k a)) (hy : evF fr y = some (.int k b)) : RunsTo P fr I L ⟨d, .binOp .lss t x y u, ty, pos, aft, gd⟩ (.bool (decide (a < b))) :=
  R.bin hx hy (fun w => by simp [binOp, Op.intCmp])
theorem R.leq (hx : evF fr x = some (.int k a)) (hy : evF fr y = some (.int k b)) : RunsTo P fr I L ⟨d, .binOp .leq t x y u, ty, pos, aft, gd⟩ (.bool (decide (a ≤ b))) :=
  R.bin hx hy (fun w => by simp [binOp, Op.intCmp])
theorem R.gtr (hx : evF fr x = some (.int k a)) (hy : evF fr y = some (.int k b)) : RunsTo P fr I L ⟨d, .binOp .gtr t x y u, ty, pos, aft, gd⟩ (.bool (decide (b < a))) :=
  R.bin hx hy (fun w => by simp [binOp, Op.intCmp])
theorem R.geq (hx : evF fr x = some (.int k a)) (hy : evF fr y = some (.int k b)) : RunsTo P fr I L ⟨d, .binOp .geq t x y u, ty, pos, aft, gd⟩ (.bool (decide (b ≤ a))) :=
  R.bin hx hy (fun w => by simp [binOp, Op.intCmp])
theorem R.eql (hx : evF fr x = some (.int k a)) (hy : evF fr y = some (.int k b)) : RunsTo P fr I L ⟨d, .binOp .eql t x y u, ty, pos, aft, gd⟩ (.bool (decide (a = b))) :=
  R.bin hx hy (fun w => by simp [binOp, Op.intCmp]; try rfl)
theorem R.neq (hx : evF fr x = some (.int k a)) (hy : evF fr y = some (.int k b)) : RunsTo P fr I L ⟨d, .binOp .neq t x y u, ty, pos, aft, gd⟩ (.bool (decide (a ≠ b))) :=
  R.bin hx hy (fun w => by simp [binOp, Op.intCmp]; try rfl)
end
end
end Go.Eng
