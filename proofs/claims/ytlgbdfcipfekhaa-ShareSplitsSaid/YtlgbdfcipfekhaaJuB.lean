/- The second floor, part B: operands, types, operations that only tell a value. No function of the program is proved here. -/
import Derived.Test.YtlgbdfcipfekhaaJuA
set_option linter.unusedVariables false
set_option linter.unusedSimpArgs false
set_option linter.unnecessarySimpa false
set_option linter.unusedSectionVars false
set_option linter.all false
/- The second floor, part B: operands, types, operations that only tell a value. No function of the program is proved here. -/
namespace Go.V
open Go.Eng

/-! ## Types -/
inductive TD where
  | int (k : IntKind) | bool | string | pointer (e : TypeId) | slice (e : TypeId) | array (n : Nat) (e : TypeId) | struct (fs : List (TypeId × Nat)) | map (k e : TypeId) | func | iface | other

def tdOf : TypeDesc → TD
  | .int k => .int k
  | .bool => .bool
  | .string => .string
  | .pointer e => .pointer e
  | .slice e => .slice e
  | .array n e => .array n e
  | .struct fs => .struct (fs.toList.map fun f => (f.type, f.offset))
  | .map k e => .map k e
  | .func _ _ _ => .func
  | .interface _ => .iface
  | _ => .other

structure TI where
  td : TD
  size : Nat
  bytes : Nat
  zero : AV

def TD.one : TD → Bool
  | .struct _ | .array _ _ => false
  | _ => true

/-- A constant, as what it tells. -/
def constD : Value → Option D
  | .int k n => bif (decide (loK k ≤ n) && decide (n ≤ hiK k)) then some (.int k n) else none
  | .bool b => some (.bool b)
  | .string s => bif Nat.ble s.data.toList.length 1000000 then some (.str s.data.toList) else none
  | .pointer none => some .nilp
  | .slice none 0 0 => some .nils
  | _ => none
def constDs : List Value → Option (List D)
  | [] => some []
  | v :: vs => match constD v, constDs vs with
    | some x, some xs => some (x :: xs)
    | _, _ => none
def constA : Value → AV
  | .nilFunc => .nilf
  | .map none => .nilm
  | .agg cs => match constDs cs.toList with
    | some xs => .d (.agg xs)
    | none => .undef
  | v => match constD v with
    | some x => .d x
    | none => .undef

theorem constD_ok {I : Imm} {v : Value} {x : D} (h : constD v = some x) : RelD I v x := by
  unfold constD at h
  split at h
  · rename_i k n
    cases hb : (decide (loK k ≤ n) && decide (n ≤ hiK k)) with
    | false => rw [hb] at h; cases h
    | true =>
      rw [hb] at h; simp at h; subst h
      simp only [Bool.and_eq_true, decide_eq_true_eq] at hb
      exact .int hb
  · simp at h; subst h; exact .bool
  · rename_i s
    cases hb : Nat.ble s.data.toList.length 1000000 with
    | false => rw [hb] at h; cases h
    | true =>
      rw [hb] at h; simp at h; subst h
      have := Nat.le_of_ble_eq_true hb
      have h2 := RelD.str (I := I) (s := s.data.toList) (by omega)
      rw [← strOf_eq] at h2; exact h2
  · simp at h; subst h; exact .nilp
  · simp at h; subst h; exact .nils
  · cases h
theorem constD_one {v : Value} {x : D} (h : constD v = some x) : v.oneCell' = true := by
  cases v <;> first | rfl | (simp [constD] at h)
theorem constDs_ones : ∀ {vs : List Value} {xs : List D}, constDs vs = some xs → Ones vs
  | [], _, _ => .nil
  | v :: vs, xs, h => by
    unfold constDs at h
    split at h
    · rename_i x xs' h1 h2
      intro u hu
      rcases List.mem_cons.1 hu with rfl | hu
      · exact constD_one h1
      · exact constDs_ones h2 u hu
    · cases h
theorem constDs_ok {I : Imm} : ∀ {vs : List Value} {xs : List D}, constDs vs = some xs → All2 (RelD I) vs xs
  | [], xs, h => by simp [constDs] at h; subst h; exact .nil
  | v :: vs, xs, h => by
    unfold constDs at h
    split at h
    · rename_i x xs' h1 h2
      simp at h; subst h
      exact .cons (constD_ok h1) (constDs_ok h2)
    · cases h
theorem constA_ok {I : Imm} {ρ : Nat → Value} {v : Value} (h : constA v ≠ .undef) : RelA I ρ v (constA v) := by
  have dflt : ∀ {o : Option D} {u : Value}, constD u = o → (match o with | some x => AV.d x | none => .undef) ≠ .undef → RelA I ρ u (match o with | some x => AV.d x | none => .undef) := by
    intro o u ho hu
    cases o with
    | none => exact absurd rfl hu
    | some x => exact .d (constD_ok ho)
  cases v with
  | nilFunc => exact .nilf
  | agg cs =>
    simp only [constA] at h ⊢
    cases hx : constDs cs.toList with
    | none => rw [hx] at h; exact absurd rfl h
    | some xs =>
      have := constDs_ok (I := I) hx
      have h2 : RelD I (.agg cs.toList.toArray) (.agg xs) := .agg this.1 (constDs_ones hx) this.2
      exact .d (by simpa using h2)
  | map r => cases r with
    | none => exact .nilm
    | some r => exact dflt rfl h
  | _ => exact dflt rfl h

/-- A table of types says what is so. -/
structure TOk (P : Program) (T : TypeId → Option TI) : Prop where
  ok : ∀ t i, T t = some i → ∃ desc info zv, P.underlying t = some desc ∧ tdOf desc = i.td ∧ P.info? t = some info ∧ info.zero = some zv ∧ info.size = i.size ∧ info.bytes = i.bytes ∧ zv.cells.size = i.size ∧ constA zv = i.zero ∧ i.zero ≠ .undef
  mix : P.follows .mixedOrders = true

section
variable {P : Program} {T : TypeId → Option TI}
theorem run_ti {t : TypeId} {info : TypeInfo} (h : P.info? t = some info) (w : World) : (typeInfo t).run P w = .ok info w := by simp [typeInfo, h]
theorem run_zv {t : TypeId} {info : TypeInfo} {zv : Value} (h : P.info? t = some info) (hz : info.zero = some zv) (w : World) : (zeroValue t).run P w = .ok zv w := by simp [zeroValue, typeInfo, h, hz]

theorem td_slice {d : TypeDesc} {e : TypeId} (h : tdOf d = .slice e) : d = .slice e := by cases d <;> simp [tdOf] at h; rw [h]
theorem td_int {d : TypeDesc} {k : IntKind} (h : tdOf d = .int k) : d = .int k := by cases d <;> simp [tdOf] at h; rw [h]
theorem td_string {d : TypeDesc} (h : tdOf d = .string) : d = .string := by cases d <;> simp [tdOf] at h; rfl
theorem td_bool {d : TypeDesc} (h : tdOf d = .bool) : d = .bool := by cases d <;> simp [tdOf] at h; rfl
theorem td_pointer {d : TypeDesc} {e : TypeId} (h : tdOf d = .pointer e) : d = .pointer e := by cases d <;> simp [tdOf] at h; rw [h]
theorem td_array {d : TypeDesc} {n e : Nat} (h : tdOf d = .array n e) : d = .array n e := by cases d <;> simp [tdOf] at h; rw [h.1, h.2]
theorem td_struct {d : TypeDesc} {fs : List (TypeId × Nat)} (h : tdOf d = .struct fs) : ∃ gs : Array Field, d = .struct gs ∧ gs.toList.map (fun f => (f.type, f.offset)) = fs := by cases d <;> simp [tdOf] at h; exact ⟨_, rfl, h⟩
theorem td_one {d : TypeDesc} : oneB d = (tdOf d).one := by cases d <;> rfl
end

/-! ## Operands -/
def normA (hp : List (Nat × Obj)) : AV → AV
  | .sl l => match lookO hp l with
    | .froz xs => .d (.ro xs)
    | _ => .sl l
  | .ptr l o => match lookO hp l with
    | .fzn cs => .rp cs o
    | _ => .ptr l o
  | a => a

def ev (st : St) : Operand → AV
  | .tmp t => normA st.hp (lookA st.fr t)
  | .const v => constA v
  | .func f => .fn f [] []
  | .global _ => .undef

def isU : AV → Bool
  | .undef => true
  | _ => false

/-- A value, reckoned out. -/
def frc : AV → Option AV
  | .d x => some (.d x)
  | .sl l => some (.sl l)
  | .ptr l o => some (.ptr l o)
  | .rp cs f => some (.rp cs f)
  | .ep l sz i f => some (.ep l sz i f)
  | .av l sz o n => some (.av l sz o n)
  | .agg cs => some (.agg cs)
  | .tup vs => some (.tup vs)
  | .fn f fs cs => some (.fn f fs cs)
  | .nilf => some .nilf
  | .map l => some (.map l)
  | .nilm => some .nilm
  | .undef => none
theorem frc_ok {a b : AV} (h : frc a = some b) : a = b ∧ a ≠ .undef := by
  cases a <;> simp [frc] at h <;> subst h <;> exact ⟨rfl, by simp⟩

def evs (st : St) : List Operand → Option (List AV)
  | [] => some []
  | x :: xs => match frc (ev st x), evs st xs with
    | some a, some l => some (a :: l)
    | _, _ => none

section
variable {P : Program} {N : Nat} {T : TypeId → Option TI} {I : Imm} {ρ : Nat → Value} {F : List Ent} {st : St} {fr : Frm} {L : List Ent}

theorem RelH.get {h : List (Nat × Obj)} {L : List Ent} (k : RelH I ρ h L) (l : Nat) : ∃ es, RelO I ρ l (lookO h l) es ∧ ∀ e ∈ es, e ∈ L := by
  induction k with
  | nil => exact ⟨[], rfl, fun _ h => by cases h⟩
  | @cons l' o h es L ho k ih =>
    simp only [lookO, beq_eq]
    by_cases e : l' = l
    · subst e; exact ⟨es, by simpa using ho, fun x hx => List.mem_append_left _ hx⟩
    · obtain ⟨es2, h1, h2⟩ := ih
      exact ⟨es2, by simpa [e] using h1, fun x hx => List.mem_append_right _ (h2 x hx)⟩

theorem SR.obj (h : SR I ρ F st fr L) (l : Nat) : ∃ es, RelO I ρ l (lookO st.hp l) es ∧ ∀ e ∈ es, e ∈ L := by
  obtain ⟨L', hh, rfl⟩ := h.hpr
  obtain ⟨es, h1, h2⟩ := hh.get l
  exact ⟨es, h1, fun e he => List.mem_append_left _ (h2 e he)⟩

theorem normA_ok (h : SR I ρ F st fr L) {v : Value} {a : AV} (ha : RelA I ρ v a) : RelA I ρ v (normA st.hp a) := by
  cases ha with
  | @sl l A n c hl =>
    obtain ⟨es, h1, _⟩ := h.obj l
    simp only [normA]
    split
    · rename_i xs hx; rw [hx] at h1; exact .d (hl ▸ h1.1)
    · exact .sl hl
  | @ptr l o b hl =>
    obtain ⟨es, h1, _⟩ := h.obj l
    simp only [normA]
    split
    · rename_i cs hx
      rw [hx] at h1
      obtain ⟨⟨b', us, e1, e2, e4, e3⟩, _⟩ := h1
      rw [hl] at e1
      simp only [Value.pointer.injEq, Option.some.injEq, Addr.mk.injEq, and_true] at e1
      subst e1
      have := RelA.rp (I := I) (ρ := ρ) (a := ⟨b, 0, none⟩) (us := us) (cs := cs) (f := o) (fun j u hj => by rw [add_blk, Nat.zero_add]; exact e2 j u hj) e4 e3
      rw [add_blk, Nat.zero_add] at this; exact this
    · exact .ptr hl
  | _ => first | exact .d (by assumption) | exact .nilf | exact .nilm | exact .rp (by assumption) (by assumption) (by assumption) | exact .ep (by assumption) | exact .av (by assumption) (by assumption) (by assumption) | exact .agg (by assumption) (by assumption) (by assumption) | exact .tup (by assumption) (by assumption) | exact .fn (by assumption) (by assumption) (by assumption) (by assumption) | exact .map (by assumption)

theorem ev_ok (h : SR I ρ F st fr L) {x : Operand} {a : AV} (he : ev st x = a) (hu : a ≠ .undef) : ∃ v, evF fr x = some v ∧ RelA I ρ v a := by
  subst he
  cases x with
  | tmp t =>
    rcases h.frr t with h1 | ⟨v, h1, h2⟩
    · simp only [ev, h1, normA] at hu; exact absurd rfl hu
    · exact ⟨v, h1, normA_ok h h2⟩
  | const v => exact ⟨v, rfl, constA_ok hu⟩
  | func f => exact ⟨_, rfl, .fn (us := []) (ws := []) rfl (fun j u y hj => by simp at hj) rfl (fun j u y hj => by simp at hj)⟩
  | global g => exact absurd rfl hu

theorem evs_ok (h : SR I ρ F st fr L) : ∀ {xs : List Operand} {as : List AV}, evs st xs = some as → ∃ vs, evL fr xs = some vs ∧ All2 (RelA I ρ) vs as
  | [], as, he => by simp [evs] at he; subst he; exact ⟨[], rfl, .nil⟩
  | x :: xs, as, he => by
    unfold evs at he
    split at he
    · rename_i a l ha hl
      simp at he; subst he
      obtain ⟨e1, e2⟩ := frc_ok ha
      obtain ⟨vs, h1, h2⟩ := evs_ok h hl
      obtain ⟨v, h3, h4⟩ := ev_ok h e1 (x := x) (by rw [← e1]; exact e2)
      exact ⟨v :: vs, by simp [evL, h3, h1], .cons h4 h2⟩
    · cases he

/-! ## Operations: what is to be shown -/
/-- What a result tells; nothing, where nothing is known. -/
def RelU (I : Imm) (ρ : Nat → Value) (v : Value) (a : AV) : Prop := a = .undef ∨ RelA I ρ v a
def OpS (P : Program) (N : Nat) (o : Oper) (st : St) (K : AV → St → Prop) : Prop :=
  ∀ I ρ F fr L, SR I ρ F st fr L → Acts P N fr I L o (fun v I' L' => I.le I' ∧ ∃ ρ' a st', RelU I' ρ' v a ∧ SR I' ρ' F st' fr L' ∧ (∀ l, ρ l ≠ .nilFunc → ρ' l = ρ l) ∧ K a st')

theorem OpS.val {o : Oper} {K : AV → St → Prop} (a : AV) (h : ∀ I ρ F fr L, SR I ρ F st fr L → ∃ v, RunsTo P fr I L o v ∧ RelA I ρ v a) (k : K a st) : OpS P N o st K := by
  intro I ρ F fr L hs
  obtain ⟨v, h1, h2⟩ := h I ρ F fr L hs
  intro act w next Q ha hw hk
  exact h1.acts act w next Q ha hw (fun v' I' L' w' hw' hi => hk v' I' L' w' hw' (by
    obtain ⟨rfl, rfl, rfl⟩ := hi
    exact ⟨Imm.le_refl _, ρ, a, st, .inr h2, hs, fun _ _ => rfl, k⟩))
end

/-! ## Numbers -/
def arithW (k : IntKind) (r : Int) (K : AV → Prop) : Prop :=
  match k with
  | .i64 => (-9223372036854775808 ≤ r ∧ r ≤ 9223372036854775807) ∧ K (.d (.int .i64 r))
  | .i32 => (-2147483648 ≤ r ∧ r ≤ 2147483647) ∧ K (.d (.int .i32 r))
  | k => bif uns k then K (.d (.int k (wr k r))) else False

def kEq : IntKind → IntKind → Bool
  | .i8, .i8 | .i16, .i16 | .i32, .i32 | .i64, .i64 | .u8, .u8 | .u16, .u16 | .u32, .u32 | .u64, .u64 => true
  | _, _ => false
theorem kEq_eq {a b : IntKind} (h : kEq a b = true) : a = b := by cases a <;> cases b <;> first | rfl | cases h

def bitsW (k : IntKind) (a b : Int) (r : Nat) (K : AV → Prop) : Prop := bif uns k then K (.d (.int k r)) else (0 ≤ a ∧ 0 ≤ b) ∧ K (.d (.int k r))
def shW (k : IntKind) (b : Int) (K : Prop) : Prop := bif uns k then K else 0 ≤ b ∧ K

def intW (op : BinOp) (k k' : IntKind) (a b : Int) (K : AV → Prop) : Prop :=
  match op with
  | .add => arithW k (a + b) K
  | .sub => arithW k (a - b) K
  | .mul => arithW k (a * b) K
  | .lss => K (.d (.bool (decide (a < b))))
  | .leq => K (.d (.bool (decide (a ≤ b))))
  | .gtr => K (.d (.bool (decide (b < a))))
  | .geq => K (.d (.bool (decide (b ≤ a))))
  | .eql => K (.d (.bool (decide (a = b))))
  | .neq => K (.d (.bool (decide (a ≠ b))))
  | .rem => bif uns k then b ≠ 0 ∧ K (.d (.int k (a % b))) else (0 ≤ a ∧ b ≠ 0) ∧ K (.d (.int k (a % b)))
  | .quo => bif uns k then 0 < b ∧ K (.d (.int k (a / b))) else (0 ≤ a ∧ 0 < b) ∧ K (.d (.int k (a / b)))
  | .and => bitsW k a b (a.toNat &&& b.toNat) K
  | .or => bitsW k a b (a.toNat ||| b.toNat) K
  | .xor => bitsW k a b (a.toNat ^^^ b.toNat) K
  | .andNot => bif uns k then K (.d (.int k ((a.toNat &&& (hiK k - b).toNat : Nat) : Int))) else False
  | .shl => shW k' b (arithW k (a * 2 ^ (min b.toNat k.bits)) K)
  | .shr => shW k' b (K (.d (.int k (a / 2 ^ (min b.toNat k.bits)))))

/-- Are two things one, cell by cell? -/
def eqD : D → D → Option Bool
  | .int k a, .int k' b => bif kEq k k' then some (decide (a = b)) else none
  | .bool a, .bool b => some (a == b)
  | .str a, .str b => some (decide (a = b))
  | _, _ => none

section
variable {P : Program} {N : Nat} {I : Imm} {ρ : Nat → Value} {F : List Ent} {st : St} {fr : Frm} {L : List Ent}
variable {ty : TypeId} {pos : String} {aft : Array Edge} {gd : Option (Nat × Bool)} {d : Option Tmp} {x y : Operand}

theorem rd_int {v : Value} {k : IntKind} {n : Int} (h : RelD I v (.int k n)) : v = .int k n ∧ InR k n := by cases h with | int h => exact ⟨rfl, h⟩
theorem ra_int {v : Value} {k : IntKind} {n : Int} (h : RelA I ρ v (.d (.int k n))) : v = .int k n ∧ InR k n := by cases h with | d h => exact rd_int h
theorem ra_bool {v : Value} {b : Bool} (h : RelA I ρ v (.d (.bool b))) : v = .bool b := by cases h with | d h => cases h with | bool => rfl
theorem ra_str {v : Value} {s : List UInt8} (h : RelA I ρ v (.d (.str s))) : v = .string (strOf s) ∧ s.length ≤ 9223372036854775807 := by cases h with | d h => cases h with | str h => exact ⟨rfl, h⟩
theorem rel_int {k : IntKind} {n : Int} (h : InR k n) : RelA I ρ (.int k n) (.d (.int k n)) := .d (.int h)
theorem rel_bool {b : Bool} : RelA I ρ (.bool b) (.d (.bool b)) := .d .bool

theorem uns_lo {k : IntKind} (h : uns k = true) : loK k = 0 := by cases k <;> first | rfl | cases h
theorem lo_le0 (k : IntKind) : loK k ≤ 0 := by cases k <;> decide
theorem inr_nat {k : IntKind} {n : Nat} (h : (n : Int) ≤ hiK k) : InR k n := ⟨by have := lo_le0 k; omega, h⟩

theorem arith_ok {k : IntKind} {r : Int} {o : Oper} {K : AV → Prop}
    (h1 : ∀ I ρ F fr L, SR I ρ F st fr L → InR k r → RunsTo P fr I L o (.int k r)) (h2 : ∀ I ρ F fr L, SR I ρ F st fr L → RunsTo P fr I L o (.int k (wr k r)))
    {K' : AV → St → Prop} (hK : ∀ a, K a → K' a st) (h : arithW k r K) : OpS P N o st K' := by
  unfold arithW at h
  split at h
  · exact OpS.val _ (fun I ρ F fr L hs => ⟨_, h1 I ρ F fr L hs h.1, rel_int h.1⟩) (hK _ h.2)
  · exact OpS.val _ (fun I ρ F fr L hs => ⟨_, h1 I ρ F fr L hs h.1, rel_int h.1⟩) (hK _ h.2)
  · cases hu : uns k with
    | false => rw [hu] at h; exact h.elim
    | true =>
      rw [hu] at h
      exact OpS.val _ (fun I ρ F fr L hs => ⟨_, h2 I ρ F fr L hs, rel_int (wr_inR hu _)⟩) (hK _ h)

theorem pow_le_hi (k : IntKind) {a b n : Nat} (ha : (a : Int) ≤ hiK k) (hb : (b : Int) ≤ hiK k) (hn : ∀ m, a < 2 ^ m → b < 2 ^ m → n < 2 ^ m) : (n : Int) ≤ hiK k := by
  obtain ⟨m, hm, _⟩ := hi_pow k
  have h2 := Nat.two_pow_pos m
  have := hn m (by omega) (by omega)
  omega

theorem R.andNot {t u : TypeId} {k : IntKind} {a b : Int} (hu : uns k = true) (hx : evF fr x = some (.int k a)) (hy : evF fr y = some (.int k b)) (ha : 0 ≤ a ∧ a ≤ hiK k) (hb : 0 ≤ b ∧ b ≤ hiK k) :
    RunsTo P fr I L ⟨d, .binOp .andNot t x y u, ty, pos, aft, gd⟩ (.int k ((a.toNat &&& (hiK k - b).toNat : Nat) : Int)) :=
  R.bin hx hy (fun w => by
    have e1 := ofInt_toNat ha.1 (hi_lt k ha.2); have e2 := ofInt_toNat hb.1 (hi_lt k hb.2)
    have e3 : ((a.toNat &&& (hiK k - b).toNat : Nat) : Int) ≤ hiK k := nat_le_hi k ha.1 ha.2 Nat.and_le_left
    have e4 := wrap_nat k e3
    have e5 : (2 ^ k.bits - 1 - b.toNat : Nat) = (hiK k - b).toNat := by
      have : hiK k = ((2 ^ k.bits - 1 : Nat) : Int) := by cases k <;> first | (simp [uns] at hu; done) | rfl
      rw [this]; omega
    simp only [binOp, Op.intBits]
    simp [BitVec.toNat_and, BitVec.toNat_not, e1, e2, e5, e4])
theorem emod_le {a b : Int} (ha : 0 ≤ a) (hb : b ≠ 0) : a % b ≤ a := by
  have key : ∀ c : Int, 0 < c → a % c ≤ a := fun c hc => by
    have h1 := Int.emod_add_mul_ediv a c
    have h2 := Int.mul_nonneg (show 0 ≤ c by omega) (Int.ediv_nonneg ha (show 0 ≤ c by omega))
    omega
  by_cases h : 0 < b
  · exact key b h
  · rw [← Int.emod_neg]; exact key (-b) (by omega)
theorem intW_ok {op : BinOp} {t u : TypeId} {k k' : IntKind} {a b : Int} {K : AV → St → Prop} (hk : (op = .shl ∨ op = .shr) ∨ k = k') (hx : ev st x = .d (.int k a)) (hy : ev st y = .d (.int k' b)) (h : intW op k k' a b (fun a => K a st)) :
    OpS P N ⟨d, .binOp op t x y u, ty, pos, aft, gd⟩ st K := by
  have key : ∀ I ρ F fr L, SR I ρ F st fr L → (evF fr x = some (.int k a) ∧ InR k a) ∧ (evF fr y = some (.int k' b) ∧ InR k' b) := by
    intro I ρ F fr L hs
    obtain ⟨v, h1, h2⟩ := ev_ok hs hx (by simp)
    obtain ⟨u, h3, h4⟩ := ev_ok hs hy (by simp)
    obtain ⟨rfl, h5⟩ := ra_int h2
    obtain ⟨rfl, h6⟩ := ra_int h4
    exact ⟨⟨h1, h5⟩, h3, h6⟩
  by_cases hsh : op = .shl ∨ op = .shr
  · have hb0 : ∀ I ρ F fr L, SR I ρ F st fr L → uns k' = true → 0 ≤ b := fun I ρ F fr L hs hu => by
      have := (key I ρ F fr L hs).2.2.1; rw [uns_lo hu] at this; exact this
    have shp : ∀ {Q : Prop}, shW k' b Q → Q ∧ (uns k' = true ∨ 0 ≤ b) := by
      intro Q h; unfold shW at h
      cases hu : uns k' with
      | true => rw [hu] at h; exact ⟨h, .inl rfl⟩
      | false => rw [hu] at h; exact ⟨h.2, .inr h.1⟩
    rcases hsh with rfl | rfl
    · obtain ⟨h, hb⟩ := shp h
      have hb' : ∀ I ρ F fr L, SR I ρ F st fr L → 0 ≤ b := fun I ρ F fr L hs => hb.elim (hb0 I ρ F fr L hs) id
      refine arith_ok (fun I ρ F fr L hs hr => ?_) (fun I ρ F fr L hs => R.shl (key I ρ F fr L hs).1.1 (key I ρ F fr L hs).2.1 (hb' I ρ F fr L hs)) (fun a ha => ha) h
      have := R.shl (P := P) (I := I) (L := L) (t := t) (u := u) (ty := ty) (pos := pos) (aft := aft) (gd := gd) (d := d) (key I ρ F fr L hs).1.1 (key I ρ F fr L hs).2.1 (hb' I ρ F fr L hs)
      rw [← wrap_wr, wrap_in hr] at this; exact this
    · obtain ⟨h, hb⟩ := shp h
      have hb' : ∀ I ρ F fr L, SR I ρ F st fr L → 0 ≤ b := fun I ρ F fr L hs => hb.elim (hb0 I ρ F fr L hs) id
      refine OpS.val _ (fun I ρ F fr L hs => ⟨_, R.shr (key I ρ F fr L hs).1.1 (key I ρ F fr L hs).2.1 (hb' I ρ F fr L hs), rel_int ?_⟩) h
      have hr := (key I ρ F fr L hs).1.2
      have h1 : (1 : Int) ≤ 2 ^ (min b.toNat k.bits) := by
        have := Nat.two_pow_pos (min b.toNat k.bits)
        have e : ((2 ^ (min b.toNat k.bits) : Nat) : Int) = 2 ^ (min b.toNat k.bits) := by simp
        rw [← e]; omega
      refine ⟨?_, ?_⟩
      · by_cases ha : 0 ≤ a
        · exact Int.le_trans (lo_le0 k) (Int.ediv_nonneg ha (by omega))
        · have : a ≤ a / 2 ^ (min b.toNat k.bits) := by
            rw [Int.le_ediv_iff_mul_le (by omega)]
            have := Int.mul_le_mul_of_nonpos_left (show a ≤ 0 by omega) h1
            rw [Int.mul_one] at this; exact this
          exact Int.le_trans hr.1 this
      · by_cases ha : 0 ≤ a
        · exact Int.le_trans (Int.ediv_le_self _ ha) hr.2
        · have : a / 2 ^ (min b.toNat k.bits) < 0 := Int.ediv_neg_of_neg_of_pos (by omega) (by omega)
          have h3 : 0 ≤ hiK k := by cases k <;> decide
          omega
  · obtain rfl : k = k' := hk.resolve_left hsh
    have lo : ∀ I ρ F fr L, SR I ρ F st fr L → uns k = true → 0 ≤ a ∧ 0 ≤ b := fun I ρ F fr L hs hu => by
      have h1 := (key I ρ F fr L hs).1.2.1; have h2 := (key I ρ F fr L hs).2.2.1
      rw [uns_lo hu] at h1 h2; exact ⟨h1, h2⟩
    have bits : ∀ {r : Nat}, bitsW k a b r (fun a => K a st) → K (.d (.int k r)) st ∧ (uns k = true ∨ (0 ≤ a ∧ 0 ≤ b)) := by
      intro r h; unfold bitsW at h
      cases hu : uns k with
      | true => rw [hu] at h; exact ⟨h, .inl rfl⟩
      | false => rw [hu] at h; exact ⟨h.2, .inr h.1⟩
    have nn : ∀ {c : Prop}, (uns k = true ∨ (0 ≤ a ∧ 0 ≤ b)) → ∀ I ρ F fr L, SR I ρ F st fr L → 0 ≤ a ∧ 0 ≤ b := fun {_} hc I ρ F fr L hs => hc.elim (lo I ρ F fr L hs) id
    have cmp : ∀ {p : Bool}, (∀ I ρ F fr L, SR I ρ F st fr L → RunsTo P fr I L ⟨d, .binOp op t x y u, ty, pos, aft, gd⟩ (.bool p)) → K (.d (.bool p)) st → OpS P N ⟨d, .binOp op t x y u, ty, pos, aft, gd⟩ st K :=
      fun hr hk => OpS.val _ (fun I ρ F fr L hs => ⟨_, hr I ρ F fr L hs, rel_bool⟩) hk
    cases op with
    | add => exact arith_ok (fun I ρ F fr L hs hr => R.add (key I ρ F fr L hs).1.1 (key I ρ F fr L hs).2.1 hr) (fun I ρ F fr L hs => R.addW (key I ρ F fr L hs).1.1 (key I ρ F fr L hs).2.1) (fun a ha => ha) h
    | sub => exact arith_ok (fun I ρ F fr L hs hr => R.sub (key I ρ F fr L hs).1.1 (key I ρ F fr L hs).2.1 hr) (fun I ρ F fr L hs => R.subW (key I ρ F fr L hs).1.1 (key I ρ F fr L hs).2.1) (fun a ha => ha) h
    | mul => exact arith_ok (fun I ρ F fr L hs hr => R.mul (key I ρ F fr L hs).1.1 (key I ρ F fr L hs).2.1 hr) (fun I ρ F fr L hs => R.mulW (key I ρ F fr L hs).1.1 (key I ρ F fr L hs).2.1) (fun a ha => ha) h
    | lss => exact cmp (fun I ρ F fr L hs => R.lss (key I ρ F fr L hs).1.1 (key I ρ F fr L hs).2.1) h
    | leq => exact cmp (fun I ρ F fr L hs => R.leq (key I ρ F fr L hs).1.1 (key I ρ F fr L hs).2.1) h
    | gtr => exact cmp (fun I ρ F fr L hs => R.gtr (key I ρ F fr L hs).1.1 (key I ρ F fr L hs).2.1) h
    | geq => exact cmp (fun I ρ F fr L hs => R.geq (key I ρ F fr L hs).1.1 (key I ρ F fr L hs).2.1) h
    | eql => exact cmp (fun I ρ F fr L hs => R.eql (key I ρ F fr L hs).1.1 (key I ρ F fr L hs).2.1) h
    | neq => exact cmp (fun I ρ F fr L hs => R.neq (key I ρ F fr L hs).1.1 (key I ρ F fr L hs).2.1) h
    | rem =>
      have h' : b ≠ 0 ∧ K (.d (.int k (a % b))) st ∧ (uns k = true ∨ 0 ≤ a) := by
        unfold intW at h
        cases hu : uns k with
        | true => rw [hu] at h; exact ⟨h.1, h.2, .inl rfl⟩
        | false => rw [hu] at h; exact ⟨h.1.2, h.2, .inr h.1.1⟩
      have ha : ∀ I ρ F fr L, SR I ρ F st fr L → 0 ≤ a := fun I ρ F fr L hs => h'.2.2.elim (fun hu => (lo I ρ F fr L hs hu).1) id
      refine OpS.val _ (fun I ρ F fr L hs => ⟨_, R.rem (key I ρ F fr L hs).1.1 (key I ρ F fr L hs).2.1 (ha I ρ F fr L hs) h'.1, rel_int ?_⟩) h'.2.1
      have h1 : 0 ≤ a % b := Int.emod_nonneg a h'.1
      have h2 : a % b ≤ a := emod_le (ha I ρ F fr L hs) h'.1
      exact ⟨Int.le_trans (lo_le0 k) h1, Int.le_trans h2 (key I ρ F fr L hs).1.2.2⟩
    | quo =>
      have h' : 0 < b ∧ K (.d (.int k (a / b))) st ∧ (uns k = true ∨ 0 ≤ a) := by
        unfold intW at h
        cases hu : uns k with
        | true => rw [hu] at h; exact ⟨h.1, h.2, .inl rfl⟩
        | false => rw [hu] at h; exact ⟨h.1.2, h.2, .inr h.1.1⟩
      have ha : ∀ I ρ F fr L, SR I ρ F st fr L → 0 ≤ a := fun I ρ F fr L hs => h'.2.2.elim (fun hu => (lo I ρ F fr L hs hu).1) id
      refine OpS.val _ (fun I ρ F fr L hs => ⟨_, R.quo (key I ρ F fr L hs).1.1 (key I ρ F fr L hs).2.1 (ha I ρ F fr L hs) h'.1 (key I ρ F fr L hs).1.2, rel_int ?_⟩) h'.2.1
      have h1 := ha I ρ F fr L hs
      exact ⟨Int.le_trans (lo_le0 k) (Int.ediv_nonneg h1 (by omega)), Int.le_trans (Int.ediv_le_self _ h1) (key I ρ F fr L hs).1.2.2⟩
    | and =>
      obtain ⟨h1, h2⟩ := bits h
      refine OpS.val _ (fun I ρ F fr L hs => ?_) h1
      obtain ⟨ha, hb⟩ := nn (c := True) h2 I ρ F fr L hs
      have ra := (key I ρ F fr L hs).1.2.2; have rb := (key I ρ F fr L hs).2.2.2
      exact ⟨_, R.and (key I ρ F fr L hs).1.1 (key I ρ F fr L hs).2.1 ⟨ha, ra⟩ ⟨hb, rb⟩, rel_int (inr_nat (pow_le_hi k (a := a.toNat) (b := b.toNat) (by omega) (by omega) (fun m h1 _ => Nat.lt_of_le_of_lt Nat.and_le_left h1)))⟩
    | or =>
      obtain ⟨h1, h2⟩ := bits h
      refine OpS.val _ (fun I ρ F fr L hs => ?_) h1
      obtain ⟨ha, hb⟩ := nn (c := True) h2 I ρ F fr L hs
      have ra := (key I ρ F fr L hs).1.2.2; have rb := (key I ρ F fr L hs).2.2.2
      exact ⟨_, R.or (key I ρ F fr L hs).1.1 (key I ρ F fr L hs).2.1 ⟨ha, ra⟩ ⟨hb, rb⟩, rel_int (inr_nat (pow_le_hi k (a := a.toNat) (b := b.toNat) (by omega) (by omega) (fun m h1 h2 => Nat.or_lt_two_pow h1 h2)))⟩
    | xor =>
      obtain ⟨h1, h2⟩ := bits h
      refine OpS.val _ (fun I ρ F fr L hs => ?_) h1
      obtain ⟨ha, hb⟩ := nn (c := True) h2 I ρ F fr L hs
      have ra := (key I ρ F fr L hs).1.2.2; have rb := (key I ρ F fr L hs).2.2.2
      exact ⟨_, R.xor (key I ρ F fr L hs).1.1 (key I ρ F fr L hs).2.1 ⟨ha, ra⟩ ⟨hb, rb⟩, rel_int (inr_nat (pow_le_hi k (a := a.toNat) (b := b.toNat) (by omega) (by omega) (fun m h1 h2 => Nat.xor_lt_two_pow h1 h2)))⟩
    | andNot =>
      unfold intW at h
      cases hu : uns k with
      | false => simp only [hu] at h; exact h.elim
      | true =>
        simp only [hu] at h
        refine OpS.val _ (fun I ρ F fr L hs => ?_) h
        obtain ⟨ha, hb⟩ := lo I ρ F fr L hs hu
        have ra := (key I ρ F fr L hs).1.2.2; have rb := (key I ρ F fr L hs).2.2.2
        exact ⟨_, R.andNot hu (key I ρ F fr L hs).1.1 (key I ρ F fr L hs).2.1 ⟨ha, ra⟩ ⟨hb, rb⟩, rel_int (inr_nat (nat_le_hi k ha ra Nat.and_le_left))⟩
    | shl => exact absurd (.inl rfl) hsh
    | shr => exact absurd (.inr rfl) hsh
end
end Go.V
