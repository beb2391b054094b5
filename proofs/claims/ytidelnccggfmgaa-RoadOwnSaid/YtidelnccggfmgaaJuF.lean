/- The second floor, part PE: structs compared. No function of the program is proved here. -/
import Derived.Test.YtidelnccggfmgaaJuE
import Derived.Laws.StructEq
set_option linter.unusedVariables false
set_option linter.unusedSimpArgs false
set_option linter.unnecessarySimpa false
set_option linter.unusedSectionVars false
set_option linter.all false
/- The second floor, part PE: structs compared. No function of the program is proved here. -/
namespace Go.V
open Go.Eng

inductive Kd where
  | int | bool | str
/-- Cells of such kinds. -/
def kdD : Kd → D → D → Option Bool
  | .int, .int k a, .int k' b => bif kEq k k' then some (decide (a = b)) else none
  | .bool, .bool a, .bool b => some (a == b)
  | .str, .str a, .str b => some (decide (a = b))
  | _, _, _ => none
def eqDs : List Kd → List D → List D → Option Bool
  | [], [], [] => some true
  | k :: ks, x :: xs, y :: ys => match kdD k x y, eqDs ks xs ys with
    | some a, some b => some (a && b)
    | _, _ => none
  | _, _, _ => none

/-- Things of a type are compared cell by cell. -/
structure EqT (P : Program) (t : TypeId) (ks : List Kd) : Prop where
  guard : ∀ (op : BinOp) (x y : Operand) (us ws : Array Value) (w : World), (eqGuard op t x y (.agg us) (.agg ws)).run P w = .ok () w
  run : ∀ (I : Imm) (us ws : List Value) (xs ys : List D) (b : Bool), All2 (RelD I) us xs → All2 (RelD I) ws ys → eqDs ks xs ys = some b → ∀ (w : World) (n : Nat), (Op.equalIn (n + 2) t (.agg us.toArray) (.agg ws.toArray)).run P w = .ok b w

section
variable {P : Program} {N : Nat} {T : TypeId → Option TI} {I J : Imm} {ρ ρ' : Nat → Value} {F : List Ent} {st : St} {fr : Frm} {L : List Ent}
variable {ty : TypeId} {pos : String} {aft : Array Edge} {gd : Option (Nat × Bool)} {d : Option Tmp} {x y z q : Operand}

/-- A type of one cell, of such a kind. -/
def KdT (P : Program) (t : TypeId) (k : Kd) : Prop := (∀ w, (isAgg t).run P w = .ok false w) ∧ (match k with
  | .int => ∃ ik, P.underlying t = some (.int ik)
  | .bool => P.underlying t = some .bool
  | .str => P.underlying t = some .string)

theorem kdD_run {t : TypeId} {k : Kd} (ht : KdT P t k) {u v : Value} {x y : D} {b : Bool} (h1 : RelD I u x) (h2 : RelD I v y) (h : kdD k x y = some b) (w : World) (n : Nat) : (Op.equalIn (n + 1) t u v).run P w = .ok b w := by
  obtain ⟨_, ht⟩ := ht
  unfold kdD at h
  split at h
  · rename_i k a k' c
    cases hk : kEq k k' with
    | false => rw [hk] at h; cases h
    | true =>
      rw [hk] at h
      obtain rfl := kEq_eq hk
      simp at h; subst h
      obtain ⟨rfl, _⟩ := rd_int h1
      obtain ⟨rfl, _⟩ := rd_int h2
      obtain ⟨ik, ht⟩ := ht
      rw [run_equalIn_int w n t k ik a c ht]
      by_cases e : a = c <;> simp [e]
  · simp at h; subst h
    cases h1; cases h2
    exact run_equalIn_bool' w n t _ _ ht
  · rename_i a c
    simp at h; subst h
    cases h1; cases h2
    rw [run_equalIn_string w n t _ _ ht]
    congr 1
    rw [ByteArray.toList_eq, ByteArray.toList_eq]
    by_cases e : a = c
    · subst e; simp
    · have h2 : ¬ (strOf a).data = (strOf c).data := fun h => e (by have := congrArg Array.toList h; simpa [strOf] using this)
      simp [e, h2]
  · cases h

theorem run_part1 {t : TypeId} (ht : ∀ w, (isAgg t).run P w = .ok false w) {cs : Array Value} {off : Nat} {v : Value} (h : cs[off]? = some v) (w : World) : (part t cs off).run P w = .ok v w := by
  unfold part
  rw [Sem.run_bind, ht, Result.andThen_ok]
  simp [h]

theorem eqFields_ok (n : Nat) : ∀ (fs : List Field) (ks : List Kd) (off : Nat) (us ws : List Value) (xs ys : List D) (b : Bool), fs.length = ks.length → (∀ (i : Nat) (f : Field) (k : Kd), fs[i]? = some f → ks[i]? = some k → f.name ≠ "_" ∧ f.offset = off + i ∧ KdT P f.type k) →
    All2 (RelD I) (us.drop off) xs → All2 (RelD I) (ws.drop off) ys → eqDs ks xs ys = some b → ∀ w : World, (Op.eqFields (n + 1) us.toArray ws.toArray fs).run P w = .ok b w
  | [], [], off, us, ws, xs, ys, b, _, _, _, _, h, w => by
    cases xs with
    | nil => cases ys with
      | nil => simp [eqDs] at h; subst h; simp [Op.eqFields]
      | cons => simp [eqDs] at h
    | cons => simp [eqDs] at h
  | f :: fs, k :: ks, off, us, ws, xs, ys, b, hl, hf, h1, h2, h, w => by
    cases xs with
    | nil => simp [eqDs] at h
    | cons x xs => cases ys with
      | nil => simp [eqDs] at h
      | cons y ys =>
        simp only [eqDs] at h
        split at h
        · rename_i p q hp hq
          simp at h; subst h
          obtain ⟨f1, f2, f3⟩ := hf 0 f k rfl rfl
          obtain ⟨u, us', e1, r1, t1⟩ := h1.uncons
          obtain ⟨v, ws', e2, r2, t2⟩ := h2.uncons
          have g1 : us.toArray[off]? = some u := by
            have : us[off]? = some u := by have := congrArg (·[0]?) e1; simpa [List.getElem?_drop] using this
            simpa using this
          have g2 : ws.toArray[off]? = some v := by
            have : ws[off]? = some v := by have := congrArg (·[0]?) e2; simpa [List.getElem?_drop] using this
            simpa using this
          have d1 : us.drop (off + 1) = us' := by have := congrArg (List.drop 1) e1; simpa [List.drop_drop] using this
          have d2 : ws.drop (off + 1) = ws' := by have := congrArg (List.drop 1) e2; simpa [List.drop_drop] using this
          have hr := kdD_run (n := n) f3 r1 r2 hp
          have ih := eqFields_ok n fs ks (off + 1) us ws xs ys q (by simpa using hl) (fun i f k hi hk => by
            have := hf (i + 1) f k (by simpa using hi) (by simpa using hk)
            exact ⟨this.1, by rw [this.2.1]; omega, this.2.2⟩) (by rw [d1]; exact t1) (by rw [d2]; exact t2) hq w
          simp only [Nat.add_zero] at f2
          unfold Op.eqFields
          rw [if_pos f1, f2]
          simp only [Sem.run_bind, run_part1 f3.1 g1, run_part1 f3.1 g2, Result.andThen_ok, hr]
          cases p with
          | true => simpa using ih
          | false => simp
        · cases h
  | [], _ :: _, _, _, _, _, _, _, hl, _, _, _, _, _ => by simp at hl
  | _ :: _, [], _, _, _, _, _, _, hl, _, _, _, _, _ => by simp at hl

theorem EqT.struct {t : TypeId} {gs : Array Field} {ks : List Kd} (hu : P.underlying t = some (.struct gs)) (hp : P.stoodInHeld t = false) (hg : P.eqGuardType P.depth t = false) (hl : gs.toList.length = ks.length)
    (hf : ∀ (i : Nat) (f : Field) (k : Kd), gs.toList[i]? = some f → ks[i]? = some k → f.name ≠ "_" ∧ f.offset = i ∧ KdT P f.type k) : EqT P t ks := by
  refine ⟨fun op x y us ws w => run_eqGuard_agg w op t x y us ws hg, fun I us ws xs ys b h1 h2 h w n => ?_⟩
  have hfs : P.fieldsOf t = gs := by simp [Program.fieldsOf, hu]
  rw [run_equalIn_agg w (n + 1) t _ _ (by rw [hfs]; exact hu) hp, hfs]
  exact eqFields_ok n gs.toList ks 0 us ws xs ys b hl (fun i f k hi hk => by rw [Nat.zero_add]; exact hf i f k hi hk) (by simpa using h1) (by simpa using h2) h w

/-- Two aggregates compared. -/
inductive EqI (P : Program) (t : TypeId) (cs ds : List D) (K : Bool → Prop) : Prop where
  | mk (ks : List Kd) (b : Bool) (he : EqT P t ks) (h : eqDs ks cs ds = some b) (k : K b) : EqI P t cs ds K

def aggW (P : Program) (op : BinOp) (t : TypeId) (cs ds : List D) (K : AV → Prop) : Prop := match op with
  | .eql => EqI P t cs ds (fun b => K (.d (.bool b)))
  | .neq => EqI P t cs ds (fun b => K (.d (.bool !b)))
  | _ => False
theorem aggW_ok {op : BinOp} {t u : TypeId} {cs ds : List D} {K : AV → St → Prop} (hx : ev st x = .d (.agg cs)) (hy : ev st y = .d (.agg ds)) (h : aggW P op t cs ds (fun a => K a st)) : OpS P N ⟨d, .binOp op t x y u, ty, pos, aft, gd⟩ st K := by
  unfold aggW at h
  split at h
  · obtain ⟨ks, b, he, hb, h⟩ := h
    refine OpS.val _ (fun I ρ F fr L hs => ?_) h
    obtain ⟨v, x1, x2⟩ := ev_ok hs hx (by simp)
    obtain ⟨w, y1, y2⟩ := ev_ok hs hy (by simp)
    cases x2 with | d x2 => cases x2 with | @agg us _ hl h1 hxx => cases y2 with | d y2 => cases y2 with | @agg ws _ hl2 h12 hxx2 =>
      have hrun := he.run I us ws cs ds b ⟨hl, hxx⟩ ⟨hl2, hxx2⟩ hb
      refine ⟨_, R.bin' x1 y1 (fun w => he.guard _ _ _ _ _ w) (fun w => ?_), rel_bool⟩
      rw [run_eql_struct, show (10000 : Nat) = 9998 + 2 from rfl, hrun]; rfl
  · obtain ⟨ks, b, he, hb, h⟩ := h
    refine OpS.val _ (fun I ρ F fr L hs => ?_) h
    obtain ⟨v, x1, x2⟩ := ev_ok hs hx (by simp)
    obtain ⟨w, y1, y2⟩ := ev_ok hs hy (by simp)
    cases x2 with | d x2 => cases x2 with | @agg us _ hl h1 hxx => cases y2 with | d y2 => cases y2 with | @agg ws _ hl2 h12 hxx2 =>
      have hrun := he.run I us ws cs ds b ⟨hl, hxx⟩ ⟨hl2, hxx2⟩ hb
      refine ⟨_, R.bin' x1 y1 (fun w => he.guard _ _ _ _ _ w) (fun w => ?_), rel_bool⟩
      rw [run_neq_struct, show (10000 : Nat) = 9998 + 2 from rfl, hrun]; rfl
  · exact h.elim
end
end Go.V

/- The second floor, part Q: code. No function of the program is proved here. -/
namespace Go.V
open Go.Eng

/-- What we do ahead of a region: a slot that holds nothing becomes a row of our own; what a slot holds stays from now on. -/
inductive Gst where
  | own (t : Nat) (e : TypeId) (sz : Nat)
  | fz (t : Nat)
  | nl (t : Nat)
  | ownF (t off : Nat) (e : TypeId) (sz : Nat)
  | fzF (t off : Nat)

structure Env where
  P : Program
  T : TypeId → Option TI
  N : Nat
  own : FuncId → Nat
  m : Nat
  rs : List ResultVar
  joins : List (Nat × List Nat)
  loops : List (Nat × List Nat)
  ghosts : List (Nat × List Gst)

def assoc {α : Type} : List (Nat × α) → Nat → Option α
  | [], _ => none
  | (k, v) :: l, t => bif Nat.beq k t then some v else assoc l t

def putS (st : St) (d : Option Nat) (a : AV) : St := match d with
  | some d => ⟨(d, a) :: st.fr, st.hp, st.nx⟩
  | none => st
def okD (N : Nat) : Option Nat → Bool
  | some d => Nat.blt d N
  | none => true

def stepW (E : Env) (o : Op) (st : St) (K : AV → St → Prop) : Prop :=
  match o with
  | .call ⟨.value f, args, _⟩ => match evCall st f args.toList with
    | some (k, as) => callW E.P E.own k as st K
    | none => False
  | .binOp op t x y u => match ev st x, ev st y with
    | .d (.agg cs), .d (.agg ds) => aggW E.P op t cs ds (fun a => K a st)
    | .ifc _, _ => opW E.T (.binOp op t x y u) st K
    | a, b => binW E.T op t a b st (fun a => K a st)
  | .load t x => match ev st x with
    | .d (.opq v) => opqLoad E.T t v st (fun a => K a st)
    | _ => opW E.T (.load t x) st K
  | .store t x y => match ev st x with
    | .d (.opq v) => opqStore E.T t v (ev st y) st (K .undef)
    | _ => opW E.T (.store t x y) st K
  | .indexAddr t x y => match ev st x, ev st y with
    | .d (.opq v), .d (.int _ i) => opqIdx E.T t v i (fun a => K a st)
    | _, _ => opW E.T (.indexAddr t x y) st K
  | .call ⟨.builtin .len, ⟨[x]⟩, ⟨[t]⟩⟩ => match ev st x with
    | .d (.opq v) => opqLen E.T t v (fun a => K a st)
    | _ => opW E.T (.call ⟨.builtin .len, ⟨[x]⟩, ⟨[t]⟩⟩) st K
  | o => opW E.T o st K

def eqB : Bool → Bool → Bool
  | true, true | false, false => true
  | _, _ => false
def opsW (E : Env) (all : Array Oper) : List Oper → St → (St → Prop) → Prop
  | [], st, K => K st
  | o :: os, st, K => bif okD E.N o.dst then match st with
    | ⟨fr, hp, nx⟩ => match o.guard with
      | none => stepW E o.op ⟨fr, hp, nx⟩ (fun a st => frcA 3 a fun a => frcT st fun st => match st with
        | ⟨fr, hp, nx⟩ => match o.dst with
          | some d => opsW E all os ⟨(d, a) :: fr, hp, nx⟩ K
          | none => opsW E all os ⟨fr, hp, nx⟩ K)
      | some (j, b) => match (all[j]?).bind (·.dst) with
        | some s => match lookA fr s with
          | .d (.bool c) => cond c
              (bif eqB true b then stepW E o.op ⟨(s, .d (.bool true)) :: fr, hp, nx⟩ (fun a st => frcA 3 a fun a => frcT st fun st => match st with
                  | ⟨fr, hp, nx⟩ => match o.dst with
                    | some d => opsW E all os ⟨(d, a) :: fr, hp, nx⟩ K
                    | none => opsW E all os ⟨fr, hp, nx⟩ K)
                else match o.dst with
                  | some d => opsW E all os ⟨(d, .tup []) :: (s, .d (.bool true)) :: fr, hp, nx⟩ K
                  | none => opsW E all os ⟨(s, .d (.bool true)) :: fr, hp, nx⟩ K)
              (bif eqB false b then stepW E o.op ⟨(s, .d (.bool false)) :: fr, hp, nx⟩ (fun a st => frcA 3 a fun a => frcT st fun st => match st with
                  | ⟨fr, hp, nx⟩ => match o.dst with
                    | some d => opsW E all os ⟨(d, a) :: fr, hp, nx⟩ K
                    | none => opsW E all os ⟨fr, hp, nx⟩ K)
                else match o.dst with
                  | some d => opsW E all os ⟨(d, .tup []) :: (s, .d (.bool false)) :: fr, hp, nx⟩ K
                  | none => opsW E all os ⟨(s, .d (.bool false)) :: fr, hp, nx⟩ K)
          | .tup [] => match o.dst with
            | some d => opsW E all os ⟨(d, .tup []) :: fr, hp, nx⟩ K
            | none => opsW E all os ⟨fr, hp, nx⟩ K
          | _ => False
        | none => False
    else False

section
variable {P : Program} {N : Nat} {T : TypeId → Option TI} {I J : Imm} {ρ ρ' : Nat → Value} {F : List Ent} {st : St} {fr : Frm} {L : List Ent} {E : Env}

theorem stepW_ok (hT : TOk E.P E.T) {o : Oper} {K : AV → St → Prop} (h : stepW E o.op st K) : OpS E.P N o st K := by
  obtain ⟨d, op, ty, pos, aft, gd⟩ := o
  unfold stepW at h
  split at h
  · rename_i f args ts heq
    simp only at heq
    subst heq
    split at h
    · rename_i k as he; exact callW_ok he h
    · exact h.elim
  · rename_i bop t x y u heq
    simp only at heq
    subst heq
    split at h
    · rename_i cs ds h1 h2; exact aggW_ok h1 h2 h
    · exact opW_ok hT h
    · exact binW_ok hT rfl rfl h
  · rename_i t x heq
    simp only at heq
    subst heq
    split at h
    · rename_i v hv; exact opqLoad_ok hT hv h
    · exact opW_ok hT h
  · rename_i t x y heq
    simp only at heq
    subst heq
    split at h
    · rename_i v hv; exact opqStore_ok hT hv rfl h
    · exact opW_ok hT h
  · rename_i t x y heq
    simp only at heq
    subst heq
    split at h
    · rename_i v k i hv hi; exact opqIdx_ok hT hv hi h
    · exact opW_ok hT h
  · rename_i x t heq
    simp only at heq
    subst heq
    split at h
    · rename_i v hv; exact opqLen_ok hT hv h
    · exact opW_ok hT h
  · exact opW_ok hT h

theorem SR.put (h : SR I ρ F st fr L) (d : Nat) {v : Value} {a : AV} (ha : RelU I ρ v a) : SR I ρ F (putS st (some d) a) ((d, v) :: fr) L := by
  refine ⟨?_, h.hpr, h.new⟩
  rcases ha with rfl | ha
  · exact h.frr.hide d v
  · exact h.frr.put d ha

def Ag (ρ ρ' : Nat → Value) : Prop := ∀ l, ρ l ≠ .nilFunc → ρ' l = ρ l
theorem Ag.refl : Ag ρ ρ := fun _ _ => rfl
theorem Ag.trans {ρ1 ρ2 ρ3 : Nat → Value} (h : Ag ρ1 ρ2) (k : Ag ρ2 ρ3) : Ag ρ1 ρ3 := fun l hl => by
  have e := h l hl
  rw [k l (by rw [e]; exact hl), e]

def KS (I : Imm) (ρ : Nat → Value) (F : List Ent) (K : St → Prop) (fr : Frm) (I' : Imm) (L' : List Ent) : Prop := I.le I' ∧ ∃ ρ' st', SR I' ρ' F st' fr L' ∧ Ag ρ ρ' ∧ K st'
theorem KS.trans {J : Imm} {K : St → Prop} {fr : Frm} {I' : Imm} {L' : List Ent} (hle : I.le J) (ha : Ag ρ ρ') (h : KS J ρ' F K fr I' L') : KS I ρ F K fr I' L' := by
  obtain ⟨h1, ρ2, st', h2, h3, h4⟩ := h
  exact ⟨hle.trans h1, ρ2, st', h2, ha.trans h3, h4⟩

theorem Opz.noneU {all : Array Oper} {o : Oper} {rest : List Oper} {K : Frm → Imm → List Ent → Prop} (hw : wantF all fr o = some false) (hd : o.dst = none) (k : Opz P N all rest fr I L K) : Opz P N all (o :: rest) fr I L K := by
  intro a w Q0 ha hs hk
  refine wpList_step fun K' hK' => ?_
  rw [if_neg (by rw [wantF_spec ha hw]; simp), hd]
  exact hK' _ _ (k a w Q0 ha hs hk)

theorem rel_skip : RelA I ρ Go.undef (.tup []) := .tup (us := []) rfl (fun j u y h => by simp at h)
theorem opsW_ok (hT : TOk E.P E.T) {all : Array Oper} : ∀ {ops : List Oper} {st : St} {K : St → Prop}, opsW E all ops st K → ∀ I ρ F fr L, SR I ρ F st fr L → Opz E.P E.N all ops fr I L (KS I ρ F K)
  | [], st, K, h, I, ρ, F, fr, L, hs => Opz.nil ⟨Imm.le_refl _, ρ, st, hs, Ag.refl, h⟩
  | o :: os, ⟨sfr, hp, nx⟩, K, h, I, ρ, F, fr, L, hs => by
    unfold opsW at h
    cases hd : okD E.N o.dst with
    | false => rw [hd] at h; exact h.elim
    | true =>
      rw [hd] at h
      simp only [cond_true] at h
      have putE : ∀ {st : St} {a : AV}, (match st with
          | ⟨fr, hp, nx⟩ => match o.dst with
            | some d => opsW E all os ⟨(d, a) :: fr, hp, nx⟩ K
            | none => opsW E all os ⟨fr, hp, nx⟩ K) → opsW E all os (putS st o.dst a) K := by
        rintro ⟨f, h, n⟩ a hk
        revert hk
        unfold putS
        generalize o.dst = dd
        cases dd with
        | none => exact id
        | some d => exact id
      have run : ∀ {st : St} {fr : Frm}, SR I ρ F st fr L → wantF all fr o = some true → stepW E o.op st (fun a st => frcA 3 a fun a => frcT st fun st => match st with
          | ⟨fr, hp, nx⟩ => match o.dst with
            | some d => opsW E all os ⟨(d, a) :: fr, hp, nx⟩ K
            | none => opsW E all os ⟨fr, hp, nx⟩ K) → Opz E.P E.N all (o :: os) fr I L (KS I ρ F K) := by
        intro st fr hs hw h
        have ha := stepW_ok (N := E.N) hT h I ρ F fr L hs
        cases hdd : o.dst with
        | none =>
          refine Opz.opU ha hw hdd (fun v I' L' hr => ?_)
          obtain ⟨hle, ρ', a, st', h1, h2, h3, h4⟩ := hr
          replace h4 := putE (frcT_ok (frcA_ok 3 a h4))
          rw [hdd] at h4
          exact (opsW_ok hT h4 I' ρ' F fr L' h2).imp (fun _ _ _ hk => KS.trans hle h3 hk)
        | some d =>
          rw [hdd] at hd
          refine Opz.op ha hw hdd hd (fun v I' L' hr => ?_)
          obtain ⟨hle, ρ', a, st', h1, h2, h3, h4⟩ := hr
          replace h4 := putE (frcT_ok (frcA_ok 3 a h4))
          rw [hdd] at h4
          exact (opsW_ok hT h4 I' ρ' F _ L' (h2.put d h1)).imp (fun _ _ _ hk => KS.trans hle h3 hk)
      have skip : ∀ {st : St} {fr : Frm}, SR I ρ F st fr L → wantF all fr o = some false → opsW E all os (putS st o.dst (.tup [])) K → Opz E.P E.N all (o :: os) fr I L (KS I ρ F K) := by
        intro st fr hs hw h
        cases hdd : o.dst with
        | none =>
          rw [hdd] at h
          exact Opz.noneU hw hdd (opsW_ok hT h I ρ F fr L hs)
        | some d =>
          rw [hdd] at h hd
          exact Opz.none hw hdd hd (opsW_ok hT h I ρ F _ L (hs.put d (.inr rel_skip)))
      split at h
      · rename_i hg
        exact run hs (by unfold wantF; rw [hg]) h
      · rename_i j b hg
        split at h
        · rename_i s hsl
          split at h
          · rename_i c hlk
            have hlook : Eng.look fr s = some (.bool c) := by
              rcases hs.frr s with h1 | ⟨v, h1, h2⟩
              · simp only at h1; rw [hlk] at h1; cases h1
              · simp only at h2; rw [hlk] at h2; rw [h1, ra_bool h2]
            have arm : ∀ t : Bool, (bif eqB t b then stepW E o.op ⟨(s, .d (.bool t)) :: sfr, hp, nx⟩ (fun a st => frcA 3 a fun a => frcT st fun st => match st with
                  | ⟨fr, hp, nx⟩ => match o.dst with
                    | some d => opsW E all os ⟨(d, a) :: fr, hp, nx⟩ K
                    | none => opsW E all os ⟨fr, hp, nx⟩ K)
                else match o.dst with
                  | some d => opsW E all os ⟨(d, .tup []) :: (s, .d (.bool t)) :: sfr, hp, nx⟩ K
                  | none => opsW E all os ⟨(s, .d (.bool t)) :: sfr, hp, nx⟩ K) → Opz E.P E.N all (o :: os) ((s, .bool t) :: fr) I L (KS I ρ F K) := by
              intro t ht
              have hs' : SR I ρ F (putS ⟨sfr, hp, nx⟩ (some s) (.d (.bool t))) ((s, .bool t) :: fr) L := hs.put s (.inr rel_bool)
              have hw : wantF all ((s, .bool t) :: fr) o = some (t == b) := by
                unfold wantF; rw [hg]; simp only [hsl]; rw [look_cons, if_pos rfl]
              cases hb : eqB t b with
              | true =>
                rw [hb] at ht
                refine run hs' ?_ ht
                rw [hw]; cases t <;> cases b <;> first | rfl | cases hb
              | false =>
                rw [hb] at ht
                refine skip hs' ?_ ?_
                · rw [hw]; cases t <;> cases b <;> first | rfl | cases hb
                · unfold putS
                  cases hdd : o.dst with
                  | none => rw [hdd] at ht; exact ht
                  | some d => rw [hdd] at ht; exact ht
            refine Opz.guard s hlook (fun hc => ?_) (fun hc => ?_)
            · rw [hc] at h; exact arm true h
            · rw [hc] at h; exact arm false h
          · rename_i hlk
            have hlook : Eng.look fr s = some (.tuple #[]) := by
              rcases hs.frr s with h1 | ⟨v, h1, h2⟩
              · simp only at h1; rw [hlk] at h1; cases h1
              · simp only at h2; rw [hlk] at h2
                cases h2 with
                | tup hl _ => rw [List.length_eq_zero_iff.1 hl] at h1; exact h1
            refine skip hs (by unfold wantF; rw [hg]; simp only [hsl]; rw [hlook]) ?_
            unfold putS
            cases hdd : o.dst with
            | none => rw [hdd] at h; exact h
            | some d => rw [hdd] at h; exact h
          · exact h.elim
        · exact h.elim
end
end Go.V

/- The second floor, part QD: regions whose order is drawn. No function of the program is proved here. -/
namespace Go.V
open Go.Eng

section
variable {P : Program} {N : Nat} {T : TypeId → Option TI} {I J : Imm} {ρ ρ' : Nat → Value} {F : List Ent} {st : St} {fr : Frm} {L : List Ent} {E : Env}

/-! ## Back to the labels that were there -/
theorem RelA.back {u u' : Value} {a : AV} (h' : RelA J ρ' u' a) (he : ∀ l, ρ l ≠ .nilFunc → ρ' l = ρ l) : RelA I ρ u a → RelA J ρ u' a := by
  have all : ∀ {us ws : List Value} {cs : List AV}, us.length = cs.length → ws.length = cs.length → (∀ (j : Nat) (u : Value) (y : AV), us[j]? = some u → cs[j]? = some y → RelA I ρ u y) →
      (∀ (j : Nat) (u : Value) (y : AV), ws[j]? = some u → cs[j]? = some y → ∀ {u0 : Value}, RelA I ρ u0 y → RelA J ρ u y) → ∀ (j : Nat) (u : Value) (y : AV), ws[j]? = some u → cs[j]? = some y → RelA J ρ u y := by
    intro us ws cs h1 h2 h3 h4 j u y hu hy
    have hj := (List.getElem?_eq_some_iff.1 hy).1
    exact h4 j u y hu hy (h3 j us[j] y (List.getElem?_eq_getElem (by omega)) hy)
  induction h' generalizing u with
  | d h => intro _; exact .d h
  | sl h => intro k; cases k with | sl k => exact .sl (by rw [← h, he _ (by rw [k]; exact fun e => by cases e)])
  | ptr h => intro k; cases k with | ptr k => exact .ptr (by rw [← h, he _ (by rw [k]; exact fun e => by cases e)])
  | rp hr h1 hu => intro _; exact .rp hr h1 hu
  | ep h => intro k; cases k with | ep k => exact .ep (by rw [← h, he _ (by rw [k]; exact fun e => by cases e)])
  | av h hc hm => intro k; cases k with | av k _ _ => exact .av (by rw [← h, he _ (by rw [k]; exact fun e => by cases e)]) hc hm
  | agg hl h1 _ ih => intro k; cases k with | agg kl _ kx => exact .agg hl h1 (all kl hl kx (fun j u y a b {_} c => ih j u y a b c))
  | tup hl _ ih => intro k; cases k with | tup kl kx => exact .tup hl (all kl hl kx (fun j u y a b {_} c => ih j u y a b c))
  | fn hl _ hm _ ih ih2 => intro k; cases k with | fn kl kx km ky => exact .fn hl (all kl hl kx (fun j u y a b {_} c => ih j u y a b c)) hm (all km hm ky (fun j u y a b {_} c => ih2 j u y a b c))
  | nilf => intro _; exact .nilf
  | map h => intro k; cases k with | map k => exact .map (by rw [← h, he _ (by rw [k]; exact fun e => by cases e)])
  | nilm => intro _; exact .nilm
  | ifc h => intro _; exact .ifc h

theorem RelO.back {l : Nat} {o : Obj} {es es' : List Ent} (h' : RelO J ρ' l o es') (he : ∀ l, ρ l ≠ .nilFunc → ρ' l = ρ l) (h : RelO I ρ l o es) : RelO J ρ l o es' := by
  cases o with
  | row e sz xs =>
    obtain ⟨A, c, us, h1, h2, h3, h4⟩ := h'
    obtain ⟨_, _, _, k1, _⟩ := h
    exact ⟨A, c, us, by rw [← h1, he l (by rw [k1]; exact fun e => by cases e)], h2, h3, h4⟩
  | vec t cs =>
    obtain ⟨b, us, h1, h2, h3⟩ := h'
    obtain ⟨_, vs, k1, k2, _⟩ := h
    refine ⟨b, us, by rw [← h1, he l (by rw [k1]; exact fun e => by cases e)], ⟨h2.1, fun j u y hu hy => ?_⟩, h3⟩
    have hj := (List.getElem?_eq_some_iff.1 hy).1
    have hjv : j < vs.length := by rw [k2.1]; exact hj
    exact (h2.2 j u y hu hy).back he (k2.2 j vs[j] y (List.getElem?_eq_getElem (h := hjv)) hy)
  | arr t cs =>
    obtain ⟨b, us, h1, h2, h3⟩ := h'
    obtain ⟨_, _, k1, _⟩ := h
    exact ⟨b, us, by rw [← h1, he l (by rw [k1]; exact fun e => by cases e)], h2, h3⟩
  | froz xs =>
    obtain ⟨h1, h2⟩ := h'
    have k1 := h.1
    refine ⟨?_, h2⟩
    rw [← he l (by intro e; rw [e] at k1; cases k1)]; exact h1
  | fzn cs =>
    obtain ⟨⟨b, us, h1, h2⟩, h4⟩ := h'
    obtain ⟨⟨_, _, k1, _⟩, _⟩ := h
    exact ⟨⟨b, us, by rw [← h1, he l (by rw [k1]; exact fun e => by cases e)], h2⟩, h4⟩
  | abs R =>
    have h1 : R.rel J (ρ' l) es' := h'
    have k1 : R.rel I (ρ l) es := h
    show R.rel J (ρ l) es'
    rw [← he l (R.ne k1)]; exact h1
  | gone => exact h'

theorem RelH.bk {hp : List (Nat × Obj)} (he : ∀ l, ρ l ≠ .nilFunc → ρ' l = ρ l) : ∀ {L L' : List Ent}, RelH J ρ' hp L' → RelH I ρ hp L → RelH J ρ hp L' := by
  induction hp with
  | nil => intro L L' h' _; cases h' with | nil g => exact .nil g
  | cons p hp ih =>
    intro L L' h' h
    cases h' with
    | cons ho' k' => cases h with
      | cons ho k => exact .cons (ho'.back he ho) (ih k' k)

/-! ## What is asked of the order -/
def dstAt (ops : Array Oper) (j : Nat) : Option Nat := (ops[j]?).bind (·.dst)
def predB (o : Oper) (j : Nat) : Bool := o.after.toList.any fun e => bnd e && Nat.beq e.on j
def predAt (ops : Array Oper) (k i : Nat) : Bool := match ops[k]? with
  | some o => predB o i
  | none => false
/-- From 'm' on each one waits for all ahead of it. -/
def tailOK (ops : Array Oper) (m : Nat) : Prop := ∀ j o, m ≤ j → ops[j]? = some o → o.guard = none ∧ ∀ i, i < j → ∃ k, i < k ∧ k ≤ j ∧ predAt ops k i = true
def mskE (es : List Edge) (w : Nat) : Nat := match es with
  | [] => w
  | e :: es => mskE es (bif bnd e then Nat.lor w (2 ^ e.on) else w)
def goB (m : Nat) : Nat → Nat → List Nat → List Oper → Bool
  | _, _, _, [] => true
  | i, w, seen, o :: os => (o.after.toList.all fun e => !bnd e || Nat.blt e.on i) &&
    ((match o.dst with
      | none => goB m (i + 1) (mskE o.after.toList w) seen os
      | some d => !elemN d seen && goB m (i + 1) (mskE o.after.toList w) (d :: seen) os) &&
    (Nat.blt i m || (o.guard.isNone && Nat.beq (mskE o.after.toList w) (2 ^ i - 1))))
def rd1 (o : Oper) (t : Nat) : Nat → List Oper → Bool
  | _, [] => true
  | k, u :: us => (match u.dst with
    | some d => !Nat.beq d t || predB o k
    | none => true) && rd1 o t (k + 1) us
def rdOK (fs : List Oper) : List (List Nat) → List Oper → Bool
  | ts :: rs, o :: os => (ts.all fun t => rd1 o t 0 fs) && rdOK fs rs os
  | _, _ => true
def drawOK (ops : Array Oper) (m : Nat) (rs : List (List Nat)) : Bool := goB m 0 0 [] ops.toList && (Nat.ble m ops.size && rdOK (ops.toList.take m) rs (ops.toList.take m))

/-- Operations that ask nothing of memory, and may come at any time. -/
def fltS : Op → Option Nat
  | .move (.tmp s) | .nilCheck (.tmp s) | .extract (.tmp s) _ => some s
  | _ => none
def fltA (op : Op) (x : AV) : Option AV := match op with
  | .move _ => frc x
  | .nilCheck _ => match nilPtr x with
    | some false => some x
    | _ => none
  | .extract _ i => match x with
    | .tup vs => match vs[i]? with
      | some a => frc a
      | none => none
    | _ => none
  | _ => none
def FV (op : Op) (v u : Value) : Prop := match op with
  | .move _ => u = v
  | .nilCheck _ => (∃ ad, v = .pointer (some ad)) ∧ u = v
  | .extract _ i => ∃ vs, v = .tuple vs ∧ vs[i]? = some u
  | _ => False
theorem fltA_ok {op : Op} {x a : AV} {v : Value} (h : fltA op x = some a) (hr : RelA I ρ v x) : (∃ u, FV op v u) ∧ ∀ u, FV op v u → RelA I ρ u a := by
  unfold fltA at h
  split at h
  · obtain ⟨rfl, _⟩ := frc_ok h
    exact ⟨⟨v, rfl⟩, fun u hu => by unfold FV at hu; subst hu; exact hr⟩
  · split at h
    · rename_i hn
      simp only [Option.some.injEq] at h; subst h
      obtain ⟨A, rfl, hA⟩ := (nilPtr_ok hn).2 hr
      cases A with
      | none => cases hA
      | some ad => exact ⟨⟨_, ⟨ad, rfl⟩, rfl⟩, fun u hu => by unfold FV at hu; rw [hu.2]; exact hr⟩
    · cases h
  · split at h
    · rename_i vs
      split at h
      · rename_i b hb
        obtain ⟨rfl, _⟩ := frc_ok h
        cases hr with
        | tup hl hxx =>
          obtain ⟨u, q1, q2⟩ := All2.get (R := RelA I ρ) ⟨hl, hxx⟩ hb
          refine ⟨⟨u, _, rfl, by simpa using q1⟩, fun u' hu => ?_⟩
          obtain ⟨vs', e1, e2⟩ := hu
          simp only [Value.tuple.injEq] at e1; subst e1
          have : u = u' := by
            have e3 : some u = some u' := by rw [← q1]; simpa using e2
            simpa using e3
          subst this; exact q2
      · cases h
    · cases h
  · cases h
theorem fltA_undef {op : Op} {a : AV} (h : fltA op .undef = some a) : False := by
  unfold fltA at h
  split at h
  · cases h
  · cases h
  · cases h
  · cases h
theorem FV.run {o : Oper} {s : Nat} {v u : Value} (hs : fltS o.op = some s) (hv : Eng.look fr s = some v) (h : FV o.op v u) : RunsTo P fr I L o u := by
  obtain ⟨od, oop, oty, opos, oaft, ogd⟩ := o
  simp only at hs h
  unfold fltS at hs
  split at hs
  · simp only [Option.some.injEq] at hs; subst hs
    unfold FV at h; subst h
    exact R.move hv
  · simp only [Option.some.injEq] at hs; subst hs
    obtain ⟨⟨ad, rfl⟩, rfl⟩ := h
    exact R.nilP hv
  · simp only [Option.some.injEq] at hs; subst hs
    obtain ⟨vs, rfl, h2⟩ := h
    exact R.ext hv h2
  · cases hs
/-- Such an operation at a place. -/
def fltB (ops : List Oper) (N m : Nat) (x : Nat × Nat × Nat) (o : Oper) : Bool := match fltS o.op, o.dst with
  | some s, some d => Nat.beq s x.2.2 && (Nat.beq d x.2.1 && (Nat.blt d N && (o.guard.isNone && (rd1 o s 0 (ops.take m) && (ops.drop m).all fun u => match u.dst with
    | some t => !Nat.beq t s
    | none => true))))
  | _, _ => false
def allF (ops : Array Oper) (N m : Nat) : List (Nat × Nat × Nat) → Bool
  | [] => true
  | x :: l => (match ops[x.1]? with
    | some o => fltB ops.toList N m x o
    | none => false) && allF ops N m l
def fmask : List (Nat × Nat × Nat) → Nat
  | [] => 0
  | x :: l => Nat.lor (2 ^ x.1) (fmask l)
def tlB (m φ : Nat) : Nat → Nat → List Oper → Bool
  | _, _, [] => true
  | i, w, o :: os => bif Nat.testBit φ i then tlB m φ (i + 1) w os else (Nat.blt i m || (o.guard.isNone && Nat.beq (Nat.land (Nat.lor (mskE o.after.toList w) φ) (2 ^ i - 1)) (2 ^ i - 1))) && tlB m φ (i + 1) (mskE o.after.toList w) os
def drawOKT (ops : Array Oper) (N m : Nat) (fl : List (Nat × Nat × Nat)) (rs : List (List Nat)) : Bool :=
  goB ops.size 0 0 [] ops.toList && (tlB m (fmask fl) 0 0 ops.toList && (allF ops N m fl && (Nat.ble m ops.size && rdOK (ops.toList.take m) rs (ops.toList.take m))))

theorem mskE_bit : ∀ (es : List Edge) (w i : Nat), (mskE es w).testBit i = true → w.testBit i = true ∨ ∃ e ∈ es, bnd e = true ∧ e.on = i
  | [], w, i, h => .inl h
  | e :: es, w, i, h => by
    unfold mskE at h
    rcases mskE_bit es _ i h with h1 | ⟨e', h1, h2⟩
    · cases hb : bnd e with
      | false => rw [hb] at h1; exact .inl h1
      | true =>
        rw [hb] at h1
        have h1' : (w ||| 2 ^ e.on).testBit i = true := h1
        rw [Nat.testBit_or, Bool.or_eq_true] at h1'
        rcases h1' with h1 | h1
        · exact .inl h1
        · rw [Nat.testBit_two_pow] at h1
          exact .inr ⟨e, List.mem_cons_self, hb, by simpa using h1⟩
    · exact .inr ⟨e', List.mem_cons_of_mem _ h1, h2⟩

theorem goB_ok {ops : Array Oper} {m : Nat} : ∀ (os : List Oper) (i w : Nat) (seen : List Nat), ops.toList.drop i = os → (∀ j, w.testBit j = true → ∃ k, k < i ∧ predAt ops k j = true) → (∀ d, d ∈ seen ↔ ∃ k, k < i ∧ dstAt ops k = some d) → goB m i w seen os = true →
    (∀ j o, i ≤ j → ops[j]? = some o → (∀ e ∈ o.after, bnd e = true → e.on < j) ∧ (∀ d k, o.dst = some d → k < j → dstAt ops k ≠ some d) ∧ (m ≤ j → o.guard = none ∧ ∀ i, i < j → ∃ k, k ≤ j ∧ predAt ops k i = true))
  | [], i, w, seen, hd, hw, hs, h, j, o, hij, ho => by
    have h1 := (Array.getElem?_eq_some_iff.1 ho).1
    have := congrArg List.length hd
    simp at this; omega
  | u :: us, i, w, seen, hd, hw, hs, h, j, o, hij, ho => by
    have hoi : ops[i]? = some u := by
      have : (ops.toList.drop i)[0]? = some u := by rw [hd]; rfl
      simpa using this
    have hos : ops.toList.drop (i + 1) = us := by rw [← List.drop_drop, hd]; rfl
    unfold goB at h
    rw [Bool.and_eq_true, Bool.and_eq_true] at h
    obtain ⟨h1, h2, h3⟩ := h
    have hw' : ∀ j, (mskE u.after.toList w).testBit j = true → ∃ k, k < i + 1 ∧ predAt ops k j = true := fun j hj => by
      rcases mskE_bit _ _ _ hj with h4 | ⟨e, h4, h5, h6⟩
      · obtain ⟨k, a, b⟩ := hw j h4; exact ⟨k, by omega, b⟩
      · refine ⟨i, by omega, ?_⟩
        unfold predAt; rw [hoi]
        unfold predB
        rw [List.any_eq_true]
        exact ⟨e, h4, by rw [h5, h6]; simp⟩
    have dsti : dstAt ops i = u.dst := by unfold dstAt; rw [hoi]; rfl
    by_cases e : j = i
    · subst e
      rw [hoi] at ho; simp only [Option.some.injEq] at ho; subst ho
      refine ⟨fun e he hb => ?_, fun d k hdd hk => ?_, fun hm => ?_⟩
      · rw [List.all_eq_true] at h1
        have := h1 e (by simpa using he)
        rw [hb] at this
        simpa [Nat.blt_eq] using this
      · rw [hdd] at h2
        simp only [Bool.and_eq_true, Bool.not_eq_true'] at h2
        intro e2
        have := elemN_iff.2 ((hs d).2 ⟨k, hk, e2⟩)
        rw [this] at h2; cases h2.1
      · have hb : Nat.blt j m = false := by
          cases h : Nat.blt j m with
          | false => rfl
          | true => rw [Nat.blt_eq] at h; omega
        rw [hb, Bool.false_or, Bool.and_eq_true] at h3
        refine ⟨by simpa using h3.1, fun i hi => ?_⟩
        have he := Nat.eq_of_beq_eq_true h3.2
        obtain ⟨k, a, b⟩ := hw' i (by rw [he, Nat.testBit_two_pow_sub_one]; simpa using hi)
        exact ⟨k, by omega, b⟩
    · cases hdd : u.dst with
      | none =>
        rw [hdd] at h2
        refine goB_ok us (i + 1) _ seen hos hw' (fun d => ?_) h2 j o (by omega) ho
        rw [hs]
        constructor
        · rintro ⟨k, a, b⟩; exact ⟨k, by omega, b⟩
        · rintro ⟨k, a, b⟩
          by_cases e : k = i
          · subst e; rw [dsti, hdd] at b; cases b
          · exact ⟨k, by omega, b⟩
      | some d0 =>
        rw [hdd] at h2
        simp only [Bool.and_eq_true] at h2
        refine goB_ok us (i + 1) _ (d0 :: seen) hos hw' (fun d => ?_) h2.2 j o (by omega) ho
        rw [List.mem_cons, hs]
        constructor
        · rintro (rfl | ⟨k, a, b⟩)
          · exact ⟨i, by omega, by rw [dsti]; exact hdd⟩
          · exact ⟨k, by omega, b⟩
        · rintro ⟨k, a, b⟩
          by_cases e : k = i
          · subst e; rw [dsti, hdd] at b; simp at b; exact .inl b.symm
          · exact .inr ⟨k, by omega, b⟩

theorem goB_all {ops : Array Oper} {m : Nat} (h : goB m 0 0 [] ops.toList = true) : okRegion ops = true ∧ tailOK ops m := by
  have key := goB_ok (ops := ops) (m := m) ops.toList 0 0 [] (by simp) (fun j hj => by simp at hj) (fun d => by simp) h
  constructor
  · unfold okRegion
    rw [List.all_eq_true]
    intro i hi
    have hlt := List.mem_range.1 hi
    rw [Array.getElem?_eq_getElem hlt]
    simp only [Bool.and_eq_true, List.all_eq_true]
    obtain ⟨k1, k2, _⟩ := key i ops[i] (Nat.zero_le _) (Array.getElem?_eq_getElem hlt)
    refine ⟨fun e he => ?_, ?_⟩
    · cases hb : bnd e with
      | false => rfl
      | true => have := k1 e (by simpa using he) hb; simpa [Nat.blt_eq] using this
    · cases hd : ops[i].dst with
      | none => rfl
      | some d =>
        simp only [List.all_eq_true]
        intro j hj
        have hjl := List.mem_range.1 hj
        rw [Array.getElem?_eq_getElem hjl]
        simp only [Bool.or_eq_true]
        by_cases e : j = i
        · left; simp [e]
        · right
          cases hdj : ops[j].dst with
          | none => rfl
          | some d' =>
            simp only [Bool.not_eq_true']
            rw [beq_eq]
            simp only [decide_eq_false_iff_not]
            rintro rfl
            have di : dstAt ops i = some d' := by unfold dstAt; rw [Array.getElem?_eq_getElem hlt]; exact hd
            have dj : dstAt ops j = some d' := by unfold dstAt; rw [Array.getElem?_eq_getElem hjl]; exact hdj
            rcases Nat.lt_or_gt_of_ne e with hlt2 | hlt2
            · exact k2 d' j hd hlt2 dj
            · exact (key j ops[j] (Nat.zero_le _) (Array.getElem?_eq_getElem hjl)).2.1 d' i hdj hlt2 di
  · intro j o hm ho
    obtain ⟨k1, _, k3⟩ := key j o (Nat.zero_le _) ho
    obtain ⟨g, h⟩ := k3 hm
    refine ⟨g, fun i hi => ?_⟩
    obtain ⟨k, a, b⟩ := h i hi
    refine ⟨k, ?_, a, b⟩
    unfold predAt at b
    split at b
    · rename_i u hu
      unfold predB at b
      rw [List.any_eq_true] at b
      obtain ⟨e, he, hb⟩ := b
      rw [Bool.and_eq_true] at hb
      have := (key k u (Nat.zero_le _) hu).1 e (by simpa using he) hb.1
      have e2 := Nat.eq_of_beq_eq_true hb.2
      omega
    · cases b

theorem predB_iff {o : Oper} {j : Nat} : predB o j = true ↔ ∃ e ∈ o.after, bnd e = true ∧ e.on = j := by
  unfold predB
  rw [List.any_eq_true]
  constructor
  · rintro ⟨e, he, h⟩
    rw [Bool.and_eq_true] at h
    exact ⟨e, by simpa using he, h.1, by simpa using h.2⟩
  · rintro ⟨e, he, h1, h2⟩
    exact ⟨e, by simpa using he, by rw [h1, h2]; simp⟩

def Closed (ops : Array Oper) (T : Array Bool) : Prop := ∀ (k : Nat) (o : Oper), T[k]? = some true → ops[k]? = some o → ∀ e ∈ o.after, bnd e = true → T[e.on]? = some true

theorem tail_all {ops : Array Oper} {m j : Nat} {T : Array Bool} {o : Oper} (hk : tailOK ops m) (hT : Closed ops T) (hmj : m ≤ j) (ho : ops[j]? = some o) (hd : ∀ e ∈ o.after, bnd e = true → T[e.on]? = some true) : ∀ i, i < j → T[i]? = some true := by
  have h2 := (hk j o hmj ho).2
  have key : ∀ d i, i + d + 1 = j → T[i]? = some true := by
    intro d
    induction d using Nat.strongRecOn with
    | _ d ih =>
      intro i hi
      obtain ⟨k, h4, hkj, h5⟩ := h2 i (by omega)
      unfold predAt at h5
      split at h5
      · rename_i u hu
        obtain ⟨e, he, hbe, rfl⟩ := predB_iff.1 h5
        by_cases hkj' : k = j
        · subst hkj'
          rw [ho] at hu; simp only [Option.some.injEq] at hu; subst hu
          exact hd e he hbe
        · exact hT k u (ih (j - k - 1) (by omega) k (by omega)) hu e he hbe
      · cases h5
  intro i hi
  exact key (j - i - 1) i (by omega)
theorem tail_all1 {ops : Array Oper} {fl : List (Nat × Nat × Nat)} {j : Nat} {T : Array Bool} {o : Oper} (h2 : ∀ i, i < j → (∀ x ∈ fl, x.1 ≠ i) → ∃ k, i < k ∧ k ≤ j ∧ (∀ x ∈ fl, x.1 ≠ k) ∧ predAt ops k i = true) (hT : Closed ops T) (ho : ops[j]? = some o) (hd : ∀ e ∈ o.after, bnd e = true → T[e.on]? = some true) : ∀ i, i < j → (∀ x ∈ fl, x.1 ≠ i) → T[i]? = some true := by
  have key : ∀ d i, i + d + 1 = j → (∀ x ∈ fl, x.1 ≠ i) → T[i]? = some true := by
    intro d
    induction d using Nat.strongRecOn with
    | _ d ih =>
      intro i hi hnf
      obtain ⟨k, h4, hkj, hkf, h5⟩ := h2 i (by omega) hnf
      unfold predAt at h5
      split at h5
      · rename_i u hu
        obtain ⟨e, he, hbe, rfl⟩ := predB_iff.1 h5
        by_cases hkj' : k = j
        · subst hkj'
          rw [ho] at hu; simp only [Option.some.injEq] at hu; subst hu
          exact hd e he hbe
        · exact hT k u (ih (j - k - 1) (by omega) k (by omega) hkf) hu e he hbe
      · cases h5
  exact fun i hi => key (j - i - 1) i (by omega)
theorem tail_guard {ops : Array Oper} {m j : Nat} {o : Oper} (hk : tailOK ops m) (hmj : m ≤ j) (ho : ops[j]? = some o) : o.guard = none := (hk j o hmj ho).1

/-! ## One that is free -/
/-- What an operation may see. -/
def Sees (ops : Array Oper) (m : Nat) (base : Nat → AV) (A : Nat → AV) (i : Nat) (p : Nat → Bool) (rfr : List (Nat × AV)) : Prop :=
  ∀ t, lookA rfr t = .undef ∨ (∃ k, p k = true ∧ k < i ∧ dstAt ops k = some t ∧ lookA rfr t = A k) ∨ ((∀ k, k < m → dstAt ops k ≠ some t) ∧ lookA rfr t = base t)
theorem Sees.congr {ops : Array Oper} {m i : Nat} {base A A' : Nat → AV} {p : Nat → Bool} {rfr : List (Nat × AV)} (h : Sees ops m base A i p rfr) (he : ∀ k, k < i → A k = A' k) : Sees ops m base A' i p rfr := fun t => by
  rcases h t with h1 | ⟨k, a, b, c, d⟩ | h1
  · exact .inl h1
  · exact .inr (.inl ⟨k, a, b, c, by rw [← he k b]; exact d⟩)
  · exact .inr (.inr h1)

def FreeAt (P : Program) (N : Nat) (ops : Array Oper) (m : Nat) (base : Nat → AV) (hp : List (Nat × Obj)) (nx : Nat) (A : Nat → AV) (i : Nat) : Prop := ∃ o, ops[i]? = some o ∧ okD N o.dst = true ∧ ∃ rfr, Sees ops m base A i (predB o) rfr ∧
  ((o.guard = none ∨ ∃ g b s, o.guard = some (g, b) ∧ dstAt ops g = some s ∧ lookA rfr s = .d (.bool b)) ∧ (∀ I ρ F fr L, SR I ρ F ⟨rfr, hp, nx⟩ fr L → Acts P N fr I L o (fun v I' L' => I.le I' ∧ ∃ ρ', RelU I' ρ' v (A i) ∧ SR I' ρ' F ⟨rfr, hp, nx⟩ fr L' ∧ Ag ρ ρ')) ∨
   (∃ g b s, o.guard = some (g, b) ∧ dstAt ops g = some s ∧ (lookA rfr s = .d (.bool (!b)) ∨ lookA rfr s = .tup [])) ∧ A i = .tup [])
theorem FreeAt.congr {ops : Array Oper} {m i : Nat} {base A A' : Nat → AV} {hp : List (Nat × Obj)} {nx : Nat} (h : FreeAt P N ops m base hp nx A i) (he : ∀ k, k ≤ i → A k = A' k) : FreeAt P N ops m base hp nx A' i := by
  obtain ⟨o, h1, h2, rfr, h3, h4⟩ := h
  refine ⟨o, h1, h2, rfr, h3.congr (fun k hk => he k (by omega)), ?_⟩
  rw [← he i (Nat.le_refl _)]; exact h4

/-- An operation that may come at any time. -/
def FltP (ops : Array Oper) (N m : Nat) (x : Nat × Nat × Nat) : Prop := ∃ o, ops[x.1]? = some o ∧ fltS o.op = some x.2.2 ∧ o.dst = some x.2.1 ∧ x.2.1 < N ∧ o.guard = none ∧ ∀ k u, ops[k]? = some u → u.dst = some x.2.2 → k < m ∧ predB o k = true
def tailF (ops : Array Oper) (m : Nat) (fl : List (Nat × Nat × Nat)) : Prop := ∀ j o, m ≤ j → ops[j]? = some o → (∀ x ∈ fl, x.1 ≠ j) → o.guard = none ∧ ∀ i, i < j → (∀ x ∈ fl, x.1 ≠ i) → ∃ k, i < k ∧ k ≤ j ∧ (∀ x ∈ fl, x.1 ≠ k) ∧ predAt ops k i = true
theorem FltP.ne {ops : Array Oper} {m : Nat} {x y : Nat × Nat × Nat} (hok : okRegion ops = true) (hx : FltP ops N m x) (hy : FltP ops N m y) (h : m ≤ x.1 ∨ y.1 ≤ x.1) : x.2.1 ≠ y.2.2 := fun e => by
  obtain ⟨o, ho, _, hd, _⟩ := hx
  obtain ⟨u, hu, _, _, _, _, hw⟩ := hy
  obtain ⟨h1, h2⟩ := hw x.1 o ho (by rw [hd, e])
  obtain ⟨ee, he, hb, hon⟩ := predB_iff.1 h2
  have := okRegion_edge hok hu ee he hb
  omega
/-- How things stand when some of them are done. -/
structure DI (ops : Array Oper) (m : Nat) (fl : List (Nat × Nat × Nat)) (base A : Nat → AV) (hp : List (Nat × Obj)) (nx : Nat) (F : List Ent) (T : Array Bool) (I : Imm) (ρ : Nat → Value) (fr : Frm) (L : List Ent) : Prop where
  hpr : ∃ Lh, RelH I ρ hp Lh ∧ L = Lh ++ F
  new : ∀ l, nx ≤ l → ρ l = .nilFunc
  old : ∀ t, (∀ k, k < m → dstAt ops k = some t → T[k]? ≠ some true) → base t = .undef ∨ ∃ v, Eng.look fr t = some v ∧ RelA I ρ v (base t)
  dn : ∀ k t, k < m → T[k]? = some true → dstAt ops k = some t → A k = .undef ∨ ∃ v, Eng.look fr t = some v ∧ RelA I ρ v (A k)
  size : T.size = ops.size
  closed : Closed ops T
  free : ∀ k, T[k]? = some true → k < m ∨ ∃ x ∈ fl, x.1 = k
  flt : ∀ x ∈ fl, T[x.1]? = some true → ∃ o v u, ops[x.1]? = some o ∧ Eng.look fr x.2.2 = some v ∧ Eng.look fr x.2.1 = some u ∧ FV o.op v u

theorem getD_true {T : Array Bool} {i : Nat} (h : T.getD i false = true) : T[i]? = some true := by
  rw [Array.getD_eq_getD_getElem?] at h
  cases hx : T[i]? with
  | none => rw [hx] at h; cases h
  | some b => rw [hx] at h; simp only [Option.getD_some] at h; rw [h]

theorem unl {ops : Array Oper} {T : Array Bool} {i : Nat} {o : Oper} (hs : T.size = ops.size) (ho : ops[i]? = some o) (h : T.getD i true = false) : T[i]? = some false := by
  have hlt := (Array.getElem?_eq_some_iff.1 ho).1
  rw [Array.getD_eq_getD_getElem?] at h
  cases hx : T[i]? with
  | none => rw [Array.getElem?_eq_none_iff] at hx; omega
  | some b => rw [hx] at h; simp only [Option.getD_some] at h; rw [h]

theorem set_true {T : Array Bool} {i k : Nat} (h : (T.setIfInBounds i true)[k]? = some true) : k = i ∨ T[k]? = some true := by
  by_cases e : i = k
  · exact .inl e.symm
  · rw [Array.getElem?_setIfInBounds_ne e] at h; exact .inr h
theorem set_keep {T : Array Bool} {i k : Nat} (hi : i < T.size) (h : T[k]? = some true ∨ k = i) : (T.setIfInBounds i true)[k]? = some true := by
  by_cases e : i = k
  · subst e; exact Array.getElem?_setIfInBounds_self_of_lt hi
  · rw [Array.getElem?_setIfInBounds_ne e]
    rcases h with h | h
    · exact h
    · exact absurd h.symm e

theorem DI.sees {ops : Array Oper} {m i : Nat} {fl : List (Nat × Nat × Nat)} {base A : Nat → AV} {hp : List (Nat × Obj)} {nx : Nat} {T : Array Bool} {p : Nat → Bool} {rfr : List (Nat × AV)} (h : DI ops m fl base A hp nx F T I ρ fr L) (hs : Sees ops m base A i p rfr) (him : i ≤ m) (hp' : ∀ k, p k = true → k < i → T[k]? = some true) :
    SR I ρ F ⟨rfr, hp, nx⟩ fr L := by
  refine ⟨fun t => ?_, h.hpr, h.new⟩
  rcases hs t with h1 | ⟨k, h1, h2, h3, h4⟩ | ⟨h1, h2⟩
  · exact .inl h1
  · show lookA rfr t = _ ∨ ∃ v, _ ∧ RelA I ρ v (lookA rfr t)
    rw [h4]
    exact h.dn k t (by omega) (hp' k h1 h2) h3
  · show lookA rfr t = _ ∨ ∃ v, _ ∧ RelA I ρ v (lookA rfr t)
    rw [h2]
    exact h.old t (fun k hk hd => absurd hd (h1 k hk))

theorem dst_ok {ops : Array Oper} {i : Nat} {o : Oper} (ho : ops[i]? = some o) : dstAt ops i = o.dst := by unfold dstAt; rw [ho]; rfl

theorem DI.step {ops : Array Oper} {m i : Nat} {fl : List (Nat × Nat × Nat)} {base A : Nat → AV} {hp : List (Nat × Obj)} {nx : Nat} {T : Array Bool} {o : Oper} {rfr : List (Nat × AV)} {L' : List Ent} {v : Value} (hok : okRegion ops = true) (hfp : ∀ x ∈ fl, FltP ops N m x) (hnf : ∀ x ∈ fl, x.1 ≠ i) (h : DI ops m fl base A hp nx F T I ρ fr L) (ho : ops[i]? = some o) (him : i < m) (hTi : T[i]? = some false)
    (hd : ∀ e ∈ o.after, bnd e = true → T[e.on]? = some true) (hle : I.le J) (hs : SR J ρ' F ⟨rfr, hp, nx⟩ fr L') (hag : Ag ρ ρ') (hv : RelU J ρ' v (A i)) : DI ops m fl base A hp nx F (T.setIfInBounds i true) J ρ' (dstF o v fr) L' := by
  have hlt := (Array.getElem?_eq_some_iff.1 hTi).1
  have hren : ∀ {u : Value} {a : AV}, RelA I ρ u a → RelA J ρ' u a := fun h => (h.mono hle).ren hag
  have hlook : ∀ t, o.dst ≠ some t → Eng.look (dstF o v fr) t = Eng.look fr t := by
    intro t ht
    unfold dstF
    cases hd : o.dst with
    | none => rfl
    | some d => simp only; rw [look_cons, if_neg (by rintro rfl; exact ht hd)]
  refine ⟨hs.hpr, hs.new, fun t ht => ?_, fun k t hk hT hdt => ?_, by rw [Array.size_setIfInBounds, h.size], fun k u hT hu e he hb => ?_, fun k hT => ?_, fun x hx hT => ?_⟩
  · have h1 : o.dst ≠ some t := fun e => ht i him (by rw [dst_ok ho, e]) (set_keep hlt (.inr rfl))
    rw [hlook t h1]
    rcases h.old t (fun k hk hd hT => ht k hk hd (set_keep hlt (.inl hT))) with h2 | ⟨u, h2, h3⟩
    · exact .inl h2
    · exact .inr ⟨u, h2, hren h3⟩
  · by_cases e : k = i
    · subst e
      rw [dst_ok ho] at hdt
      rcases hv with hv | hv
      · exact .inl hv
      · refine .inr ⟨v, ?_, hv⟩
        unfold dstF; rw [hdt]; simp only; rw [look_cons, if_pos rfl]
    · have hT' : T[k]? = some true := (set_true hT).resolve_left e
      have h1 : o.dst ≠ some t := by
        intro e2
        have hkl := (Array.getElem?_eq_some_iff.1 hT').1
        have hkl' : k < ops.size := by rw [← h.size]; exact hkl
        have hko : ops[k]? = some ops[k] := Array.getElem?_eq_getElem hkl'
        exact e (okRegion_dst hok hko ho (by rw [← dst_ok hko]; exact hdt) e2)
      rw [hlook t h1]
      rcases h.dn k t hk hT' hdt with h2 | ⟨u, h2, h3⟩
      · exact .inl h2
      · exact .inr ⟨u, h2, hren h3⟩
  · rcases set_true hT with rfl | hT
    · rw [ho] at hu; simp only [Option.some.injEq] at hu; subst hu
      exact set_keep hlt (.inl (hd e he hb))
    · exact set_keep hlt (.inl (h.closed k u hT hu e he hb))
  · rcases set_true hT with rfl | hT
    · exact .inl him
    · exact h.free k hT
  · obtain ⟨u, hu, hop, hud, hN, hgn, hwr⟩ := hfp x hx
    have hT' : T[x.1]? = some true := (set_true hT).resolve_left (hnf x hx)
    obtain ⟨u', v1, u1, h0, h1, h2, h3⟩ := h.flt x hx hT'
    refine ⟨u', v1, u1, h0, ?_, ?_, h3⟩
    · rw [hlook _ (fun e => ?_)]
      · exact h1
      · obtain ⟨_, hp1⟩ := hwr i o ho e
        obtain ⟨ee, he, hbe, hon⟩ := predB_iff.1 hp1
        have := h.closed x.1 u hT' hu ee he hbe
        rw [hon, hTi] at this; cases this
    · rw [hlook _ (fun e => hnf x hx (okRegion_dst hok hu ho hud e))]; exact h2
/-- One that may come at any time. -/
theorem DI.float {ops : Array Oper} {m : Nat} {fl : List (Nat × Nat × Nat)} {base A : Nat → AV} {hp : List (Nat × Obj)} {nx : Nat} {T : Array Bool} {x : Nat × Nat × Nat} {o : Oper} {v u : Value} (hok : okRegion ops = true) (hfp : ∀ x ∈ fl, FltP ops N m x) (h : DI ops m fl base A hp nx F T I ρ fr L) (hx : x ∈ fl) (ho : ops[x.1]? = some o)
    (hTi : T[x.1]? = some false) (hd : ∀ e ∈ o.after, bnd e = true → T[e.on]? = some true) (hA : x.1 < m → A x.1 = .undef ∨ RelA I ρ u (A x.1)) (hb : m ≤ x.1 → base x.2.1 = .undef) (hl : Eng.look fr x.2.2 = some v) (hv : FV o.op v u) : DI ops m fl base A hp nx F (T.setIfInBounds x.1 true) I ρ ((x.2.1, u) :: fr) L := by
  have hlt := (Array.getElem?_eq_some_iff.1 hTi).1
  have hxP := hfp x hx
  obtain ⟨o', ho', hop, hud, hN, hgn, hwr⟩ := hfp x hx
  rw [ho] at ho'; simp only [Option.some.injEq] at ho'; subst ho'
  have hlook : ∀ t, x.2.1 ≠ t → Eng.look ((x.2.1, u) :: fr) t = Eng.look fr t := fun t ht => by rw [look_cons, if_neg ht]
  have hsd : x.2.1 ≠ x.2.2 := FltP.ne hok hxP hxP (.inr (Nat.le_refl _))
  have hdst : ∀ k t, dstAt ops k = some t → x.2.1 = t → k = x.1 := fun k t hdt e => by
    unfold dstAt at hdt
    cases hq : ops[k]? with
    | none => rw [hq] at hdt; cases hdt
    | some q => rw [hq] at hdt; exact okRegion_dst hok hq ho hdt (by rw [hud, e])
  refine ⟨h.hpr, h.new, fun t ht => ?_, fun k t hk hT hdt => ?_, by rw [Array.size_setIfInBounds, h.size], fun k u hT hu e he hb => ?_, fun k hT => ?_, fun y hy hT => ?_⟩
  · by_cases e : x.2.1 = t
    · subst e
      rcases Nat.lt_or_ge x.1 m with h1 | h1
      · exact absurd (set_keep hlt (.inr rfl)) (ht x.1 h1 (by rw [dst_ok ho]; exact hud))
      · exact .inl (hb h1)
    · rw [hlook t e]
      exact h.old t (fun k hk hdk hT => ht k hk hdk (set_keep hlt (.inl hT)))
  · by_cases e : x.2.1 = t
    · have hkx := hdst k t hdt e
      subst hkx
      refine (hA hk).imp id (fun h1 => ⟨u, by rw [look_cons, if_pos e], h1⟩)
    · have hT' : T[k]? = some true := (set_true hT).resolve_left (fun e2 => by
        subst e2
        rw [dst_ok ho, hud] at hdt
        simp only [Option.some.injEq] at hdt; exact e hdt)
      rw [hlook t e]
      exact h.dn k t hk hT' hdt
  · rcases set_true hT with rfl | hT
    · rw [ho] at hu; simp only [Option.some.injEq] at hu; subst hu
      exact set_keep hlt (.inl (hd e he hb))
    · exact set_keep hlt (.inl (h.closed k u hT hu e he hb))
  · rcases set_true hT with rfl | hT
    · exact .inr ⟨x, hx, rfl⟩
    · exact h.free k hT
  · obtain ⟨w, hw, hop2, hvd, hN2, hgn2, hwr2⟩ := hfp y hy
    by_cases e : y.1 = x.1
    · have hov : w = o := by rw [e, ho] at hw; simpa using hw.symm
      subst hov
      have e1 : y.2.1 = x.2.1 := by rw [hud] at hvd; simpa using hvd.symm
      have e2 : y.2.2 = x.2.2 := by rw [hop] at hop2; simpa using hop2.symm
      exact ⟨w, v, u, hw, by rw [e2, hlook _ hsd]; exact hl, by rw [e1, look_cons, if_pos rfl], hv⟩
    · have hT' : T[y.1]? = some true := (set_true hT).resolve_left e
      obtain ⟨w', v2, u2, h0, h1, h2, h3⟩ := h.flt y hy hT'
      refine ⟨w', v2, u2, h0, ?_, ?_, h3⟩
      · rw [hlook _ (fun e2 => ?_)]
        · exact h1
        · obtain ⟨_, hp1⟩ := hwr2 x.1 o ho (by rw [hud, e2])
          obtain ⟨ee, he, hbe, hon⟩ := predB_iff.1 hp1
          have := h.closed y.1 w hT' hw ee he hbe
          rw [hon, hTi] at this; cases this
      · rw [hlook _ (fun e2 => e (okRegion_dst hok hw ho hvd (by rw [hud, e2])))]; exact h2
def FltAt (ops : Array Oper) (m : Nat) (base A : Nat → AV) (x : Nat × Nat × Nat) (a : AV) : Prop := ∃ o, ops[x.1]? = some o ∧ ((∃ k q, k < x.1 ∧ k < m ∧ ops[k]? = some q ∧ q.dst = some x.2.2 ∧ fltA o.op (A k) = some a) ∨ ((∀ k, k < m → dstAt ops k ≠ some x.2.2) ∧ fltA o.op (base x.2.2) = some a))

theorem Fr.dst {a : Act} {o : Oper} (h : Fr N fr a) (hd : okD N o.dst = true) (v : Value) : Fr N (dstF o v fr) (a.put o.dst v) := by
  unfold dstF
  cases hdd : o.dst with
  | none => exact h
  | some d => rw [hdd] at hd; exact h.put hd v

theorem wantF_of {ops : Array Oper} {rfr : List (Nat × AV)} {o : Oper} {g s : Nat} {b c : Bool} (hs : FrR I ρ rfr fr) (hg : o.guard = some (g, b)) (hd : dstAt ops g = some s) (hl : lookA rfr s = .d (.bool c)) : wantF ops fr o = some (c == b) := by
  unfold wantF
  rw [hg]
  simp only
  rw [show (ops[g]?).bind (·.dst) = some s from hd]
  simp only
  rcases hs s with h1 | ⟨v, h1, h2⟩
  · rw [hl] at h1; cases h1
  · rw [hl] at h2; rw [h1, ra_bool h2]

theorem wantF_tup {ops : Array Oper} {rfr : List (Nat × AV)} {o : Oper} {g s : Nat} {b : Bool} (hs : FrR I ρ rfr fr) (hg : o.guard = some (g, b)) (hd : dstAt ops g = some s) (hl : lookA rfr s = .tup []) : wantF ops fr o = some false := by
  unfold wantF
  rw [hg]
  simp only
  rw [show (ops[g]?).bind (·.dst) = some s from hd]
  simp only
  rcases hs s with h1 | ⟨v, h1, h2⟩
  · rw [hl] at h1; cases h1
  · rw [hl] at h2
    cases h2 with
    | tup hl2 _ => rw [h1, List.length_eq_zero_iff.1 hl2]
theorem draw_core {ops : Array Oper} {m : Nat} {fl : List (Nat × Nat × Nat)} {base A : Nat → AV} {hp : List (Nat × Obj)} {nx : Nat} {Q0 : Exit → Act → World → Prop} {I0 : Imm} {ρ0 : Nat → Value} (hok : okRegion ops = true) (hm : m ≤ ops.size) (htl : tailF ops m fl) (hfp : ∀ x ∈ fl, FltP ops N m x) (hft : ∀ x ∈ fl, (m ≤ x.1 → base x.2.1 = .undef) ∧ ∃ a, FltAt ops m base A x a ∧ (x.1 < m → A x.1 = a)) (hfr : ∀ i, i < m → (∀ x ∈ fl, x.1 ≠ i) → FreeAt P N ops m base hp nx A i)
    (hfin : ∀ fuel T a w I ρ fr L, cnt T ≤ fuel → (∀ i, i < m → (∀ x ∈ fl, x.1 ≠ i) → T[i]? = some true) → DI ops m fl base A hp nx F T I ρ fr L → Fr N fr a → HS I L w → I0.le I → Ag ρ0 ρ → wpAny P .any ops Q0 fuel T a w) :
    ∀ fuel T a w I ρ fr L, cnt T ≤ fuel → DI ops m fl base A hp nx F T I ρ fr L → Fr N fr a → HS I L w → I0.le I → Ag ρ0 ρ → wpAny P .any ops Q0 fuel T a w := by
  intro fuel
  induction fuel with
  | zero =>
    intro T a w I ρ fr L hc hT
    have hall := cnt_zero (Nat.le_zero.1 hc)
    exact hfin 0 T a w I ρ fr L hc (fun i hi _ => hall i (by rw [hT.size]; omega)) hT
  | succ fuel ih =>
    intro T a w I ρ fr L hc hT ha hw hle hag
    by_cases hdone : ∀ i, i < m → (∀ x ∈ fl, x.1 ≠ i) → T[i]? = some true
    · exact hfin (fuel + 1) T a w I ρ fr L hc hdone hT ha hw hle hag
    · refine ⟨fun hr => absurd (fun i hi _ => all_listed hok hT.size hr i (by omega)) hdone, fun i hi => ?_⟩
      obtain ⟨o, ho, hTi, hd⟩ := ready_iff.1 hi
      have hTf := unl hT.size ho hTi
      have hd' : ∀ e ∈ o.after, bnd e = true → T[e.on]? = some true := fun e he hb => getD_true (hd e he hb)
      by_cases hflt : ∃ x ∈ fl, x.1 = i
      · obtain ⟨x, hx, rfl⟩ := hflt
        obtain ⟨u, hu, hop, hud, hN, hgn, hwr⟩ := hfp x hx
        rw [ho] at hu; simp only [Option.some.injEq] at hu; subst hu
        obtain ⟨hb0, av, ⟨o2, ho2, hsrc⟩, hAx⟩ := hft x hx
        rw [ho] at ho2; simp only [Option.some.injEq] at ho2; subst ho2
        have hval : ∃ v xa, Eng.look fr x.2.2 = some v ∧ RelA I ρ v xa ∧ fltA o.op xa = some av := by
          rcases hsrc with ⟨k, q, _, hk, hq, hqd, hn⟩ | ⟨hno, hn⟩
          · obtain ⟨_, hp1⟩ := hwr k q hq hqd
            obtain ⟨ee, he, hbe, hon⟩ := predB_iff.1 hp1
            rcases hT.dn k _ hk (by rw [← hon]; exact hd' ee he hbe) (by rw [dst_ok hq]; exact hqd) with h1 | ⟨v, h1, h2⟩
            · rw [h1] at hn; exact (fltA_undef hn).elim
            · exact ⟨v, _, h1, h2, hn⟩
          · rcases hT.old _ (fun k hk hdk => absurd hdk (hno k hk)) with h1 | ⟨v, h1, h2⟩
            · rw [h1] at hn; exact (fltA_undef hn).elim
            · exact ⟨v, _, h1, h2, hn⟩
        obtain ⟨v, xa, hlv, hrv, hfa⟩ := hval
        obtain ⟨⟨u, hfv⟩, hur⟩ := fltA_ok hfa hrv
        have hcn : cnt (T.setIfInBounds x.1 true) ≤ fuel := by have := cnt_set hTf; omega
        simp only [wpOp, ho]
        rw [if_pos (wantF_spec ha (by unfold wantF; rw [hgn]))]
        left
        refine (FV.run hop hlv hfv).acts a w _ _ ha hw (fun v' I' L' w' hw' hR => ?_)
        obtain ⟨e1, rfl, rfl⟩ := hR
        subst e1
        have hds : dstF o u fr = (x.2.1, u) :: fr := by unfold dstF; rw [hud]
        exact ih _ _ w' I ρ _ L hcn (hT.float hok hfp hx ho hTf hd' (fun hm1 => .inr (by rw [hAx hm1]; exact hur _ hfv)) hb0 hlv hfv) (hds ▸ Fr.dst ha (by rw [hud]; show Nat.blt _ _ = true; rw [Nat.blt_eq]; exact hN) _) hw' hle hag
      have hnf : ∀ x ∈ fl, x.1 ≠ i := fun x hx e => hflt ⟨x, hx, e⟩
      have him : i < m := by
        refine Nat.lt_of_not_le fun hmi => hdone (fun j hj hjf => tail_all1 (htl i o hmi ho hnf).2 hT.closed ho hd' j (by omega) hjf)
      obtain ⟨o', h1, h2, rfr, h3, h4⟩ := hfr i him hnf
      rw [ho] at h1; simp only [Option.some.injEq] at h1; subst h1
      have hsr : SR I ρ F ⟨rfr, hp, nx⟩ fr L := hT.sees h3 (by omega) (fun k hk _ => by
        obtain ⟨e, he, hb, rfl⟩ := predB_iff.1 hk
        exact hd' e he hb)
      have hcn : cnt (T.setIfInBounds i true) ≤ fuel := by have := cnt_set hTf; omega
      simp only [wpOp, ho]
      rcases h4 with ⟨hg, hact⟩ | ⟨⟨g, b, s, hg, hds, hl⟩, hA⟩
      · have hw1 : wantF ops fr o = some true := by
          rcases hg with hg | ⟨g, b, s, hg, hds, hl⟩
          · unfold wantF; rw [hg]
          · rw [wantF_of hsr.frr hg hds hl]; simp
        rw [if_pos (wantF_spec ha hw1)]
        left
        refine hact I ρ F fr L hsr a w _ _ ha hw (fun v I' L' w' hw' hR => ?_)
        obtain ⟨hle', ρ', hv, hs', hag'⟩ := hR
        exact ih _ _ w' I' ρ' (dstF o v fr) L' hcn (hT.step hok hfp hnf ho him hTf hd' hle' hs' hag' hv) (Fr.dst ha h2 v) hw' (hle.trans hle') (hag.trans hag')
      · have hw1 : wantF ops fr o = some false := by
          rcases hl with hl | hl
          · rw [wantF_of hsr.frr hg hds hl]; cases b <;> rfl
          · exact wantF_tup hsr.frr hg hds hl
        rw [if_neg (by rw [wantF_spec ha hw1]; simp)]
        exact ih _ _ w I ρ (dstF o undef fr) L hcn (hT.step hok hfp hnf ho him hTf hd' (Imm.le_refl _) hsr Ag.refl (.inr (by rw [hA]; exact rel_skip))) (Fr.dst ha h2 undef) hw hle hag

/-! ## The rest, one after the other -/
theorem tail_ok (hT : TOk E.P E.T) {ops : Array Oper} {m : Nat} {K : St → Prop} {Q0 : Exit → Act → World → Prop} {I0 : Imm} {ρ0 : Nat → Value} (hok : okRegion ops = true) (htl : tailOK ops m)
    (hk : ∀ fr' I' L' a' w', Fr E.N fr' a' → HS I' L' w' → KS I0 ρ0 F K fr' I' L' → Q0 .normal a' w') :
    ∀ (rest : List Oper) (i fuel : Nat) (T : Array Bool) (a : Act) (w : World) (st : St) (I : Imm) (ρ : Nat → Value) (fr : Frm) (L : List Ent), ops.toList.drop i = rest → m ≤ i → i ≤ ops.size → (∀ k, T[k]? = some true ↔ k < i) → T.size = ops.size → Closed ops T → cnt T ≤ fuel → opsW E ops rest st K → SR I ρ F st fr L → Fr E.N fr a → HS I L w → I0.le I → Ag ρ0 ρ →
      wpAny E.P .any ops Q0 fuel T a w := by
  intro rest
  induction rest with
  | nil =>
    intro i fuel T a w st I ρ fr L hdr hmi hi hTk hsz hcl hc h hs ha hw hle hag
    have hie : i = ops.size := by
      have := congrArg List.length hdr
      simp at this; omega
    have hq : Q0 .normal a w := hk fr I L a w ha hw ⟨hle, ρ, st, hs, hag, h⟩
    have hnr : Region.ready .any ops T = [] := by
      cases hr : Region.ready .any ops T with
      | nil => rfl
      | cons j l =>
        exfalso
        have hj : j ∈ Region.ready .any ops T := by rw [hr]; exact List.mem_cons_self
        obtain ⟨o, ho, hTj, _⟩ := ready_iff.1 hj
        have h1 := unl hsz ho hTj
        rw [(hTk j).2 (by rw [hie]; exact (Array.getElem?_eq_some_iff.1 ho).1)] at h1; cases h1
    cases fuel with
    | zero => exact ⟨hnr, hq⟩
    | succ fuel => exact ⟨fun _ => hq, fun j hj => by rw [hnr] at hj; cases hj⟩
  | cons o os ih =>
    intro i fuel T a w st I ρ fr L hdr hmi hi hTk hsz hcl hc h hs ha hw hle hag
    have hilt : i < ops.size := by
      have := congrArg List.length hdr
      simp at this; omega
    have hoi : ops[i]? = some o := by
      have : (ops.toList.drop i)[0]? = some o := by rw [hdr]; rfl
      simpa using this
    have hos : ops.toList.drop (i + 1) = os := by
      rw [← List.drop_drop, hdr]; rfl
    have hTi : T[i]? = some false := by
      cases hx : T[i]? with
      | none => rw [Array.getElem?_eq_none_iff] at hx; omega
      | some b =>
        cases b with
        | false => rfl
        | true => have := (hTk i).1 hx; omega
    cases fuel with
    | zero =>
      have := cnt_zero (Nat.le_zero.1 hc) i (by omega)
      rw [hTi] at this; cases this
    | succ fuel =>
      refine ⟨fun hr => ?_, fun j hj => ?_⟩
      · have := all_listed hok hsz hr i hilt
        rw [hTi] at this; cases this
      · obtain ⟨u, hu, hTj, hd⟩ := ready_iff.1 hj
        have hTf := unl hsz hu hTj
        have hd' : ∀ e ∈ u.after, bnd e = true → T[e.on]? = some true := fun e he hb => getD_true (hd e he hb)
        have hij : i ≤ j := Nat.le_of_not_lt fun hlt => by rw [(hTk j).2 hlt] at hTf; cases hTf
        have hji : j = i := by
          by_cases e : j = i
          · exact e
          · have := tail_all htl hcl (by omega) hu hd' i (by omega)
            rw [hTi] at this; cases this
        subst hji
        rw [hoi] at hu; simp only [Option.some.injEq] at hu; subst hu
        have hg : o.guard = none := tail_guard htl hmi hoi
        obtain ⟨sfr, hp, nx⟩ := st
        unfold opsW at h
        cases hdd : okD E.N o.dst with
        | false => rw [hdd] at h; exact h.elim
        | true =>
          rw [hdd] at h
          simp only [cond_true, hg] at h
          simp only [wpOp, hoi]
          rw [if_pos (wantF_spec ha (by unfold wantF; rw [hg]))]
          left
          refine stepW_ok (N := E.N) hT h I ρ F fr L hs a w _ _ ha hw (fun v I' L' w' hw' hr => ?_)
          obtain ⟨hle', ρ', av, st', h1, h2, h3, h4⟩ := hr
          replace h4 := frcT_ok (frcA_ok 3 av h4)
          have hlt : j < T.size := by omega
          have h5 : opsW E ops os (putS st' o.dst av) K := by
            obtain ⟨f', hp', n'⟩ := st'
            unfold putS
            revert h4
            generalize o.dst = dd
            cases dd with
            | none => exact id
            | some d => exact id
          have h6 : SR I' ρ' F (putS st' o.dst av) (dstF o v fr) L' := by
            unfold dstF
            cases hde : o.dst with
            | none => exact h2
            | some d => exact h2.put d h1
          refine ih (j + 1) fuel _ _ w' _ I' ρ' _ L' hos (by omega) (by omega) (fun k => ⟨fun hk => ?_, fun hk => ?_⟩) (by rw [Array.size_setIfInBounds, hsz]) (fun k u hTk' hu e he hb => ?_) (by have := cnt_set hTf; omega) h5 h6 (Fr.dst ha hdd v) hw' (hle.trans hle') (hag.trans h3)
          · rcases set_true hk with rfl | hk
            · omega
            · have := (hTk k).1 hk; omega
          · refine set_keep hlt ?_
            by_cases e : k = j
            · exact .inr e
            · exact .inl ((hTk k).2 (by omega))
          · rcases set_true hTk' with rfl | hTk'
            · rw [hoi] at hu; simp only [Option.some.injEq] at hu; subst hu
              exact set_keep hlt (.inl (hd' e he hb))
            · exact set_keep hlt (.inl (hcl k u hTk' hu e he hb))

/-! ## The way of a drawn region -/
def readF : List Nat → List (Nat × AV) → List (Nat × AV)
  | [], _ => []
  | t :: ts, fr => (t, lookA fr t) :: readF ts fr
theorem readF_look : ∀ {ts : List Nat} {fr : List (Nat × AV)} {t : Nat}, lookA (readF ts fr) t = .undef ∨ (lookA (readF ts fr) t = lookA fr t ∧ t ∈ ts)
  | [], fr, t => .inl rfl
  | u :: ts, fr, t => by
    unfold readF
    rw [lookA_cons]
    by_cases e : u = t
    · subst e; rw [if_pos rfl]; exact .inr ⟨rfl, List.mem_cons_self⟩
    · rw [if_neg e]
      exact readF_look.imp id (fun h => ⟨h.1, List.mem_cons_of_mem _ h.2⟩)
theorem readF_congr {s : Nat} {f g : List (Nat × AV)} (h : lookA f s = lookA g s) : ∀ ts, lookA (readF ts f) s = lookA (readF ts g) s
  | [] => rfl
  | u :: ts => by
    unfold readF
    rw [lookA_cons, lookA_cons]
    by_cases e : u = s
    · subst e; rw [if_pos rfl, if_pos rfl]; exact h
    · rw [if_neg e, if_neg e]; exact readF_congr h ts
theorem rd1_ok {o : Oper} {t : Nat} : ∀ {us : List Oper} {k : Nat}, rd1 o t k us = true → ∀ j u, us[j]? = some u → u.dst = some t → predB o (k + j) = true
  | [], k, _, j, u, hj, _ => by simp at hj
  | v :: us, k, h, j, u, hj, hd => by
    unfold rd1 at h
    rw [Bool.and_eq_true] at h
    cases j with
    | zero =>
      simp at hj; subst hj
      have h1 := h.1
      rw [hd] at h1
      simpa using h1
    | succ j =>
      have := rd1_ok h.2 j u (by simpa using hj) hd
      rwa [show k + 1 + j = k + (j + 1) from by omega] at this

/-- One operation: what it gives; memory stays, or it gives a row that stays as it is. -/
inductive DrawO (E : Env) (o : Op) (rfr : List (Nat × AV)) (hp : List (Nat × Obj)) (nx : Nat) (k : AV → Prop) : Prop where
  | mk (A : AV) (h : stepW E o ⟨rfr, hp, nx⟩ (fun a st' => frcA 3 a fun a => frcT st' fun st' => a = A ∧ st' = ⟨rfr, hp, nx⟩)) (next : k A)
  | ro (xs : List D) (e : TypeId) (sz : Nat) (h : stepW E o ⟨rfr, hp, nx⟩ (fun a st' => frcA 3 a fun a => frcT st' fun st' => a = .sl nx ∧ st' = ⟨rfr, (nx, .row e sz xs) :: hp, nx + 1⟩)) (next : k (.d (.ro xs)))

/-! ## Those that may come at any time: their way -/
def fltOf : List (Nat × Nat × Nat) → Option Nat → Option (Nat × Nat)
  | _, none => none
  | [], some _ => none
  | (_, d, s) :: fl, some t => bif Nat.beq d t then some (d, s) else fltOf fl (some t)
def hideN : List (Nat × Nat × Nat) → Oper → List (Nat × AV) → List (Nat × AV)
  | [], _, fr => fr
  | x :: fl, o, fr => bif predB o x.1 then hideN fl o fr else (x.2.1, .undef) :: hideN fl o fr
def hideL : List (Nat × Nat × Nat) → List (Nat × AV) → List (Nat × AV)
  | [], fr => fr
  | x :: fl, fr => (x.2.1, .undef) :: hideL fl fr
def tailW (E : Env) (fl : List (Nat × Nat × Nat)) : List Oper → List (Nat × AV) → List (Nat × Obj) → Nat → (St → Prop) → Prop
  | [], fr, hp, nx, K => K ⟨fr, hp, nx⟩
  | o :: os, fr, hp, nx, K => match fltOf fl o.dst with
    | some (d, s) => (match fltA o.op (lookA fr s) with
      | some a => frcA 3 a fun a => tailW E fl os ((d, a) :: fr) hp nx K
      | none => False)
    | none => bif okD E.N o.dst then stepW E o.op ⟨hideN fl o fr, hp, nx⟩ (fun a st => frcA 3 a fun a => frcT st fun st => match st with
        | ⟨_, hp, nx⟩ => match o.dst with
          | some t => tailW E fl os ((t, a) :: fr) hp nx K
          | none => tailW E fl os fr hp nx K) else False
def fltOK (all : Array Oper) (m : Nat) (fr : List (Nat × AV)) : List (Nat × Nat × Nat) → Bool
  | [] => true
  | x :: fl => (Nat.blt x.1 m || match all[x.1]? with
    | some o => (fltA o.op (lookA fr x.2.2)).isSome
    | none => false) && fltOK all m fr fl
def endW (E : Env) (all : Array Oper) (m : Nat) (fl : List (Nat × Nat × Nat)) (fr : List (Nat × AV)) (hp : List (Nat × Obj)) (nx : Nat) (K : St → Prop) : Prop := match fl with
  | [] => opsW E all (all.toList.drop m) ⟨fr, hp, nx⟩ K
  | x :: fl => bif fltOK all m fr (x :: fl) then tailW E (x :: fl) (all.toList.drop m) fr hp nx K else False

def drawW (E : Env) (all : Array Oper) (m : Nat) (fl : List (Nat × Nat × Nat)) : List (List Nat) → List Oper → List (Nat × AV) → List (Nat × Obj) → Nat → (St → Prop) → Prop
  | _, [], fr, hp, nx, K => endW E all m fl fr hp nx K
  | [], _ :: _, _, _, _, _ => False
  | ts :: rs, o :: os, fr, hp, nx, K => match fltOf fl o.dst with
    | some (d, s) => (match fltA o.op (lookA fr s) with
      | some a => frcA 3 a fun a => drawW E all m fl rs os ((d, a) :: fr) hp nx K
      | none => False)
    | none => bif okD E.N o.dst then match o.guard with
    | none => frcF (readF ts fr) fun rfr => DrawO E o.op rfr hp nx (fun A => match o.dst with
      | some d => drawW E all m fl rs os ((d, A) :: fr) hp nx K
      | none => drawW E all m fl rs os fr hp nx K)
    | some (j, b) => match dstAt all j with
      | some s => match lookA (readF ts fr) s with
        | .d (.bool c) => cond c
          (bif eqB true b then frcF (readF ts ((s, .d (.bool true)) :: fr)) fun rfr => DrawO E o.op rfr hp nx (fun A => match o.dst with
              | some d => drawW E all m fl rs os ((d, A) :: (s, .d (.bool true)) :: fr) hp nx K
              | none => drawW E all m fl rs os ((s, .d (.bool true)) :: fr) hp nx K)
            else match o.dst with
              | some d => drawW E all m fl rs os ((d, .tup []) :: (s, .d (.bool true)) :: fr) hp nx K
              | none => drawW E all m fl rs os ((s, .d (.bool true)) :: fr) hp nx K)
          (bif eqB false b then frcF (readF ts ((s, .d (.bool false)) :: fr)) fun rfr => DrawO E o.op rfr hp nx (fun A => match o.dst with
              | some d => drawW E all m fl rs os ((d, A) :: (s, .d (.bool false)) :: fr) hp nx K
              | none => drawW E all m fl rs os ((s, .d (.bool false)) :: fr) hp nx K)
            else match o.dst with
              | some d => drawW E all m fl rs os ((d, .tup []) :: (s, .d (.bool false)) :: fr) hp nx K
              | none => drawW E all m fl rs os ((s, .d (.bool false)) :: fr) hp nx K)
        | .tup [] => match o.dst with
          | some d => drawW E all m fl rs os ((d, .tup []) :: fr) hp nx K
          | none => drawW E all m fl rs os fr hp nx K
        | _ => False
      | none => False
    else False

def upd (A : Nat → AV) (i : Nat) (a : AV) (k : Nat) : AV := if k = i then a else A k

theorem DrawO.at (hT : TOk E.P E.T) {o : Oper} {rfr : List (Nat × AV)} {hp : List (Nat × Obj)} {nx : Nat} {k : AV → Prop} (h : DrawO E o.op rfr hp nx k) : ∃ A, (∀ I ρ F fr L, SR I ρ F ⟨rfr, hp, nx⟩ fr L → Acts E.P E.N fr I L o (fun v I' L' => I.le I' ∧ ∃ ρ', RelU I' ρ' v A ∧ SR I' ρ' F ⟨rfr, hp, nx⟩ fr L' ∧ Ag ρ ρ')) ∧ k A := by
  cases h with
  | mk A h next =>
    refine ⟨A, fun I ρ F fr L hs a w nxt Q ha hw hk => ?_, next⟩
    refine stepW_ok (N := E.N) hT h I ρ F fr L hs a w nxt Q ha hw (fun v I' L' w' hw' hr => hk v I' L' w' hw' ?_)
    obtain ⟨hle, ρ', av, st', h1, h2, h3, h4⟩ := hr
    obtain ⟨rfl, rfl⟩ := frcT_ok (frcA_ok 3 av h4)
    exact ⟨hle, ρ', h1, h2, h3⟩
  | ro xs e sz h next =>
    refine ⟨.d (.ro xs), fun I ρ F fr L hs a w nxt Q ha hw hk => ?_, next⟩
    refine stepW_ok (N := E.N) hT h I ρ F fr L hs a w nxt Q ha hw (fun v I' L' w' hw' hr => ?_)
    obtain ⟨hle, ρ', av, st', h1, h2, h3, h4⟩ := hr
    obtain ⟨rfl, rfl⟩ := frcT_ok (frcA_ok 3 av h4)
    obtain ⟨I2, L2, hle2, hs2, hw2⟩ := (Gh.freeze (st := ⟨rfr, (nx, .row e sz xs) :: hp, nx + 1⟩) (l := nx) (e := e) (sz := sz) (xs := xs) (by simp [lookO])) I' ρ' F fr L' w' h2 hw'
    have hs2' : SR I2 ρ' F ⟨rfr, (nx, .froz xs) :: hp, nx + 1⟩ fr L2 := by simpa [setO] using hs2
    obtain ⟨Lh, hrel, rfl⟩ := hs2'.hpr
    cases hrel with
    | cons ho hkk =>
      obtain ⟨ho1, rfl⟩ := ho
      refine hk v I2 _ w' hw2 ⟨hle.trans hle2, ρ, ?_, ⟨fun t => ?_, ?_, hs.new⟩, Ag.refl⟩
      · rcases h1 with h1 | h1
        · cases h1
        · refine .inr (.d ?_)
          cases h1 with
          | sl h1 => rw [← h1]; exact ho1
      · rcases hs.frr t with h5 | ⟨u, h5, h6⟩
        · exact .inl h5
        · exact .inr ⟨u, h5, h6.mono (hle.trans hle2)⟩
      · obtain ⟨Lh0, hrel0, _⟩ := hs.hpr
        exact ⟨_, RelH.bk h3 hkk hrel0, by simp⟩

theorem fltOf_ok : ∀ {fl : List (Nat × Nat × Nat)} {od : Option Nat} {d s : Nat}, fltOf fl od = some (d, s) → od = some d ∧ ∃ x ∈ fl, x.2.1 = d ∧ x.2.2 = s
  | fl, none, d, s, h => by cases fl <;> cases h
  | [], some _, d, s, h => by cases h
  | (j, d0, s0) :: fl, some t, d, s, h => by
    unfold fltOf at h
    rw [beq_eq] at h
    by_cases e : d0 = t
    · simp [e] at h
      obtain ⟨rfl, rfl⟩ := h
      exact ⟨rfl, _, List.mem_cons_self, e, rfl⟩
    · simp [e] at h
      obtain ⟨h1, x, hx, h2⟩ := fltOf_ok h
      exact ⟨h1, x, List.mem_cons_of_mem _ hx, h2⟩
theorem fltOf_none : ∀ {fl : List (Nat × Nat × Nat)} {od : Option Nat}, fltOf fl od = none → ∀ x ∈ fl, od ≠ some x.2.1
  | _, none, _, _, _ => by simp
  | [], some _, _, x, hx => by cases hx
  | (j, d0, s0) :: fl, some t, h, x, hx => by
    unfold fltOf at h
    rw [beq_eq] at h
    by_cases e : d0 = t
    · simp [e] at h
    · simp [e] at h
      rcases List.mem_cons.1 hx with rfl | hx
      · simp only [ne_eq, Option.some.injEq]; exact fun e2 => e e2.symm
      · exact fltOf_none h x hx
theorem drawW_ok (hT : TOk E.P E.T) {all : Array Oper} {m : Nat} {fl : List (Nat × Nat × Nat)} {base : Nat → AV} {hp : List (Nat × Obj)} {nx : Nat} {K : St → Prop} (hok : okRegion all = true) (hm : m ≤ all.size) (hfp : ∀ x ∈ fl, FltP all E.N m x) :
    ∀ (os : List Oper) (rs : List (List Nat)) (i : Nat) (fr : List (Nat × AV)) (A : Nat → AV), rdOK (all.toList.take m) rs os = true → (all.toList.take m).drop i = os → i ≤ m → (∀ j, j < i → (∀ x ∈ fl, x.1 ≠ j) → FreeAt E.P E.N all m base hp nx A j) → (∀ x ∈ fl, x.1 < i → FltAt all m base A x (A x.1)) → (∀ x ∈ fl, x.1 < i → ∃ o, all[x.1]? = some o ∧ fltA o.op (lookA fr x.2.2) = some (lookA fr x.2.1)) →
      (∀ t, lookA fr t = .undef ∨ (∃ k, k < i ∧ dstAt all k = some t ∧ lookA fr t = A k) ∨ ((∀ k, k < i → dstAt all k ≠ some t) ∧ lookA fr t = base t)) →
      drawW E all m fl rs os fr hp nx K →
      ∃ A' frm, (∀ j, j < m → (∀ x ∈ fl, x.1 ≠ j) → FreeAt E.P E.N all m base hp nx A' j) ∧ (∀ x ∈ fl, x.1 < m → FltAt all m base A' x (A' x.1)) ∧ (∀ x ∈ fl, x.1 < m → ∃ o, all[x.1]? = some o ∧ fltA o.op (lookA frm x.2.2) = some (lookA frm x.2.1)) ∧ Sees all m base A' m (fun _ => true) frm ∧ endW E all m fl frm hp nx K := by
  intro os
  induction os with
  | nil =>
    intro rs i fr A hrd hdr him hfree hflt hS hview h
    have hie : i = m := by
      have := congrArg List.length hdr
      simp at this; omega
    subst hie
    unfold drawW at h
    exact ⟨A, fr, hfree, hflt, hS, fun t => (hview t).imp id (fun h => h.imp (fun ⟨k, a, b, c⟩ => ⟨k, rfl, a, b, c⟩) id), h⟩
  | cons o os ih =>
    intro rs0 i fr A hrd hdr him hfree hflt hS hview h
    cases rs0 with
    | nil => exact h.elim
    | cons ts rs =>
    unfold rdOK at hrd
    rw [Bool.and_eq_true, List.all_eq_true] at hrd
    obtain ⟨hrd1, hrd2⟩ := hrd
    have hilt : i < m := by
      have := congrArg List.length hdr
      simp at this; omega
    have hoi : all[i]? = some o := by
      have : ((all.toList.take m).drop i)[0]? = some o := by rw [hdr]; rfl
      simpa [List.getElem?_take, hilt] using this
    have hos : (all.toList.take m).drop (i + 1) = os := by rw [← List.drop_drop, hdr]; rfl
    have hpred : ∀ k, predB o k = true → k < i := fun k hk => by
      obtain ⟨e, he, hb, rfl⟩ := predB_iff.1 hk
      exact okRegion_edge hok hoi e he hb
    have hsee : ∀ fr2, (∀ t, lookA fr2 t = lookA fr t) → Sees all m base A i (predB o) (readF ts fr2) := by
      intro fr2 he t
      rcases readF_look (ts := ts) (fr := fr2) (t := t) with h1 | ⟨h1, h2⟩
      · exact .inl h1
      · rw [h1, he]
        have h3 : ∀ k, k < m → dstAt all k = some t → predB o k = true := fun k hk hd => by
          have hks : k < all.size := by omega
          have := rd1_ok (hrd1 t h2) k all[k] (by rw [List.getElem?_take, if_pos hk]; simp [hks]) (by rw [← dst_ok (Array.getElem?_eq_getElem hks)]; exact hd)
          simpa using this
        rcases hview t with h4 | ⟨k, h4, h5, h6⟩ | ⟨h4, h5⟩
        · exact .inl h4
        · exact .inr (.inl ⟨k, h3 k (by omega) h5, h4, h5, h6⟩)
        · refine .inr (.inr ⟨fun k hk hd => ?_, h5⟩)
          exact h4 k (hpred k (h3 k hk hd)) hd
    have go : ∀ (fr2 : List (Nat × AV)) (a : AV), (∀ t, lookA fr2 t = lookA fr t) → ((∀ x ∈ fl, x.1 ≠ i) → FreeAt E.P E.N all m base hp nx (upd A i a) i) → (∀ x ∈ fl, x.1 = i → FltAt all m base A x a ∧ fltA o.op (lookA fr x.2.2) = some a) → (match o.dst with
        | some d => drawW E all m fl rs os ((d, a) :: fr2) hp nx K
        | none => drawW E all m fl rs os fr2 hp nx K) →
        ∃ A' frm, (∀ j, j < m → (∀ x ∈ fl, x.1 ≠ j) → FreeAt E.P E.N all m base hp nx A' j) ∧ (∀ x ∈ fl, x.1 < m → FltAt all m base A' x (A' x.1)) ∧ (∀ x ∈ fl, x.1 < m → ∃ o, all[x.1]? = some o ∧ fltA o.op (lookA frm x.2.2) = some (lookA frm x.2.1)) ∧ Sees all m base A' m (fun _ => true) frm ∧ endW E all m fl frm hp nx K := by
      intro fr2 a he hfr hfl1 hd
      have hA : ∀ k, k < i → A k = upd A i a k := fun k hk => by unfold upd; rw [if_neg (by omega)]
      have hfree' : ∀ j, j < i + 1 → (∀ x ∈ fl, x.1 ≠ j) → FreeAt E.P E.N all m base hp nx (upd A i a) j := fun j hj hnf => by
        by_cases e : j = i
        · subst e; exact hfr hnf
        · exact (hfree j (by omega) hnf).congr (fun k hk => hA k (by omega))
      have hcg : ∀ x b, x.1 ≤ i → FltAt all m base A x b → FltAt all m base (upd A i a) x b := fun x b hx ⟨o, h1, h2⟩ => ⟨o, h1, h2.imp (fun ⟨k, q, a1, a2, a3, a4, a5⟩ => ⟨k, q, a1, a2, a3, a4, by rw [← hA k (by omega)]; exact a5⟩) id⟩
      have hflt' : ∀ x ∈ fl, x.1 < i + 1 → FltAt all m base (upd A i a) x (upd A i a x.1) := fun x hx hxi => by
        by_cases e : x.1 = i
        · have e2 : upd A i a x.1 = a := by unfold upd; rw [if_pos e]
          rw [e2]; exact hcg x a (by omega) (hfl1 x hx e).1
        · rw [← hA x.1 (by omega)]; exact hcg x _ (by omega) (hflt x hx (by omega))
      have hS' : ∀ fr3, (∀ t, o.dst ≠ some t → lookA fr3 t = lookA fr t) → (∀ t, o.dst = some t → lookA fr3 t = a) → ∀ x ∈ fl, x.1 < i + 1 → ∃ o, all[x.1]? = some o ∧ fltA o.op (lookA fr3 x.2.2) = some (lookA fr3 x.2.1) := fun fr3 g1 g2 x hx hxi => by
        obtain ⟨ox, hox, hop, hud, hN, hgn, hwr⟩ := hfp x hx
        have hs0 : o.dst ≠ some x.2.2 := fun e => by
          obtain ⟨ee, hee, hbe, hon⟩ := predB_iff.1 (hwr i o hoi e).2
          have := okRegion_edge hok hox ee hee hbe
          omega
        refine ⟨ox, hox, ?_⟩
        rw [g1 _ hs0]
        by_cases e : x.1 = i
        · have hoo : ox = o := by rw [e, hoi] at hox; simpa using hox.symm
          subst hoo
          rw [g2 _ hud]; exact (hfl1 x hx e).2
        · obtain ⟨o2, ho2, h2⟩ := hS x hx (by omega)
          rw [hox] at ho2; simp only [Option.some.injEq] at ho2; subst ho2
          rw [g1 _ (fun e2 => e (okRegion_dst hok hox hoi hud e2))]; exact h2
      have view' : ∀ t, o.dst ≠ some t → lookA fr2 t = .undef ∨ (∃ k, k < i + 1 ∧ dstAt all k = some t ∧ lookA fr2 t = upd A i a k) ∨ ((∀ k, k < i + 1 → dstAt all k ≠ some t) ∧ lookA fr2 t = base t) := by
        intro t ht
        rw [he]
        rcases hview t with h4 | ⟨k, h4, h5, h6⟩ | ⟨h4, h5⟩
        · exact .inl h4
        · exact .inr (.inl ⟨k, by omega, h5, by rw [← hA k h4]; exact h6⟩)
        · refine .inr (.inr ⟨fun k hk hdk => ?_, h5⟩)
          by_cases e : k = i
          · rw [e, dst_ok hoi] at hdk; exact ht hdk
          · exact h4 k (by omega) hdk
      cases hdd : o.dst with
      | none =>
        rw [hdd] at hd
        exact ih rs (i + 1) fr2 (upd A i a) hrd2 hos (by omega) hfree' hflt' (hS' fr2 (fun t _ => he t) (fun t e => by rw [hdd] at e; cases e)) (fun t => view' t (by rw [hdd]; simp)) hd
      | some d =>
        rw [hdd] at hd
        refine ih rs (i + 1) ((d, a) :: fr2) (upd A i a) hrd2 hos (by omega) hfree' hflt' (hS' _ (fun t ht => by rw [lookA_cons, if_neg (fun e => ht (by rw [hdd, e])), he]) (fun t e => by rw [hdd] at e; simp only [Option.some.injEq] at e; rw [lookA_cons, if_pos e])) (fun t => ?_) hd
        rw [lookA_cons]
        by_cases e : d = t
        · subst e
          rw [if_pos rfl]
          exact .inr (.inl ⟨i, by omega, by rw [dst_ok hoi]; exact hdd, by unfold upd; rw [if_pos rfl]⟩)
        · rw [if_neg e]
          exact view' t (by rw [hdd]; simpa using e)
    unfold drawW at h
    split at h
    · rename_i d s hfo
      split at h
      · rename_i a hfa
        replace h := frcA_ok 3 a h
        obtain ⟨hdst, x, hx, hx1, hx2⟩ := fltOf_ok hfo
        obtain ⟨ox, hox, hop, hud, hN, hgn, hwr⟩ := hfp x hx
        have hxi : x.1 = i := okRegion_dst hok hox hoi (by rw [hud, hx1]) hdst
        have hoo : ox = o := by rw [hxi, hoi] at hox; simpa using hox.symm
        subst hoo
        refine go fr a (fun _ => rfl) (fun hnf => absurd hxi (hnf x hx)) (fun y hy hyi => ?_) (by rw [hdst]; exact h)
        obtain ⟨oy, hoy, hopy, hudy, _⟩ := hfp y hy
        have e0 : oy = ox := by rw [hyi, hoi] at hoy; simpa using hoy.symm
        subst e0
        have e2 : y.2.2 = s := by rw [hop, hx2] at hopy; simpa using hopy.symm
        refine ⟨?_, by rw [e2]; exact hfa⟩
        refine ⟨oy, by rw [hyi]; exact hoi, ?_⟩
        rcases hview s with h4 | ⟨k, h4, h5, h6⟩ | ⟨h4, h5⟩
        · rw [h4] at hfa; exact (fltA_undef hfa).elim
        · obtain ⟨q, hq, hqd⟩ : ∃ q, all[k]? = some q ∧ q.dst = some s := by
            unfold dstAt at h5
            cases hq : all[k]? with
            | none => rw [hq] at h5; cases h5
            | some q => rw [hq] at h5; exact ⟨q, rfl, h5⟩
          exact .inl ⟨k, q, by omega, by omega, hq, by rw [e2]; exact hqd, by rw [← h6]; exact hfa⟩
        · refine .inr ⟨fun k hk hdk => ?_, by rw [e2, ← h5]; exact hfa⟩
          rw [e2] at hdk
          obtain ⟨q, hq, hqd⟩ : ∃ q, all[k]? = some q ∧ q.dst = some s := by
            unfold dstAt at hdk
            cases hq : all[k]? with
            | none => rw [hq] at hdk; cases hdk
            | some q => rw [hq] at hdk; exact ⟨q, rfl, hdk⟩
          exact h4 k (hpred k (hwr k q hq (by rw [hx2]; exact hqd)).2) hdk
      · exact h.elim
    rename_i hfo
    have hnfl : ∀ x ∈ fl, x.1 = i → False := fun x hx e => by
      obtain ⟨ox, hox, _, hud, _⟩ := hfp x hx
      rw [e, hoi] at hox; simp only [Option.some.injEq] at hox; subst hox
      exact fltOf_none hfo x hx hud
    have hfl0 : ∀ (a : AV), ∀ x ∈ fl, x.1 = i → FltAt all m base A x a ∧ fltA o.op (lookA fr x.2.2) = some a := fun a x hx e => (hnfl x hx e).elim
    cases hd : okD E.N o.dst with
    | false => rw [hd] at h; exact h.elim
    | true =>
      rw [hd] at h
      simp only [cond_true] at h
      have hAi : ∀ a, upd A i a i = a := fun a => by unfold upd; rw [if_pos rfl]
      have hse : ∀ fr2 a, (∀ t, lookA fr2 t = lookA fr t) → Sees all m base (upd A i a) i (predB o) (readF ts fr2) := fun fr2 a he => (hsee fr2 he).congr (fun k hk => by unfold upd; rw [if_neg (by omega)])
      split at h
      · rename_i hg
        obtain ⟨a, h1, h2⟩ := DrawO.at hT (frcF_ok h)
        refine go fr a (fun _ => rfl) (fun _ => ⟨o, hoi, hd, _, hse fr a (fun _ => rfl), .inl ⟨.inl hg, ?_⟩⟩) (hfl0 a) h2
        rw [hAi]; exact h1
      · rename_i j b hg
        split at h
        · rename_i s hsl
          split at h
          · rename_i c hlk
            have hvis : lookA fr s = .d (.bool c) := by
              rcases readF_look (ts := ts) (fr := fr) (t := s) with h1 | ⟨h1, _⟩
              · rw [hlk] at h1; cases h1
              · rw [← h1]; exact hlk
            have arm : ∀ t : Bool, c = t → (bif eqB t b then frcF (readF ts ((s, .d (.bool t)) :: fr)) fun rfr => DrawO E o.op rfr hp nx (fun A => match o.dst with
                  | some d => drawW E all m fl rs os ((d, A) :: (s, .d (.bool t)) :: fr) hp nx K
                  | none => drawW E all m fl rs os ((s, .d (.bool t)) :: fr) hp nx K)
                else match o.dst with
                  | some d => drawW E all m fl rs os ((d, .tup []) :: (s, .d (.bool t)) :: fr) hp nx K
                  | none => drawW E all m fl rs os ((s, .d (.bool t)) :: fr) hp nx K) →
                ∃ A' frm, (∀ j, j < m → (∀ x ∈ fl, x.1 ≠ j) → FreeAt E.P E.N all m base hp nx A' j) ∧ (∀ x ∈ fl, x.1 < m → FltAt all m base A' x (A' x.1)) ∧ (∀ x ∈ fl, x.1 < m → ∃ o, all[x.1]? = some o ∧ fltA o.op (lookA frm x.2.2) = some (lookA frm x.2.1)) ∧ Sees all m base A' m (fun _ => true) frm ∧ endW E all m fl frm hp nx K := by
              intro t htc h
              subst htc
              have he : ∀ t, lookA ((s, AV.d (.bool c)) :: fr) t = lookA fr t := fun t => by
                rw [lookA_cons]
                by_cases e : s = t
                · subst e; rw [if_pos rfl, hvis]
                · rw [if_neg e]
              have hvis2 : lookA (readF ts ((s, .d (.bool c)) :: fr)) s = .d (.bool c) := by
                rw [readF_congr (he s) ts]; exact hlk
              cases hb : eqB c b with
              | true =>
                rw [hb] at h
                have hcb : c = b := by cases c <;> cases b <;> first | rfl | cases hb
                obtain ⟨a, h1, h2⟩ := DrawO.at hT (frcF_ok h)
                refine go _ a he (fun _ => ⟨o, hoi, hd, _, hse _ a he, .inl ⟨.inr ⟨j, b, s, hg, hsl, by rw [hvis2, hcb]⟩, ?_⟩⟩) (hfl0 a) h2
                rw [hAi]; exact h1
              | false =>
                rw [hb] at h
                have hcb : c = !b := by cases c <;> cases b <;> first | rfl | cases hb
                refine go _ (.tup []) he (fun _ => ⟨o, hoi, hd, _, hse _ (.tup []) he, .inr ⟨⟨j, b, s, hg, hsl, .inl (by rw [hvis2, hcb])⟩, hAi _⟩⟩) (hfl0 _) h
            cases hc : c with
            | true => rw [hc] at h; exact arm true hc h
            | false => rw [hc] at h; exact arm false hc h
          · rename_i hlk
            refine go fr (.tup []) (fun _ => rfl) (fun _ => ⟨o, hoi, hd, _, hse fr (.tup []) (fun _ => rfl), .inr ⟨⟨j, b, s, hg, hsl, .inr hlk⟩, hAi _⟩⟩) (hfl0 _) ?_
            cases hdd : o.dst with
            | none => rw [hdd] at h; exact h
            | some d => rw [hdd] at h; exact h
          · exact h.elim
        · exact h.elim

theorem hideN_look : ∀ (fl : List (Nat × Nat × Nat)) (o : Oper) (fr : List (Nat × AV)) (t : Nat), lookA (hideN fl o fr) t = .undef ∨ ((∀ x ∈ fl, x.2.1 = t → predB o x.1 = true) ∧ lookA (hideN fl o fr) t = lookA fr t)
  | [], o, fr, t => .inr ⟨(fun x hx => by cases hx), rfl⟩
  | y :: fl, o, fr, t => by
    unfold hideN
    cases hp : predB o y.1 with
    | true =>
      simp only [cond_true]
      refine (hideN_look fl o fr t).imp id (fun ⟨h1, h2⟩ => ⟨fun x hx he => ?_, h2⟩)
      rcases List.mem_cons.1 hx with rfl | hx
      · exact hp
      · exact h1 x hx he
    | false =>
      simp only [cond_false]
      rw [lookA_cons]
      by_cases e : y.2.1 = t
      · rw [if_pos e]; exact .inl rfl
      · rw [if_neg e]
        refine (hideN_look fl o fr t).imp id (fun ⟨h1, h2⟩ => ⟨fun x hx he => ?_, h2⟩)
        rcases List.mem_cons.1 hx with rfl | hx
        · exact absurd he e
        · exact h1 x hx he
theorem hideL_look : ∀ (fl : List (Nat × Nat × Nat)) (fr : List (Nat × AV)) (t : Nat), ((∃ x ∈ fl, x.2.1 = t) ∧ lookA (hideL fl fr) t = .undef) ∨ ((∀ x ∈ fl, x.2.1 ≠ t) ∧ lookA (hideL fl fr) t = lookA fr t)
  | [], fr, t => .inr ⟨(fun x hx => by cases hx), rfl⟩
  | y :: fl, fr, t => by
    unfold hideL
    rw [lookA_cons]
    by_cases e : y.2.1 = t
    · rw [if_pos e]; exact .inl ⟨⟨_, List.mem_cons_self, e⟩, rfl⟩
    · rw [if_neg e]
      rcases hideL_look fl fr t with ⟨⟨x, hx, h1⟩, h2⟩ | ⟨h1, h2⟩
      · exact .inl ⟨⟨x, List.mem_cons_of_mem _ hx, h1⟩, h2⟩
      · refine .inr ⟨fun x hx => ?_, h2⟩
        rcases List.mem_cons.1 hx with rfl | hx
        · exact e
        · exact h1 x hx
theorem FrR.hideL {vs : List (Nat × AV)} (h : FrR I ρ vs fr) (fl : List (Nat × Nat × Nat)) : FrR I ρ (V.hideL fl vs) fr := fun t => by
  rcases hideL_look fl vs t with ⟨_, h1⟩ | ⟨_, h1⟩
  · exact .inl h1
  · rw [h1]; exact h t

/-- How things stand in the last part. -/
structure TI2 (ops : Array Oper) (m i : Nat) (fl : List (Nat × Nat × Nat)) (T : Array Bool) (sfr : List (Nat × AV)) (hp : List (Nat × Obj)) (nx : Nat) (F : List Ent) (I : Imm) (ρ : Nat → Value) (fr : Frm) (L : List Ent) : Prop where
  hpr : ∃ Lh, RelH I ρ hp Lh ∧ L = Lh ++ F
  new : ∀ l, nx ≤ l → ρ l = .nilFunc
  a : ∀ t, (∀ x ∈ fl, x.2.1 ≠ t) → lookA sfr t = .undef ∨ ∃ v, Eng.look fr t = some v ∧ RelA I ρ v (lookA sfr t)
  d : ∀ x ∈ fl, T[x.1]? = some true → ∃ o v u, ops[x.1]? = some o ∧ Eng.look fr x.2.2 = some v ∧ Eng.look fr x.2.1 = some u ∧ FV o.op v u
  s : ∀ x ∈ fl, x.1 < i → ∃ o, ops[x.1]? = some o ∧ fltA o.op (lookA sfr x.2.2) = some (lookA sfr x.2.1)
  s2 : ∀ x ∈ fl, i ≤ x.1 → ∃ o a, ops[x.1]? = some o ∧ fltA o.op (lookA sfr x.2.2) = some a
  t1 : ∀ k, k < i → (∀ x ∈ fl, x.1 ≠ k) → T[k]? = some true
  t2 : ∀ k, T[k]? = some true → k < i ∨ ∃ x ∈ fl, x.1 = k
  size : T.size = ops.size
  closed : Closed ops T
theorem TI2.b {ops : Array Oper} {m i : Nat} {fl : List (Nat × Nat × Nat)} {T : Array Bool} {sfr : List (Nat × AV)} {hp : List (Nat × Obj)} {nx : Nat} (hok : okRegion ops = true) (hfp : ∀ x ∈ fl, FltP ops N m x) (h : TI2 ops m i fl T sfr hp nx F I ρ fr L) :
    ∀ (n : Nat) (x : Nat × Nat × Nat), x ∈ fl → x.1 = n → x.1 < i → T[x.1]? = some true → ∃ u, Eng.look fr x.2.1 = some u ∧ RelA I ρ u (lookA sfr x.2.1) := by
  intro n
  induction n using Nat.strongRecOn with
  | _ n ih =>
    intro x hx hxn hxi hTx
    obtain ⟨o, ho, hfa⟩ := h.s x hx hxi
    obtain ⟨o', v, u, ho', h1, h2, h3⟩ := h.d x hx hTx
    rw [ho] at ho'; simp only [Option.some.injEq] at ho'; subst ho'
    obtain ⟨o', ho', hop, hud, hN, hgn, hwr⟩ := hfp x hx
    rw [ho] at ho'; simp only [Option.some.injEq] at ho'; subst ho'
    refine ⟨u, h2, (fltA_ok hfa ?_).2 u h3⟩
    by_cases hf : ∃ y ∈ fl, y.2.1 = x.2.2
    · obtain ⟨y, hy, hyx⟩ := hf
      obtain ⟨oy, hoy, _, hdy, _⟩ := hfp y hy
      obtain ⟨_, hp1⟩ := hwr y.1 oy hoy (by rw [hdy, hyx])
      obtain ⟨ee, he, hbe, hon⟩ := predB_iff.1 hp1
      have hlt := okRegion_edge hok ho ee he hbe
      have hTy := h.closed x.1 o hTx ho ee he hbe
      rw [hon] at hlt hTy
      obtain ⟨u', h4, h5⟩ := ih y.1 (by omega) y hy rfl (by omega) hTy
      rw [hyx, h1] at h4; simp only [Option.some.injEq] at h4; subst h4
      rw [hyx] at h5; exact h5
    · rcases h.a x.2.2 (fun y hy e => hf ⟨y, hy, e⟩) with h4 | ⟨v', h4, h5⟩
      · rw [h4] at hfa; exact (fltA_undef hfa).elim
      · rw [h1] at h4; simp only [Option.some.injEq] at h4; subst h4; exact h5
/-- What the source of one tells, when all that it waits for are done. -/
theorem TI2.src {ops : Array Oper} {m i : Nat} {fl : List (Nat × Nat × Nat)} {T : Array Bool} {sfr : List (Nat × AV)} {hp : List (Nat × Obj)} {nx : Nat} (hok : okRegion ops = true) (hfp : ∀ x ∈ fl, FltP ops N m x) (hmi : m ≤ i) (h : TI2 ops m i fl T sfr hp nx F I ρ fr L) {x : Nat × Nat × Nat} {o : Oper} {a : AV} (hx : x ∈ fl) (ho : ops[x.1]? = some o)
    (hd : ∀ e ∈ o.after, bnd e = true → T[e.on]? = some true) (hfa : fltA o.op (lookA sfr x.2.2) = some a) : ∃ v, Eng.look fr x.2.2 = some v ∧ RelA I ρ v (lookA sfr x.2.2) := by
  obtain ⟨o', ho', hop, hud, hN, hgn, hwr⟩ := hfp x hx
  rw [ho] at ho'; simp only [Option.some.injEq] at ho'; subst ho'
  by_cases hf : ∃ y ∈ fl, y.2.1 = x.2.2
  · obtain ⟨y, hy, hyx⟩ := hf
    obtain ⟨oy, hoy, _, hdy, _⟩ := hfp y hy
    obtain ⟨hym, hp1⟩ := hwr y.1 oy hoy (by rw [hdy, hyx])
    obtain ⟨ee, he, hbe, hon⟩ := predB_iff.1 hp1
    have hTy := hd ee he hbe
    rw [hon] at hTy
    obtain ⟨u', h4, h5⟩ := h.b hok hfp _ y hy rfl (by omega) hTy
    rw [hyx] at h4 h5
    exact ⟨u', h4, h5⟩
  · rcases h.a x.2.2 (fun y hy e => hf ⟨y, hy, e⟩) with h4 | h4
    · rw [h4] at hfa; exact (fltA_undef hfa).elim
    · exact h4
theorem tail_okF (hT : TOk E.P E.T) {ops : Array Oper} {m : Nat} {fl : List (Nat × Nat × Nat)} {K : St → Prop} {Q0 : Exit → Act → World → Prop} {I0 : Imm} {ρ0 : Nat → Value} (hok : okRegion ops = true) (htl : tailF ops m fl) (hfp : ∀ x ∈ fl, FltP ops E.N m x)
    (hk : ∀ fr' I' L' a' w', Fr E.N fr' a' → HS I' L' w' → KS I0 ρ0 F K fr' I' L' → Q0 .normal a' w') :
    ∀ (n : Nat) (rest : List Oper) (i fuel : Nat) (T : Array Bool) (a : Act) (w : World) (sfr : List (Nat × AV)) (hp : List (Nat × Obj)) (nx : Nat) (I : Imm) (ρ : Nat → Value) (fr : Frm) (L : List Ent), rest.length + fuel ≤ n → ops.toList.drop i = rest → m ≤ i → i ≤ ops.size →
      cnt T ≤ fuel → tailW E fl rest sfr hp nx K → TI2 ops m i fl T sfr hp nx F I ρ fr L → Fr E.N fr a → HS I L w → I0.le I → Ag ρ0 ρ → wpAny E.P .any ops Q0 fuel T a w := by
  intro n
  induction n with
  | zero =>
    intro rest i fuel T a w sfr hp nx I ρ fr L hn hdr hmi hi hc h ht ha hw hle hag
    have : rest = [] := List.length_eq_zero_iff.1 (by omega)
    subst this
    have hie : i = ops.size := by have := congrArg List.length hdr; simp at this; omega
    obtain rfl : fuel = 0 := by omega
    have hall := cnt_zero (Nat.le_zero.1 hc)
    refine ⟨?_, hk fr I L a w ha hw ⟨hle, ρ, ⟨sfr, hp, nx⟩, ⟨fun t => ?_, ht.hpr, ht.new⟩, hag, h⟩⟩
    · cases hr : Region.ready .any ops T with
      | nil => rfl
      | cons j l =>
        exfalso
        have hj : j ∈ Region.ready .any ops T := by rw [hr]; exact List.mem_cons_self
        obtain ⟨o, ho, hTj, _⟩ := ready_iff.1 hj
        have h1 := unl ht.size ho hTj
        rw [hall j (by rw [ht.size]; exact (Array.getElem?_eq_some_iff.1 ho).1)] at h1; cases h1
    · by_cases hf : ∃ y ∈ fl, y.2.1 = t
      · obtain ⟨y, hy, rfl⟩ := hf
        obtain ⟨oy, hoy, _⟩ := hfp y hy
        have hyl := (Array.getElem?_eq_some_iff.1 hoy).1
        exact .inr (ht.b hok hfp _ y hy rfl (by omega) (hall y.1 (by rw [ht.size]; exact hyl)))
      · exact ht.a t (fun y hy e => hf ⟨y, hy, e⟩)
  | succ n ih =>
    intro rest i fuel T a w sfr hp nx I ρ fr L hn hdr hmi hi hc h ht ha hw hle hag
    -- one that may come at any time comes
    have fstep : ∀ fuel', fuel = fuel' + 1 → ∀ x ∈ fl, x.1 ∈ Region.ready .any ops T → wpOp E.P ops Q0 x.1 (wpAny E.P .any ops Q0 fuel' (T.setIfInBounds x.1 true)) a w := by
      intro fuel' hfu x hx hq
      obtain ⟨u, hu, hTq, hd⟩ := ready_iff.1 hq
      have hTqf := unl ht.size hu hTq
      have hd' : ∀ e ∈ u.after, bnd e = true → T[e.on]? = some true := fun e he hb => getD_true (hd e he hb)
      have hltq : x.1 < T.size := (Array.getElem?_eq_some_iff.1 hTqf).1
      obtain ⟨u', hu', hop, hud, hN, hgn, hwr⟩ := hfp x hx
      rw [hu] at hu'; simp only [Option.some.injEq] at hu'; subst hu'
      obtain ⟨av, hfa⟩ : ∃ av, fltA u.op (lookA sfr x.2.2) = some av := by
        rcases Nat.lt_or_ge x.1 i with h1 | h1
        · obtain ⟨o2, ho2, h2⟩ := ht.s x hx h1
          rw [hu] at ho2; simp only [Option.some.injEq] at ho2; subst ho2; exact ⟨_, h2⟩
        · obtain ⟨o2, a2, ho2, h2⟩ := ht.s2 x hx h1
          rw [hu] at ho2; simp only [Option.some.injEq] at ho2; subst ho2; exact ⟨_, h2⟩
      obtain ⟨v, hlv, hrv⟩ := ht.src hok hfp hmi hx hu hd' hfa
      obtain ⟨⟨uv, hfv⟩, hur⟩ := fltA_ok hfa hrv
      simp only [wpOp, hu]
      rw [if_pos (wantF_spec ha (by unfold wantF; rw [hgn]))]
      left
      refine (FV.run hop hlv hfv).acts a w _ _ ha hw (fun v' I' L' w' hw' hR => ?_)
      obtain ⟨e1, rfl, rfl⟩ := hR
      subst e1
      have hds : dstF u uv fr = (x.2.1, uv) :: fr := by unfold dstF; rw [hud]
      have hxP := hfp x hx
      refine ih rest i fuel' _ _ w' sfr hp nx I ρ ((x.2.1, uv) :: fr) L (by omega) hdr hmi hi (by have := cnt_set hTqf; omega) h ⟨ht.hpr, ht.new, fun t hft => ?_, fun y hy hTy => ?_, ht.s, ht.s2, fun k hk hkf => set_keep hltq (.inl (ht.t1 k hk hkf)), fun k hk => ?_, by rw [Array.size_setIfInBounds, ht.size], fun k u2 hTk' hu2 e he hb => ?_⟩ (hds ▸ Fr.dst ha (by rw [hud]; show Nat.blt _ _ = true; rw [Nat.blt_eq]; exact hN) _) hw' hle hag
      · rw [look_cons, if_neg (hft x hx)]; exact ht.a t hft
      · obtain ⟨oy, hoy, hop2, hvd, hN2, hgn2, hwr2⟩ := hfp y hy
        by_cases e : y.1 = x.1
        · have hov : oy = u := by rw [e, hu] at hoy; simpa using hoy.symm
          subst hov
          have e1 : y.2.1 = x.2.1 := by rw [hud] at hvd; simpa using hvd.symm
          have e2 : y.2.2 = x.2.2 := by rw [hop] at hop2; simpa using hop2.symm
          exact ⟨oy, v, uv, hoy, by rw [e2, look_cons, if_neg (FltP.ne hok hxP hxP (.inr (Nat.le_refl _)))]; exact hlv, by rw [e1, look_cons, if_pos rfl], hfv⟩
        · have hT' : T[y.1]? = some true := (set_true hTy).resolve_left e
          obtain ⟨oy2, v2, u2, h0, h1, h2, h3⟩ := ht.d y hy hT'
          refine ⟨oy2, v2, u2, h0, ?_, ?_, h3⟩
          · rw [look_cons, if_neg (fun e2 => ?_)]
            · exact h1
            · obtain ⟨_, hp1⟩ := hwr2 x.1 u hu (by rw [hud, e2])
              obtain ⟨ee, he, hbe, hon⟩ := predB_iff.1 hp1
              have := ht.closed y.1 oy hT' hoy ee he hbe
              rw [hon, hTqf] at this; cases this
          · rw [look_cons, if_neg (fun e2 => e (okRegion_dst hok hoy hu hvd (by rw [hud, e2])))]; exact h2
      · rcases set_true hk with rfl | hk
        · exact .inr ⟨x, hx, rfl⟩
        · exact ht.t2 k hk
      · rcases set_true hTk' with rfl | hTk'
        · rw [hu] at hu2; simp only [Option.some.injEq] at hu2; subst hu2
          exact set_keep hltq (.inl (hd' e he hb))
        · exact set_keep hltq (.inl (ht.closed k u2 hTk' hu2 e he hb))
    cases rest with
    | nil =>
      have hie : i = ops.size := by have := congrArg List.length hdr; simp at this; omega
      have fin : (∀ k, k < T.size → T[k]? = some true) → Q0 .normal a w := fun hall => by
        refine hk fr I L a w ha hw ⟨hle, ρ, ⟨sfr, hp, nx⟩, ⟨fun t => ?_, ht.hpr, ht.new⟩, hag, h⟩
        by_cases hf : ∃ y ∈ fl, y.2.1 = t
        · obtain ⟨y, hy, rfl⟩ := hf
          obtain ⟨oy, hoy, _⟩ := hfp y hy
          have hyl := (Array.getElem?_eq_some_iff.1 hoy).1
          exact .inr (ht.b hok hfp _ y hy rfl (by omega) (hall y.1 (by rw [ht.size]; exact hyl)))
        · exact ht.a t (fun y hy e => hf ⟨y, hy, e⟩)
      cases fuel with
      | zero =>
        have hall := cnt_zero (Nat.le_zero.1 hc)
        refine ⟨?_, fin hall⟩
        cases hr : Region.ready .any ops T with
        | nil => rfl
        | cons j l =>
          exfalso
          have hj : j ∈ Region.ready .any ops T := by rw [hr]; exact List.mem_cons_self
          obtain ⟨o, ho, hTj, _⟩ := ready_iff.1 hj
          have h1 := unl ht.size ho hTj
          rw [hall j (by rw [ht.size]; exact (Array.getElem?_eq_some_iff.1 ho).1)] at h1; cases h1
      | succ fuel =>
        refine ⟨fun hr => fin (fun k hk => all_listed hok ht.size hr k (by rw [← ht.size]; exact hk)), fun q hq => ?_⟩
        obtain ⟨u, hu, hTq, _⟩ := ready_iff.1 hq
        have hTqf := unl ht.size hu hTq
        have hql := (Array.getElem?_eq_some_iff.1 hu).1
        by_cases hflt : ∃ x ∈ fl, x.1 = q
        · obtain ⟨x, hx, rfl⟩ := hflt
          exact fstep fuel rfl x hx hq
        · rw [ht.t1 q (by omega) (fun x hx e => hflt ⟨x, hx, e⟩)] at hTqf; cases hTqf
    | cons o os =>
      have hilt : i < ops.size := by have := congrArg List.length hdr; simp at this; omega
      have hoi : ops[i]? = some o := by
        have : (ops.toList.drop i)[0]? = some o := by rw [hdr]; rfl
        simpa using this
      have hos : ops.toList.drop (i + 1) = os := by rw [← List.drop_drop, hdr]; rfl
      unfold tailW at h
      split at h
      · -- its turn
        rename_i d s hfo
        split at h
        · rename_i av hfa
          replace h := frcA_ok 3 av h
          obtain ⟨hdst, x, hx, rfl, rfl⟩ := fltOf_ok hfo
          have hxP := hfp x hx
          obtain ⟨ox, hox, hop, hud, hN, hgn, hwr⟩ := hfp x hx
          have hxi : x.1 = i := okRegion_dst hok hox hoi hud hdst
          have hoo : ox = o := by rw [hxi, hoi] at hox; simpa using hox.symm
          subst hoo
          have hne : ∀ y ∈ fl, x.2.1 ≠ y.2.2 := fun y hy => FltP.ne hok hxP (hfp y hy) (.inl (by omega))
          refine ih os (i + 1) fuel T a w _ hp nx I ρ fr L (by simp at hn; omega) hos (by omega) (by omega) hc h ⟨ht.hpr, ht.new, fun t hft => ?_, ht.d, fun y hy hyi => ?_, fun y hy hyi => ?_, fun k hk hkf => ?_, fun k hk => ?_, ht.size, ht.closed⟩ ha hw hle hag
          · rw [lookA_cons, if_neg (hft x hx)]; exact ht.a t hft
          · by_cases e : y.1 = i
            · obtain ⟨oy, hoy, hopy, hudy, _⟩ := hfp y hy
              have e0 : oy = ox := by rw [e, hoi] at hoy; simpa using hoy.symm
              subst e0
              have e1 : y.2.1 = x.2.1 := by rw [hud] at hudy; simpa using hudy.symm
              have e2 : y.2.2 = x.2.2 := by rw [hop] at hopy; simpa using hopy.symm
              refine ⟨oy, hoy, ?_⟩
              rw [e2, e1, lookA_cons, if_neg (hne x hx), lookA_cons, if_pos rfl]; exact hfa
            · obtain ⟨oy, hoy, h1⟩ := ht.s y hy (by omega)
              obtain ⟨oy', hoy', _, hudy, _⟩ := hfp y hy
              refine ⟨oy, hoy, ?_⟩
              rw [lookA_cons, if_neg (hne y hy), lookA_cons, if_neg (fun e2 => e (by rw [← hxi]; exact okRegion_dst hok hoy' hox hudy (by rw [hud, e2])))]; exact h1
          · obtain ⟨oy, a2, hoy, h1⟩ := ht.s2 y hy (by omega)
            exact ⟨oy, a2, hoy, by rw [lookA_cons, if_neg (hne y hy)]; exact h1⟩
          · by_cases e : k = i
            · exact absurd hxi (by rw [← e]; exact hkf x hx)
            · exact ht.t1 k (by omega) hkf
          · rcases ht.t2 k hk with h5 | h5
            · left; omega
            · exact .inr h5
        · exact h.elim
      · rename_i hfo
        have hnfi : ∀ x ∈ fl, x.1 ≠ i := fun x hx e => by
          obtain ⟨ox, hox, _, hud, _⟩ := hfp x hx
          rw [e, hoi] at hox; simp only [Option.some.injEq] at hox; subst hox
          exact fltOf_none hfo x hx hud
        have hTi : T[i]? ≠ some true := fun e => by
          rcases ht.t2 i e with h5 | ⟨x, hx, he⟩
          · omega
          · exact hnfi x hx he
        cases fuel with
        | zero =>
          have := cnt_zero (Nat.le_zero.1 hc) i (by rw [ht.size]; omega)
          exact absurd this hTi
        | succ fuel =>
          refine ⟨fun hr => absurd (all_listed hok ht.size hr i hilt) hTi, fun q hq => ?_⟩
          by_cases hflt : ∃ x ∈ fl, x.1 = q
          · obtain ⟨x, hx, rfl⟩ := hflt
            exact fstep fuel rfl x hx hq
          · obtain ⟨u, hu, hTq, hd⟩ := ready_iff.1 hq
            have hTqf := unl ht.size hu hTq
            have hd' : ∀ e ∈ u.after, bnd e = true → T[e.on]? = some true := fun e he hb => getD_true (hd e he hb)
            have hltq : q < T.size := (Array.getElem?_eq_some_iff.1 hTqf).1
            have hnf : ∀ x ∈ fl, x.1 ≠ q := fun x hx e => hflt ⟨x, hx, e⟩
            have hiq : i ≤ q := Nat.le_of_not_lt fun hlt => by rw [ht.t1 q hlt hnf] at hTqf; cases hTqf
            have hall := tail_all1 (htl q u (by omega) hu hnf).2 ht.closed hu hd'
            have hqi : q = i := by
              by_cases e : q = i
              · exact e
              · exact absurd (hall i (by omega) hnfi) hTi
            subst hqi
            rw [hoi] at hu; simp only [Option.some.injEq] at hu; subst hu
            have hg : o.guard = none := (htl q o hmi hoi hnf).1
            cases hdd : okD E.N o.dst with
            | false => rw [hdd] at h; exact h.elim
            | true =>
              rw [hdd] at h
              simp only [cond_true] at h
              simp only [wpOp, hoi]
              rw [if_pos (wantF_spec ha (by unfold wantF; rw [hg]))]
              left
              have hsr : SR I ρ F ⟨hideN fl o sfr, hp, nx⟩ fr L := ⟨fun t => by
                show lookA (hideN fl o sfr) t = _ ∨ ∃ v, _ ∧ RelA I ρ v (lookA (hideN fl o sfr) t)
                rcases hideN_look fl o sfr t with h5 | ⟨h5, h6⟩
                · exact .inl h5
                · rw [h6]
                  by_cases hf : ∃ y ∈ fl, y.2.1 = t
                  · obtain ⟨y, hy, rfl⟩ := hf
                    obtain ⟨ee, he, hbe, hon⟩ := predB_iff.1 (h5 y hy rfl)
                    have hlt := okRegion_edge hok hoi ee he hbe
                    have hTy := hd' ee he hbe
                    rw [hon] at hlt hTy
                    exact .inr (ht.b hok hfp _ y hy rfl hlt hTy)
                  · exact ht.a t (fun y hy e => hf ⟨y, hy, e⟩), ht.hpr, ht.new⟩
              refine stepW_ok (N := E.N) hT h I ρ F fr L hsr a w _ _ ha hw (fun v I' L' w' hw' hr => ?_)
              obtain ⟨hle', ρ', av, st', h1, h2, h3, h4⟩ := hr
              replace h4 := frcT_ok (frcA_ok 3 av h4)
              obtain ⟨f', hp', n'⟩ := st'
              have hren : ∀ {u : Value} {a : AV}, RelA I ρ u a → RelA I' ρ' u a := fun h => (h.mono hle').ren h3
              have hlook : ∀ t, o.dst ≠ some t → Eng.look (dstF o v fr) t = Eng.look fr t := by
                intro t ht
                unfold dstF
                cases hd : o.dst with
                | none => rfl
                | some d => simp only; rw [look_cons, if_neg (by rintro rfl; exact ht hd)]
              have fin : ∀ sf2, tailW E fl os sf2 hp' n' K → (∀ t, o.dst ≠ some t → lookA sf2 t = lookA sfr t) → (∀ t, o.dst = some t → lookA sf2 t = av) → wpAny E.P .any ops Q0 fuel (T.setIfInBounds q true) (a.put o.dst v) w' := by
                intro sf2 h7 h8 h9
                refine ih os (q + 1) fuel _ _ w' sf2 hp' n' I' ρ' _ L' (by simp at hn; omega) hos (by omega) (by omega) (by have := cnt_set hTqf; omega) h7 ⟨h2.hpr, h2.new, fun t hft => ?_, fun y hy hTy => ?_, fun y hy hyi => ?_, fun y hy hyi => ?_, fun k hk hkf => ?_, fun k hk => ?_, by rw [Array.size_setIfInBounds, ht.size], fun k u hTk' hu e he hb => ?_⟩ (Fr.dst ha hdd v) hw' (hle.trans hle') (hag.trans h3)
                · by_cases e : o.dst = some t
                  · rw [h9 t e]
                    refine h1.imp id (fun h1 => ⟨v, ?_, h1⟩)
                    unfold dstF; rw [e]; simp only; rw [look_cons, if_pos rfl]
                  · rw [h8 t e, hlook t e]
                    exact (ht.a t hft).imp id (fun ⟨v, a1, a2⟩ => ⟨v, a1, hren a2⟩)
                · obtain ⟨oy, hoy, _, hud2, _, _, hwr2⟩ := hfp y hy
                  have hyq := hnf y hy
                  obtain ⟨oy2, v2, u2, a0, a1, a2, a3⟩ := ht.d y hy ((set_true hTy).resolve_left hyq)
                  exact ⟨oy2, v2, u2, a0, by rw [hlook _ (fun e => by have := (hwr2 q o hoi e).1; omega)]; exact a1, by rw [hlook _ (fun e => hyq (okRegion_dst hok hoy hoi hud2 e))]; exact a2, a3⟩
                · obtain ⟨oy, hoy, _, hud2, _, _, hwr2⟩ := hfp y hy
                  obtain ⟨oy2, a0, a1⟩ := ht.s y hy (by have := hnf y hy; omega)
                  exact ⟨oy2, a0, by rw [h8 _ (fun e => by have := (hwr2 q o hoi e).1; omega), h8 _ (fun e => hnf y hy (okRegion_dst hok hoy hoi hud2 e))]; exact a1⟩
                · obtain ⟨oy, hoy, _, hud2, _, _, hwr2⟩ := hfp y hy
                  obtain ⟨oy2, a4, a0, a1⟩ := ht.s2 y hy (by omega)
                  exact ⟨oy2, a4, a0, by rw [h8 _ (fun e => by have := (hwr2 q o hoi e).1; omega)]; exact a1⟩
                · refine set_keep hltq ?_
                  by_cases e : k = q
                  · exact .inr e
                  · exact .inl (ht.t1 k (by omega) hkf)
                · rcases set_true hk with rfl | hk
                  · left; omega
                  · exact (ht.t2 k hk).imp (fun h => by omega) id
                · rcases set_true hTk' with rfl | hTk'
                  · rw [hoi] at hu; simp only [Option.some.injEq] at hu; subst hu
                    exact set_keep hltq (.inl (hd' e he hb))
                  · exact set_keep hltq (.inl (ht.closed k u hTk' hu e he hb))
              obtain ⟨sf2, h7, h8, h9⟩ : ∃ sf2, tailW E fl os sf2 hp' n' K ∧ (∀ t, o.dst ≠ some t → lookA sf2 t = lookA sfr t) ∧ (∀ t, o.dst = some t → lookA sf2 t = av) := by
                revert h4
                generalize o.dst = dd
                cases dd with
                | none => exact fun h4 => ⟨_, h4, fun _ _ => rfl, fun t e => by cases e⟩
                | some d0 => exact fun h4 => ⟨_, h4, fun t e => by rw [lookA_cons, if_neg (fun e2 => e (by rw [e2]))], fun t e => by simp only [Option.some.injEq] at e; rw [lookA_cons, if_pos e]⟩
              exact fin sf2 h7 h8 h9
theorem rd1_pred {ops : Array Oper} {m : Nat} {o : Oper} {t : Nat} (h : rd1 o t 0 (ops.toList.take m) = true) {k : Nat} {u : Oper} (hk : k < m) (hu : ops[k]? = some u) (hd : u.dst = some t) : predB o k = true := by
  have := rd1_ok h k u (by rw [List.getElem?_take, if_pos hk]; simpa using hu) hd
  simpa using this
theorem fltB_ok {ops : Array Oper} {N m : Nat} {x : Nat × Nat × Nat} {o : Oper} (ho : ops[x.1]? = some o) (h : fltB ops.toList N m x o = true) : FltP ops N m x := by
  unfold fltB at h
  split at h
  · rename_i s d h1 h2
    simp only [Bool.and_eq_true, List.all_eq_true] at h
    obtain ⟨e1, e2, e3, e4, e5, e6⟩ := h
    have e1 := Nat.eq_of_beq_eq_true e1
    have e2 := Nat.eq_of_beq_eq_true e2
    subst e1; subst e2
    refine ⟨o, ho, h1, h2, (by rw [Nat.blt_eq] at e3; exact e3), by simpa using e4, fun k u hu hd => ?_⟩
    have hk : k < m := by
      refine Nat.lt_of_not_le fun hmk => ?_
      have := e6 u (by
        rw [List.mem_iff_getElem?]
        exact ⟨k - m, by rw [List.getElem?_drop, show m + (k - m) = k from by omega]; simpa using hu⟩)
      rw [hd] at this
      simp at this
    exact ⟨hk, rd1_pred e5 hk hu hd⟩
  · cases h
theorem allF_ok {ops : Array Oper} {N m : Nat} : ∀ {l : List (Nat × Nat × Nat)}, allF ops N m l = true → ∀ x ∈ l, FltP ops N m x
  | [], _, x, hx => by cases hx
  | y :: l, h, x, hx => by
    unfold allF at h
    rw [Bool.and_eq_true] at h
    rcases List.mem_cons.1 hx with rfl | hx
    · have h1 := h.1
      split at h1
      · rename_i o ho; exact fltB_ok ho h1
      · cases h1
    · exact allF_ok h.2 x hx
theorem fmask_bit : ∀ (fl : List (Nat × Nat × Nat)) (i : Nat), (fmask fl).testBit i = true ↔ ∃ x ∈ fl, x.1 = i
  | [], i => by simp [fmask]
  | y :: fl, i => by
    unfold fmask
    have e : (Nat.lor (2 ^ y.1) (fmask fl)).testBit i = ((2 ^ y.1 ||| fmask fl) : Nat).testBit i := rfl
    rw [e, Nat.testBit_or, Bool.or_eq_true, fmask_bit fl i, Nat.testBit_two_pow]
    constructor
    · rintro (h | ⟨x, hx, h⟩)
      · exact ⟨y, List.mem_cons_self, by simpa using h⟩
      · exact ⟨x, List.mem_cons_of_mem _ hx, h⟩
    · rintro ⟨x, hx, h⟩
      rcases List.mem_cons.1 hx with rfl | hx
      · left; simpa using h
      · exact .inr ⟨x, hx, h⟩
theorem tlB_ok {ops : Array Oper} {m : Nat} {fl : List (Nat × Nat × Nat)} (hok : okRegion ops = true) : ∀ (os : List Oper) (i w : Nat), ops.toList.drop i = os → (∀ j, w.testBit j = true → ∃ k, k < i ∧ (∀ x ∈ fl, x.1 ≠ k) ∧ predAt ops k j = true) → tlB m (fmask fl) i w os = true →
    ∀ j o, i ≤ j → m ≤ j → ops[j]? = some o → (∀ x ∈ fl, x.1 ≠ j) → o.guard = none ∧ ∀ i, i < j → (∀ x ∈ fl, x.1 ≠ i) → ∃ k, i < k ∧ k ≤ j ∧ (∀ x ∈ fl, x.1 ≠ k) ∧ predAt ops k i = true
  | [], i, w, hd, hw, h, j, o, hij, hm, ho, hnf => by
    have h1 := (Array.getElem?_eq_some_iff.1 ho).1
    have := congrArg List.length hd
    simp at this; omega
  | u :: us, i, w, hd, hw, h, j, o, hij, hm, ho, hnf => by
    have hoi : ops[i]? = some u := by
      have : (ops.toList.drop i)[0]? = some u := by rw [hd]; rfl
      simpa using this
    have hos : ops.toList.drop (i + 1) = us := by rw [← List.drop_drop, hd]; rfl
    unfold tlB at h
    cases hf : Nat.testBit (fmask fl) i with
    | true =>
      rw [hf] at h
      simp only [cond_true] at h
      obtain ⟨x, hx, hxi⟩ := (fmask_bit fl i).1 hf
      by_cases e : j = i
      · exact absurd (hxi.trans e.symm) (hnf x hx)
      · exact tlB_ok hok us (i + 1) w hos (fun j hj => by obtain ⟨k, a, b⟩ := hw j hj; exact ⟨k, by omega, b⟩) h j o (by omega) hm ho hnf
    | false =>
    rw [hf] at h
    simp only [cond_false] at h
    have hnfi : ∀ x ∈ fl, x.1 ≠ i := fun x hx e => by rw [(fmask_bit fl i).2 ⟨x, hx, e⟩] at hf; cases hf
    rw [Bool.and_eq_true] at h
    obtain ⟨h3, h2⟩ := h
    have hw' : ∀ j, (mskE u.after.toList w).testBit j = true → ∃ k, k < i + 1 ∧ (∀ x ∈ fl, x.1 ≠ k) ∧ predAt ops k j = true := fun j hj => by
      rcases mskE_bit _ _ _ hj with h4 | ⟨e, h4, h5, h6⟩
      · obtain ⟨k, a, b⟩ := hw j h4; exact ⟨k, by omega, b⟩
      · refine ⟨i, by omega, hnfi, ?_⟩
        unfold predAt; rw [hoi]
        unfold predB
        rw [List.any_eq_true]
        exact ⟨e, h4, by rw [h5, h6]; simp⟩
    by_cases e : j = i
    · subst e
      rw [hoi] at ho; simp only [Option.some.injEq] at ho; subst ho
      have hb : Nat.blt j m = false := by
        cases h : Nat.blt j m with
        | false => rfl
        | true => rw [Nat.blt_eq] at h; omega
      rw [hb, Bool.false_or, Bool.and_eq_true] at h3
      refine ⟨by simpa using h3.1, fun i hi hif => ?_⟩
      have he := Nat.eq_of_beq_eq_true h3.2
      have hbit : (Nat.land (Nat.lor (mskE u.after.toList w) (fmask fl)) (2 ^ j - 1)).testBit i = true := by rw [he, Nat.testBit_two_pow_sub_one]; simpa using hi
      have e3 : (Nat.land (Nat.lor (mskE u.after.toList w) (fmask fl)) (2 ^ j - 1)).testBit i = (((mskE u.after.toList w ||| fmask fl) &&& (2 ^ j - 1)) : Nat).testBit i := rfl
      rw [e3, Nat.testBit_and, Bool.and_eq_true, Nat.testBit_or, Bool.or_eq_true] at hbit
      rcases hbit.1 with hb1 | hb1
      · obtain ⟨k, a, b, c⟩ := hw' i hb1
        refine ⟨k, ?_, by omega, b, c⟩
        unfold predAt at c
        split at c
        · rename_i v hv
          obtain ⟨e, he, hb, hon⟩ := predB_iff.1 c
          have := okRegion_edge hok hv e he hb
          omega
        · cases c
      · obtain ⟨x, hx, hxi⟩ := (fmask_bit fl i).1 hb1
        exact absurd hxi (hif x hx)
    · exact tlB_ok hok us (i + 1) _ hos hw' h2 j o (by omega) hm ho hnf
theorem fltOK_ok {all : Array Oper} {m : Nat} {fr : List (Nat × AV)} : ∀ {fl : List (Nat × Nat × Nat)}, fltOK all m fr fl = true → ∀ x ∈ fl, m ≤ x.1 → ∃ o a, all[x.1]? = some o ∧ fltA o.op (lookA fr x.2.2) = some a
  | [], _, x, hx, _ => by cases hx
  | y :: fl, h, x, hx, hm => by
    unfold fltOK at h
    rw [Bool.and_eq_true] at h
    rcases List.mem_cons.1 hx with rfl | hx
    · have h1 := h.1
      have hb : Nat.blt x.1 m = false := by
        cases h : Nat.blt x.1 m with
        | false => rfl
        | true => rw [Nat.blt_eq] at h; omega
      rw [hb, Bool.false_or] at h1
      split at h1
      · rename_i o ho
        cases hf : fltA o.op (lookA fr x.2.2) with
        | none => rw [hf] at h1; cases h1
        | some a => exact ⟨o, a, ho, hf⟩
      · cases h1
    · exact fltOK_ok h.2 x hx hm

end
end Go.V

/- The second floor, part QM: regions in which some come at any time between those that change what is there. No function of the program is proved here. -/
namespace Go.V
open Go.Eng

section
variable {P : Program} {N : Nat} {T : TypeId → Option TI} {I J : Imm} {ρ ρ' : Nat → Value} {F : List Ent} {st : St} {fr : Frm} {L : List Ent} {E : Env}

/-! ## Who stands ahead of whom -/
theorem Closed.pred {ops : Array Oper} {T : Array Bool} {u j : Nat} (hT : Closed ops T) (h : predAt ops u j = true) (hu : T[u]? = some true) : T[j]? = some true := by
  unfold predAt at h
  split at h
  · rename_i o ho
    obtain ⟨e, he, hb, rfl⟩ := predB_iff.1 h
    exact hT u o hu ho e he hb
  · cases h
inductive Anc (ops : Array Oper) : Nat → Nat → Prop where
  | one {u j : Nat} (h : predAt ops u j = true) : Anc ops u j
  | step {u k j : Nat} (h : predAt ops u k = true) (t : Anc ops k j) : Anc ops u j
theorem Anc.done {ops : Array Oper} {T : Array Bool} (hT : Closed ops T) {u j : Nat} (h : Anc ops u j) : T[u]? = some true → T[j]? = some true := by
  induction h with
  | one h => exact fun hu => hT.pred h hu
  | step h _ ih => exact fun hu => ih (hT.pred h hu)
theorem Anc.ready {ops : Array Oper} {T : Array Bool} {u j : Nat} {o : Oper} (hT : Closed ops T) (ho : ops[u]? = some o) (hd : ∀ e ∈ o.after, bnd e = true → T[e.on]? = some true) (h : Anc ops u j) : T[j]? = some true := by
  have key : ∀ k, predAt ops u k = true → T[k]? = some true := fun k hk => by
    unfold predAt at hk; rw [ho] at hk
    obtain ⟨e, he, hb, rfl⟩ := predB_iff.1 hk
    exact hd e he hb
  cases h with
  | one h => exact key j h
  | step h t => exact t.done hT (key _ h)
def mskA : List Edge → List Nat → Nat → Nat
  | [], _, w => w
  | e :: es, acc, w => mskA es acc (bif bnd e then Nat.lor w (Nat.lor (2 ^ e.on) (acc.getD e.on 0)) else w)
theorem mskA_bit : ∀ (es : List Edge) (acc : List Nat) (w j : Nat), (mskA es acc w).testBit j = true → w.testBit j = true ∨ ∃ e ∈ es, bnd e = true ∧ (e.on = j ∨ (acc.getD e.on 0).testBit j = true)
  | [], acc, w, j, h => .inl h
  | e :: es, acc, w, j, h => by
    unfold mskA at h
    rcases mskA_bit es acc _ j h with h1 | ⟨e', he', h2⟩
    · cases hb : bnd e with
      | false => rw [hb] at h1; exact .inl h1
      | true =>
        rw [hb] at h1
        have h1' : (w ||| (2 ^ e.on ||| acc.getD e.on 0)).testBit j = true := h1
        rw [Nat.testBit_or, Nat.testBit_or, Bool.or_eq_true, Bool.or_eq_true] at h1'
        rcases h1' with h2 | h2 | h2
        · exact .inl h2
        · exact .inr ⟨e, List.mem_cons_self, hb, .inl (by rw [Nat.testBit_two_pow] at h2; simpa using h2)⟩
        · exact .inr ⟨e, List.mem_cons_self, hb, .inr h2⟩
    · exact .inr ⟨e', List.mem_cons_of_mem _ he', h2⟩
def ancM : List Oper → List Nat → List Nat
  | [], acc => acc
  | o :: os, acc => ancM os (acc ++ [mskA o.after.toList acc 0])
theorem ancM_ok {ops : Array Oper} : ∀ (os : List Oper) (acc : List Nat), ops.toList.drop acc.length = os → (∀ u j, (acc.getD u 0).testBit j = true → Anc ops u j) → ∀ u j, ((ancM os acc).getD u 0).testBit j = true → Anc ops u j
  | [], acc, _, h => h
  | o :: os, acc, hd, h => by
    unfold ancM
    have ho : ops[acc.length]? = some o := by
      have : (ops.toList.drop acc.length)[0]? = some o := by rw [hd]; rfl
      simpa using this
    refine ancM_ok os _ (by rw [List.length_append, ← List.drop_drop, hd]; rfl) (fun u j hb => ?_)
    by_cases e : u < acc.length
    · rw [List.getD_eq_getElem?_getD, List.getElem?_append_left e, ← List.getD_eq_getElem?_getD] at hb
      exact h u j hb
    · by_cases e2 : u = acc.length
      · subst e2
        rw [List.getD_eq_getElem?_getD, List.getElem?_append_right (Nat.le_refl _), Nat.sub_self] at hb
        rcases mskA_bit _ _ _ _ hb with h1 | ⟨e, he, hb1, h2⟩
        · simp at h1
        · have hp : predAt ops acc.length e.on = true := by
            unfold predAt; rw [ho]; exact predB_iff.2 ⟨e, by simpa using he, hb1, rfl⟩
          rcases h2 with rfl | h2
          · exact .one hp
          · exact .step hp (h _ _ h2)
      · rw [List.getD_eq_getElem?_getD, List.getElem?_eq_none (by rw [List.length_append, List.length_singleton]; omega)] at hb
        simp at hb
def hasB (am : List Nat) (u j : Nat) : Bool := (am.getD u 0).testBit j

/-! ## New things nobody looks at yet -/
def lblA (O : Obj) (l : Nat) : AV := match O with
  | .row _ _ _ => .sl l
  | _ => .ptr l 0
def isD : AV → Bool
  | .d _ => true
  | _ => false
def objD : Obj → Bool
  | .row _ _ _ => true
  | .arr _ _ => true
  | .vec _ cs => cs.all isD
  | _ => false
inductive DrawN (E : Env) (o : Op) (rfr : List (Nat × AV)) (hp : List (Nat × Obj)) (nx : Nat) (k : Obj → Prop) : Prop where
  | mk (O : Obj) (hd : objD O = true) (h : stepW E o ⟨rfr, hp, nx⟩ (fun a st' => frcA 3 a fun a => frcT st' fun st' => a = lblA O nx ∧ st' = ⟨rfr, (nx, O) :: hp, nx + 1⟩)) (next : k O)
theorem RelO.free {l : Nat} {O : Obj} {es : List Ent} (h : RelO I ρ l O es) (hd : objD O = true) : ∀ ρ' l', ρ' l' = ρ l → RelO I ρ' l' O es := by
  intro ρ' l' he
  cases O with
  | row e sz xs => obtain ⟨A, c, us, h1, h2⟩ := h; exact ⟨A, c, us, by rw [he, h1], h2⟩
  | arr t cs => obtain ⟨b, us, h1, h2⟩ := h; exact ⟨b, us, by rw [he, h1], h2⟩
  | vec t cs =>
    obtain ⟨b, us, h1, h2, h3⟩ := h
    refine ⟨b, us, by rw [he, h1], ⟨h2.1, fun j u a hu ha => ?_⟩, h3⟩
    have hx := List.all_eq_true.1 (show cs.all isD = true from hd) a (List.mem_of_getElem? ha)
    have := h2.2 j u a hu ha
    cases a with
    | d x => cases this with | d h => exact .d h
    | _ => cases hx
  | _ => cases hd
theorem DrawN.at (hT : TOk E.P E.T) {o : Oper} {rfr : List (Nat × AV)} {hp : List (Nat × Obj)} {nx : Nat} {k : Obj → Prop} (h : DrawN E o.op rfr hp nx k) : ∃ O, (∀ I ρ F fr L, SR I ρ F ⟨rfr, hp, nx⟩ fr L → Acts E.P E.N fr I L o (fun v I' L' => I.le I' ∧ ∃ es L1, L' = es ++ L1 ∧ SR I' ρ F ⟨rfr, hp, nx⟩ fr L1 ∧ v ≠ .nilFunc ∧ ∀ ρ l, ρ l = v → RelO I' ρ l O es ∧ RelA I' ρ v (lblA O l))) ∧ k O := by
  cases h with
  | mk O hd h next =>
    refine ⟨O, fun I ρ F fr L hs => Acts.mono (stepW_ok (N := E.N) hT h I ρ F fr L hs) (fun v I' L' hr => ⟨L', .refl _, ?_⟩), next⟩
    obtain ⟨hle, ρ', av, st', h1, h2, h3, h4⟩ := hr
    obtain ⟨rfl, rfl⟩ := frcT_ok (frcA_ok 3 av h4)
    obtain ⟨Lh, hrel, rfl⟩ := h2.hpr
    cases hrel with
    | @cons _ _ _ es Lh' ho hkk =>
      have hv : ρ' nx = v ∧ v ≠ .nilFunc ∧ ∀ ρ l, ρ l = v → RelA I' ρ v (lblA O l) := by
        have sl : RelU I' ρ' v (.sl nx) → ρ' nx = v ∧ v ≠ .nilFunc ∧ ∀ ρ l, ρ l = v → RelA I' ρ v (.sl l) := fun h1 => by
          rcases h1 with h1 | h1
          · cases h1
          · cases h1 with | sl h2 => exact ⟨h2, by simp, fun ρ l hl => .sl hl⟩
        have pt : RelU I' ρ' v (.ptr nx 0) → ρ' nx = v ∧ v ≠ .nilFunc ∧ ∀ ρ l, ρ l = v → RelA I' ρ v (.ptr l 0) := fun h1 => by
          rcases h1 with h1 | h1
          · cases h1
          · cases h1 with | ptr h2 => exact ⟨h2, by simp, fun ρ l hl => .ptr hl⟩
        cases O with
        | row _ _ _ => exact sl h1
        | _ => exact pt h1
      obtain ⟨hv1, hv2, hv3⟩ := hv
      obtain ⟨Lh0, hrel0, _⟩ := hs.hpr
      refine ⟨hle, es, Lh' ++ F, by rw [List.append_assoc], ⟨fun t => ?_, ⟨Lh', RelH.bk h3 hkk hrel0, rfl⟩, hs.new⟩, hv2, fun ρ l hl => ⟨ho.free hd ρ l (by rw [hl, hv1]), hv3 ρ l hl⟩⟩
      rcases hs.frr t with h5 | ⟨u, h5, h6⟩
      · exact .inl h5
      · exact .inr ⟨u, h5, h6.mono hle⟩

/-! ## The plan -/
structure Stg where
  ps : List (Nat × Bool × List Nat)
  al : List Nat
  r : Option (Nat × List Nat)
def eqNL : List Nat → List Nat → Bool
  | [], [] => true
  | a :: as, b :: bs => Nat.beq a b && eqNL as bs
  | _, _ => false
abbrev Pnd := List (Nat × Obj)
def lookP : Pnd → Nat → Option Obj
  | [], _ => none
  | (k, O) :: l, i => bif Nat.beq k i then some O else lookP l i
def pW (E : Env) (all : Array Oper) (al : List Nat) : List (Nat × Bool × List Nat) → Pnd → List (Nat × AV) → List (Nat × Obj) → Nat → (Pnd → List (Nat × AV) → Prop) → Prop
  | [], pn, fr, _, _, k => k pn fr
  | (i, nw, ts) :: ps, pn, fr, hp, nx, k => match all[i]? with
    | some o => match o.dst with
      | some d => frcF (readF ts fr) fun rfr => bif elemN i al then (match lookP pn i with
          | none => DrawN E o.op rfr hp nx (fun O => pW E all al ps ((i, O) :: pn) fr hp nx k)
          | some O0 => DrawN E o.op rfr hp nx (fun O => O = O0 ∧ pW E all al ps pn fr hp nx k))
        else bif nw then DrawO E o.op rfr hp nx (fun A => pW E all al ps pn ((d, A) :: fr) hp nx k) else DrawO E o.op rfr hp nx (fun A => A = lookA fr d ∧ pW E all al ps pn fr hp nx k)
      | none => False
    | none => False
def alW (all : Array Oper) : List Nat → Pnd → List (Nat × AV) → List (Nat × Obj) → Nat → (List (Nat × AV) → List (Nat × Obj) → Nat → Prop) → Prop
  | [], _, fr, hp, nx, k => k fr hp nx
  | i :: al, pn, fr, hp, nx, k => match all[i]? with
    | some o => match o.dst with
      | some d => match lookP pn i with
        | some O => alW all al pn ((d, lblA O nx) :: fr) ((nx, O) :: hp) (nx + 1) k
        | none => False
      | none => False
    | none => False
def mixW (E : Env) (all : Array Oper) : List Stg → List Nat → Pnd → List (Nat × AV) → List (Nat × Obj) → Nat → (St → Prop) → Prop
  | [], _, _, _, _, _, _ => False
  | s :: rest, al, pn, fr, hp, nx, K => pW E all al s.ps pn fr hp nx fun pn fr => alW all s.al pn fr hp nx fun fr hp nx => match s.r with
    | none => K ⟨fr, hp, nx⟩
    | some (i, ts) => match all[i]? with
      | some o => frcF (readF ts fr) fun rfr => stepW E o.op ⟨rfr, hp, nx⟩ (fun a st => frcA 3 a fun a => frcT st fun st => match st with
        | ⟨_, hp, nx⟩ => match o.dst with
          | some d => mixW E all rest (bif eqNL s.al [] then al else []) pn ((d, a) :: fr) hp nx K
          | none => mixW E all rest (bif eqNL s.al [] then al else []) pn fr hp nx K)
      | none => False

/-! ## What is asked of a plan -/
def rdv (am rl : List Nat) (i : Nat) (o : Oper) (val : List Nat) (t : Nat) : Nat → List Oper → Bool
  | _, [] => true
  | k, u :: us => (match u.dst with
    | some d => !Nat.beq d t || ((predB o k && elemN k val) || (!elemN k val && (elemN k rl && hasB am k i)))
    | none => true) && rdv am rl i o val t (k + 1) us
def rdsB (am rl : List Nat) (all : Array Oper) (i : Nat) (o : Oper) (val ts : List Nat) : Bool := ts.all fun t => rdv am rl i o val t 0 all.toList
def pB (all : Array Oper) (N : Nat) (am rl al : List Nat) : List (Nat × Bool × List Nat) → List Nat → (List Nat → Bool) → Bool
  | [], val, k => k val
  | (i, nw, ts) :: ps, val, k => (match all[i]? with
    | some o => okD N o.dst && rdsB am rl all i o val ts
    | none => false) && (!elemN i rl && (bif elemN i al then pB all N am rl al ps val k else ((bif nw then !elemN i val else elemN i val) && pB all N am rl al ps (bif nw then i :: val else val) k)))
def covB (am rl rd ps : List Nat) (n : Nat) : Bool := (List.range n).all fun i => elemN i ps || (elemN i rl || ((rl.any fun k => !elemN k rd && hasB am i k) || (rd.any fun k => hasB am k i)))
def stB (all : Array Oper) (N : Nat) (am rl : List Nat) : List Stg → List Nat → List Nat → List Nat → Bool
  | [], _, _, _ => false
  | s :: rest, rd, al, val => pB all N am rl al s.ps val fun val => covB am rl rd (s.ps.map (·.1)) all.size && (match s.r with
    | none => eqNL s.al [] && (eqNL al [] && rl.all fun k => elemN k rd)
    | some (i, ts) => (bif eqNL s.al [] then
          (match all[i]? with
          | some o => okD N o.dst && rdsB am rl all i o val ts
          | none => false) && (elemN i rl && (!elemN i rd && (!elemN i al && ((rl.all fun k => elemN k rd || (Nat.beq k i || hasB am k i)) && stB all N am rl rest (i :: rd) al (i :: val)))))
        else eqNL s.al al && ((al.all fun a => hasB am i a) &&
          ((match all[i]? with
          | some o => okD N o.dst && rdsB am rl all i o (al ++ val) ts
          | none => false) && (elemN i rl && (!elemN i rd && (!elemN i al && ((rl.all fun k => elemN k rd || (Nat.beq k i || hasB am k i)) && stB all N am rl rest (i :: rd) [] (i :: (al ++ val))))))))))
def alB (all : Array Oper) (rl : List Nat) : List Nat → Bool
  | [] => true
  | i :: al => !elemN i rl && (!elemN i al && alB all rl al)
def rlOf : List Stg → List Nat
  | [] => []
  | s :: l => match s.r with
    | some (i, _) => i :: rlOf l
    | none => rlOf l
def mixOK (E : Env) (all : Array Oper) (pl : List Stg) (al : List Nat) : Bool :=
  goB all.size 0 0 [] all.toList && ((all.toList.all fun o => o.guard.isNone) && (alB all (rlOf pl) al && stB all E.N (ancM all.toList []) (rlOf pl) pl [] al []))

theorem rdv_ok {am rl : List Nat} {i : Nat} {o : Oper} {val : List Nat} {t : Nat} : ∀ {us : List Oper} {k : Nat}, rdv am rl i o val t k us = true → ∀ (j : Nat) (u : Oper), us[j]? = some u → u.dst = some t → (predB o (k + j) = true ∧ (k + j) ∈ val) ∨ ((k + j) ∉ val ∧ (k + j) ∈ rl ∧ hasB am (k + j) i = true)
  | [], k, _, j, u, hj, _ => by simp at hj
  | v :: us, k, h, j, u, hj, hd => by
    unfold rdv at h
    rw [Bool.and_eq_true] at h
    cases j with
    | zero =>
      simp at hj; subst hj
      have h1 := h.1
      rw [hd] at h1
      simp at h1
      rcases h1 with h1 | h1
      · exact .inl ⟨h1.1, elemN_iff.1 h1.2⟩
      · exact .inr ⟨fun hm => (by rw [Nat.add_zero] at hm; rw [elemN_iff.2 hm] at h1; cases h1.1), elemN_iff.1 h1.2.1, h1.2.2⟩
    | succ j =>
      have := rdv_ok h.2 j u (by simpa using hj) hd
      rwa [show k + 1 + j = k + (j + 1) from by omega] at this
theorem rdsB_ok {am rl : List Nat} {all : Array Oper} {i : Nat} {o : Oper} {val ts : List Nat} (h : rdsB am rl all i o val ts = true) : ∀ t ∈ ts, ∀ j, dstAt all j = some t → (predB o j = true ∧ j ∈ val) ∨ (j ∉ val ∧ j ∈ rl ∧ hasB am j i = true) := fun t ht j hj => by
  unfold rdsB at h
  rw [List.all_eq_true] at h
  unfold dstAt at hj
  cases hq : all[j]? with
  | none => rw [hq] at hj; cases hj
  | some u =>
    rw [hq] at hj
    have := rdv_ok (h t ht) j u (by simpa using hq) hj
    simpa using this
theorem eqNL_ok : ∀ {a b : List Nat}, eqNL a b = true → a = b
  | [], [], _ => rfl
  | a :: as, b :: bs, h => by
    unfold eqNL at h
    rw [Bool.and_eq_true] at h
    rw [Nat.eq_of_beq_eq_true h.1, eqNL_ok h.2]
  | [], _ :: _, h => by cases h
  | _ :: _, [], h => by cases h

/-- What is known of one that may come now. -/
def PObl (E : Env) (all : Array Oper) (hp : List (Nat × Obj)) (nx : Nat) (frm : List (Nat × AV)) (val : List Nat) (i : Nat) : Prop := ∃ o d, all[i]? = some o ∧ o.dst = some d ∧ okD E.N o.dst = true ∧ ∃ rfr, (∀ t, lookA rfr t = .undef ∨ (lookA rfr t = lookA frm t ∧ ∀ j, dstAt all j = some t → (predB o j = true ∧ j ∈ val) ∨ (j ∉ val ∧ Anc all j i))) ∧
  ∀ I ρ F fr L, SR I ρ F ⟨rfr, hp, nx⟩ fr L → Acts E.P E.N fr I L o (fun v I' L' => I.le I' ∧ ∃ ρ', RelU I' ρ' v (lookA frm d) ∧ SR I' ρ' F ⟨rfr, hp, nx⟩ fr L' ∧ Ag ρ ρ')

def PObF (E : Env) (all : Array Oper) (hp : List (Nat × Obj)) (nx : Nat) (frm : List (Nat × AV)) (val : List Nat) (pn : Pnd) (i : Nat) : Prop := ∃ o d O, all[i]? = some o ∧ o.dst = some d ∧ okD E.N o.dst = true ∧ lookP pn i = some O ∧ ∃ rfr, (∀ t, lookA rfr t = .undef ∨ (lookA rfr t = lookA frm t ∧ ∀ j, dstAt all j = some t → (predB o j = true ∧ j ∈ val) ∨ (j ∉ val ∧ Anc all j i))) ∧
  ∀ I ρ F fr L, SR I ρ F ⟨rfr, hp, nx⟩ fr L → Acts E.P E.N fr I L o (fun v I' L' => I.le I' ∧ ∃ es L1, L' = es ++ L1 ∧ SR I' ρ F ⟨rfr, hp, nx⟩ fr L1 ∧ v ≠ .nilFunc ∧ ∀ ρ l, ρ l = v → RelO I' ρ l O es ∧ RelA I' ρ v (lblA O l))

theorem pW_ok (hT : TOk E.P E.T) {all : Array Oper} {hp : List (Nat × Obj)} {nx : Nat} (hok : okRegion all = true) {am rl al : List Nat} (ham : ∀ u j, hasB am u j = true → Anc all u j) {kb : List Nat → Bool} {k : Pnd → List (Nat × AV) → Prop} : ∀ (ps : List (Nat × Bool × List Nat)) (val : List Nat) (pn : Pnd) (frm : List (Nat × AV)), pB all E.N am rl al ps val kb = true → pW E all al ps pn frm hp nx k →
    ∃ frm' pn' val', kb val' = true ∧ k pn' frm' ∧ (∀ j, j ∈ val → j ∈ val') ∧ (∀ j, j ∈ val' → j ∈ val ∨ (j ∉ rl ∧ j ∉ al)) ∧ (∀ t, (∀ j, dstAt all j = some t → j ∈ val ∨ j ∉ val') → lookA frm' t = lookA frm t) ∧ (∀ j O, lookP pn j = some O → lookP pn' j = some O) ∧ ∀ x ∈ ps, x.1 ∉ rl ∧ ((x.1 ∉ al ∧ x.1 ∈ val' ∧ PObl E all hp nx frm' val' x.1) ∨ (x.1 ∈ al ∧ PObF E all hp nx frm' val' pn' x.1))
  | [], val, pn, frm, hb, h => ⟨frm, pn, val, hb, h, fun _ h => h, fun _ h => .inl h, fun _ _ => rfl, fun _ _ h => h, fun x hx => by cases hx⟩
  | (i, nw, ts) :: ps, val, pn, frm, hb, h => by
    unfold pB at hb
    unfold pW at h
    simp only [Bool.and_eq_true, Bool.not_eq_true'] at hb
    obtain ⟨hb1, hb2, hb3⟩ := hb
    have hir : i ∉ rl := fun hm => by rw [elemN_iff.2 hm] at hb2; cases hb2
    cases ho : all[i]? with
    | none => rw [ho] at h; exact h.elim
    | some o =>
      rw [ho] at h hb1
      simp only [Bool.and_eq_true] at hb1
      obtain ⟨hN, hrd⟩ := hb1
      simp only at h
      cases hd : o.dst with
      | none => rw [hd] at h; exact h.elim
      | some d =>
        rw [hd] at h
        simp only at h
        have hrds := rdsB_ok hrd
        have huniq : ∀ j, dstAt all j = some d → j = i := fun j hj => by
          unfold dstAt at hj
          cases hq : all[j]? with
          | none => rw [hq] at hj; cases hj
          | some u => rw [hq] at hj; exact okRegion_dst hok hq ho hj hd
        replace h := frcF_ok h
        cases hea : elemN i al with
        | true =>
          have hia : i ∈ al := elemN_iff.1 hea
          rw [hea] at h hb3
          simp only [cond_true] at h hb3
          -- what is read stays as it is
          have reads : ∀ {frm' : List (Nat × AV)} {val' : List Nat}, (∀ j, j ∈ val → j ∈ val') → (∀ j, j ∈ val' → j ∈ val ∨ (j ∉ rl ∧ j ∉ al)) → (∀ t, (∀ j, dstAt all j = some t → j ∈ val ∨ j ∉ val') → lookA frm' t = lookA frm t) → ∀ t, lookA (readF ts frm) t = .undef ∨ (lookA (readF ts frm) t = lookA frm' t ∧ ∀ j, dstAt all j = some t → (predB o j = true ∧ j ∈ val') ∨ (j ∉ val' ∧ Anc all j i)) := by
            intro frm' val' g3 g4 g5 t
            rcases readF_look (ts := ts) (fr := frm) (t := t) with h1 | ⟨h1, h2⟩
            · exact .inl h1
            · have hnv : ∀ j, j ∉ val → j ∈ rl → j ∉ val' := fun j h3 h4 h5 => by
                rcases g4 j h5 with h6 | h6
                · exact h3 h6
                · exact h6.1 h4
              refine .inr ⟨?_, fun j hj => (hrds t h2 j hj).imp (fun h => ⟨h.1, g3 j h.2⟩) (fun h => ⟨hnv j h.1 h.2.1, ham _ _ h.2.2⟩)⟩
              rw [h1, g5 t (fun j hj => (hrds t h2 j hj).imp (fun h => h.2) (fun h => hnv j h.1 h.2.1))]
          cases hp0 : lookP pn i with
          | none =>
            rw [hp0] at h
            obtain ⟨O, hact, hk⟩ := DrawN.at hT h
            obtain ⟨frm', pn', val', g1, g2, g3, g4, g5, g7, g6⟩ := pW_ok hT hok ham ps val _ frm hb3 hk
            refine ⟨frm', pn', val', g1, g2, g3, g4, g5, fun j O' hj => g7 j O' ?_, fun x hx => ?_⟩
            · have : i ≠ j := fun e => by subst e; rw [hp0] at hj; cases hj
              unfold lookP
              rw [beq_eq]
              simp [this, hj]
            · rcases List.mem_cons.1 hx with rfl | hx
              · refine ⟨hir, .inr ⟨hia, o, d, O, ho, hd, hN, g7 _ O (by unfold lookP; simp), readF ts frm, reads g3 g4 g5, hact⟩⟩
              · exact g6 x hx
          | some O0 =>
            rw [hp0] at h
            obtain ⟨O, hact, rfl, hk⟩ := DrawN.at hT h
            obtain ⟨frm', pn', val', g1, g2, g3, g4, g5, g7, g6⟩ := pW_ok hT hok ham ps val _ frm hb3 hk
            refine ⟨frm', pn', val', g1, g2, g3, g4, g5, g7, fun x hx => ?_⟩
            rcases List.mem_cons.1 hx with rfl | hx
            · exact ⟨hir, .inr ⟨hia, o, d, O, ho, hd, hN, g7 _ _ hp0, readF ts frm, reads g3 g4 g5, hact⟩⟩
            · exact g6 x hx
        | false =>
          have hia : i ∉ al := fun hm => by rw [elemN_iff.2 hm] at hea; cases hea
          rw [hea] at h hb3
          simp only [cond_false, Bool.and_eq_true] at h hb3
          obtain ⟨hb4, hb5⟩ := hb3
          cases nw with
          | true =>
            simp only [cond_true] at h hb4 hb5
            rw [Bool.not_eq_true'] at hb4
            have hiv : i ∉ val := fun hm => by rw [elemN_iff.2 hm] at hb4; cases hb4
            have hself : ∀ t ∈ ts, d ≠ t := fun t ht e => by
              subst e
              rcases hrds _ ht i (by rw [dst_ok ho]; exact hd) with h1 | h1
              · exact hiv h1.2
              · exact hir h1.2.1
            obtain ⟨A, hact, hk⟩ := DrawO.at hT h
            obtain ⟨frm', pn', val', g1, g2, g3, g4, g5, g7, g6⟩ := pW_ok hT hok ham ps (i :: val) pn ((d, A) :: frm) hb5 hk
            have hld : lookA frm' d = A := by
              rw [g5 d (fun j hj => by rw [huniq j hj]; exact .inl List.mem_cons_self), lookA_cons, if_pos rfl]
            refine ⟨frm', pn', val', g1, g2, fun j hj => g3 j (List.mem_cons_of_mem _ hj), fun j hj => ?_, fun t ht => ?_, g7, fun x hx => ?_⟩
            · rcases g4 j hj with h1 | h1
              · rcases List.mem_cons.1 h1 with rfl | h1
                · exact .inr ⟨hir, hia⟩
                · exact .inl h1
              · exact .inr h1
            · have hdt : d ≠ t := fun e => by
                subst e
                rcases ht i (by rw [dst_ok ho]; exact hd) with h1 | h1
                · exact hiv h1
                · exact h1 (g3 i List.mem_cons_self)
              rw [g5 t (fun j hj => (ht j hj).imp (fun h => List.mem_cons_of_mem _ h) id), lookA_cons, if_neg hdt]
            · rcases List.mem_cons.1 hx with rfl | hx
              · refine ⟨hir, .inl ⟨hia, g3 _ List.mem_cons_self, o, d, ho, hd, hN, readF ts frm, fun t => ?_, fun I ρ F fr L hs => ?_⟩⟩
                · rcases readF_look (ts := ts) (fr := frm) (t := t) with h1 | ⟨h1, h2⟩
                  · exact .inl h1
                  · have hnv : ∀ j, j ∉ val → j ∈ rl → j ∉ val' := fun j h3 h4 h5 => by
                      rcases g4 j h5 with h6 | h6
                      · rcases List.mem_cons.1 h6 with rfl | h6
                        · exact hir h4
                        · exact h3 h6
                      · exact h6.1 h4
                    refine .inr ⟨?_, fun j hj => (hrds t h2 j hj).imp (fun h => ⟨h.1, g3 j (List.mem_cons_of_mem _ h.2)⟩) (fun h => ⟨hnv j h.1 h.2.1, ham _ _ h.2.2⟩)⟩
                    rw [h1, g5 t (fun j hj => (hrds t h2 j hj).imp (fun h => List.mem_cons_of_mem _ h.2) (fun h => hnv j h.1 h.2.1)), lookA_cons, if_neg (hself t h2)]
                · show Acts E.P E.N fr I L o (fun v I' L' => I.le I' ∧ ∃ ρ', RelU I' ρ' v (lookA frm' d) ∧ SR I' ρ' F ⟨readF ts frm, hp, nx⟩ fr L' ∧ Ag ρ ρ')
                  rw [hld]; exact hact I ρ F fr L hs
              · exact g6 x hx
          | false =>
            simp only [cond_false] at h hb4 hb5
            have hiv : i ∈ val := elemN_iff.1 hb4
            obtain ⟨A, hact, hA, hk⟩ := DrawO.at hT h
            obtain ⟨frm', pn', val', g1, g2, g3, g4, g5, g7, g6⟩ := pW_ok hT hok ham ps val pn frm hb5 hk
            have hld : lookA frm' d = A := by
              rw [g5 d (fun j hj => by rw [huniq j hj]; exact .inl hiv), hA]
            refine ⟨frm', pn', val', g1, g2, g3, g4, g5, g7, fun x hx => ?_⟩
            rcases List.mem_cons.1 hx with rfl | hx
            · refine ⟨hir, .inl ⟨hia, g3 _ hiv, o, d, ho, hd, hN, readF ts frm, fun t => ?_, fun I ρ F fr L hs => ?_⟩⟩
              · rcases readF_look (ts := ts) (fr := frm) (t := t) with h1 | ⟨h1, h2⟩
                · exact .inl h1
                · have hnv : ∀ j, j ∉ val → j ∈ rl → j ∉ val' := fun j h3 h4 h5 => by
                    rcases g4 j h5 with h6 | h6
                    · exact h3 h6
                    · exact h6.1 h4
                  refine .inr ⟨?_, fun j hj => (hrds t h2 j hj).imp (fun h => ⟨h.1, g3 j h.2⟩) (fun h => ⟨hnv j h.1 h.2.1, ham _ _ h.2.2⟩)⟩
                  rw [h1, g5 t (fun j hj => (hrds t h2 j hj).imp (fun h => h.2) (fun h => hnv j h.1 h.2.1))]
              · show Acts E.P E.N fr I L o (fun v I' L' => I.le I' ∧ ∃ ρ', RelU I' ρ' v (lookA frm' d) ∧ SR I' ρ' F ⟨readF ts frm, hp, nx⟩ fr L' ∧ Ag ρ ρ')
                rw [hld]; exact hact I ρ F fr L hs
            · exact g6 x hx

/-! ## How things stand -/
abbrev Rec := Nat × Value × List Ent
def AlR (ops : Array Oper) (pn : Pnd) (I : Imm) (fr : Frm) (x : Rec) : Prop := ∃ o d O, ops[x.1]? = some o ∧ o.dst = some d ∧ lookP pn x.1 = some O ∧ Eng.look fr d = some x.2.1 ∧ x.2.1 ≠ .nilFunc ∧ ∀ ρ l, ρ l = x.2.1 → RelO I ρ l O x.2.2 ∧ RelA I ρ x.2.1 (lblA O l)
structure MI (ops : Array Oper) (al : List Nat) (pn : Pnd) (val : List Nat) (frm : List (Nat × AV)) (hp : List (Nat × Obj)) (nx : Nat) (F : List Ent) (ad : List Rec) (T : Array Bool) (I : Imm) (ρ : Nat → Value) (fr : Frm) (L : List Ent) : Prop where
  hpr : ∃ Lh, RelH I ρ hp Lh ∧ L = Lh ++ (ad.flatMap (fun x => x.2.2) ++ F)
  new : ∀ l, nx ≤ l → ρ l = .nilFunc
  rel : ∀ t, (∀ j, dstAt ops j = some t → (T[j]? = some true ∧ j ∈ val) ∨ (T[j]? ≠ some true ∧ j ∉ val)) → lookA frm t = .undef ∨ ∃ v, Eng.look fr t = some v ∧ RelA I ρ v (lookA frm t)
  size : T.size = ops.size
  closed : Closed ops T
  dn : ∀ j, T[j]? = some true → j ∈ val ∨ j ∈ al
  adr : ∀ x ∈ ad, x.1 ∈ al ∧ T[x.1]? = some true ∧ AlR ops pn I fr x
  ada : ∀ j ∈ al, T[j]? = some true → ∃ x ∈ ad, x.1 = j
  adn : (ad.map (·.1)).Nodup
  alv : ∀ j ∈ al, j ∉ val

theorem MI.sees {ops : Array Oper} {al val : List Nat} {pn : Pnd} {frm rfr : List (Nat × AV)} {hp : List (Nat × Obj)} {nx : Nat} {ad : List Rec} {T : Array Bool} {o : Oper} {i : Nat} (h : MI ops al pn val frm hp nx F ad T I ρ fr L) (hTi : T[i]? = some false) (hd : ∀ e ∈ o.after, bnd e = true → T[e.on]? = some true)
    (hr : ∀ t, lookA rfr t = .undef ∨ (lookA rfr t = lookA frm t ∧ ∀ j, dstAt ops j = some t → (predB o j = true ∧ j ∈ val) ∨ (j ∉ val ∧ Anc ops j i))) : SR I ρ (ad.flatMap (fun x => x.2.2) ++ F) ⟨rfr, hp, nx⟩ fr L := by
  refine ⟨fun t => ?_, h.hpr, h.new⟩
  rcases hr t with h1 | ⟨h1, h2⟩
  · exact .inl h1
  · show lookA rfr t = _ ∨ ∃ v, _ ∧ RelA I ρ v (lookA rfr t)
    rw [h1]
    refine h.rel t (fun j hj => ?_)
    rcases h2 j hj with ⟨h3, h4⟩ | ⟨h3, h4⟩
    · obtain ⟨e, he, hb, rfl⟩ := predB_iff.1 h3
      exact .inl ⟨hd e he hb, h4⟩
    · exact .inr ⟨fun hT => (by have := h4.done h.closed hT; rw [hTi] at this; cases this), h3⟩

theorem MI.step {ops : Array Oper} {i : Nat} {al val val' : List Nat} {pn : Pnd} {frm frm' rfr : List (Nat × AV)} {hp hp' : List (Nat × Obj)} {nx nx' : Nat} {ad : List Rec} {T : Array Bool} {o : Oper} {L' : List Ent} {v : Value} (hok : okRegion ops = true) (h : MI ops al pn val frm hp nx F ad T I ρ fr L) (ho : ops[i]? = some o) (hTi : T[i]? = some false)
    (hd : ∀ e ∈ o.after, bnd e = true → T[e.on]? = some true) (hial : i ∉ al) (hv' : ∀ j, j ∈ val' ↔ j = i ∨ j ∈ val) (hle : I.le J) (hs : SR J ρ' (ad.flatMap (fun x => x.2.2) ++ F) ⟨rfr, hp', nx'⟩ fr L') (hag : Ag ρ ρ') (hfr : ∀ t, o.dst ≠ some t → lookA frm' t = lookA frm t)
    (hv : ∀ d, o.dst = some d → RelU J ρ' v (lookA frm' d)) : MI ops al pn val' frm' hp' nx' F ad (T.setIfInBounds i true) J ρ' (dstF o v fr) L' := by
  have hlt := (Array.getElem?_eq_some_iff.1 hTi).1
  have hren : ∀ {u : Value} {a : AV}, RelA I ρ u a → RelA J ρ' u a := fun h => (h.mono hle).ren hag
  have hlook : ∀ t, o.dst ≠ some t → Eng.look (dstF o v fr) t = Eng.look fr t := by
    intro t ht
    unfold dstF
    cases hd : o.dst with
    | none => rfl
    | some d => simp only; rw [look_cons, if_neg (by rintro rfl; exact ht hd)]
  refine ⟨hs.hpr, hs.new, fun t ht => ?_, by rw [Array.size_setIfInBounds, h.size], fun k u hT hu e he hb => ?_, fun j hj => ?_, fun x hx => ?_, fun j hj hT => ?_, h.adn, fun j hj hm => ?_⟩
  · by_cases e : o.dst = some t
    · refine (hv t e).imp id (fun h1 => ⟨v, ?_, h1⟩)
      unfold dstF; rw [e]; simp only; rw [look_cons, if_pos rfl]
    · rw [hlook t e, hfr t e]
      refine (h.rel t (fun j hj => ?_)).imp id (fun ⟨u, h2, h3⟩ => ⟨u, h2, hren h3⟩)
      have hji : j ≠ i := fun e2 => by subst e2; rw [dst_ok ho] at hj; exact e hj
      rcases ht j hj with ⟨h1, h2⟩ | ⟨h1, h2⟩
      · exact .inl ⟨(set_true h1).resolve_left hji, ((hv' j).1 h2).resolve_left hji⟩
      · exact .inr ⟨fun h3 => h1 (set_keep hlt (.inl h3)), fun h3 => h2 ((hv' j).2 (.inr h3))⟩
  · rcases set_true hT with rfl | hT
    · rw [ho] at hu; simp only [Option.some.injEq] at hu; subst hu
      exact set_keep hlt (.inl (hd e he hb))
    · exact set_keep hlt (.inl (h.closed k u hT hu e he hb))
  · rcases set_true hj with rfl | hj
    · exact .inl ((hv' _).2 (.inl rfl))
    · exact (h.dn j hj).imp (fun h => (hv' j).2 (.inr h)) id
  · obtain ⟨h1, h2, u, d, O, k1, k3, k4, k5, k6, k7⟩ := h.adr x hx
    refine ⟨h1, set_keep hlt (.inl h2), u, d, O, k1, k3, k4, ?_, k6, fun ρ l hl => ⟨(k7 ρ l hl).1.mono hle, (k7 ρ l hl).2.mono hle⟩⟩
    rw [hlook d (fun e => by
      have := okRegion_dst hok k1 ho k3 e
      rw [this, hTi] at h2; cases h2)]
    exact k5
  · have hji : j ≠ i := fun e => by subst e; exact hial hj
    exact h.ada j hj ((set_true hT).resolve_left hji)
  · rcases (hv' j).1 hm with rfl | hm
    · exact hial hj
    · exact h.alv j hj hm

/-- A new block that nobody looks at yet. -/
theorem MI.alloc {ops : Array Oper} {i : Nat} {al val : List Nat} {pn : Pnd} {frm : List (Nat × AV)} {hp : List (Nat × Obj)} {nx : Nat} {ad : List Rec} {T : Array Bool} {o : Oper} {d : Nat} {O : Obj} {v : Value} {es L1 : List Ent} {rfr : List (Nat × AV)} (hok : okRegion ops = true) (h : MI ops al pn val frm hp nx F ad T I ρ fr L) (ho : ops[i]? = some o) (hTi : T[i]? = some false)
    (hd : ∀ e ∈ o.after, bnd e = true → T[e.on]? = some true) (hial : i ∈ al) (hod : o.dst = some d) (hO : lookP pn i = some O) (hle : I.le J) (hs1 : SR J ρ (ad.flatMap (fun x => x.2.2) ++ F) ⟨rfr, hp, nx⟩ fr L1) (hn : v ≠ .nilFunc) (hv : ∀ ρ l, ρ l = v → RelO J ρ l O es ∧ RelA J ρ v (lblA O l)) :
    ∃ L', (es ++ L1).Perm L' ∧ MI ops al pn val frm hp nx F ((i, v, es) :: ad) (T.setIfInBounds i true) J ρ ((d, v) :: fr) L' := by
  have hlt := (Array.getElem?_eq_some_iff.1 hTi).1
  have hlook : ∀ t, d ≠ t → Eng.look ((d, v) :: fr) t = Eng.look fr t := fun t ht => by rw [look_cons, if_neg ht]
  obtain ⟨Lh, hrel, rfl⟩ := hs1.hpr
  refine ⟨Lh ++ ((es ++ ad.flatMap (fun x => x.2.2)) ++ F), ?_, ⟨Lh, hrel, by simp⟩, h.new, fun t ht => ?_, by rw [Array.size_setIfInBounds, h.size], fun k u hT hu e he hb => ?_, fun j hj => ?_, fun x hx => ?_, fun j hj hT => ?_, ?_, h.alv⟩
  · rw [List.append_assoc, ← List.append_assoc, ← List.append_assoc Lh]
    exact List.Perm.append_right _ List.perm_append_comm
  · by_cases e : d = t
    · subst e
      rcases ht i (by rw [dst_ok ho]; exact hod) with h1 | h1
      · exact absurd h1.2 (h.alv i hial)
      · exact absurd (set_keep hlt (.inr rfl)) h1.1
    · rw [hlook t e]
      refine (h.rel t (fun j hj => ?_)).imp id (fun ⟨u, h2, h3⟩ => ⟨u, h2, h3.mono hle⟩)
      rcases ht j hj with ⟨h1, h2⟩ | ⟨h1, h2⟩
      · exact .inl ⟨(set_true h1).resolve_left (fun e2 => by subst e2; exact h.alv _ hial h2), h2⟩
      · exact .inr ⟨fun h3 => h1 (set_keep hlt (.inl h3)), h2⟩
  · rcases set_true hT with rfl | hT
    · rw [ho] at hu; simp only [Option.some.injEq] at hu; subst hu
      exact set_keep hlt (.inl (hd e he hb))
    · exact set_keep hlt (.inl (h.closed k u hT hu e he hb))
  · rcases set_true hj with rfl | hj
    · exact .inr hial
    · exact h.dn j hj
  · rcases List.mem_cons.1 hx with rfl | hx
    · exact ⟨hial, set_keep hlt (.inr rfl), o, d, O, ho, hod, hO, by rw [look_cons, if_pos rfl], hn, hv⟩
    · obtain ⟨h1, h2, u, d', O, k1, k3, k4, k5, k6, k7⟩ := h.adr x hx
      refine ⟨h1, set_keep hlt (.inl h2), u, d', O, k1, k3, k4, ?_, k6, fun ρ l hl => ⟨(k7 ρ l hl).1.mono hle, (k7 ρ l hl).2.mono hle⟩⟩
      rw [hlook d' (fun e => by
        subst e
        have := okRegion_dst hok k1 ho k3 hod
        rw [this, hTi] at h2; cases h2)]
      exact k5
  · by_cases e : j = i
    · exact ⟨_, List.mem_cons_self, e.symm⟩
    · obtain ⟨x, hx, hxj⟩ := h.ada j hj ((set_true hT).resolve_left e)
      exact ⟨x, List.mem_cons_of_mem _ hx, hxj⟩
  · rw [List.map_cons, List.nodup_cons]
    refine ⟨fun hm => ?_, h.adn⟩
    obtain ⟨x, hx, hxi⟩ := List.mem_map.1 hm
    have := (h.adr x hx).2.1
    rw [hxi, hTi] at this; cases this

/-- They are looked at from now on. -/
theorem MI.merge {ops : Array Oper} {a : Nat} {al val : List Nat} {pn : Pnd} {frm : List (Nat × AV)} {hp : List (Nat × Obj)} {nx : Nat} {ad : List Rec} {T : Array Bool} {o : Oper} {d : Nat} {O : Obj} (h : MI ops (a :: al) pn val frm hp nx F ad T I ρ fr L) (ho : ops[a]? = some o) (hTa : T[a]? = some true) (hna : a ∉ al)
    (hod : o.dst = some d) (hO : lookP pn a = some O) :
    ∃ L' ad' ρ', L.Perm L' ∧ Ag ρ ρ' ∧ MI ops al pn (a :: val) ((d, lblA O nx) :: frm) ((nx, O) :: hp) (nx + 1) F ad' T I ρ' fr L' := by
  obtain ⟨x, hx, hxa⟩ := h.ada a List.mem_cons_self hTa
  obtain ⟨s, t1, rfl⟩ := List.append_of_mem hx
  obtain ⟨_, _, u, d', O', k1, k3, k4, k5, k6, k7⟩ := h.adr x hx
  rw [hxa, ho] at k1; simp only [Option.some.injEq] at k1; subst k1
  rw [hod] at k3; cases k3
  rw [hxa, hO] at k4; cases k4
  have hag : Ag ρ (bind ρ nx x.2.1) := bind_agree (h.new nx (Nat.le_refl _))
  obtain ⟨hro, hra⟩ := k7 (bind ρ nx x.2.1) nx bind_self
  obtain ⟨Lh, hrel, rfl⟩ := h.hpr
  have hnod := h.adn
  rw [List.map_append, List.map_cons] at hnod
  have hne : ∀ y ∈ s ++ t1, y.1 ≠ a := fun y hy e => by
    have h1 : (s.map (·.1) ++ x.1 :: t1.map (·.1)).Perm (x.1 :: (s.map (·.1) ++ t1.map (·.1))) := List.perm_middle
    have h2 := h1.nodup_iff.1 hnod
    rw [List.nodup_cons] at h2
    refine h2.1 ?_
    rw [hxa, ← e, ← List.map_append]
    exact List.mem_map_of_mem hy
  refine ⟨(x.2.2 ++ Lh) ++ ((s ++ t1).flatMap (fun x => x.2.2) ++ F), s ++ t1, bind ρ nx x.2.1, ?_, hag, ⟨x.2.2 ++ Lh, .cons hro (hrel.ren hag), rfl⟩, fun l hl => ?_, fun t2 ht => ?_, h.size, h.closed, fun j hj => ?_, fun y hy => ?_, fun j hj hT => ?_, ?_, fun j hj hm => ?_⟩
  · rw [List.flatMap_append, List.flatMap_cons, List.flatMap_append]
    refine (List.Perm.append_left Lh (List.Perm.append_right F (List.perm_append_comm_assoc _ _ _))).trans ?_
    rw [List.append_assoc x.2.2, ← List.append_assoc Lh]
    exact List.Perm.append_right _ List.perm_append_comm
  · unfold bind
    rw [if_neg (by omega)]
    exact h.new l (by omega)
  · rw [lookA_cons]
    by_cases e : d = t2
    · subst e
      rw [if_pos rfl]
      exact .inr ⟨x.2.1, k5, hra⟩
    · rw [if_neg e]
      refine (h.rel t2 (fun j hj => ?_)).imp id (fun ⟨u, h2, h3⟩ => ⟨u, h2, h3.ren hag⟩)
      rcases ht j hj with ⟨h1, h2⟩ | ⟨h1, h2⟩
      · refine .inl ⟨h1, (List.mem_cons.1 h2).resolve_left (fun e2 => ?_)⟩
        subst e2
        rw [dst_ok ho, hod] at hj
        simp only [Option.some.injEq] at hj; exact e hj
      · exact .inr ⟨h1, fun h3 => h2 (List.mem_cons_of_mem _ h3)⟩
  · rcases h.dn j hj with h1 | h1
    · exact .inl (List.mem_cons_of_mem _ h1)
    · rcases List.mem_cons.1 h1 with rfl | h1
      · exact .inl List.mem_cons_self
      · exact .inr h1
  · have hy' : y ∈ s ++ x :: t1 := by
      rcases List.mem_append.1 hy with h1 | h1
      · exact List.mem_append_left _ h1
      · exact List.mem_append_right _ (List.mem_cons_of_mem _ h1)
    obtain ⟨h1, h2⟩ := h.adr y hy'
    exact ⟨(List.mem_cons.1 h1).resolve_left (hne y hy), h2⟩
  · obtain ⟨y, hy, hyj⟩ := h.ada j (List.mem_cons_of_mem _ hj) hT
    have hja : j ≠ a := fun e => hna (e ▸ hj)
    refine ⟨y, ?_, hyj⟩
    rcases List.mem_append.1 hy with h1 | h1
    · exact List.mem_append_left _ h1
    · rcases List.mem_cons.1 h1 with rfl | h1
      · exact absurd (hyj.symm.trans hxa) hja
      · exact List.mem_append_right _ h1
  · have h1 : (s.map (·.1) ++ x.1 :: t1.map (·.1)).Perm (x.1 :: (s.map (·.1) ++ t1.map (·.1))) := List.perm_middle
    have h2 := h1.nodup_iff.1 hnod
    rw [List.nodup_cons] at h2
    rw [List.map_append]; exact h2.2
  · rcases List.mem_cons.1 hm with rfl | hm
    · exact hna hj
    · exact h.alv j (List.mem_cons_of_mem _ hj) hm

theorem alB_ok {all : Array Oper} {rl : List Nat} : ∀ {al : List Nat}, alB all rl al = true → al.Nodup ∧ ∀ i ∈ al, i ∉ rl
  | [], _ => ⟨List.nodup_nil, fun i hi => by cases hi⟩
  | a :: al, h => by
    unfold alB at h
    simp only [Bool.and_eq_true, Bool.not_eq_true'] at h
    obtain ⟨h2, h3, h4⟩ := h
    obtain ⟨k1, k2⟩ := alB_ok h4
    refine ⟨List.nodup_cons.2 ⟨fun hm => (by rw [elemN_iff.2 hm] at h3; cases h3), k1⟩, fun i hi => ?_⟩
    rcases List.mem_cons.1 hi with rfl | hi
    · exact fun hm => (by rw [elemN_iff.2 hm] at h2; cases h2)
    · exact k2 i hi

theorem alW_ok {ops : Array Oper} {T : Array Bool} {pn : Pnd} {k : List (Nat × AV) → List (Nat × Obj) → Nat → Prop} : ∀ (al : List Nat) (val : List Nat) (frm : List (Nat × AV)) (hp : List (Nat × Obj)) (nx : Nat) (ad : List Rec) (ρ : Nat → Value) (L : List Ent), al.Nodup → (∀ j ∈ al, T[j]? = some true) → alW ops al pn frm hp nx k → MI ops al pn val frm hp nx F ad T I ρ fr L →
    ∃ val' frm' hp' nx' ρ' L', k frm' hp' nx' ∧ MI ops [] pn val' frm' hp' nx' F [] T I ρ' fr L' ∧ L.Perm L' ∧ Ag ρ ρ' ∧ ∀ j, j ∈ val' ↔ j ∈ al ++ val
  | [], val, frm, hp, nx, ad, ρ, L, _, _, h, hM => by
    have : ad = [] := by
      cases ad with
      | nil => rfl
      | cons x _ => have := (hM.adr x List.mem_cons_self).1; cases this
    subst this
    exact ⟨val, frm, hp, nx, ρ, L, h, hM, .refl _, Ag.refl, fun j => by simp⟩
  | a :: al, val, frm, hp, nx, ad, ρ, L, hn, hall, h, hM => by
    unfold alW at h
    split at h
    · rename_i o ho
      split at h
      · rename_i d hod
        split at h
        · rename_i O hO
          obtain ⟨hna, hn⟩ := List.nodup_cons.1 hn
          obtain ⟨L1, ad1, ρ1, h1, h2, h3⟩ := hM.merge ho (hall a List.mem_cons_self) hna hod hO
          obtain ⟨val', frm', hp', nx', ρ', L', k1, k2, k3, k4, k5⟩ := alW_ok al _ _ _ _ ad1 ρ1 L1 hn (fun j hj => hall j (List.mem_cons_of_mem _ hj)) h h3
          exact ⟨val', frm', hp', nx', ρ', L', k1, k2, h1.trans k3, h2.trans k4, fun j => (k5 j).trans (by simp only [List.mem_append, List.mem_cons]; grind)⟩
        · exact h.elim
      · exact h.elim
    · exact h.elim
theorem MI.val {ops : Array Oper} {al val val' : List Nat} {pn : Pnd} {frm : List (Nat × AV)} {hp : List (Nat × Obj)} {nx : Nat} {ad : List Rec} {T : Array Bool} (h : MI ops al pn val frm hp nx F ad T I ρ fr L) (hv : ∀ j, j ∈ val' ↔ j ∈ val) : MI ops al pn val' frm hp nx F ad T I ρ fr L :=
  ⟨h.hpr, h.new, fun t ht => h.rel t (fun j hj => (ht j hj).imp (fun h => ⟨h.1, (hv j).1 h.2⟩) (fun h => ⟨h.1, fun h3 => h.2 ((hv j).2 h3)⟩)), h.size, h.closed, fun j hj => (h.dn j hj).imp (hv j).2 id, h.adr, h.ada, h.adn, fun j hj hm => h.alv j hj ((hv j).1 hm)⟩
theorem covB_ok {am rl rd ps : List Nat} {n : Nat} (h : covB am rl rd ps n = true) {i : Nat} (hi : i < n) : i ∈ ps ∨ i ∈ rl ∨ (∃ k, k ∈ rl ∧ k ∉ rd ∧ hasB am i k = true) ∨ ∃ k, k ∈ rd ∧ hasB am k i = true := by
  unfold covB at h
  rw [List.all_eq_true] at h
  have := h i (List.mem_range.2 hi)
  simp only [Bool.or_eq_true, List.any_eq_true, Bool.and_eq_true, Bool.not_eq_true'] at this
  rcases this with h1 | h1 | ⟨k, h1, h2, h3⟩ | ⟨k, h1, h2⟩
  · exact .inl (elemN_iff.1 h1)
  · exact .inr (.inl (elemN_iff.1 h1))
  · exact .inr (.inr (.inl ⟨k, h1, fun hm => (by rw [elemN_iff.2 hm] at h2; cases h2), h3⟩))
  · exact .inr (.inr (.inr ⟨k, h1, h2⟩))

/-- What a step asks of the one that changes. -/
structure ROk (E : Env) (all : Array Oper) (am rl : List Nat) (rest : List Stg) (rd al val : List Nat) (i : Nat) (ts : List Nat) (o : Oper) : Prop where
  ho : all[i]? = some o
  hN : okD E.N o.dst = true
  rds : rdsB am rl all i o val ts = true
  irl : i ∈ rl
  ird : i ∉ rd
  ial : i ∉ al
  nx : ∀ k ∈ rl, k ∈ rd ∨ k = i ∨ hasB am k i = true
theorem ROk.mk' {all : Array Oper} {am rl : List Nat} {rest : List Stg} {rd al val : List Nat} {i : Nat} {ts : List Nat} {b : Bool} (h : ((match all[i]? with
          | some o => okD E.N o.dst && rdsB am rl all i o val ts
          | none => false) && (elemN i rl && (!elemN i rd && (!elemN i al && ((rl.all fun k => elemN k rd || (Nat.beq k i || hasB am k i)) && b))))) = true) : (∃ o, ROk E all am rl rest rd al val i ts o) ∧ b = true := by
  simp only [Bool.and_eq_true, Bool.not_eq_true', List.all_eq_true, Bool.or_eq_true] at h
  obtain ⟨h1, h2, h3, h4, h5, h6⟩ := h
  split at h1
  · rename_i o ho
    rw [Bool.and_eq_true] at h1
    refine ⟨⟨o, ho, h1.1, h1.2, elemN_iff.1 h2, fun hm => (by rw [elemN_iff.2 hm] at h3; cases h3), fun hm => (by rw [elemN_iff.2 hm] at h4; cases h4), fun k hk => ?_⟩, h6⟩
    rcases h5 k hk with h | h | h
    · exact .inl (elemN_iff.1 h)
    · exact .inr (.inl (Nat.eq_of_beq_eq_true h))
    · exact .inr (.inr h)
  · cases h1

theorem mix_ok (hT : TOk E.P E.T) {ops : Array Oper} {am rl : List Nat} {K : St → Prop} {Q0 : Exit → Act → World → Prop} {I0 : Imm} {ρ0 : Nat → Value} (hok : okRegion ops = true) (hg : ∀ (i : Nat) (o : Oper), ops[i]? = some o → o.guard = none) (ham : ∀ u j, hasB am u j = true → Anc ops u j)
    (hk : ∀ fr' I' L' a' w', Fr E.N fr' a' → HS I' L' w' → KS I0 ρ0 F K fr' I' L' → Q0 .normal a' w') :
    ∀ (pl : List Stg) (rd al val : List Nat) (pn : Pnd) (frm : List (Nat × AV)) (hp : List (Nat × Obj)) (nx : Nat), alB ops rl al = true → stB ops E.N am rl pl rd al val = true → (∀ k ∈ rd, k ∈ rl) → mixW E ops pl al pn frm hp nx K →
      ∀ (fuel : Nat) (T : Array Bool) (a : Act) (w : World) (ad : List Rec) (I : Imm) (ρ : Nat → Value) (fr : Frm) (L : List Ent), cnt T ≤ fuel → (∀ k ∈ rl, T[k]? = some true ↔ k ∈ rd) → MI ops al pn val frm hp nx F ad T I ρ fr L → Fr E.N fr a → HS I L w → I0.le I → Ag ρ0 ρ → wpAny E.P .any ops Q0 fuel T a w := by
  intro pl
  induction pl with
  | nil => intro rd al val pn frm hp nx _ h; cases h
  | cons s rest IH =>
    intro rd al val0 pn0 frm0 hp nx hal hst hrl hmx
    unfold stB at hst
    unfold mixW at hmx
    obtain ⟨frm, pn, val, hst, hmx, hsub, hnew, hkeep, hpn, hobl⟩ := pW_ok hT hok ham s.ps val0 pn0 frm0 hst hmx
    rw [Bool.and_eq_true] at hst
    obtain ⟨hcov, hst⟩ := hst
    obtain ⟨hnd, _⟩ := alB_ok hal
    -- from here on with all that may come told
    suffices hmain : ∀ (fuel : Nat) (T : Array Bool) (a : Act) (w : World) (ad : List Rec) (I : Imm) (ρ : Nat → Value) (fr : Frm) (L : List Ent), cnt T ≤ fuel → (∀ k ∈ rl, T[k]? = some true ↔ k ∈ rd) → MI ops al pn val frm hp nx F ad T I ρ fr L → Fr E.N fr a → HS I L w → I0.le I → Ag ρ0 ρ → wpAny E.P .any ops Q0 fuel T a w by
      intro fuel T a w ad I ρ fr L hc hrd hM ha hw hle hag
      refine hmain fuel T a w ad I ρ fr L hc hrd ⟨hM.hpr, hM.new, fun t ht => ?_, hM.size, hM.closed, fun j hj => (hM.dn j hj).imp (hsub j) id, fun x hx => (by obtain ⟨h1, h2, u, d, O, k1, k3, k4, k5⟩ := hM.adr x hx; exact ⟨h1, h2, u, d, O, k1, k3, hpn _ _ k4, k5⟩), hM.ada, hM.adn, fun j hj hm => ?_⟩ ha hw hle hag
      · have hin : ∀ j, dstAt ops j = some t → (T[j]? = some true ∧ j ∈ val0) ∨ (T[j]? ≠ some true ∧ j ∉ val) := fun j hj => by
          rcases ht j hj with ⟨h1, h2⟩ | h1
          · refine .inl ⟨h1, ?_⟩
            rcases hM.dn j h1 with h3 | h3
            · exact h3
            · rcases hnew j h2 with h4 | h4
              · exact h4
              · exact absurd h3 h4.2
          · exact .inr h1
        rw [hkeep t (fun j hj => (hin j hj).imp (fun h => h.2) (fun h => h.2))]
        exact hM.rel t (fun j hj => (hin j hj).imp id (fun h => ⟨h.1, fun h3 => h.2 (hsub j h3)⟩))
      · rcases hnew j hm with h4 | h4
        · exact hM.alv j hj h4
        · exact h4.2 hj
    have hend : ∀ (T : Array Bool) (a : Act) (w : World) (ad : List Rec) (I : Imm) (ρ : Nat → Value) (fr : Frm) (L : List Ent), (∀ i, i < ops.size → T[i]? = some true) → (∀ k ∈ rl, T[k]? = some true ↔ k ∈ rd) → MI ops al pn val frm hp nx F ad T I ρ fr L → Fr E.N fr a → HS I L w → I0.le I → Ag ρ0 ρ → Q0 .normal a w := by
      intro T a w ad I ρ fr L hall hrd hM ha hw hle hag
      cases hr : s.r with
      | some q =>
        obtain ⟨i, ts⟩ := q
        rw [hr] at hst
        simp only at hst
        have : ∃ o val2 al2, ROk E ops am rl rest rd al2 val2 i ts o := by
          cases hb : eqNL s.al [] with
          | true => rw [hb] at hst; simp only [cond_true] at hst; obtain ⟨⟨o, h⟩, _⟩ := ROk.mk' (E := E) (rest := rest) hst; exact ⟨o, _, _, h⟩
          | false =>
            rw [hb] at hst; simp only [cond_false] at hst
            rw [Bool.and_eq_true, Bool.and_eq_true] at hst
            obtain ⟨⟨o, h⟩, _⟩ := ROk.mk' (E := E) (rest := rest) hst.2.2
            exact ⟨o, _, _, h⟩
        obtain ⟨o, val2, al2, h⟩ := this
        exact absurd ((hrd i h.irl).1 (hall i (Array.getElem?_eq_some_iff.1 h.ho).1)) h.ird
      | none =>
        rw [hr] at hst
        simp only [Bool.and_eq_true] at hst
        have h1 := eqNL_ok hst.1
        have h2 := eqNL_ok hst.2.1
        rw [h1, hr] at hmx
        subst h2
        have had : ad = [] := by
          cases ad with
          | nil => rfl
          | cons x _ => have := (hM.adr x List.mem_cons_self).1; cases this
        subst had
        refine hk fr I L a w ha hw ⟨hle, ρ, ⟨frm, hp, nx⟩, ⟨fun t => hM.rel t (fun j hj => ?_), hM.hpr, hM.new⟩, hag, hmx⟩
        have hlt : j < ops.size := by
          unfold dstAt at hj
          cases hq : ops[j]? with
          | none => rw [hq] at hj; cases hj
          | some u => exact (Array.getElem?_eq_some_iff.1 hq).1
        exact .inl ⟨hall j hlt, (hM.dn j (hall j hlt)).resolve_right (fun h => by cases h)⟩
    intro fuel
    induction fuel with
    | zero =>
      intro T a w ad I ρ fr L hc hrd hM ha hw hle hag
      have hall := cnt_zero (Nat.le_zero.1 hc)
      rw [hM.size] at hall
      refine ⟨?_, hend T a w ad I ρ fr L hall hrd hM ha hw hle hag⟩
      cases hr : Region.ready .any ops T with
      | nil => rfl
      | cons j l =>
        exfalso
        have hj : j ∈ Region.ready .any ops T := by rw [hr]; exact List.mem_cons_self
        obtain ⟨o, ho, hTj, _⟩ := ready_iff.1 hj
        have h1 := unl hM.size ho hTj
        rw [hall j (Array.getElem?_eq_some_iff.1 ho).1] at h1; cases h1
    | succ fuel ih =>
      intro T a w ad I ρ fr L hc hrd hM ha hw hle hag
      refine ⟨fun hr => hend T a w ad I ρ fr L (all_listed hok hM.size hr) hrd hM ha hw hle hag, fun i hi => ?_⟩
      obtain ⟨o, ho, hTi, hd⟩ := ready_iff.1 hi
      have hTf := unl hM.size ho hTi
      have hd' : ∀ e ∈ o.after, bnd e = true → T[e.on]? = some true := fun e he hb => getD_true (hd e he hb)
      have hilt := (Array.getElem?_eq_some_iff.1 ho).1
      have hcn : cnt (T.setIfInBounds i true) ≤ fuel := by have := cnt_set hTf; omega
      have hnot : T[i]? ≠ some true := by rw [hTf]; simp
      have hrds : i ∉ rl → ∀ k ∈ rl, (T.setIfInBounds i true)[k]? = some true ↔ k ∈ rd := fun hirl k hk => by
        have hki : i ≠ k := fun e => hirl (e ▸ hk)
        rw [Array.getElem?_setIfInBounds_ne hki]
        exact hrd k hk
      have hwant : Region.wanted o (yielded ops a.tmps) = true := wantF_spec ha (by unfold wantF; rw [hg i o ho])
      rcases covB_ok hcov hilt with hc1 | hc2 | ⟨k, k1, k2, k3⟩ | ⟨k, k1, k2⟩
      · obtain ⟨x, hx, rfl⟩ := List.mem_map.1 hc1
        obtain ⟨q2, hcase⟩ := hobl x hx
        rcases hcase with ⟨q3, q1, o', d, ho', hod, hN, rfr, hfr, hact⟩ | ⟨hc3, o', d, O, ho', hod, hN, hO, rfr, hfr, hact⟩
        rotate_left
        · rw [ho] at ho'; simp only [Option.some.injEq] at ho'; subst ho'
          have hsr := hM.sees hTf hd' hfr
          simp only [wpOp, ho]
          rw [if_pos hwant]
          left
          refine hact I ρ _ fr L hsr a w _ _ ha hw (fun v I' L' w' hw' hR => ?_)
          obtain ⟨hle', es, L1, rfl, hs1, hn, hv⟩ := hR
          obtain ⟨L2, hperm, hM2⟩ := hM.alloc hok ho hTf hd' hc3 hod hO hle' hs1 hn hv
          have hds : dstF o v fr = (d, v) :: fr := by unfold dstF; rw [hod]
          exact ih _ _ w' _ I' ρ _ L2 hcn (hrds q2) hM2 (hds ▸ Fr.dst ha hN v) (hw'.perm hperm) (hle.trans hle') hag
        rw [ho] at ho'; simp only [Option.some.injEq] at ho'; subst ho'
        have hsr := hM.sees hTf hd' hfr
        simp only [wpOp, ho]
        rw [if_pos hwant]
        left
        refine hact I ρ _ fr L hsr a w _ _ ha hw (fun v I' L' w' hw' hR => ?_)
        obtain ⟨hle', ρ', hv, hs', hag'⟩ := hR
        exact ih _ _ w' ad I' ρ' (dstF o v fr) L' hcn (hrds q2) (hM.step hok ho hTf hd' q3 (fun j => ⟨.inr, fun h => h.elim (fun e => e ▸ q1) id⟩) hle' hs' hag' (fun t _ => rfl) (fun d' hd2 => by rw [hod] at hd2; simp only [Option.some.injEq] at hd2; subst hd2; exact hv)) (Fr.dst ha hN v) hw' (hle.trans hle') (hag.trans hag')
      · -- the one that changes
        have hird : i ∉ rd := fun hm => hnot ((hrd i hc2).2 hm)
        cases hr : s.r with
        | none =>
          rw [hr] at hst
          simp only [Bool.and_eq_true, List.all_eq_true] at hst
          exact absurd (elemN_iff.1 (hst.2.2 i hc2)) hird
        | some q =>
          obtain ⟨i0, ts⟩ := q
          rw [hr] at hst hmx
          simp only at hst
          have hR : ∀ (al2 val2 : List Nat) (pn2 : Pnd) (frm2 : List (Nat × AV)) (hp2 : List (Nat × Obj)) (nx2 : Nat) (ad2 : List Rec) (ρ2 : Nat → Value) (L2 : List Ent) (o2 : Oper), ROk E ops am rl rest rd al2 val2 i0 ts o2 → alB ops rl al2 = true → stB ops E.N am rl rest (i0 :: rd) al2 (i0 :: val2) = true →
              (match ops[i0]? with
                | some o => frcF (readF ts frm2) fun rfr => stepW E o.op ⟨rfr, hp2, nx2⟩ (fun a st => frcA 3 a fun a => frcT st fun st => match st with
                  | ⟨_, hp, nx⟩ => match o.dst with
                    | some d => mixW E ops rest al2 pn2 ((d, a) :: frm2) hp nx K
                    | none => mixW E ops rest al2 pn2 frm2 hp nx K)
                | none => False) → MI ops al2 pn2 val2 frm2 hp2 nx2 F ad2 T I ρ2 fr L2 → HS I L2 w → Ag ρ0 ρ2 → wpOp E.P ops Q0 i (wpAny E.P .any ops Q0 fuel (T.setIfInBounds i true)) a w := by
            intro al2 val2 pn2 frm2 hp2 nx2 ad2 ρ2 L2 o2 hro hal2 hst2 hb hM2 hw2 hag2
            have hii : i = i0 := by
              rcases hro.nx i hc2 with h1 | h1 | h1
              · exact absurd h1 hird
              · exact h1
              · exact absurd ((hrd i0 hro.irl).1 ((ham _ _ h1).ready hM.closed ho hd')) hro.ird
            subst hii
            rw [ho] at hb
            simp only at hb
            have hoo := hro.ho
            rw [ho] at hoo; simp only [Option.some.injEq] at hoo; subst hoo
            have hsr := hM2.sees (rfr := readF ts frm2) hTf hd' (fun t => by
              rcases readF_look (ts := ts) (fr := frm2) (t := t) with h1 | ⟨h1, h2⟩
              · exact .inl h1
              · exact .inr ⟨h1, fun j hj => (rdsB_ok hro.rds t h2 j hj).imp id (fun h => ⟨h.1, ham _ _ h.2.2⟩)⟩)
            simp only [wpOp, ho]
            rw [if_pos hwant]
            left
            refine stepW_ok (N := E.N) hT (frcF_ok hb) I ρ2 _ fr L2 hsr a w _ _ ha hw2 (fun v I' L' w' hw' hr => ?_)
            obtain ⟨hle', ρ', av, st', h1, h2, h3, h4⟩ := hr
            replace h4 := frcT_ok (frcA_ok 3 av h4)
            obtain ⟨f', hp', n'⟩ := st'
            simp only at h4
            have hrd2 : ∀ k ∈ rl, (T.setIfInBounds i true)[k]? = some true ↔ k ∈ i :: rd := fun k hk => by
              by_cases e : i = k
              · subst e
                exact ⟨fun _ => List.mem_cons_self, fun _ => set_keep (Array.getElem?_eq_some_iff.1 hTf).1 (.inr rfl)⟩
              · rw [Array.getElem?_setIfInBounds_ne e, hrd k hk]
                exact ⟨List.mem_cons_of_mem _, fun h => (List.mem_cons.1 h).resolve_left (fun e2 => e e2.symm)⟩
            have hrl2 : ∀ k ∈ i :: rd, k ∈ rl := fun k hk => by
              rcases List.mem_cons.1 hk with rfl | hk
              · exact hc2
              · exact hrl k hk
            cases hdd : o.dst with
            | none =>
              rw [hdd] at h4
              exact IH (i :: rd) al2 (i :: val2) pn2 frm2 hp' n' hal2 hst2 hrl2 h4 fuel _ _ w' ad2 I' ρ' (dstF o v fr) L' hcn hrd2 (hM2.step hok ho hTf hd' hro.ial (fun j => List.mem_cons) hle' h2 h3 (fun t _ => rfl) (fun d' hd2 => by rw [hdd] at hd2; cases hd2)) (hdd ▸ Fr.dst ha hro.hN v) hw' (hle.trans hle') (hag2.trans h3)
            | some d =>
              rw [hdd] at h4
              exact IH (i :: rd) al2 (i :: val2) pn2 ((d, av) :: frm2) hp' n' hal2 hst2 hrl2 h4 fuel _ _ w' ad2 I' ρ' (dstF o v fr) L' hcn hrd2 (hM2.step hok ho hTf hd' hro.ial (fun j => List.mem_cons) hle' h2 h3 (fun t ht => by rw [lookA_cons, if_neg (by rintro rfl; exact ht hdd)]) (fun d' hd2 => by rw [hdd] at hd2; simp only [Option.some.injEq] at hd2; subst hd2; rw [lookA_cons, if_pos rfl]; exact h1)) (hdd ▸ Fr.dst ha hro.hN v) hw' (hle.trans hle') (hag2.trans h3)
          cases hb : eqNL s.al [] with
          | true =>
            rw [hb] at hst; simp only [cond_true] at hst
            rw [eqNL_ok hb] at hmx
            simp only [alW, show eqNL [] [] = true from rfl, cond_true] at hmx
            obtain ⟨⟨o2, h⟩, h'⟩ := ROk.mk' (E := E) (rest := rest) hst
            exact hR al val pn frm hp nx ad ρ L o2 h hal h' hmx hM hw hag
          | false =>
            rw [hb] at hst; simp only [cond_false] at hst
            rw [Bool.and_eq_true, Bool.and_eq_true] at hst
            obtain ⟨⟨o2, h⟩, h'⟩ := ROk.mk' (E := E) (rest := rest) hst.2.2
            have hii : i = i0 := by
              rcases h.nx i hc2 with h1 | h1 | h1
              · exact absurd h1 hird
              · exact h1
              · exact absurd ((hrd i0 h.irl).1 ((ham _ _ h1).ready hM.closed ho hd')) h.ird
            rw [hb] at hmx
            simp only [cond_false] at hmx
            rw [eqNL_ok hst.1] at hmx
            have hall : ∀ j ∈ al, T[j]? = some true := fun j hj => by
              have h5 := List.all_eq_true.1 hst.2.1 j hj
              rw [← hii] at h5
              exact (ham _ _ h5).ready hM.closed ho hd'
            obtain ⟨val', frm', hp', nx', ρ', L', k1, k2, k3, k4, k5⟩ := alW_ok al val frm hp nx ad ρ L hnd hall hmx hM
            exact hR [] (al ++ val) pn frm' hp' nx' [] ρ' L' o2 ⟨h.ho, h.hN, h.rds, h.irl, h.ird, fun hm => (by cases hm), h.nx⟩ rfl h' k1 (k2.val (fun j => (k5 j).symm)) (hw.perm k3) (hag.trans k4)
      · have hkr : k ∈ rl := k1
        exact absurd ((hrd k hkr).1 ((ham _ _ k3).ready hM.closed ho hd')) k2
      · exact absurd ((ham _ _ k2).done hM.closed ((hrd k (hrl k k1)).2 k1)) hnot
inductive DrawI (E : Env) (all : Array Oper) (st : St) (K : St → Prop) : Prop where
  | mk (m : Nat) (rs : List (List Nat)) (h : drawOK all m rs = true) (k : drawW E all m [] rs (all.toList.take m) st.fr st.hp st.nx K) : DrawI E all st K
  | mkT (m : Nat) (rs : List (List Nat)) (fl : List (Nat × Nat × Nat)) (h : drawOKT all E.N m fl rs = true) (k : drawW E all m fl rs (all.toList.take m) (hideL fl st.fr) st.hp st.nx K) : DrawI E all st K
  | mix (pl : List Stg) (al : List Nat) (h : mixOK E all pl al = true) (k : mixW E all pl al [] st.fr st.hp st.nx K) : DrawI E all st K

theorem DrawI.ok (hT : TOk E.P E.T) (hm : E.P.follows .mixedOrders = true) {id : Nat} {l : List Oper} {K : St → Prop} {Q : Post} (h : DrawI E l.toArray st K) (hs : SR I ρ F st fr L) (hQ : ∀ fr' I' L', KS I ρ F K fr' I' L' → Q .normal fr' I' L') : Cd E.P E.N (.region id l.toArray true) fr I L Q := by
  have hrep : ∀ k : Nat, (Array.replicate l.toArray.size false)[k]? ≠ some true := by
    intro k hk
    have := (Array.getElem?_eq_some_iff.1 hk).1
    simp at this
    rw [Array.getElem?_replicate] at hk
    simp [this] at hk
  have hcnt : cnt (Array.replicate l.toArray.size false) ≤ l.toArray.size := by
    unfold cnt
    refine Nat.le_trans (List.length_filter_le _ _) ?_
    simp
  cases h with
  | mk m rs hdo h =>
    unfold drawOK at hdo
    rw [Bool.and_eq_true, Bool.and_eq_true] at hdo
    obtain ⟨hgo, hmb, hrd⟩ := hdo
    obtain ⟨hok, htl⟩ := goB_all hgo
    have hml : m ≤ l.toArray.size := Nat.le_of_ble_eq_true hmb
    have hno : ∀ {p : Nat × Nat × Nat → Prop}, ∀ x ∈ ([] : List (Nat × Nat × Nat)), p x := fun x hx => by cases hx
    obtain ⟨A, frm, hfree, _, _, hsees, hops⟩ := drawW_ok (base := lookA st.fr) hT hok hml hno _ rs 0 st.fr (fun _ => .undef) hrd (by simp) (Nat.zero_le _) (fun j hj => by omega) hno hno (fun t => .inr (.inr ⟨fun k hk => by omega, rfl⟩)) h
    intro a w ha hw
    refine wp_region_any hm ?_
    refine draw_core (I0 := I) (ρ0 := ρ) (A := A) (F := F) (base := lookA st.fr) (hp := st.hp) (nx := st.nx) (fl := []) hok hml (fun j o hj ho _ => ⟨(htl j o hj ho).1, fun i hi _ => by obtain ⟨k, a, b, c⟩ := (htl j o hj ho).2 i hi; exact ⟨k, a, b, hno, c⟩⟩) hno hno hfree (fun fuel T a w I' ρ' fr' L' hc hall hTI ha hw hle hag => ?_) _ (Array.replicate l.toArray.size false) a _ I ρ fr L hcnt ⟨hs.hpr, hs.new, fun t _ => hs.frr t, fun k t _ hT => absurd hT (hrep k), by simp, fun k o hT => absurd hT (hrep k), fun k hT => absurd hT (hrep k), hno⟩ ha hw.drew (Imm.le_refl _) Ag.refl
    have hsr : SR I' ρ' F ⟨frm, st.hp, st.nx⟩ fr' L' := hTI.sees hsees (Nat.le_refl _) (fun k _ hk => hall k hk hno)
    exact tail_ok hT hok htl (fun fr2 I2 L2 a2 w2 h1 h2 h3 => ⟨fr2, I2, L2, h1, h2, hQ _ _ _ h3⟩) _ m fuel T a w _ I' ρ' fr' L' rfl (Nat.le_refl _) hml (fun k => ⟨fun hk => (hTI.free k hk).resolve_right (fun ⟨x, hx, _⟩ => by cases hx), fun hk => hall k hk hno⟩) hTI.size hTI.closed hc (by simpa [endW] using hops) hsr ha hw hle hag
  | mkT m rs fl hdo h =>
    unfold drawOKT at hdo
    simp only [Bool.and_eq_true] at hdo
    obtain ⟨hgo, htlb, hall, hmb, hrd⟩ := hdo
    obtain ⟨hok, _⟩ := goB_all hgo
    have hml : m ≤ l.toArray.size := Nat.le_of_ble_eq_true hmb
    have hfp : ∀ x ∈ fl, FltP l.toArray E.N m x := allF_ok hall
    have htl : tailF l.toArray m fl := fun j o hj ho hnf => tlB_ok hok _ 0 0 (by simp) (fun j hj => by simp at hj) htlb j o (Nat.zero_le _) hj ho hnf
    obtain ⟨A, frm, hfree, hflt, hS, hsees, hops⟩ := drawW_ok (base := lookA (hideL fl st.fr)) hT hok hml hfp _ rs 0 (hideL fl st.fr) (fun _ => .undef) hrd (by simp) (Nat.zero_le _) (fun j hj => by omega) (fun x _ hx => by omega) (fun x _ hx => by omega) (fun t => .inr (.inr ⟨fun k hk => by omega, rfl⟩)) h
    intro a w ha hw
    refine wp_region_any hm ?_
    have hbase : ∀ x ∈ fl, lookA (hideL fl st.fr) x.2.1 = .undef := fun x hx => by
      rcases hideL_look fl st.fr x.2.1 with ⟨_, h1⟩ | ⟨h1, _⟩
      · exact h1
      · exact absurd rfl (h1 x hx)
    have hend : (fl = [] ∧ opsW E l.toArray (l.toArray.toList.drop m) ⟨frm, st.hp, st.nx⟩ K) ∨ (fltOK l.toArray m frm fl = true ∧ tailW E fl (l.toArray.toList.drop m) frm st.hp st.nx K) := by
      unfold endW at hops
      split at hops
      · exact .inl ⟨rfl, hops⟩
      · cases hb : fltOK l.toArray m frm _ with
        | false => rw [hb] at hops; exact hops.elim
        | true => rw [hb] at hops; exact .inr ⟨rfl, hops⟩
    have hfo : ∀ x ∈ fl, m ≤ x.1 → ∃ o a, l.toArray[x.1]? = some o ∧ fltA o.op (lookA frm x.2.2) = some a := by
      rcases hend with ⟨rfl, _⟩ | ⟨hb, _⟩
      · intro x hx; cases hx
      · exact fltOK_ok hb
    -- what the slots of those that come at any time tell
    have hsrc : ∀ x ∈ fl, ∀ o a, l.toArray[x.1]? = some o → fltA o.op (lookA frm x.2.2) = some a → FltAt l.toArray m (lookA (hideL fl st.fr)) A x a := fun x hx o a ho hfa => by
      obtain ⟨o', ho', hop, hud, hN, hgn, hwr⟩ := hfp x hx
      rw [ho] at ho'; simp only [Option.some.injEq] at ho'; subst ho'
      refine ⟨o, ho, ?_⟩
      rcases hsees x.2.2 with h1 | ⟨k, _, h2, h3, h4⟩ | ⟨h1, h2⟩
      · rw [h1] at hfa; exact (fltA_undef hfa).elim
      · rw [h4] at hfa
        unfold dstAt at h3
        cases hq : l.toArray[k]? with
        | none => rw [hq] at h3; cases h3
        | some q =>
          rw [hq] at h3
          obtain ⟨ee, he, hbe, hon⟩ := predB_iff.1 (hwr k q hq h3).2
          have := okRegion_edge hok ho ee he hbe
          exact .inl ⟨k, q, by omega, h2, hq, h3, hfa⟩
      · rw [h2] at hfa; exact .inr ⟨h1, hfa⟩
    have hft : ∀ x ∈ fl, (m ≤ x.1 → lookA (hideL fl st.fr) x.2.1 = .undef) ∧ ∃ a, FltAt l.toArray m (lookA (hideL fl st.fr)) A x a ∧ (x.1 < m → A x.1 = a) := fun x hx => by
      refine ⟨fun _ => hbase x hx, ?_⟩
      rcases Nat.lt_or_ge x.1 m with h1 | h1
      · exact ⟨A x.1, hflt x hx h1, fun _ => rfl⟩
      · obtain ⟨o, a, ho, hfa⟩ := hfo x hx h1
        exact ⟨a, hsrc x hx o a ho hfa, fun h2 => by omega⟩
    have hs' : SR I ρ F ⟨hideL fl st.fr, st.hp, st.nx⟩ fr L := ⟨hs.frr.hideL fl, hs.hpr, hs.new⟩
    refine draw_core (I0 := I) (ρ0 := ρ) (A := A) (F := F) (base := lookA (hideL fl st.fr)) (hp := st.hp) (nx := st.nx) (fl := fl) hok hml htl hfp hft hfree (fun fuel T a w I' ρ' fr' L' hc hall hTI ha hw hle hag => ?_) _ (Array.replicate l.toArray.size false) a _ I ρ fr L hcnt ⟨hs'.hpr, hs'.new, fun t _ => hs'.frr t, fun k t _ hT => absurd hT (hrep k), by simp, fun k o hT => absurd hT (hrep k), fun k hT => absurd hT (hrep k), fun x _ hT => absurd hT (hrep x.1)⟩ ha hw.drew (Imm.le_refl _) Ag.refl
    rcases hend with ⟨rfl, hops⟩ | ⟨hb, htw⟩
    · have hno : ∀ {p : Nat × Nat × Nat → Prop}, ∀ x ∈ ([] : List (Nat × Nat × Nat)), p x := fun x hx => by cases hx
      have hsr : SR I' ρ' F ⟨frm, st.hp, st.nx⟩ fr' L' := hTI.sees hsees (Nat.le_refl _) (fun k _ hk => hall k hk hno)
      exact tail_ok hT hok (fun j o hj ho => ⟨(htl j o hj ho hno).1, fun i hi => by obtain ⟨k, a, b, _, c⟩ := (htl j o hj ho hno).2 i hi hno; exact ⟨k, a, b, c⟩⟩) (fun fr2 I2 L2 a2 w2 h1 h2 h3 => ⟨fr2, I2, L2, h1, h2, hQ _ _ _ h3⟩) _ m fuel T a w _ I' ρ' fr' L' rfl (Nat.le_refl _) hml (fun k => ⟨fun hk => (hTI.free k hk).resolve_right (fun ⟨x, hx, _⟩ => by cases hx), fun hk => hall k hk hno⟩) hTI.size hTI.closed hc hops hsr ha hw hle hag
    · refine tail_okF hT hok htl hfp (fun fr2 I2 L2 a2 w2 h1 h2 h3 => ⟨fr2, I2, L2, h1, h2, hQ _ _ _ h3⟩) _ _ m fuel T a w frm st.hp st.nx I' ρ' fr' L' (Nat.le_refl _) rfl (Nat.le_refl _) hml hc htw ⟨hTI.hpr, hTI.new, fun t hft => ?_, hTI.flt, fun x hx hxm => ?_, hfo, hall, hTI.free, hTI.size, hTI.closed⟩ ha hw hle hag
      · rcases hsees t with h1 | ⟨k, _, h2, h3, h4⟩ | ⟨h1, h2⟩
        · exact .inl h1
        · rw [h4]
          refine hTI.dn k t h2 (hall k h2 (fun x hx e => ?_)) h3
          obtain ⟨o', ho', _, hud, _⟩ := hfp x hx
          unfold dstAt at h3
          rw [← e, ho'] at h3
          exact hft x hx (by rw [show ((some o').bind (·.dst)) = o'.dst from rfl, hud] at h3; simpa using h3)
        · rw [h2]
          exact hTI.old t (fun k hk hdk => absurd hdk (h1 k hk))
      · exact hS x hx hxm
  | mix pl al hmo h =>
    unfold mixOK at hmo
    simp only [Bool.and_eq_true] at hmo
    obtain ⟨hgo, hgd, hal, hst⟩ := hmo
    obtain ⟨hok, _⟩ := goB_all hgo
    have hg : ∀ (i : Nat) (o : Oper), l.toArray[i]? = some o → o.guard = none := fun i o ho => by
      have := List.all_eq_true.1 hgd o (by simpa using Array.mem_of_getElem? ho)
      simpa using this
    have ham : ∀ u j, hasB (ancM l.toArray.toList []) u j = true → Anc l.toArray u j := fun u j hb => ancM_ok (ops := l.toArray) l.toArray.toList [] rfl (fun u j hb => by simp at hb) u j hb
    intro a w ha hw
    refine wp_region_any hm ?_
    refine mix_ok (F := F) (I0 := I) (ρ0 := ρ) hT hok hg ham (fun fr2 I2 L2 a2 w2 h1 h2 h3 => ⟨fr2, I2, L2, h1, h2, hQ _ _ _ h3⟩) pl [] al [] [] st.fr st.hp st.nx hal hst (fun k hk => by cases hk) h _ (Array.replicate l.toArray.size false) a _ [] I ρ fr L hcnt (fun k _ => ⟨fun hk => absurd hk (hrep k), fun hk => by cases hk⟩) ⟨?_, hs.new, fun t _ => hs.frr t, by simp, fun k u hT => absurd hT (hrep k), fun j hj => absurd hj (hrep j), fun x hx => (by cases hx), fun j _ hj => absurd hj (hrep j), List.nodup_nil, fun j _ hm => (by cases hm)⟩ ha hw.drew (Imm.le_refl _) Ag.refl
    obtain ⟨Lh, h1, h2⟩ := hs.hpr
    exact ⟨Lh, h1, by simpa using h2⟩
end
end Go.V

/- The second floor, part Q2: code. No function of the program is proved here. -/
namespace Go.V
open Go.Eng

section
variable {P : Program} {N : Nat} {T : TypeId → Option TI} {I J : Imm} {ρ ρ' : Nat → Value} {F : List Ent} {st : St} {fr : Frm} {L : List Ent} {E : Env}

/-! ## Where ways meet, and loops: what is kept of a state -/
def mkSt (keep : List Nat) (vs : List AV) (os : List Obj) : St := ⟨keep.zip vs, numb 0 os, os.length⟩
def snap (m : Nat) (keep : List Nat) (st : St) (K : List AV → List Obj → Prop) : Prop :=
  match evs st (keep.map .tmp) with
  | some as => match canon m st as with
    | some (_, vs, os) => K vs os
    | none => False
  | none => False

theorem zip_frr {ρ : Nat → Value} : ∀ {keep : List Nat} {us : List Value} {vs : List AV}, evL fr (keep.map .tmp) = some us → All2 (RelA I ρ) us vs → FrR I ρ (keep.zip vs) fr
  | [], us, vs, _, _ => fun t => .inl (by simp [lookA])
  | k :: keep, us, vs, h, hv => by
    simp only [List.map_cons] at h
    unfold evL at h
    split at h
    · rename_i u us' h1 h2
      simp at h; subst h
      cases vs with
      | nil => have := hv.1; simp at this
      | cons a vs =>
        obtain ⟨u', us'', e, x, y⟩ := hv.uncons
        simp at e
        obtain ⟨rfl, rfl⟩ := e
        intro t
        simp only [List.zip_cons_cons]
        rw [lookA_cons]
        by_cases e : k = t
        · subst e; rw [if_pos rfl]; exact .inr ⟨u, h1, x⟩
        · rw [if_neg e]; exact zip_frr h2 y t
    · cases h

theorem snap_ok {m : Nat} {keep : List Nat} {K : List AV → List Obj → Prop} (hs : SR I ρ F st fr L) (h : snap m keep st K) :
    ∃ vs os ρ' L', K vs os ∧ SR I ρ' F (mkSt keep vs os) fr L' ∧ (∀ w, HS I L w → HS I L' w) ∧ (∀ k, k < m → ρ' k = ρ k) ∧ m ≤ os.length := by
  unfold snap at h
  split at h
  · rename_i as has
    split at h
    · rename_i ls vs os hc
      obtain ⟨us, a1, a2⟩ := evs_ok hs has
      obtain ⟨Lc, Lr, hp, h1, h2, h3, h4, h5, h6, _⟩ := canon_ok hs hc
      refine ⟨vs, os, canρ ρ m ls, Lc ++ F, h, ⟨zip_frr a1 (h6 us a2), ⟨Lc, h1, rfl⟩, fun l hl => ?_⟩, fun w hw => ?_, fun k hk => by unfold canρ; rw [if_pos hk], by omega⟩
      · have hl' : os.length ≤ l := hl
        unfold canρ
        rw [if_neg (by omega), List.getElem?_eq_none (by omega)]
      · refine (hw.perm hp).sublist ?_
        exact (List.Sublist.refl Lc).append (List.sublist_append_right _ _)
    · exact h.elim
  · exact h.elim

inductive JoinI (m : Nat) (keep : List Nat) (st : St) (wa : St → (Exit → St → Prop) → Prop) (wb : St → (Exit → St → Prop) → Prop) (Q : Exit → St → Prop) : Prop where
  | mk (J : List AV → List Obj → Prop) (h : wa st (fun e st' => match e with
      | .normal => snap m keep st' J
      | e => Q e st')) (k : ∀ vs os, J vs os → wb (mkSt keep vs os) Q) : JoinI m keep st wa wb Q

inductive LoopI (m : Nat) (keep : List Nat) (st : St) (wc : St → (Exit → St → Prop) → Prop) (Q : Exit → St → Prop) : Prop where
  | mk (Inv : Nat → List AV → List Obj → Prop) (n : Nat) (h0 : snap m keep st (Inv n)) (step : ∀ n vs os, Inv n vs os → wc (mkSt keep vs os) (fun e st' => match e with
      | .normal => snap m keep st' (fun vs os => ∃ k, k < n ∧ Inv k vs os)
      | e => Q e st')) : LoopI m keep st wc Q

def firstReg : Code → Option Nat
  | .region id _ _ => some id
  | .seq a b => match firstReg a with
    | some r => some r
    | none => firstReg b
  | .cond _ a b => match firstReg a with
    | some r => some r
    | none => firstReg b
  | .block _ c | .loop c | .scope c => firstReg c
  | _ => none
def hook (l : List (Nat × List Nat)) (c : Code) : Option (List Nat) := match firstReg c with
  | some r => assoc l r
  | none => none

/-! ## Steps of ours -/
def ghW1 (st : St) : Gst → Option St
  | .own t e sz => match lookA st.fr t with
    | .d .nils => some ⟨(t, .sl st.nx) :: st.fr, (st.nx, .row e sz []) :: st.hp, st.nx + 1⟩
    | _ => some st
  | .fz t => match lookA st.fr t with
    | .sl l => match lookO st.hp l with
      | .row _ _ xs => some ⟨st.fr, setO st.hp l (.froz xs), st.nx⟩
      | _ => some st
    | .ptr l _ => match lookO st.hp l with
      | .arr _ cs => some ⟨st.fr, setO st.hp l (.fzn cs), st.nx⟩
      | _ => some st
    | _ => some st
  | .nl t => match lookA st.fr t with
    | .d .nils => some ⟨(t, .d (.ro [])) :: st.fr, st.hp, st.nx⟩
    | _ => some st
  | .ownF t off e sz => match lookA st.fr t with
    | .ptr l o => match lookO st.hp l with
      | .vec T cs => match cs[o + off]? with
        | some (.d .nils) => some ⟨st.fr, setO ((st.nx, .row e sz []) :: st.hp) l (.vec T (cs.set (o + off) (.sl st.nx))), st.nx + 1⟩
        | _ => some st
      | _ => some st
    | _ => some st
  | .fzF t off => match lookA st.fr t with
    | .ptr l o => match lookO st.hp l with
      | .vec _ cs => match cs[o + off]? with
        | some (.sl l2) => match lookO st.hp l2 with
          | .row _ _ xs => some ⟨st.fr, setO st.hp l2 (.froz xs), st.nx⟩
          | _ => some st
        | _ => some st
      | _ => some st
    | _ => some st
def ghW : List Gst → St → Option St
  | [], st => some st
  | g :: gs, st => match ghW1 st g with
    | some st => ghW gs st
    | none => none

/-- A step of ours that may give new names. -/
def Gn (st st' : St) : Prop := ∀ I ρ F fr L w, SR I ρ F st fr L → HS I L w → ∃ I' ρ' L', I.le I' ∧ SR I' ρ' F st' fr L' ∧ HS I' L' w ∧ Ag ρ ρ'
theorem Gh.gn {st' : St} (h : Gh st st') : Gn st st' := fun I ρ F fr L w hs hw => by
  obtain ⟨I', L', a, b, c⟩ := h I ρ F fr L w hs hw
  exact ⟨I', ρ, L', a, b, c, Ag.refl⟩
theorem Gn.refl : Gn st st := Gh.refl.gn
theorem Gn.trans {s1 s2 s3 : St} (h : Gn s1 s2) (k : Gn s2 s3) : Gn s1 s3 := fun I ρ F fr L w hs hw => by
  obtain ⟨I1, ρ1, L1, a, b, c, d⟩ := h I ρ F fr L w hs hw
  obtain ⟨I2, ρ2, L2, e, f, g, i⟩ := k I1 ρ1 F fr L1 w b c
  exact ⟨I2, ρ2, L2, a.trans e, f, g, d.trans i⟩
theorem Gn.ownF {l o : Nat} {T : TypeId} {cs : List AV} (hl : lookO st.hp l = .vec T cs) (hc : cs[o]? = some (.d .nils)) (e : TypeId) (sz : Nat) : Gn st ⟨st.fr, setO ((st.nx, .row e sz []) :: st.hp) l (.vec T (cs.set o (.sl st.nx))), st.nx + 1⟩ := by
  intro I ρ F fr L w hs hw
  obtain ⟨h1, h2⟩ := hs.nilRow hw e sz
  have hag : Ag ρ (bind ρ st.nx (.slice none 0 0)) := bind_agree (hs.new _ (Nat.le_refl _))
  have hne : st.nx ≠ l := by
    intro e2
    obtain ⟨M, es, R, _, ho, _⟩ := hs.at hl (by simp)
    obtain ⟨b, us, r1, _⟩ := ho
    have := hs.new l (by omega)
    rw [this] at r1; cases r1
  have hl2 : lookO ((st.nx, Obj.row e sz []) :: st.hp) l = .vec T cs := by
    simp only [lookO, beq_eq, hne, decide_false, cond_false]; exact hl
  obtain ⟨M, es, R, hL, ho, hk⟩ := h1.at (st := ⟨st.fr, (st.nx, .row e sz []) :: st.hp, st.nx + 1⟩) hl2 (by simp)
  obtain ⟨b, us, r1, r2, ro1, rfl⟩ := ho
  refine ⟨I, bind ρ st.nx (.slice none 0 0), M ++ [.blk b T us] ++ R, Imm.le_refl _, ?_, by rw [← hL]; exact h2, hag⟩
  refine hk (.vec T (cs.set o (.sl st.nx))) [.blk b T us] I (bind ρ st.nx (.slice none 0 0)) (st.nx + 1) (Imm.le_refl _) (fun _ _ => rfl) h1.new ⟨b, us, r1, ⟨by rw [List.length_set]; exact r2.1, fun j u y hu hy => ?_⟩, ro1, rfl⟩
  rw [List.getElem?_set] at hy
  by_cases ej : o = j
  · subst ej
    rw [if_pos rfl] at hy
    split at hy
    · simp at hy; subst hy
      have := r2.2 o u _ hu hc
      cases this with
      | d h4 => cases h4; exact .sl bind_self
    · cases hy
  · rw [if_neg ej] at hy
    exact r2.2 j u y hu hy
theorem ghW1_ok {g : Gst} {st' : St} (h : ghW1 st g = some st') : Gn st st' := by
  unfold ghW1 at h
  split at h
  · rename_i t e sz
    split at h
    · rename_i hl
      simp at h; subst h
      intro I ρ F fr L w hs hw
      obtain ⟨h1, h2⟩ := hs.nilRow hw e sz
      refine ⟨I, _, _, Imm.le_refl _, ⟨?_, h1.hpr, h1.new⟩, h2, bind_agree (hs.new _ (Nat.le_refl _))⟩
      intro k
      rw [lookA_cons]
      by_cases e : t = k
      · subst e
        rw [if_pos rfl]
        rcases hs.frr t with h3 | ⟨v, h3, h4⟩
        · rw [hl] at h3; cases h3
        · rw [hl] at h4
          cases h4 with
          | d h4 => cases h4; exact .inr ⟨_, h3, .sl bind_self⟩
      · rw [if_neg e]; exact h1.frr k
    · simp at h; subst h; exact .refl
  · split at h
    · split at h
      · rename_i hl; simp at h; subst h; exact (Gh.freeze hl).gn
      · simp at h; subst h; exact .refl
    · split at h
      · rename_i hl; simp at h; subst h; exact (Gh.freezeArr hl).gn
      · simp at h; subst h; exact .refl
    · simp at h; subst h; exact .refl
  · rename_i t
    split at h
    · rename_i hl
      simp at h; subst h
      intro I ρ F fr L w hs hw
      refine ⟨I, ρ, L, Imm.le_refl _, ⟨fun k => ?_, hs.hpr, hs.new⟩, hw, Ag.refl⟩
      rw [lookA_cons]
      by_cases e : t = k
      · subst e
        rw [if_pos rfl]
        rcases hs.frr t with h3 | ⟨v, h3, h4⟩
        · rw [hl] at h3; cases h3
        · rw [hl] at h4
          cases h4 with
          | d h4 => cases h4; exact .inr ⟨_, h3, .d relD_ro_nil⟩
      · rw [if_neg e]; exact hs.frr k
    · simp at h; subst h; exact .refl
  · split at h
    · split at h
      · rename_i hl
        split at h
        · rename_i hc
          simp at h; subst h; exact Gn.ownF hl hc _ _
        · simp at h; subst h; exact .refl
      · simp at h; subst h; exact .refl
    · simp at h; subst h; exact .refl
  · split at h
    · split at h
      · split at h
        · split at h
          · rename_i hl; simp at h; subst h; exact (Gh.freeze hl).gn
          · simp at h; subst h; exact .refl
        · simp at h; subst h; exact .refl
      · simp at h; subst h; exact .refl
    · simp at h; subst h; exact .refl
theorem ghW_ok : ∀ {gs : List Gst} {st st' : St}, ghW gs st = some st' → Gn st st'
  | [], st, st', h => by simp [ghW] at h; subst h; exact .refl
  | g :: gs, st, st', h => by
    unfold ghW at h
    split at h
    · rename_i st1 h1; exact (ghW1_ok h1).trans (ghW_ok h)
    · cases h

def ghosts (l : List (Nat × List Gst)) (id : Nat) (st : St) (K : St → Prop) : Prop := match assoc l id with
  | none => K st
  | some gs => match ghW gs st with
    | some st => K st
    | none => False
theorem ghosts_ok {l : List (Nat × List Gst)} {id : Nat} {K : St → Prop} (h : ghosts l id st K) : ∃ st', Gn st st' ∧ K st' := by
  unfold ghosts at h
  split at h
  · exact ⟨st, .refl, h⟩
  · split at h
    · rename_i st' h1; exact ⟨st', ghW_ok h1, h⟩
    · exact h.elim

/-! ## Results -/
def resA (E : Env) (st : St) : List ResultVar → (List AV → Prop) → Prop
  | [], K => K []
  | .tmp t :: rs, K => okA (ev st (.tmp t)) (fun a => resA E st rs (fun as => K (a :: as)))
  | .cell a ty :: rs, K => match ev st (.tmp a), E.T ty with
    | .ptr l 0, some i => match lookO st.hp l with
      | .vec _ cs => match i.td.one with
        | true => getA cs 0 (fun a => okA (normA st.hp a) (fun a => resA E st rs (fun as => K (a :: as))))
        | false => bif Nat.beq cs.length i.size then okA (packA (cs.map (normA st.hp))) (fun a => resA E st rs (fun as => K (a :: as))) else False
      | .arr _ cs => match i.td.one with
        | true => False
        | false => cs.length = i.size ∧ resA E st rs (fun as => K (.d (.agg cs) :: as))
      | _ => False
    | _, _ => False

def fzAgg (st : St) : List AV → St
  | [] => st
  | .agg cs :: as => fzAgg (fzArgs cs st) as
  | _ :: as => fzAgg st as
theorem fzAgg_ok : ∀ (as : List AV) (st : St), Gh st (fzAgg st as)
  | [], _ => .refl
  | a :: as, st => by
    cases a with
    | agg cs => exact (fzArgs_ok cs st).1.trans (fzAgg_ok as _)
    | _ => exact fzAgg_ok as st
/-- The ghost 2000000: rows within structs that are given back stay as they are. -/
def hasG : List (Nat × List Gst) → Bool
  | [] => false
  | (k, _) :: g => bif Nat.beq k 2000000 then true else hasG g
def fzAggG (g : List (Nat × List Gst)) (st : St) (as : List AV) : St := bif hasG g then st else fzAgg st as
theorem fzAggG_ok (g : List (Nat × List Gst)) (as : List AV) (st : St) : Gh st (fzAggG g st as) := by
  unfold fzAggG
  cases hasG g with
  | true => exact .refl
  | false => exact fzAgg_ok as st


def deepN (hp : List (Nat × Obj)) : AV → AV
  | .agg cs => packA (cs.map (normA hp))
  | a => a
def tupA : List AV → AV
  | [a] => a
  | as => .tup as

def retW (E : Env) (Q : AV → List Obj → Prop) (e : Exit) (st : St) : Prop := match e with
  | .ret | .normal => resA E st E.rs (fun as => match canon E.m st [tupA (as.map (deepN st.hp))] with
    | some (_, [r], os) => Q r os
    | _ => False)
  | _ => False

def wp (E : Env) : Code → St → (Exit → St → Prop) → Prop
  | .skip, st, Q => Q .normal st
  | .exit id, st, Q => Q (.exit id) st
  | .ret, st, Q => resA E st E.rs (fun as => frcT (fzAggG E.ghosts st as) fun st => Q .ret st)
  | .seq a b, st, Q => match hook E.joins b with
    | some keep => JoinI E.m keep st (fun st Q => wp E a st Q) (fun st Q => wp E b st Q) Q
    | none => wp E a st (fun e st' => match e with
      | .normal => wp E b st' Q
      | e => Q e st')
  | .region id ops false, st, Q => ghosts E.ghosts id st (fun st => frcS st fun st => opsW E ops ops.toList st (fun st => ghosts E.ghosts (id + 1000000) st (fun st => Q .normal st)))
  | .region id ops true, st, Q => ghosts E.ghosts id st (fun st => frcS st fun st => DrawI E ops st (fun st => ghosts E.ghosts (id + 1000000) st (fun st => Q .normal st)))
  | .cond c a b, st, Q => match ev st c with
    | .d (.bool t) => cond t (wp E a st Q) (wp E b st Q)
    | _ => False
  | .block id c, st, Q => wp E c st (fun e st' => match e with
    | .exit j => bif Nat.beq j id then Q .normal st' else Q (.exit j) st'
    | e => Q e st')
  | .loop c, st, Q => match hook E.loops c with
    | some keep => LoopI E.m keep st (fun st Q => wp E c st Q) Q
    | none => False
  | _, _, _ => False
end
end Go.V

/- The second floor, part R: code is right. No function of the program is proved here. -/
namespace Go.V
open Go.Eng

section
variable {P : Program} {N : Nat} {T : TypeId → Option TI} {I J : Imm} {ρ ρ' : Nat → Value} {F : List Ent} {st : St} {fr : Frm} {L : List Ent} {E : Env}

theorem resA_ex : ∀ {rs : List ResultVar} {K : List AV → Prop}, resA E st rs K → ∃ as, K as
  | [], K, h => ⟨[], h⟩
  | .tmp t :: rs, K, h => by
    unfold resA at h
    obtain ⟨_, h⟩ := okA_ok h
    obtain ⟨as, h⟩ := resA_ex h; exact ⟨_, h⟩
  | .cell a ty :: rs, K, h => by
    unfold resA at h
    split at h
    · rename_i l i hp hi
      split at h
      · rename_i t cs hl
        split at h
        · obtain ⟨c, _, h⟩ := getA_ok h
          obtain ⟨as, h⟩ := resA_ex (okA_ok h).2; exact ⟨_, h⟩
        · cases hc : Nat.beq cs.length i.size with
          | false => rw [hc] at h; exact h.elim
          | true => rw [hc] at h; obtain ⟨as, h⟩ := resA_ex (okA_ok h).2; exact ⟨_, h⟩
      · split at h
        · exact h.elim
        · obtain ⟨as, h⟩ := resA_ex h.2; exact ⟨_, h⟩
      · exact h.elim
    · exact h.elim

/-- What holds behind a piece of code. -/
def PS (m : Nat) (I : Imm) (ρ : Nat → Value) (F : List Ent) (Q : Exit → St → Prop) : Post := fun e fr' I' L' => I.le I' ∧ ∃ ρ' st', SR I' ρ' F st' fr' L' ∧ (∀ k, k < m → ρ k ≠ .nilFunc → ρ' k = ρ k) ∧ Q e st'
theorem PS.trans {m : Nat} {J : Imm} {Q : Exit → St → Prop} {e : Exit} {fr : Frm} {I' : Imm} {L' : List Ent} (hle : I.le J) (ha : ∀ k, k < m → ρ k ≠ .nilFunc → ρ' k = ρ k) (h : PS m J ρ' F Q e fr I' L') : PS m I ρ F Q e fr I' L' := by
  obtain ⟨h1, ρ2, st', h2, h3, h4⟩ := h
  exact ⟨hle.trans h1, ρ2, st', h2, fun k hk hne => by have e := ha k hk hne; rw [h3 k hk (by rw [e]; exact hne), e], h4⟩

theorem Cd.mono {c : Code} {Q Q' : Post} (h : Cd P N c fr I L Q) (k : ∀ e fr I L, Q e fr I L → Q' e fr I L) : Cd P N c fr I L Q' := fun a w ha hw => wp_mono (h a w ha hw) (fun e a' w' ⟨fr', I', L', h1, h2, h3⟩ => ⟨fr', I', L', h1, h2, k _ _ _ _ h3⟩)

theorem Cd.gn {m : Nat} {c : Code} {st' : St} {Q : Exit → St → Prop} (g : Gn st st') (h : ∀ I ρ F fr L, SR I ρ F st' fr L → Cd P N c fr I L (PS m I ρ F Q)) : ∀ I ρ F fr L, SR I ρ F st fr L → Cd P N c fr I L (PS m I ρ F Q) := by
  intro I ρ F fr L hs a w ha hw
  obtain ⟨I1, ρ1, L1, hle, hs1, hw1, hag⟩ := g I ρ F fr L w hs hw
  exact wp_mono (h I1 ρ1 F fr L1 hs1 a w ha hw1) (fun e a' w' ⟨fr', I', L', h1, h2, h3⟩ => ⟨fr', I', L', h1, h2, h3.trans hle (fun k _ hk => hag k hk)⟩)

theorem PS.ag {m : Nat} {Q : Exit → St → Prop} {K : St → Prop} {e : Exit} {I' : Imm} {L' : List Ent} (h : KS I ρ F K fr I' L') (hk : ∀ st, K st → Q e st) : PS m I ρ F Q e fr I' L' := by
  obtain ⟨h1, ρ', st', h2, h3, h4⟩ := h
  exact ⟨h1, ρ', st', h2, fun k _ hk => h3 k hk, hk _ h4⟩

def nrmQ (m : Nat) (keep : List Nat) (J : List AV → List Obj → Prop) (Q : Exit → St → Prop) (e : Exit) (st' : St) : Prop := match e with
  | .normal => snap m keep st' J
  | e => Q e st'

/-- Steps of ours behind a region. -/
def ghQ (E : Env) (id : Nat) (Q : Exit → St → Prop) (e : Exit) (st : St) : Prop := match e with
  | .normal => ghosts E.ghosts (id + 1000000) st (fun st => Q .normal st)
  | e => Q e st
theorem ghQ_ok {m id : Nat} {c : Code} {Q : Exit → St → Prop} (h : Cd P N c fr I L (PS m I ρ F (ghQ E id Q))) : Cd P N c fr I L (PS m I ρ F Q) := by
  intro a w ha hw
  refine wp_mono (h a w ha hw) (fun e a' w' ⟨fr', I', L', h1, h2, hle, ρ', st', h3, h4, h5⟩ => ?_)
  cases e with
  | normal =>
    obtain ⟨st2, g, h6⟩ := ghosts_ok h5
    obtain ⟨I2, ρ2, L2, hle2, hs2, hw2, hag⟩ := g I' ρ' F fr' L' w' h3 h2
    exact ⟨fr', I2, L2, h1, hw2, hle.trans hle2, ρ2, st2, hs2, fun k hk hne => by have e := h4 k hk hne; rw [hag k (by rw [e]; exact hne), e], h6⟩
  | _ => exact ⟨fr', I', L', h1, h2, hle, ρ', st', h3, h4, h5⟩

theorem wp_ok (hT : TOk E.P E.T) : ∀ (c : Code) {st : St} {Q : Exit → St → Prop}, wp E c st Q → ∀ I ρ F fr L, SR I ρ F st fr L → Cd E.P E.N c fr I L (PS E.m I ρ F Q) := by
  intro c
  induction c with
  | skip => intro st Q h I ρ F fr L hs; exact Cd.skip ⟨Imm.le_refl _, ρ, st, hs, fun _ _ _ => rfl, h⟩
  | exit id => intro st Q h I ρ F fr L hs; exact Cd.exit ⟨Imm.le_refl _, ρ, st, hs, fun _ _ _ => rfl, h⟩
  | ret =>
    intro st Q h
    unfold wp at h
    obtain ⟨as, h⟩ := resA_ex h
    replace h := frcT_ok h
    exact Cd.gn (m := E.m) (Q := Q) (fzAggG_ok E.ghosts as st).gn (fun I ρ F fr L hs => Cd.ret ⟨Imm.le_refl _, ρ, _, hs, fun _ _ _ => rfl, h⟩)
  | region id ops dr =>
    intro st Q h
    cases dr with
    | true =>
      obtain ⟨st', g, h⟩ := ghosts_ok h
      replace h := frcS_ok h
      refine Cd.gn (m := E.m) (Q := Q) g (fun I ρ F fr L hs => ?_)
      have := DrawI.ok (id := id) (l := ops.toList) (Q := PS E.m I ρ F (ghQ E id Q)) (K := fun st => ghosts E.ghosts (id + 1000000) st (fun st => Q .normal st)) hT hT.mix (by simpa using h) hs (fun fr I' L' hk => PS.ag hk (fun _ h => h))
      exact ghQ_ok (by simpa using this)
    | false =>
      obtain ⟨st', g, h⟩ := ghosts_ok h
      replace h := frcS_ok h
      refine Cd.gn (m := E.m) (Q := Q) g (fun I ρ F fr L hs => ?_)
      have := Cd.region (id := id) (l := ops.toList) (Q := PS E.m I ρ F (ghQ E id Q)) ((opsW_ok hT h I ρ F fr L hs).imp (fun fr I' L' hk => PS.ag hk (fun _ h => h)))
      exact ghQ_ok (by simpa using this)
  | seq a b iha ihb =>
    intro st Q h
    unfold wp at h
    split at h
    · rename_i keep hk
      obtain ⟨J, h1, h2⟩ := h
      intro I ρ F fr L hs
      refine Cd.seq (Cd.mono (iha h1 I ρ F fr L hs) (fun e fr' I' L' hp => ?_))
      obtain ⟨hle, ρ', st', hs', hag, hq⟩ := hp
      cases e with
      | normal =>
        obtain ⟨vs, os, ρ2, L2, hj, hs2, hw2, hag2, _⟩ := snap_ok hs' hq
        intro a w ha hw
        exact wp_mono (ihb (h2 vs os hj) I' ρ2 F fr' L2 hs2 a w ha (hw2 w hw)) (fun e a' w' ⟨fr3, I3, L3, x1, x2, x3⟩ => ⟨fr3, I3, L3, x1, x2, x3.trans hle (fun k hk hne => by rw [hag2 k hk]; exact hag k hk hne)⟩)
      | _ => exact ⟨hle, ρ', st', hs', hag, hq⟩
    · intro I ρ F fr L hs
      refine Cd.seq (Cd.mono (iha h I ρ F fr L hs) (fun e fr' I' L' hp => ?_))
      obtain ⟨hle, ρ', st', hs', hag, hq⟩ := hp
      cases e with
      | normal => exact Cd.mono (ihb hq I' ρ' F fr' L' hs') (fun e fr I L hp => PS.trans hle hag hp)
      | _ => exact ⟨hle, ρ', st', hs', hag, hq⟩
  | cond o a b iha ihb =>
    intro st Q h I ρ F fr L hs
    unfold wp at h
    split at h
    · rename_i t ht
      obtain ⟨v, h1, h2⟩ := ev_ok hs ht (by simp)
      obtain rfl := ra_bool h2
      refine Cd.cond h1 (fun e => ?_) (fun e => ?_)
      · rw [e] at h; exact iha h I ρ F fr L hs
      · rw [e] at h; exact ihb h I ρ F fr L hs
    · exact h.elim
  | block id c ih =>
    intro st Q h I ρ F fr L hs
    refine Cd.block (Cd.mono (ih h I ρ F fr L hs) (fun e fr' I' L' hp => ?_))
    obtain ⟨hle, ρ', st', hs', hag, hq⟩ := hp
    cases e with
    | exit j =>
      simp only [blkQ]
      split
      · rename_i e; subst e
        refine ⟨hle, ρ', st', hs', hag, ?_⟩
        simpa using hq
      · rename_i e
        refine ⟨hle, ρ', st', hs', hag, ?_⟩
        have : Nat.beq j id = false := by rw [beq_eq]; simpa using e
        simpa [this] using hq
    | _ => exact ⟨hle, ρ', st', hs', hag, hq⟩
  | loop c ih =>
    intro st Q h I ρ F fr L hs
    unfold wp at h
    split at h
    · rename_i keep hk
      obtain ⟨Inv, n, h0, step⟩ := h
      intro a w ha hw
      obtain ⟨vs, os, ρ2, L2, hj, hs2, hw2, hag2, _⟩ := snap_ok hs h0
      refine wp_loop_rel (fun n a w => ∃ vs os I' ρ' fr' L', Inv n vs os ∧ SR I' ρ' F (mkSt keep vs os) fr' L' ∧ Fr E.N fr' a ∧ HS I' L' w ∧ I.le I' ∧ (∀ k, k < E.m → ρ k ≠ .nilFunc → ρ' k = ρ k)) (n := n)
        ⟨vs, os, I, ρ2, fr, L2, hj, hs2, ha, hw2 w hw, Imm.le_refl _, fun k hk _ => hag2 k hk⟩ ?_
      rintro n a w ⟨vs, os, I', ρ', fr', L', hinv, hs', ha', hw', hle, hag⟩
      refine wp_mono (ih (step n vs os hinv) I' ρ' F fr' L' hs' a w ha' hw') ?_
      rintro e a2 w2 ⟨fr3, I3, L3, x1, x2, x3⟩
      obtain ⟨hle3, ρ3, st3, hs3, hag3, hq⟩ := x3
      have hagt : ∀ k, k < E.m → ρ k ≠ .nilFunc → ρ3 k = ρ k := fun k hk hne => by
        have e := hag k hk hne; rw [hag3 k hk (by rw [e]; exact hne), e]
      cases e with
      | normal =>
        obtain ⟨vs4, os4, ρ4, L4, ⟨k, hlt, hj4⟩, hs4, hw4, hag4, _⟩ := snap_ok hs3 hq
        exact ⟨k, hlt, vs4, os4, I3, ρ4, fr3, L4, hj4, hs4, x1, hw4 _ x2, hle.trans hle3, fun k hk hne => by rw [hag4 k hk]; exact hagt k hk hne⟩
      | _ => exact ⟨fr3, I3, L3, x1, x2, hle.trans hle3, ρ3, st3, hs3, hagt, hq⟩
    · exact h.elim
  | scope c ih => intro st Q h; exact (h : False).elim
  | rangeFunc _ _ _ _ _ _ => intro st Q h; exact (h : False).elim
  | label _ => intro st Q h; exact (h : False).elim
  | goto _ => intro st Q h; exact (h : False).elim
  | refuse _ => intro st Q h; exact (h : False).elim

/-! ## A function -/
def argS : Nat → List AV → List (Nat × AV)
  | _, [] => []
  | i, a :: as => (i, a) :: argS (i + 1) as
theorem argS_frr : ∀ {vs : List AV} {us : List Value} {i : Nat}, All2 (RelA I ρ) us vs → FrR I ρ (argS i vs) (argF i us)
  | [], us, i, _ => fun t => .inl (by simp [argS, lookA])
  | a :: as, us, i, h => by
    obtain ⟨u, us', rfl, x, y⟩ := h.uncons
    simp only [argS, argF]
    exact (argS_frr y).put i x

theorem tupA_ok {us : List Value} {as : List AV} (h : All2 (RelA I ρ) us as) : RelA I ρ (tupV us) (tupA as) := by
  match us, as, h with
  | [u], [a], h => exact h.2 0 u a rfl rfl
  | [], [], h => exact .tup rfl (fun j u y hj => by simp at hj)
  | u :: u2 :: us, a :: a2 :: as, h => exact .tup h.1 h.2
  | [], _ :: _, h => have := h.1; simp at this
  | [_], [], h => have := h.1; simp at this
  | [_], _ :: _ :: _, h => have := h.1; simp at this
  | _ :: _ :: _, [], h => have := h.1; simp at this
  | _ :: _ :: _, [_], h => have := h.1; simp at this

theorem deepN_ok (hs : SR I ρ F st fr L) {v : Value} {a : AV} (h : RelA I ρ v a) : RelA I ρ v (deepN st.hp a) := by
  cases a with
  | agg cs =>
    cases h with
    | agg hl h1 hx =>
      refine packA_ok ⟨by simpa using hl, fun j u y hu hy => ?_⟩ h1
      rw [List.getElem?_map] at hy
      cases hj : cs[j]? with
      | none => rw [hj] at hy; cases hy
      | some b => rw [hj] at hy; simp at hy; subst hy; exact normA_ok hs (hx j u b hu hj)
  | _ => exact h

theorem resA_ok (hT : TOk E.P E.T) : ∀ {rs : List ResultVar} {K : List AV → Prop}, resA E st rs K → ∃ as, K as ∧ ∀ {I : Imm} {ρ : Nat → Value} {F : List Ent} {fr : Frm} {L : List Ent}, SR I ρ F st fr L → ∃ us, ResOK E.P fr L rs us ∧ All2 (RelA I ρ) us as
  | [], K, h => ⟨[], h, fun _ => ⟨[], .nil, .nil⟩⟩
  | .tmp t :: rs, K, h => by
    unfold resA at h
    obtain ⟨hu, h⟩ := okA_ok h
    obtain ⟨as, h, hr⟩ := resA_ok hT h
    refine ⟨_, h, fun hs => ?_⟩
    obtain ⟨us, h1, h2⟩ := hr hs
    obtain ⟨v, x1, x2⟩ := ev_ok hs rfl (x := .tmp t) hu
    exact ⟨v :: us, .tmp x1 h1, .cons x2 h2⟩
  | .cell a ty :: rs, K, h => by
    unfold resA at h
    split at h
    · rename_i l i hp hi
      obtain ⟨desc, info, zv, hu, htd, hinf, hz, hsz, hby, hzs, hzc, hzu⟩ := hT.ok ty i hi
      have hob : oneB desc = i.td.one := by rw [td_one, htd]
      split at h
      · rename_i t cs hl
        split at h
        · rename_i hb
          obtain ⟨c, hc, h⟩ := getA_ok h
          replace h := (okA_ok h).2
          obtain ⟨as, h, hr⟩ := resA_ok hT h
          refine ⟨_, h, fun hs => ?_⟩
          obtain ⟨us, h1, h2⟩ := hr hs
          obtain ⟨v, x1, x2⟩ := ev_ok hs hp (by simp)
          obtain ⟨es, ho, hm⟩ := hs.obj l
          rw [hl] at ho
          obtain ⟨b, ws, r1, r2, r3, rfl⟩ := ho
          cases x2 with
          | ptr x2 =>
            rw [r1] at x2; simp only [Value.pointer.injEq, Option.some.injEq, Addr.mk.injEq, and_true] at x2; subst x2
            obtain ⟨u, q1, q2⟩ := r2.get hc
            exact ⟨u :: us, .one x1 (hm _ List.mem_cons_self) hu (by rw [hob, hb]) q1 h1, .cons (normA_ok hs q2) h2⟩
        · rename_i hb
          cases hc : Nat.beq cs.length i.size with
          | false => rw [hc] at h; exact h.elim
          | true =>
            rw [hc] at h
            have e1 := Nat.eq_of_beq_eq_true hc
            replace h := (okA_ok h).2
            obtain ⟨as, h, hr⟩ := resA_ok hT h
            refine ⟨_, h, fun hs => ?_⟩
            obtain ⟨us, h1, h2⟩ := hr hs
            obtain ⟨v, x1, x2⟩ := ev_ok hs hp (by simp)
            obtain ⟨es, ho, hm⟩ := hs.obj l
            rw [hl] at ho
            obtain ⟨b, ws, r1, r2, r3, rfl⟩ := ho
            cases x2 with
            | ptr x2 =>
              rw [r1] at x2; simp only [Value.pointer.injEq, Option.some.injEq, Addr.mk.injEq, and_true] at x2; subst x2
              refine ⟨_ :: us, .agg x1 (hm _ List.mem_cons_self) hu (by rw [hob, hb]) (run_ti hinf) (by rw [hsz, r2.1, e1]) h1, .cons (packA_ok ⟨by simpa using r2.1, fun j u y hu hy => ?_⟩ r3) h2⟩
              rw [List.getElem?_map] at hy
              cases hj : cs[j]? with
              | none => rw [hj] at hy; cases hy
              | some b => rw [hj] at hy; simp at hy; subst hy; exact normA_ok hs (r2.2 j u b hu hj)
      · rename_i t cs hl
        split at h
        · exact h.elim
        · rename_i hb
          obtain ⟨hlen, h⟩ := h
          obtain ⟨as, h, hr⟩ := resA_ok hT h
          refine ⟨_, h, fun hs => ?_⟩
          obtain ⟨us, h1, h2⟩ := hr hs
          obtain ⟨v, x1, x2⟩ := ev_ok hs hp (by simp)
          obtain ⟨es, ho, hm⟩ := hs.obj l
          rw [hl] at ho
          obtain ⟨b, ws, r1, r2, r3, rfl⟩ := ho
          cases x2 with
          | ptr x2 =>
            rw [r1] at x2; simp only [Value.pointer.injEq, Option.some.injEq, Addr.mk.injEq, and_true] at x2; subst x2
            exact ⟨_ :: us, .agg x1 (hm _ List.mem_cons_self) hu (by rw [hob, hb]) (run_ti hinf) (by rw [hsz, r2.1, hlen]) h1, .cons (.d (.agg r2.1 r3 r2.2)) h2⟩
      · exact h.elim
    · exact h.elim
theorem finQ_of {P : Program} {I0 : Imm} {F : List Ent} {rs : List ResultVar} {post : Value → Imm → List Ent → Prop} {e : Exit} (he : e = .ret ∨ e = .normal) {us : List Value} {L' : List Ent} (hv : ResOK P fr L rs us) (hle : I0.le I) (hh : Have L (L' ++ F)) (hp : post (tupV us) I L') : finQ P I0 F rs post e fr I L := by
  rcases he with rfl | rfl
  · exact ⟨us, L', hv, hle, hp, hh⟩
  · exact ⟨us, L', hv, hle, hp, hh⟩

theorem Have.skips : ∀ (B : List Ent) {C : List Ent}, Have (B ++ C) C
  | [], _ => .refl
  | _ :: B, _ => .skip (Have.skips B)
theorem Have.of_perm {A B C : List Ent} (h : L.Perm (A ++ (B ++ C))) : Have L (A ++ C) := Have.perm h (Have.app (Have.skips B))

/-! ## What is known of values that come in -/
def ok0 : D → Prop
  | .int k n => InR k n
  | .str s => s.length ≤ 9223372036854775807
  | .ro xs => xs.length ≤ 9223372036854775807
  | _ => True
def okX : D → Prop
  | .int k n => InR k n
  | .str s => s.length ≤ 9223372036854775807
  | .ro xs => xs.length ≤ 9223372036854775807 ∧ ∀ y ∈ cellsOf xs, ok0 y
  | .agg cs => ∀ y ∈ cs, ok0 y
  | _ => True
def okV : AV → Prop
  | .d x => okX x
  | _ => True
def InV : List AV → Prop
  | [] => True
  | a :: as => okV a ∧ InV as
theorem RelD.ok0 {v : Value} {x : D} (h : RelD I v x) : V.ok0 x := by
  cases h with
  | int h => exact h
  | str h => exact h
  | ro hn hc hm => subst hn; exact hm
  | _ => trivial
theorem RelD.okX {v : Value} {x : D} (h : RelD I v x) : V.okX x := by
  cases h with
  | int h => exact h
  | str h => exact h
  | ro hn hc hm hz hr hl h1 hx =>
    subst hn
    refine ⟨hm, fun y hy => ?_⟩
    obtain ⟨j, hj, rfl⟩ := List.getElem_of_mem hy
    exact RelD.ok0 (hx j _ _ (List.getElem?_eq_getElem (by rw [hl]; exact hj)) (List.getElem?_eq_getElem hj))
  | agg hl h1 hx =>
    intro y hy
    obtain ⟨j, hj, rfl⟩ := List.getElem_of_mem hy
    exact RelD.ok0 (hx j _ _ (List.getElem?_eq_getElem (by rw [hl]; exact hj)) (List.getElem?_eq_getElem hj))
  | _ => trivial
theorem inV_ok : ∀ {vs : List AV} {us : List Value}, All2 (RelA I ρ) us vs → InV vs
  | [], _, _ => trivial
  | a :: as, us, h => by
    obtain ⟨u, us', rfl, x, y⟩ := h.uncons
    refine ⟨?_, inV_ok y⟩
    cases x with
    | d x => exact x.okX
    | _ => trivial
theorem inr_u64 {n : Int} (h : InR .u64 n) : 0 ≤ n ∧ n ≤ 18446744073709551615 := h
theorem inr_i64' {n : Int} (h : InR .i64 n) : -9223372036854775808 ≤ n ∧ n ≤ 9223372036854775807 := h

/-- A contract, by a function's code. -/
theorem Ct.intro (hT : TOk E.P E.T) {f : FuncId} {fn : Func} {c : Code} {vs : List AV} {os : List Obj} {Q : AV → List Obj → Prop} (hc : ∀ as w, (callFunc f as).run E.P w = .ok (.enter f as) w)
    (hf : E.P.funcs[f]? = some fn) (hb : fn.body = some c) (hN : fn.ntmps = E.N) (hr : fn.results = E.rs.toArray) (hn : Nat.ble vs.length E.N = true) (hm : E.m = os.length)
    (h : InV vs → wp E c ⟨argS 0 vs, numb 0 os, os.length⟩ (retW E Q)) : Ct E.P f vs os Q := by
  refine ⟨hc, fun I ρ us L hargs hh hnew => ?_⟩
  refine Meets.intro (args := us) (N := E.N) (rs := E.rs) hf hb hN hr (by rw [hargs.1]; exact hn) (fun F => ?_)
  have hs : SR I ρ F ⟨argS 0 vs, numb 0 os, os.length⟩ (argF 0 us) (L ++ F) := ⟨argS_frr hargs, ⟨L, hh, rfl⟩, hnew⟩
  refine Cd.mono (wp_ok hT c (h (inV_ok hargs)) I ρ F (argF 0 us) (L ++ F) hs) (fun e fr' I' L' hp => ?_)
  obtain ⟨hle, ρ', st', hs', hag, hq⟩ := hp
  have main : (e = .ret ∨ e = .normal) → resA E st' E.rs (fun as => match canon E.m st' [tupA (as.map (deepN st'.hp))] with
    | some (_, [r], os) => Q r os
    | _ => False) → finQ E.P I F E.rs (fun v I' L' => ∃ ρ' r os', RelA I' ρ' v r ∧ RelH I' ρ' (numb 0 os') L' ∧ (∀ k, os'.length ≤ k → ρ' k = .nilFunc) ∧ os.length ≤ os'.length ∧ (∀ l, ρ l ≠ .nilFunc → ρ' l = ρ l) ∧ Q r os') e fr' I' L' := by
    intro he hq
    obtain ⟨as, hq, hres⟩ := resA_ok hT hq
    obtain ⟨rus, h1, h2⟩ := hres hs'
    split at hq
    · rename_i ls r os' hcan
      obtain ⟨Lc, Lr, hp, c1, c2, c3, c4, c5, c6, _⟩ := canon_ok hs' hcan
      have hdeep : All2 (RelA I' ρ') rus (as.map (deepN st'.hp)) := ⟨by simpa using h2.1, fun j u y hu hy => by
        rw [List.getElem?_map] at hy
        cases hj : as[j]? with
        | none => rw [hj] at hy; cases hy
        | some a => rw [hj] at hy; simp at hy; subst hy; exact deepN_ok hs' (h2.2 j u a hu hj)⟩
      have hr := c6 [tupV rus] (.one (tupA_ok hdeep))
      have hr1 : RelA I' (canρ ρ' E.m ls) (tupV rus) r := hr.2 0 _ _ rfl rfl
      refine finQ_of he h1 hle (Have.of_perm hp) ⟨canρ ρ' E.m ls, r, os', hr1, c1, fun k hk => ?_, by omega, fun l hl => ?_, hq⟩
      · unfold canρ
        rw [if_neg (by omega), List.getElem?_eq_none (by omega)]
      · have hlt : l < os.length := by
          rcases Nat.lt_or_ge l os.length with h | h
          · exact h
          · exact absurd (hnew l h) hl
        unfold canρ
        rw [if_pos (by omega)]
        exact hag l (by omega) hl
    · exact hq.elim
  cases e with
  | ret => exact main (.inl rfl) hq
  | normal => exact main (.inr rfl) hq
  | _ => exact (hq : False).elim
end
end Go.V

/- The second floor, part S: tables of types; how contracts are used. No function of the program is proved here. -/
namespace Go.V
open Go.Eng

def TOk1 (P : Program) (t : TypeId) (i : TI) : Prop := ∃ desc info zv, P.underlying t = some desc ∧ tdOf desc = i.td ∧ P.info? t = some info ∧ info.zero = some zv ∧ info.size = i.size ∧ info.bytes = i.bytes ∧ zv.cells.size = i.size ∧ constA zv = i.zero ∧ i.zero ≠ .undef
inductive TokL (P : Program) : List (Nat × TI) → Prop where
  | nil : TokL P []
  | cons {t : TypeId} {i : TI} {l : List (Nat × TI)} (h : TOk1 P t i) (k : TokL P l) : TokL P ((t, i) :: l)
theorem TOk.ofL {P : Program} {l : List (Nat × TI)} (hm : P.follows .mixedOrders = true) (h : TokL P l) : TOk P (fun t => assoc l t) := by
  refine ⟨fun t i hi => ?_, hm⟩
  induction h with
  | nil => simp [assoc] at hi
  | @cons t' i' l h _ ih =>
    simp only [assoc, beq_eq] at hi
    by_cases e : t' = t
    · subst e; simp at hi; subst hi; exact h
    · simp [e] at hi; exact ih hi

/-- What a function gives, outright. -/
def Is2 (r : AV) (os : List Obj) : AV → List Obj → Prop := fun r' os' => r = r' ∧ os = os'
theorem Is2.mk {r r' : AV} {os : List Obj} (h : r = r') : Is2 r os r' os := ⟨h, rfl⟩
theorem Is2.mk' {r r' : AV} {os os' : List Obj} (h : r = r') (k : os = os') : Is2 r os r' os' := ⟨h, k⟩
theorem isInt {k : IntKind} {a b : Int} {os : List Obj} (h : b = a) : Is2 (.d (.int k a)) os (.d (.int k b)) os := by subst h; exact ⟨rfl, rfl⟩
theorem isBool {a b : Bool} {os : List Obj} (h : b = a) : Is2 (.d (.bool a)) os (.d (.bool b)) os := by subst h; exact ⟨rfl, rfl⟩
theorem Ct.use {P : Program} {f : FuncId} {vs : List AV} {os : List Obj} {r : AV} {os' : List Obj} {Q : AV → List Obj → Prop} (h : Ct P f vs os (Is2 r os')) (k : Q r os') : Ct P f vs os Q :=
  h.mono (fun r' os'' ⟨e1, e2⟩ => by subst e1; subst e2; exact k)
theorem again {Inv : Nat → List AV → List Obj → Prop} {n : Nat} {vs : List AV} {os : List Obj} (k : Nat) (hk : k < n) (h : Inv k vs os) : ∃ k, k < n ∧ Inv k vs os := ⟨k, hk, h⟩
theorem cond_i {c : Bool} {A B : Prop} (h : c = true → A) (k : c = false → B) : cond c A B := by cases c with
  | true => exact h rfl
  | false => exact k rfl
theorem cond_d {p : Prop} [Decidable p] {A B : Prop} (h : p → A) (k : ¬ p → B) : cond (decide p) A B := cond_i (fun e => h (of_decide_eq_true e)) (fun e => k (of_decide_eq_false e))
theorem cond_nd {p : Prop} [Decidable p] {A B : Prop} (h : ¬ p → A) (k : p → B) : cond (!decide p) A B := cond_i (fun e => h (by simpa using e)) (fun e => k (by simpa using e))
theorem cond_y {p : Prop} [Decidable p] {A B : Prop} (h : p) (k : A) : cond (decide p) A B := by rw [decide_eq_true h]; exact k
theorem cond_n {p : Prop} [Decidable p] {A B : Prop} (h : ¬ p) (k : B) : cond (decide p) A B := by rw [decide_eq_false h]; exact k
theorem Ct.args {P : Program} {f : FuncId} {vs vs' : List AV} {os : List Obj} {Q : AV → List Obj → Prop} (h : Ct P f vs' os Q) (k : ∀ I ρ us, All2 (RelA I ρ) us vs → All2 (RelA I ρ) us vs') : Ct P f vs os Q :=
  ⟨h.call, fun I ρ us L a b c => h.run I ρ us L (k I ρ us a) b c⟩
def nlA : AV → AV
  | .d .nils => .d (.ro [])
  | a => a
theorem Ct.nl {P : Program} {f : FuncId} {vs : List AV} {os : List Obj} {Q : AV → List Obj → Prop} (h : Ct P f (vs.map nlA) os Q) : Ct P f vs os Q :=
  h.args (fun I ρ us ⟨hl, hx⟩ => ⟨by simpa using hl, fun j u y hu hy => by
    rw [List.getElem?_map] at hy
    cases hj : vs[j]? with
    | none => rw [hj] at hy; cases hy
    | some a =>
      rw [hj] at hy; simp at hy; subst hy
      have := hx j u a hu hj
      unfold nlA
      split
      · cases this with | d h => cases h; exact .d relD_ro_nil
      · exact this⟩)
def nl0 : D → D
  | .nils => .ro []
  | x => x
def nlD : D → D
  | .agg cs => .agg (cs.map nl0)
  | x => nl0 x
def nlDA : AV → AV
  | .d x => .d (nlD x)
  | a => a
theorem nl0_ok {I : Imm} {v : Value} {x : D} (h : RelD I v x) : RelD I v (nl0 x) := by
  cases h with
  | nils => exact .ro (sz := 0) (us := []) rfl (Nat.le_refl _) (Nat.zero_le _) (fun x hx => by cases hx) (fun j u hu => by simp at hu) rfl Ones.nil (fun j u y hu => by simp at hu)
  | int h => exact .int h
  | bool => exact .bool
  | str h => exact .str h
  | nilp => exact .nilp
  | ro a b c d e f g h => exact .ro a b c d e f g h
  | agg a b c => exact .agg a b c
  | opq h => exact .opq h
theorem nlD_ok {I : Imm} {v : Value} {x : D} (h : RelD I v x) : RelD I v (nlD x) := by
  cases h with
  | @agg us cs hl h1 hx =>
    refine .agg (by simpa using hl) h1 (fun j u y hu hy => ?_)
    rw [List.getElem?_map] at hy
    cases hj : cs[j]? with
    | none => rw [hj] at hy; cases hy
    | some x => rw [hj] at hy; simp at hy; subst hy; exact nl0_ok (hx j u x hu hj)
  | nils => exact nl0_ok .nils
  | int h => exact .int h
  | bool => exact .bool
  | str h => exact .str h
  | nilp => exact .nilp
  | ro a b c d e f g h => exact .ro a b c d e f g h
  | opq h => exact .opq h
theorem nlDA_ok {I : Imm} {ρ : Nat → Value} {v : Value} {a : AV} (h : RelA I ρ v a) : RelA I ρ v (nlDA a) := by
  cases h with
  | d h => exact .d (nlD_ok h)
  | sl h => exact .sl h
  | ptr h => exact .ptr h
  | rp a b c => exact .rp a b c
  | ep h => exact .ep h
  | av a b c => exact .av a b c
  | agg a b c => exact .agg a b c
  | tup a b => exact .tup a b
  | fn a b c d => exact .fn a b c d
  | nilf => exact .nilf
  | map h => exact .map h
  | nilm => exact .nilm
  | ifc h => exact .ifc h
/-- Nil slices within structs, as empty ones. -/
theorem Ct.nlD {P : Program} {f : FuncId} {vs : List AV} {os : List Obj} {Q : AV → List Obj → Prop} (h : Ct P f (vs.map nlDA) os Q) : Ct P f vs os Q :=
  h.args fun I ρ us hu => ⟨by rw [List.length_map]; exact hu.1, fun j u y hj hy => by
    rw [List.getElem?_map] at hy
    cases hx : vs[j]? with
    | none => rw [hx] at hy; cases hy
    | some x => rw [hx] at hy; simp at hy; subst hy; exact nlDA_ok (hu.2 j u x hj hx)⟩
/-- A new row that is given back may stay as it is from now on. -/
theorem Ct.frz {P : Program} {f : FuncId} {vs : List AV} {e : TypeId} {sz : Nat} {xs : List D} (h : Ct P f vs [] (Is2 (.sl 0) [.row e sz xs])) : Ct P f vs [] (Is2 (.d (.ro xs)) []) := by
  refine ⟨h.call, fun I ρ us L a b c w F hw => (h.run I ρ us L a b c w F hw).mono fun ex w' ⟨v, I', L', he, hle, hp, hs⟩ => ?_⟩
  obtain ⟨ρ', r, os', r1, r2, r3, r4, r5, h1, h2⟩ := hp
  subst h1; subst h2
  cases r2 with
  | cons ho hr =>
    cases hr with
    | nil hgl =>
    obtain ⟨A, cp, us', q1, q2, q3, ro1, rfl⟩ := ho
    cases r1 with
    | sl r1 =>
      rw [q1] at r1
      simp only [Value.slice.injEq] at r1
      obtain ⟨rfl, rfl, rfl⟩ := r1
      obtain ⟨I2, hle2, hc, hn1, hn2, hw2⟩ := HS.freezeRow (show HS I' (.row (.slice A xs.length cp) e sz xs.length us' :: F) w' by simpa using hs)
      exact ⟨_, I2, [], he, hle.trans hle2, ⟨ρ, _, [], .d (.ro rfl hn1 hn2 q2 hc q3.1 ro1 (fun j u y a b => (q3.2 j u y a b).mono hle2)), .nil (hgl.mono hle2), c, Nat.le_refl _, fun _ _ => rfl, rfl, rfl⟩, hw2⟩
end Go.V

/- The second floor, part W: the same programs, without what slows their reckoning. No function of the program is proved here. -/
namespace Go.V
open Go.Eng
set_option maxRecDepth 100000

noncomputable def frcL_p : { g // g = @frcL } := ⟨_, by delta frcL; exact rfl⟩
noncomputable def frcLF := frcL_p.1
theorem frcL_f : @frcL = @frcLF := frcL_p.2.symm
noncomputable def frcA_p : { g // g = @frcA } := ⟨_, by delta frcA; exact rfl⟩
noncomputable def frcAF := frcA_p.1
theorem frcA_f : @frcA = @frcAF := frcA_p.2.symm
noncomputable def frcAs_p : { g // g = @frcAs } := ⟨_, by delta frcAs; exact rfl⟩
noncomputable def frcAsF := frcAs_p.1
theorem frcAs_f : @frcAs = @frcAsF := frcAs_p.2.symm
noncomputable def frcO_p : { g // g = @frcO } := ⟨_, by delta frcO; rw [frcAs_f]⟩
noncomputable def frcOF := frcO_p.1
theorem frcO_f : @frcO = @frcOF := frcO_p.2.symm
noncomputable def frcOs_p : { g // g = @frcOs } := ⟨_, by delta frcOs; delta frcOs._f; rw [frcO_f]⟩
noncomputable def frcOsF := frcOs_p.1
theorem frcOs_f : @frcOs = @frcOsF := frcOs_p.2.symm
noncomputable def frcH_p : { g // g = @frcH } := ⟨_, by delta frcH; delta frcH._f; rw [frcO_f]⟩
noncomputable def frcHF := frcH_p.1
theorem frcH_f : @frcH = @frcHF := frcH_p.2.symm
noncomputable def frcF_p : { g // g = @frcF } := ⟨_, by delta frcF; delta frcF._f; rw [frcA_f]⟩
noncomputable def frcFF := frcF_p.1
theorem frcF_f : @frcF = @frcFF := frcF_p.2.symm
noncomputable def frcS_p : { g // g = @frcS } := ⟨_, by delta frcS; rw [frcF_f, frcH_f]⟩
noncomputable def frcSF := frcS_p.1
theorem frcS_f : @frcS = @frcSF := frcS_p.2.symm
noncomputable def frcT_p : { g // g = @frcT } := ⟨_, by delta frcT; rw [frcH_f]⟩
noncomputable def frcTF := frcT_p.1
theorem frcT_f : @frcT = @frcTF := frcT_p.2.symm
noncomputable def lendW_p : { g // g = @lendW } := ⟨_, by delta lendW; rw [frcAs_f, frcT_f, frcL_f, frcOs_f]⟩
noncomputable def lendWF := lendW_p.1
theorem lendW_f : @lendW = @lendWF := lendW_p.2.symm
noncomputable def callW_p : { g // g = @callW } := ⟨_, by delta callW; rw [lendW_f, frcAs_f, frcT_f, frcL_f, frcOs_f]⟩
noncomputable def callWF := callW_p.1
theorem callW_f : @callW = @callWF := callW_p.2.symm
noncomputable def stepW_p : { g // g = @stepW } := ⟨_, by delta stepW; rw [callW_f]⟩
noncomputable def stepWF := stepW_p.1
theorem stepW_f : @stepW = @stepWF := stepW_p.2.symm
noncomputable def opsW_p : { g // g = @opsW } := ⟨_, by delta opsW; delta opsW._f; rw [stepW_f, frcA_f, frcT_f]⟩
noncomputable def opsWF := opsW_p.1
theorem opsW_f : @opsW = @opsWF := opsW_p.2.symm
noncomputable def resA_p : { g // g = @resA } := ⟨_, by delta resA; exact rfl⟩
noncomputable def resAF := resA_p.1
theorem resA_f : @resA = @resAF := resA_p.2.symm
noncomputable def wp_p : { g // g = @wp } := ⟨_, by delta wp; delta wp._f; rw [resA_f, frcT_f, frcS_f, opsW_f]⟩
noncomputable def wpF := wp_p.1
theorem wp_f : @wp = @wpF := wp_p.2.symm
noncomputable def retW_p : { g // g = @retW } := ⟨_, by delta retW; rw [resA_f]⟩
noncomputable def retWF := retW_p.1
theorem retW_f : @retW = @retWF := retW_p.2.symm
noncomputable def tailW_p : { g // g = @tailW } := ⟨_, by delta tailW; delta tailW._f; rw [stepW_f, frcA_f, frcT_f]⟩
noncomputable def tailWF := tailW_p.1
theorem tailW_f : @tailW = @tailWF := tailW_p.2.symm
noncomputable def endW_p : { g // g = @endW } := ⟨_, by delta endW; rw [opsW_f, tailW_f]⟩
noncomputable def endWF := endW_p.1
theorem endW_f : @endW = @endWF := endW_p.2.symm
noncomputable def pW_p : { g // g = @pW } := ⟨_, by delta pW; delta pW._f; rw [frcF_f]⟩
noncomputable def pWF := pW_p.1
theorem pW_f : @pW = @pWF := pW_p.2.symm
noncomputable def mixW_p : { g // g = @mixW } := ⟨_, by delta mixW; delta mixW._f; rw [pW_f, frcF_f, stepW_f, frcA_f, frcT_f]⟩
noncomputable def mixWF := mixW_p.1
theorem mixW_f : @mixW = @mixWF := mixW_p.2.symm
noncomputable def drawW_p : { g // g = @drawW } := ⟨_, by delta drawW; delta drawW._f; rw [endW_f, frcF_f, frcA_f]⟩
noncomputable def drawWF := drawW_p.1
theorem drawW_f : @drawW = @drawWF := drawW_p.2.symm
end Go.V

/- The second floor, part X: what is used of it, with the fast programs. No function of the program is proved here. -/
namespace Go.V
open Go.Eng
theorem wp_fast {E : Env} {c : Code} {st : St} {Q : Exit → St → Prop} (h : wpF E c st Q) : wp E c st Q := by rw [wp_f]; exact h
theorem retW_fast {E : Env} {Q : AV → List Obj → Prop} {e : Exit} {st : St} : retW E Q e st = retWF E Q e st := by rw [retW_f]
theorem Ct.introF {E : Env} (hT : TOk E.P E.T) {f : FuncId} {fn : Func} {c : Code} {vs : List AV} {os : List Obj} {Q : AV → List Obj → Prop} (hc : ∀ as w, (callFunc f as).run E.P w = .ok (.enter f as) w)
    (hf : E.P.funcs[f]? = some fn) (hb : fn.body = some c) (hN : fn.ntmps = E.N) (hr : fn.results = E.rs.toArray) (hn : Nat.ble vs.length E.N = true) (hm : E.m = os.length)
    (h : InV vs → wpF E c ⟨argS 0 vs, numb 0 os, os.length⟩ (retWF E Q)) : Ct E.P f vs os Q :=
  Ct.intro hT hc hf hb hN hr hn hm (fun hi => by rw [wp_f, retW_f]; exact h hi)
theorem DrawI.mkF {E : Env} {all : Array Oper} {st : St} {K : St → Prop} (m : Nat) (rs : List (List Nat)) (h : drawOK all m rs = true) (k : drawWF E all m [] rs (all.toList.take m) st.fr st.hp st.nx K) : DrawI E all st K :=
  .mk m rs h (by rw [drawW_f]; exact k)
theorem DrawI.mkTF {E : Env} {all : Array Oper} {st : St} {K : St → Prop} (m : Nat) (rs : List (List Nat)) (fl : List (Nat × Nat × Nat)) (h : drawOKT all E.N m fl rs = true) (k : drawWF E all m fl rs (all.toList.take m) (hideL fl st.fr) st.hp st.nx K) : DrawI E all st K :=
  .mkT m rs fl h (by rw [drawW_f]; exact k)
theorem DrawI.mixF {E : Env} {all : Array Oper} {st : St} {K : St → Prop} (pl : List Stg) (al : List Nat) (h : mixOK E all pl al = true) (k : mixWF E all pl al [] st.fr st.hp st.nx K) : DrawI E all st K :=
  .mix pl al h (by rw [mixW_f]; exact k)
theorem DrawN.mkF {E : Env} {o : Op} {rfr : List (Nat × AV)} {hp : List (Nat × Obj)} {nx : Nat} {k : Obj → Prop} (O : Obj) (hd : objD O = true) (h : stepWF E o ⟨rfr, hp, nx⟩ (fun a st' => frcAF 3 a fun a => frcTF st' fun st' => a = lblA O nx ∧ st' = ⟨rfr, (nx, O) :: hp, nx + 1⟩)) (next : k O) : DrawN E o rfr hp nx k :=
  .mk O hd (by rw [stepW_f, frcA_f, frcT_f]; exact h) next
theorem DrawO.mkF {E : Env} {o : Op} {rfr : List (Nat × AV)} {hp : List (Nat × Obj)} {nx : Nat} {k : AV → Prop} (A : AV) (h : stepWF E o ⟨rfr, hp, nx⟩ (fun a st' => frcAF 3 a fun a => frcTF st' fun st' => a = A ∧ st' = ⟨rfr, hp, nx⟩)) (next : k A) : DrawO E o rfr hp nx k :=
  .mk A (by rw [stepW_f, frcA_f, frcT_f]; exact h) next
theorem DrawO.roF {E : Env} {o : Op} {rfr : List (Nat × AV)} {hp : List (Nat × Obj)} {nx : Nat} {k : AV → Prop} (xs : List D) (e : TypeId) (sz : Nat) (h : stepWF E o ⟨rfr, hp, nx⟩ (fun a st' => frcAF 3 a fun a => frcTF st' fun st' => a = .sl nx ∧ st' = ⟨rfr, (nx, .row e sz xs) :: hp, nx + 1⟩)) (next : k (.d (.ro xs))) : DrawO E o rfr hp nx k :=
  .ro xs e sz (by rw [stepW_f, frcA_f, frcT_f]; exact h) next
end Go.V
