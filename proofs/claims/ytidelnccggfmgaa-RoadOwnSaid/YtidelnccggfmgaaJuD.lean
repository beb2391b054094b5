/- The second floor, part C: objects in memory: reading, writing, making. No function of the program is proved here. -/
import Derived.Test.YtidelnccggfmgaaJuC
import Derived.Laws.MakeOwn
import Derived.Test.YtidelnccggfmgaaJuB
set_option linter.unusedVariables false
set_option linter.unusedSimpArgs false
set_option linter.unnecessarySimpa false
set_option linter.unusedSectionVars false
set_option linter.all false
/- The second floor, part C: objects in memory: reading, writing, making. No function of the program is proved here. -/
namespace Go.V
open Go.Eng

section
variable {P : Program} {N : Nat} {T : TypeId → Option TI} {I J : Imm} {ρ ρ' : Nat → Value} {F : List Ent} {st : St} {fr : Frm} {L : List Ent}
variable {ty : TypeId} {pos : String} {aft : Array Edge} {gd : Option (Nat × Bool)} {d : Option Tmp} {x y z : Operand}

theorem SR.at (h : SR I ρ F st fr L) {l : Nat} {o : Obj} (hl : lookO st.hp l = o) (hg : o ≠ .gone) :
    ∃ M es R, L = M ++ es ++ R ∧ RelO I ρ l o es ∧ ∀ o' es' (J : Imm) (ρ' : Nat → Value) (nx' : Nat), I.le J → (∀ k, ρ k ≠ .nilFunc → ρ' k = ρ k) → (∀ k, nx' ≤ k → ρ' k = .nilFunc) → RelO J ρ' l o' es' →
      SR J ρ' F ⟨st.fr, setO st.hp l o', nx'⟩ fr (M ++ es' ++ R) := by
  obtain ⟨L', hh, rfl⟩ := h.hpr
  obtain ⟨M, es, R, rfl, h1, h2⟩ := hh.at hl hg
  refine ⟨M, es, R ++ F, by simp, h1, fun o' es' J ρ' nx' hle ha hn ho' => ?_⟩
  exact ⟨(h.frr.mono hle).ren ha, ⟨_, h2 o' es' J ρ' (fun g => g.mono hle) (fun _ _ _ h => (h.mono hle).ren ha) ho', by simp⟩, hn⟩

theorem SR.glob (h : SR I ρ F st fr L) : Glob I := by
  obtain ⟨_, hh, _⟩ := h.hpr
  exact hh.glob

/-- A new object. -/
theorem SR.add (h : SR I ρ F st fr L) {o : Obj} {es : List Ent} {v : Value} (hle : I.le J) (ho : RelO J (bind ρ st.nx v) st.nx o es) :
    SR J (bind ρ st.nx v) F ⟨st.fr, (st.nx, o) :: st.hp, st.nx + 1⟩ fr (es ++ L) := by
  have ha := bind_agree (v := v) (h.new st.nx (Nat.le_refl _))
  obtain ⟨L', hh, rfl⟩ := h.hpr
  refine ⟨(h.frr.mono hle).ren ha, ⟨_, .cons ho ((hh.mono hle).ren ha), by simp⟩, fun k hk => ?_⟩
  unfold bind
  simp only at hk
  rw [if_neg (by omega)]; exact h.new k (by omega)

theorem SR.mono (h : SR I ρ F st fr L) (hle : I.le J) : SR J ρ F st fr L := by
  obtain ⟨L', hh, rfl⟩ := h.hpr
  exact ⟨h.frr.mono hle, ⟨L', hh.mono hle, rfl⟩, h.new⟩

theorem Acts.mono {o : Oper} {R R' : Value → Imm → List Ent → Prop} (h : Acts P N fr I L o R) (hp : ∀ v I' L', R v I' L' → ∃ L2, L'.Perm L2 ∧ R' v I' L2) : Acts P N fr I L o R' := by
  intro a w next Q ha hw hk
  refine h a w next Q ha hw (fun v I' L' w' hw' hr => ?_)
  obtain ⟨L2, p, hr'⟩ := hp v I' L' hr
  exact hk v I' L2 w' (hw'.perm p) hr'
theorem Acts.perm {o : Oper} {L2 : List Ent} {R : Value → Imm → List Ent → Prop} (hp : L.Perm L2) (h : Acts P N fr I L2 o R) : Acts P N fr I L o R := fun a w next Q ha hw hk => h a w next Q ha (hw.perm hp) hk

/-! ## Pointers: fields, elements -/
def cellsA : AV → List AV
  | .d (.agg cs) => cs.map .d
  | .agg cs => cs
  | a => [a]

def allD : List AV → Option (List D)
  | [] => some []
  | .d x :: as => match allD as with
    | some xs => some (x :: xs)
    | none => none
  | _ :: _ => none
def packA (cs : List AV) : AV := match allD cs with
  | some xs => .d (.agg xs)
  | none => .agg cs

theorem allD_ok : ∀ {as : List AV} {xs : List D}, allD as = some xs → as = xs.map .d
  | [], xs, h => by simp [allD] at h; subst h; rfl
  | .d x :: as, xs, h => by
    unfold allD at h
    split at h
    · rename_i ys hy; simp at h; subst h; rw [allD_ok hy]; rfl
    · cases h
  | .sl _ :: _, _, h => by simp [allD] at h
  | .ptr _ _ :: _, _, h => by simp [allD] at h
  | .rp _ _ :: _, _, h => by simp [allD] at h
  | .ep _ _ _ _ :: _, _, h => by simp [allD] at h
  | .av _ _ _ _ :: _, _, h => by simp [allD] at h
  | .agg _ :: _, _, h => by simp [allD] at h
  | .tup _ :: _, _, h => by simp [allD] at h
  | .fn _ _ _ :: _, _, h => by simp [allD] at h
  | .nilf :: _, _, h => by simp [allD] at h
  | .map _ :: _, _, h => by simp [allD] at h
  | .nilm :: _, _, h => by simp [allD] at h
  | .ifc _ :: _, _, h => by simp [allD] at h
  | .undef :: _, _, h => by simp [allD] at h

theorem all_d {us : List Value} {xs : List D} (h : All2 (RelA I ρ) us (xs.map .d)) : All2 (RelD I) us xs := by
  refine ⟨by simpa using h.1, fun j u y hu hy => ?_⟩
  have := h.2 j u (.d y) hu (by simp [hy])
  cases this with | d h => exact h
theorem d_all {us : List Value} {xs : List D} (h : All2 (RelD I) us xs) : All2 (RelA I ρ) us (xs.map .d) := by
  refine ⟨by simpa using h.1, fun j u y hu hy => ?_⟩
  rw [List.getElem?_map] at hy
  cases hx : xs[j]? with
  | none => rw [hx] at hy; cases hy
  | some x => rw [hx] at hy; simp at hy; subst hy; exact .d (h.2 j u x hu hx)

theorem packA_ok {us : List Value} {cs : List AV} (h : All2 (RelA I ρ) us cs) (h1 : Ones us) : RelA I ρ (.agg us.toArray) (packA cs) := by
  unfold packA
  split
  · rename_i xs hx
    rw [allD_ok hx] at h
    exact .d (.agg (all_d h).1 h1 (all_d h).2)
  · exact .agg h.1 h1 h.2

theorem cellsA_ok {v : Value} {a : AV} (h : RelA I ρ v a) : All2 (RelA I ρ) v.cells.toList (cellsA a) := by
  cases h with
  | d h =>
    have h2 := h.cells
    cases h with
    | agg hl h1 hx => exact d_all h2
    | int h => exact .one (.d (.int h))
    | bool => exact .one (.d .bool)
    | str h => exact .one (.d (.str h))
    | nils => exact .one (.d .nils)
    | nilp => exact .one (.d .nilp)
    | opq h => rw [h.1]; exact .one (.d (.opq h))
    | ro a b c d e f g h => exact .one (.d (.ro a b c d e f g h))
  | sl h => exact .one (.sl h)
  | ptr h => exact .one (.ptr h)
  | rp a b c => exact .one (.rp a b c)
  | ep h => exact .one (.ep h)
  | av a b c => exact .one (.av a b c)
  | agg hl h1 hx => exact ⟨by simpa [Value.cells, cellsA] using hl, by simpa [Value.cells, cellsA] using hx⟩
  | tup a b => exact .one (.tup a b)
  | fn a b c d => exact .one (.fn a b c d)
  | nilf => exact .one .nilf
  | map h => exact .one (.map h)
  | nilm => exact .one .nilm
  | ifc h => rw [(isIfc_cell h).1]; exact .one (.ifc h)

/-- Values that take one cell. -/
def one1 : AV → Bool
  | .d (.agg _) | .agg _ | .tup _ | .undef => false
  | _ => true
theorem one1_ok {v : Value} {a : AV} (h : RelA I ρ v a) (h1 : one1 a = true) : v.cells = #[v] ∧ v.oneCell' = true := by
  cases h with
  | d h => cases h <;> first | exact ⟨rfl, rfl⟩ | assumption | (simp [one1] at h1)
  | agg _ _ _ => simp [one1] at h1
  | tup _ _ => simp [one1] at h1
  | ifc h => exact isIfc_cell h
  | _ => exact ⟨rfl, rfl⟩
theorem relD_one {v : Value} {x : D} (h : RelD I v x) (h1 : one1 (.d x) = true) : v.cells = #[v] ∧ v.oneCell' = true := one1_ok (ρ := fun _ => .nilFunc) (.d h) h1

theorem RelA.ones {v : Value} {a : AV} (h : RelA I ρ v a) (ht : ∀ vs, a ≠ .tup vs) : Ones v.cells.toList := by
  cases h with
  | d h => exact h.ones
  | agg hl h1 hx => simpa [Value.cells] using h1
  | tup _ _ => exact absurd rfl (ht _)
  | ifc h => rw [(isIfc_cell h).1]; exact .one (isIfc_cell h).2
  | _ => exact .one rfl

def fieldW (a : AV) (off : Nat) (K : AV → Prop) : Prop :=
  match a with
  | .ptr l o => K (.ptr l (o + off))
  | .rp cs f => K (.rp cs (f + off))
  | .ep l sz i f => K (.ep l sz i (f + off))
  | _ => False

theorem field_ok {v : Value} {a : AV} {off : Nat} {K : AV → Prop} (h : RelA I ρ v a) (hk : fieldW a off K) : ∃ ad b, v = .pointer (some ad) ∧ RelA I ρ (.pointer (some (ad.add off))) b ∧ K b := by
  cases h with
  | @ptr l o b hl => exact ⟨_, _, rfl, by rw [add_blk]; exact .ptr hl, hk⟩
  | @rp a us cs f hr h1 hu => exact ⟨_, _, rfl, by rw [add_add]; exact .rp hr h1 hu, hk⟩
  | @ep l sz i f b n c hl => exact ⟨_, _, rfl, by rw [add_blk, Nat.add_assoc]; exact .ep hl, hk⟩
  | _ => exact hk.elim

/-! ## Reading -/
/-- A thing at a place. -/
inductive Idx {α : Type} (xs : List α) (i : Nat) (K : α → Prop) : Prop where
  | mk (x : α) (h : xs[i]? = some x) (k : K x) : Idx xs i K

def okA (a : AV) (K : AV → Prop) : Prop := match frc a with
  | some a => K a
  | none => False
theorem okA_ok {a : AV} {K : AV → Prop} (h : okA a K) : a ≠ .undef ∧ K a := by
  unfold okA at h
  split at h
  · rename_i b hb
    obtain ⟨e1, e2⟩ := frc_ok hb
    subst e1; exact ⟨e2, h⟩
  · exact h.elim

def getA (cs : List AV) (o : Nat) (K : AV → Prop) : Prop := match cs[o]? with
  | some a => okA a K
  | none => False
theorem getA_ok {cs : List AV} {o : Nat} {K : AV → Prop} (h : getA cs o K) : ∃ a, cs[o]? = some a ∧ K a := by
  unfold getA at h
  split at h
  · rename_i a ha; exact ⟨a, ha, (okA_ok h).2⟩
  · exact h.elim

/-- Of an array: all of it, or a part. -/
def arrGet (o sz : Nat) (cs : List D) (K : List D → Prop) : Prop := match o with
  | 0 => cs.length = sz ∧ K cs
  | o => o + sz ≤ cs.length ∧ K ((cs.drop o).take sz)
theorem arrGet_ok {o sz : Nat} {cs : List D} {K : List D → Prop} (h : arrGet o sz cs K) : o + sz ≤ cs.length ∧ K ((cs.drop o).take sz) := by
  unfold arrGet at h
  split at h
  · exact ⟨by omega, by rw [List.drop_zero, List.take_of_length_le (by omega)]; exact h.2⟩
  · exact h
def normL (hp : List (Nat × Obj)) : List AV → List AV
  | [] => []
  | a :: as => normA hp a :: normL hp as
theorem normL_ok (hs : SR I ρ F st fr L) : ∀ {us : List Value} {as : List AV}, All2 (RelA I ρ) us as → All2 (RelA I ρ) us (normL st.hp as)
  | us, [], h => h
  | us, a :: as, h => by
    obtain ⟨u, us', rfl, h1, h2⟩ := h.uncons
    exact .cons (normA_ok hs h1) (normL_ok hs h2)
def loadW (i : TI) (a : AV) (st : St) (K : AV → Prop) : Prop :=
  match a with
  | .ptr l o => match lookO st.hp l with
    | .vec _ cs => bif i.td.one then getA cs o (fun a => okA (normA st.hp a) K) else bif Nat.ble (o + i.size) cs.length then okA (packA (normL st.hp ((cs.drop o).take i.size))) K else False
    | .arr _ cs => bif i.td.one then Idx cs o (fun x => K (.d x)) else arrGet o i.size cs fun cs => K (.d (.agg cs))
    | _ => False
  | .rp cs f => bif i.td.one then Idx cs f (fun x => K (.d x)) else match i.td with
    | .array _ _ => arrGet f i.size cs fun cs => K (.d (.agg cs))
    | _ => bif Nat.ble (f + i.size) cs.length then K (.d (.agg ((cs.drop f).take i.size))) else False
  | .ep l sz j f => match lookO st.hp l with
    | .row _ sz' xs => bif Nat.beq sz sz' then Idx xs j (fun x => bif i.td.one then Idx x.cells f (fun y => K (.d y)) else bif Nat.ble (f + i.size) x.cells.length then K (.d (.agg ((x.cells.drop f).take i.size))) else False) else False
    | _ => False
  | _ => False

theorem cellsOf_slice {sz : Nat} {xs : List D} (h : ∀ x ∈ xs, x.cells.length = sz) {i : Nat} {x : D} (hx : xs[i]? = some x) {f n : Nat} (hn : f + n ≤ sz) : ((cellsOf xs).drop (i * sz + f)).take n = (x.cells.drop f).take n := by
  apply List.ext_getElem?
  intro j
  rw [List.getElem?_take, List.getElem?_take]
  split
  · rename_i hj
    rw [List.getElem?_drop, List.getElem?_drop, Nat.add_assoc, cellsOf_get h hx (by omega)]
  · rfl
theorem blk_cells {b o n : Nat} {t : TypeId} {us : List Value} (hm : Ent.blk b t us ∈ L) (_ : o + n ≤ us.length) : ∀ w, HS I L w → CellsAt w ⟨b, o, none⟩ ((us.drop o).take n) := by
  intro w hs i hi
  rw [add_blk, cell_blk hs hm]
  rw [List.length_take, List.length_drop] at hi
  rw [List.getElem?_take, if_pos (by omega), List.getElem?_drop]

theorem row_cell {A : Option Addr} {n c sz : Nat} {e : TypeId} {us : List Value} {b j : Nat} {u : Value} (hm : Ent.row (.slice A n c) e sz n us ∈ L) (hA : A = some ⟨b, 0, none⟩) (hj : us[j]? = some u) : ∀ w, HS I L w → w.cell? ⟨b, j, none⟩ = some u := cellRow hm hA hj

theorem loadW_ok (hT : TOk P T) {t : TypeId} {i : TI} {a : AV} {K : AV → St → Prop} (hi : T t = some i) (hx : ev st x = a) (h : loadW i a st (fun a => K a st)) :
    OpS P N ⟨d, .load t x, ty, pos, aft, gd⟩ st K := by
  obtain ⟨desc, info, zv, hu, htd, hinf, hz, hsz, hby, hzs, hzc, _⟩ := hT.ok t i hi
  have h1 : oneB desc = i.td.one := by rw [td_one, htd]
  unfold loadW at h
  split at h
  · -- a variable
    rename_i l o
    split at h
    · rename_i tt cs hl
      cases hb : i.td.one with
      | true =>
        rw [hb] at h
        obtain ⟨a, ha, hk⟩ := getA_ok h
        replace hk := (okA_ok hk).2
        refine OpS.val _ (fun I ρ F fr L hs => ?_) hk
        obtain ⟨v, e1, e2⟩ := ev_ok hs hx (by simp)
        obtain ⟨es, ho, hm⟩ := hs.obj l
        rw [hl] at ho
        obtain ⟨b, us, r1, r2, ro1, rfl⟩ := ho
        cases e2 with
        | ptr r3 =>
          rw [r1] at r3; simp only [Value.pointer.injEq, Option.some.injEq, Addr.mk.injEq, and_true] at r3; subst r3
          obtain ⟨u, q1, q2⟩ := r2.get ha
          exact ⟨u, R.load e1 hu (by rw [h1, hb]) (cellL (hm _ List.mem_cons_self) q1), normA_ok hs q2⟩
      | false =>
        rw [hb] at h
        cases hble : Nat.ble (o + i.size) cs.length with
        | false => rw [hble] at h; exact h.elim
        | true =>
          rw [hble] at h
          have hle := Nat.le_of_ble_eq_true hble
          replace h := (okA_ok h).2
          refine OpS.val _ (fun I ρ F fr L hs => ?_) h
          obtain ⟨v, e1, e2⟩ := ev_ok hs hx (by simp)
          obtain ⟨es, ho, hm⟩ := hs.obj l
          rw [hl] at ho
          obtain ⟨b, us, r1, r2, ro1, rfl⟩ := ho
          cases e2 with
          | ptr r3 =>
            rw [r1] at r3; simp only [Value.pointer.injEq, Option.some.injEq, Addr.mk.injEq, and_true] at r3; subst r3
            exact ⟨_, R.loadAgg e1 hu (by rw [h1, hb]) (run_ti hinf) (cs := (us.drop o).take i.size) (by rw [hsz, List.length_take, List.length_drop, r2.1]; omega) (blk_cells (hm _ List.mem_cons_self) (by rw [r2.1]; exact hle)), packA_ok (normL_ok hs ((r2.drop o).take _)) ((ro1.drop _).take _)⟩
    · rename_i tt cs hl
      cases hb : i.td.one with
      | true =>
        rw [hb] at h
        obtain ⟨y, hy, hk⟩ := h
        refine OpS.val _ (fun I ρ F fr L hs => ?_) hk
        obtain ⟨v, e1, e2⟩ := ev_ok hs hx (by simp)
        obtain ⟨es, ho, hm⟩ := hs.obj l
        rw [hl] at ho
        obtain ⟨b, us, r1, r2, ro1, rfl⟩ := ho
        cases e2 with
        | ptr r3 =>
          rw [r1] at r3; simp only [Value.pointer.injEq, Option.some.injEq, Addr.mk.injEq, and_true] at r3; subst r3
          obtain ⟨u, q1, q2⟩ := r2.get hy
          exact ⟨u, R.load e1 hu (by rw [h1, hb]) (cellL (hm _ List.mem_cons_self) q1), .d q2⟩
      | false =>
        rw [hb] at h
        obtain ⟨hle, hk⟩ := arrGet_ok (show arrGet o i.size cs (fun cs => K (.d (.agg cs)) st) from h)
        refine OpS.val _ (fun I ρ F fr L hs => ?_) hk
        obtain ⟨v, e1, e2⟩ := ev_ok hs hx (by simp)
        obtain ⟨es, ho, hm⟩ := hs.obj l
        rw [hl] at ho
        obtain ⟨b, us, r1, r2, ro1, rfl⟩ := ho
        cases e2 with
        | ptr r3 =>
          rw [r1] at r3; simp only [Value.pointer.injEq, Option.some.injEq, Addr.mk.injEq, and_true] at r3; subst r3
          have r4 := (r2.drop o).take i.size
          exact ⟨_, R.loadAgg e1 hu (by rw [h1, hb]) (run_ti hinf) (cs := (us.drop o).take i.size) (by rw [hsz, List.length_take, List.length_drop, r2.1]; omega) (blk_cells (hm _ List.mem_cons_self) (by rw [r2.1]; exact hle)), .d (.agg r4.1 ((ro1.drop _).take _) r4.2)⟩
    · exact h.elim
  · rename_i cs f
    cases hb : i.td.one with
    | true =>
      rw [hb] at h
      obtain ⟨y, hy, hk⟩ := h
      refine OpS.val _ (fun I ρ F fr L hs => ?_) hk
      obtain ⟨v, e1, e2⟩ := ev_ok hs hx (by simp)
      cases e2 with
      | rp r1 ro1 r2 =>
        obtain ⟨u, q1, q2⟩ := r2.get hy
        exact ⟨u, R.load e1 hu (by rw [h1, hb]) (cellI (r1 _ _ q1)), .d q2⟩
    | false =>
      rw [hb] at h
      have h' : f + i.size ≤ cs.length ∧ K (.d (.agg ((cs.drop f).take i.size))) st := by
        simp only [cond_false] at h
        split at h
        · exact arrGet_ok h
        · cases hble : Nat.ble (f + i.size) cs.length with
          | false => rw [hble] at h; exact h.elim
          | true => rw [hble] at h; exact ⟨Nat.le_of_ble_eq_true hble, h⟩
      clear h
      obtain ⟨hle, h⟩ := h'
      · refine OpS.val _ (fun I ρ F fr L hs => ?_) h
        obtain ⟨v, e1, e2⟩ := ev_ok hs hx (by simp)
        cases e2 with
        | @rp a us cs f r1 ro1 r2 =>
          have r4 := (r2.drop f).take i.size
          refine ⟨_, R.loadAgg e1 hu (by rw [h1, hb]) (run_ti hinf) (cs := (us.drop f).take i.size) (by rw [hsz, List.length_take, List.length_drop, r2.1]; omega) (fun w hw j hj => ?_), .d (.agg r4.1 ((ro1.drop _).take _) r4.2)⟩
          rw [add_add]
          have hj' : j < ((us.drop f).take i.size).length := hj
          rw [List.getElem?_eq_getElem hj']
          refine hw.cell (r1 _ _ ?_)
          rw [← List.getElem?_eq_getElem hj', List.getElem?_take, if_pos (by rw [List.length_take] at hj'; omega), List.getElem?_drop]
  · rename_i l sz j f
    split at h
    · rename_i tt sz' xs hl
      cases hsz' : Nat.beq sz sz' with
      | false => rw [hsz'] at h; exact h.elim
      | true =>
      rw [hsz'] at h
      obtain rfl := Nat.eq_of_beq_eq_true hsz'
      obtain ⟨x0, hx0, h⟩ := h
      have cell : ∀ {I ρ F fr L}, SR I ρ F st fr L → ∀ {v : Value}, RelA I ρ v (.ep l sz j f) → ∃ b A c us, v = .pointer (some ⟨b, j * sz + f, none⟩) ∧ A = some ⟨b, 0, none⟩ ∧ (∀ x ∈ xs, x.cells.length = sz) ∧ All2 (RelD I) us (cellsOf xs) ∧ Ones us ∧ Ent.row (.slice A xs.length c) tt sz xs.length us ∈ L := by
        intro I ρ F fr L hs v hv
        obtain ⟨es, ho, hm⟩ := hs.obj l
        rw [hl] at ho
        obtain ⟨A, c, us, r1, r2, r3, ro1, rfl⟩ := ho
        cases hv with
        | ep r4 =>
          rw [r1] at r4; simp only [Value.slice.injEq] at r4
          exact ⟨_, A, c, us, rfl, r4.1, r2, r3, ro1, hm _ List.mem_cons_self⟩
      have hmem : x0 ∈ xs := List.mem_of_getElem? hx0
      cases hb : i.td.one with
      | true =>
        rw [hb] at h
        obtain ⟨y, hy, hk⟩ := h
        refine OpS.val _ (fun I ρ F fr L hs => ?_) hk
        obtain ⟨v, e1, e2⟩ := ev_ok hs hx (by simp)
        obtain ⟨b, A, c, us, rfl, hA, hz', hus, ro1, hm⟩ := cell hs e2
        have hf : f < sz := by rw [← hz' x0 hmem]; exact (List.getElem?_eq_some_iff.1 hy).1
        obtain ⟨u, q1, q2⟩ := hus.get (j := j * sz + f) (y := y) (by rw [cellsOf_get hz' hx0 hf]; exact hy)
        exact ⟨u, R.load e1 hu (by rw [h1, hb]) (row_cell hm hA q1), .d q2⟩
      | false =>
        rw [hb] at h
        cases hble : Nat.ble (f + i.size) x0.cells.length with
        | false => simp only [hble] at h; exact h.elim
        | true =>
          simp only [hble] at h
          have hle := Nat.le_of_ble_eq_true hble
          refine OpS.val _ (fun I ρ F fr L hs => ?_) h
          obtain ⟨v, e1, e2⟩ := ev_ok hs hx (by simp)
          obtain ⟨b, A, c, us, rfl, hA, hz', hus, ro1, hm⟩ := cell hs e2
          have hx0l := hz' x0 hmem
          rw [hx0l] at hle
          have r4 := (hus.drop (j * sz + f)).take i.size
          rw [cellsOf_slice hz' hx0 hle] at r4
          have hlen := r4.1
          simp only [List.length_take, List.length_drop, hx0l] at hlen
          refine ⟨_, R.loadAgg e1 hu (by rw [h1, hb]) (run_ti hinf) (cs := (us.drop (j * sz + f)).take i.size) (by rw [hsz]; simp only [List.length_take, List.length_drop]; omega) (fun w hw q hq => ?_), .d (.agg r4.1 ((ro1.drop _).take _) r4.2)⟩
          rw [add_blk]
          have hq' : q < ((us.drop (j * sz + f)).take i.size).length := hq
          rw [List.getElem?_eq_getElem hq']
          refine row_cell hm hA ?_ w hw
          rw [← List.getElem?_eq_getElem hq', List.getElem?_take, if_pos (by rw [List.length_take] at hq'; omega), List.getElem?_drop]
    · exact h.elim
  · exact h.elim
end
end Go.V

/- The second floor, part D: freezing, writing, making. No function of the program is proved here. -/
namespace Go.V
open Go.Eng

section
variable {P : Program} {N : Nat} {T : TypeId → Option TI} {I J : Imm} {ρ ρ' : Nat → Value} {F : List Ent} {st : St} {fr : Frm} {L : List Ent}
variable {ty : TypeId} {pos : String} {aft : Array Edge} {gd : Option (Nat × Bool)} {d : Option Tmp} {x y z : Operand}

/-! ## Steps that only we take -/
def Gh (st st' : St) : Prop := ∀ I ρ F fr L w, SR I ρ F st fr L → HS I L w → ∃ I' L', I.le I' ∧ SR I' ρ F st' fr L' ∧ HS I' L' w
theorem Gh.refl : Gh st st := fun I ρ F fr L w h hw => ⟨I, L, Imm.le_refl _, h, hw⟩
theorem Gh.trans {st1 st2 st3 : St} (h : Gh st1 st2) (k : Gh st2 st3) : Gh st1 st3 := fun I ρ F fr L w hs hw => by
  obtain ⟨I1, L1, a, b, c⟩ := h I ρ F fr L w hs hw
  obtain ⟨I2, L2, d, e, f⟩ := k I1 ρ F fr L1 w b c
  exact ⟨I2, L2, a.trans d, e, f⟩

theorem OpS.gh {o : Oper} {st' : St} {K : AV → St → Prop} (g : Gh st st') (h : OpS P N o st' K) : OpS P N o st K := by
  intro I ρ F fr L hs a w next Q ha hw hk
  obtain ⟨I1, L1, hle, hs1, hw1⟩ := g I ρ F fr L w hs hw
  refine h I1 ρ F fr L1 hs1 a w next Q ha hw1 (fun v I' L' w' hw' hr => hk v I' L' w' hw' ?_)
  exact ⟨hle.trans hr.1, hr.2⟩

/-- A row stays as it is from now on. -/
theorem HS.freezeRow {w : World} {A : Option Addr} {n c sz : Nat} {e : TypeId} {xs : List Value} (hs : HS I (.row (.slice A n c) e sz n xs :: L) w) :
    ∃ I', I.le I' ∧ (∀ j u, xs[j]? = some u → ∃ a, A = some a ∧ I'.cell (a.add j) = some u) ∧ n ≤ c ∧ n ≤ maxLen ∧ HS I' L w := by
  have h := hs.ents _ List.mem_cons_self
  simp only [Ent.ok] at h
  have hnc : n ≤ c ∧ n ≤ maxLen := by
    obtain ⟨_, ⟨h1, h0⟩ | ⟨g, cap, cur, h1, _, _, h2, h3, _⟩⟩ := h
    · simp only [Value.slice.injEq] at h1; exact ⟨by omega, by rw [h0]; exact Nat.zero_le _⟩
    · simp only [Value.slice.injEq] at h1; exact ⟨by omega, Nat.le_trans h2 h3⟩
  by_cases hn : 0 < n
  · obtain ⟨g, spare, rfl, h2⟩ := hs.rowBlk hn
    obtain ⟨I', hle, hc, h3⟩ := h2.freezeBlk
    refine ⟨I', hle, fun j u hj => ⟨_, rfl, ?_⟩, hnc.1, hnc.2, h3⟩
    rw [add_blk, Nat.zero_add, hc, List.getElem?_append_left (List.getElem?_eq_some_iff.1 hj).1]; exact hj
  · have hn0 : n = 0 := by omega
    subst hn0
    have hx : xs = [] := by simpa using h.1
    subst hx
    exact ⟨I, Imm.le_refl _, fun j u hj => by simp at hj, hnc.1, hnc.2, hs.sublist (List.sublist_cons_self _ _)⟩

theorem lookO_set (h : List (Nat × Obj)) (l : Nat) (o : Obj) (k : Nat) (hne : k ≠ l) : lookO (setO h l o) k = lookO h k := by
  induction h with
  | nil => rfl
  | cons p h ih =>
    obtain ⟨a, b⟩ := p
    simp only [setO, beq_eq]
    by_cases e : a = l
    · subst e
      have : Nat.beq a k = false := by rw [beq_eq]; simp; exact fun e => hne e.symm
      simp [lookO, this]
    · simp only [e, decide_false, cond_false, lookO, ih]
theorem lookO_self {h : List (Nat × Obj)} {l : Nat} {o o' : Obj} (hl : lookO h l = o) (hg : o ≠ .gone) : lookO (setO h l o') l = o' := by
  induction h with
  | nil => exact absurd hl.symm hg
  | cons p h ih =>
    obtain ⟨a, b⟩ := p
    simp only [lookO, beq_eq] at hl
    simp only [setO, beq_eq]
    by_cases e : a = l
    · subst e; simp [lookO]
    · simp only [e, decide_false, cond_false] at hl ⊢
      simp only [lookO, beq_eq, e, decide_false, cond_false]
      exact ih hl

theorem Gh.freeze {l : Nat} {e : TypeId} {sz : Nat} {xs : List D} (hl : lookO st.hp l = .row e sz xs) : Gh st ⟨st.fr, setO st.hp l (.froz xs), st.nx⟩ := by
  intro I ρ F fr L w hs hw
  obtain ⟨M, es, R, rfl, ho, hk⟩ := hs.at hl (by simp)
  obtain ⟨A, c, us, r1, r2, r3, ro1, rfl⟩ := ho
  have hw1 : HS I (.row (.slice A xs.length c) e sz xs.length us :: (M ++ R)) w := hw.perm (by simpa using List.perm_middle)
  obtain ⟨I', hle, hc, hn1, hn2, hw2⟩ := HS.freezeRow hw1
  refine ⟨I', M ++ [] ++ R, hle, hk (.froz xs) [] I' ρ st.nx hle (fun _ _ => rfl) hs.new ⟨?_, rfl⟩, by simpa using hw2⟩
  rw [r1]
  exact .ro rfl hn1 hn2 r2 hc r3.1 ro1 (fun j u y a b => (r3.2 j u y a b).mono hle)

theorem Gh.freezeArr {l : Nat} {t : TypeId} {cs : List D} (hl : lookO st.hp l = .arr t cs) : Gh st ⟨st.fr, setO st.hp l (.fzn cs), st.nx⟩ := by
  intro I ρ F fr L w hs hw
  obtain ⟨M, es, R, rfl, ho, hk⟩ := hs.at hl (by simp)
  obtain ⟨b, us, r1, r2, ro1, rfl⟩ := ho
  have hw1 : HS I (.blk b t us :: (M ++ R)) w := hw.perm (by simpa using List.perm_middle)
  obtain ⟨I', hle, hc, hw2⟩ := hw1.freezeBlk
  exact ⟨I', M ++ [] ++ R, hle, hk (.fzn cs) [] I' ρ st.nx hle (fun _ _ => rfl) hs.new ⟨⟨b, us, r1, fun j u hj => by rw [hc]; exact hj, ro1, r2.imp (fun _ _ h => h.mono hle)⟩, rfl⟩, by simpa using hw2⟩

/-- What is data, or may be made data. -/
def toD1 (a : AV) (st : St) (K : D → St → Prop) : Prop :=
  match a with
  | .d x => K x st
  | .sl l => match lookO st.hp l with
    | .row _ _ xs => K (.ro xs) ⟨st.fr, setO st.hp l (.froz xs), st.nx⟩
    | .froz xs => K (.ro xs) st
    | _ => False
  | _ => False
def toDs : List AV → St → (List D → St → Prop) → Prop
  | [], st, K => K [] st
  | a :: as, st, K => toD1 a st fun x st => toDs as st fun xs st => K (x :: xs) st
def toD (a : AV) (st : St) (K : D → St → Prop) : Prop :=
  match a with
  | .agg cs => toDs cs st fun xs st => K (.agg xs) st
  | a => toD1 a st K

def Told (st' : St) (a : AV) (x : D) : Prop := ∀ I ρ F fr L v, SR I ρ F st' fr L → RelA I ρ v a → RelD I v x
/-- What is frozen stays so. -/
def Keeps (st st' : St) : Prop := st'.fr = st.fr ∧ st'.nx = st.nx ∧ (∀ l xs, lookO st.hp l = .froz xs → lookO st'.hp l = .froz xs) ∧ ∀ l cs, lookO st.hp l = .fzn cs → lookO st'.hp l = .fzn cs
theorem Keeps.refl : Keeps st st := ⟨rfl, rfl, fun _ _ h => h, fun _ _ h => h⟩
theorem Keeps.trans {a b c : St} (h : Keeps a b) (k : Keeps b c) : Keeps a c := ⟨k.1.trans h.1, k.2.1.trans h.2.1, fun l xs hl => k.2.2.1 l xs (h.2.2.1 l xs hl), fun l xs hl => k.2.2.2 l xs (h.2.2.2 l xs hl)⟩

inductive TD1 : AV → D → St → Prop where
  | d {x : D} {st : St} : TD1 (.d x) x st
  | sl {l : Nat} {xs : List D} {st : St} (h : lookO st.hp l = .froz xs) : TD1 (.sl l) (.ro xs) st
theorem TD1.keeps {a : AV} {x : D} {st' : St} (h : TD1 a x st) (k : Keeps st st') : TD1 a x st' := by
  cases h with
  | d => exact .d
  | sl h => exact .sl (k.2.2.1 _ _ h)
theorem TD1.told {a : AV} {x : D} (h : TD1 a x st) : Told st a x := by
  intro I ρ F fr L v hs hv
  cases h with
  | d => cases hv with | d h => exact h
  | sl h =>
    obtain ⟨es, ho, _⟩ := hs.obj _
    rw [h] at ho
    cases hv with | sl r => exact r ▸ ho.1

theorem toD1_ok {a : AV} {K : D → St → Prop} (h : toD1 a st K) : ∃ x st', Gh st st' ∧ Keeps st st' ∧ TD1 a x st' ∧ K x st' := by
  unfold toD1 at h
  split at h
  · exact ⟨_, st, .refl, .refl, .d, h⟩
  · rename_i l
    split at h
    · rename_i e sz xs hl
      refine ⟨_, _, .freeze hl, ⟨rfl, rfl, fun k ys hk => ?_, fun k ys hk => ?_⟩, .sl (lookO_self hl (by simp)), h⟩ <;>
      · have : k ≠ l := by rintro rfl; rw [hl] at hk; cases hk
        exact (lookO_set _ _ _ _ this).trans hk
    · rename_i xs hl; exact ⟨_, st, .refl, .refl, .sl hl, h⟩
    · exact h.elim
  · exact h.elim
theorem toDs_ok : ∀ {as : List AV} {st : St} {K : List D → St → Prop}, toDs as st K → ∃ xs st', Gh st st' ∧ Keeps st st' ∧ All2 (fun a x => TD1 a x st') as xs ∧ K xs st'
  | [], st, K, h => ⟨[], st, .refl, .refl, .nil, h⟩
  | a :: as, st, K, h => by
    obtain ⟨x, st1, g1, k1, t1, h1⟩ := toD1_ok h
    obtain ⟨xs, st2, g2, k2, t2, h2⟩ := toDs_ok h1
    exact ⟨x :: xs, st2, g1.trans g2, k1.trans k2, .cons (t1.keeps k2) t2, h2⟩
theorem toD_ok {a : AV} {K : D → St → Prop} (h : toD a st K) : ∃ x st', Gh st st' ∧ Keeps st st' ∧ Told st' a x ∧ K x st' := by
  have one : ∀ {a : AV}, toD1 a st K → ∃ x st', Gh st st' ∧ Keeps st st' ∧ Told st' a x ∧ K x st' := fun h => by
    obtain ⟨x, st', g, k, t, h'⟩ := toD1_ok h
    exact ⟨x, st', g, k, t.told, h'⟩
  unfold toD at h
  split at h
  · obtain ⟨xs, st', g, k, t, h'⟩ := toDs_ok h
    refine ⟨_, st', g, k, fun I ρ F fr L v hs hv => ?_, h'⟩
    cases hv with
    | @agg us cs hl h1 hx =>
      refine .agg (hl.trans t.1) h1 (fun j u y hu hy => ?_)
      have hlt := (List.getElem?_eq_some_iff.1 hy).1
      rw [← t.1] at hlt
      exact (t.2 j _ y (List.getElem?_eq_getElem hlt) hy).told I ρ F fr L u hs (hx j u _ hu (List.getElem?_eq_getElem hlt))
  · exact one h

theorem evs_len {xs : List Operand} {as : List AV} (h : evs st xs = some as) : xs.length = as.length := by
  induction xs generalizing as with
  | nil => simp [evs] at h; subst h; rfl
  | cons x xs ih =>
    unfold evs at h
    split at h
    · rename_i a l ha hl; simp at h; subst h; simp [ih hl]
    · cases h

/-! ## Writing -/
theorem W.storeBlk {b o : Nat} {t tb : TypeId} {v : Value} {cs vs : List Value} {L' : List Ent} {info : TypeInfo} (hx : evF fr x = some (.pointer (some ⟨b, o, .none⟩))) (hy : evF fr y = some v) (hv : v.cells.toList = vs)
    (hi : ∀ w, (typeInfo t).run P w = .ok info w) (hn : info.size = vs.length) (hu : Upd L (.blk b tb cs) (.blk b tb (cs.take o ++ vs ++ cs.drop (o + vs.length))) L') (hl : o + vs.length ≤ cs.length) (h1 : ∀ v ∈ vs, v.oneCell' = true) :
    Acts P N fr I L ⟨d, .store t x y, ty, pos, aft, gd⟩ (Is undef I L') := by
  intro a w next Q ha hs hk
  have hb : w.heap[b]? = some (.cells cs.toArray tb (0, 0)) := hs.ents _ hu.mem
  obtain ⟨w', hr, hh, hfar, hsz, ho, ht, hu'⟩ := run_storeCells (P := P) vs o w b tb cs hb hl h1
  have hr2 : (storeCells ⟨b, o, .none⟩ vs 0).run P w = .ok () w' := by
    rw [storeCells_base, Nat.add_zero]; exact hr
  have hr' : (execOp a.eval ⟨d, .store t x y, ty, pos, aft, gd⟩).run P w = .ok .skip w' := by
    simp [execOp, ha.ev hx, ha.ev hy, Instr.storeAt, Instr.sureAddr, storeVar, sizeOf, hi, hn]
    have e2 : v.cells.size = vs.length := by rw [← Array.length_toList, hv]
    rw [if_pos e2, hv, hr2]; rfl
  unfold Oper.wp
  rw [hr', Oper.upon_skip]
  refine hk undef I L' w' ?_ ⟨rfl, rfl, rfl⟩
  exact hs.upd hu (fun c hc hne => hfar c (fun e => hne (by simp [Ent.own, e]))) hh (fun c hc => .inl hc) ho ht hu'

/-- A store into a row of our own. -/
theorem W.storeRow {b j : Nat} {t e : TypeId} {n c sz : Nat} {A : Option Addr} {us vs : List Value} {v : Value} {M R : List Ent} {info : TypeInfo} (hx : evF fr x = some (.pointer (some ⟨b, j, .none⟩))) (hA : A = some ⟨b, 0, none⟩) (hy : evF fr y = some v)
    (hv : v.cells.toList = vs) (hi : ∀ w, (typeInfo t).run P w = .ok info w) (hn : info.size = vs.length) (hl : j + vs.length ≤ us.length) (h1 : ∀ v ∈ vs, v.oneCell' = true) (hpos : 0 < vs.length) :
    Acts P N fr I (M ++ .row (.slice A n c) e sz n us :: R) ⟨d, .store t x y, ty, pos, aft, gd⟩ (Is undef I (M ++ .row (.slice A n c) e sz n (us.take j ++ vs ++ us.drop (j + vs.length)) :: R)) := by
  intro a w next Q ha hs hk
  subst hA
  have hp : (M ++ .row (.slice (some ⟨b, 0, none⟩) n c) e sz n us :: R).Perm (.row (.slice (some ⟨b, 0, none⟩) n c) e sz n us :: (M ++ R)) := List.perm_middle
  have hs1 := hs.perm hp
  have hlen := (hs1.ents _ List.mem_cons_self).1
  have hn0 : 0 < n := by
    refine Nat.pos_of_ne_zero (fun e => ?_)
    subst e; rw [Nat.zero_mul] at hlen; omega
  obtain ⟨g, spare, hA, hl2, hnc, hcm, hs2⟩ : ∃ g spare, (some (⟨b, 0, none⟩ : Addr)) = some ⟨g, 0, none⟩ ∧ c * sz ≤ (us ++ spare).length ∧ n ≤ c ∧ c ≤ maxLen ∧ HS I (.blk g e (us ++ spare) :: (M ++ R)) w := by
    obtain ⟨g, spare, h1, h2, h3, h4, _, h6⟩ := HS.rowBlkC hs1 hn0
    exact ⟨g, spare, h1, h2, h3, h4, h6⟩
  simp only [Option.some.injEq, Addr.mk.injEq, and_true] at hA
  subst hA
  have hb : w.heap[b]? = some (.cells (us ++ spare).toArray e (0, 0)) := hs2.ents _ List.mem_cons_self
  obtain ⟨w', hr, hh, hfar, hsz, ho, ht, hu'⟩ := run_storeCells (P := P) vs j w b e (us ++ spare) hb (by rw [List.length_append]; omega) h1
  have hr2 : (storeCells ⟨b, j, .none⟩ vs 0).run P w = .ok () w' := by
    rw [storeCells_base, Nat.add_zero]; exact hr
  have hr' : (execOp a.eval ⟨d, .store t x y, ty, pos, aft, gd⟩).run P w = .ok .skip w' := by
    simp [execOp, ha.ev hx, ha.ev hy, Instr.storeAt, Instr.sureAddr, storeVar, sizeOf, hi, hn]
    have e2 : v.cells.size = vs.length := by rw [← Array.length_toList, hv]
    rw [if_pos e2, hv, hr2]; rfl
  unfold Oper.wp
  rw [hr', Oper.upon_skip]
  have e1 : (us ++ spare).take j ++ vs ++ (us ++ spare).drop (j + vs.length) = (us.take j ++ vs ++ us.drop (j + vs.length)) ++ spare := by
    rw [List.take_append_of_le_length (by omega), List.drop_append_of_le_length (by omega), List.append_assoc, List.append_assoc, List.append_assoc]
  rw [e1] at hh
  have hs3 : HS I (.blk b e ((us.take j ++ vs ++ us.drop (j + vs.length)) ++ spare) :: (M ++ R)) w' :=
    hs2.swap (fun c _ hne => hfar c (fun e => hne (by simp [Ent.own, e]))) hh (fun c hc => .inl hc) ho ht hu'
  have hl3 : (us.take j ++ vs ++ us.drop (j + vs.length)).length = us.length := by
    simp only [List.length_append, List.length_take, List.length_drop]; omega
  have hs4 := HS.blkRow (n := n) (c := c) (sz := sz) hs3 (by rw [List.length_append, hl3, ← List.length_append]; exact hl2) hnc hcm
  have e3 : ((us.take j ++ vs ++ us.drop (j + vs.length)) ++ spare).take (n * sz) = us.take j ++ vs ++ us.drop (j + vs.length) := by
    rw [← hlen, ← hl3, List.take_left]
  rw [e3] at hs4
  exact hk undef I _ w' (hs4.perm List.perm_middle.symm) ⟨rfl, rfl, rfl⟩
end
end Go.V

/- The second floor, part E: stores, new variables, structs, slices. No function of the program is proved here. -/
namespace Go.V
open Go.Eng

section
variable {P : Program} {N : Nat} {T : TypeId → Option TI} {I J : Imm} {ρ ρ' : Nat → Value} {F : List Ent} {st : St} {fr : Frm} {L : List Ent}
variable {ty : TypeId} {pos : String} {aft : Array Edge} {gd : Option (Nat × Bool)} {d : Option Tmp} {x y z : Operand}

def setV {α : Type} (cs : List α) (o : Nat) (bs : List α) : List α := cs.take o ++ bs ++ cs.drop (o + bs.length)
theorem setV_len {α : Type} {cs bs : List α} {o : Nat} (h : o + bs.length ≤ cs.length) : (setV cs o bs).length = cs.length := by
  unfold setV; simp only [List.length_append, List.length_take, List.length_drop]; omega
theorem All2.setV {α β : Type} {R : α → β → Prop} {us vs : List α} {cs bs : List β} (h : All2 R us cs) (k : All2 R vs bs) (o : Nat) : All2 R (V.setV us o vs) (V.setV cs o bs) := by
  unfold V.setV
  rw [k.1]; exact ((h.take o).app k).app (h.drop _)
theorem Ones.setV {us vs : List Value} (h : Ones us) (k : Ones vs) (o : Nat) : Ones (V.setV us o vs) := ((h.take o).app k).app (h.drop _)

def putD (x : D) (f : Nat) (y : D) : D := match x with
  | .agg cs => .agg (setV cs f y.cells)
  | _ => y
theorem putD_cells {x y : D} {f : Nat} (h : f + y.cells.length ≤ x.cells.length) (hy : 0 < y.cells.length) : (putD x f y).cells = setV x.cells f y.cells := by
  cases x with
  | agg cs => rfl
  | _ =>
    have h' : f + y.cells.length ≤ 1 := h
    obtain rfl : f = 0 := by omega
    have h1 : y.cells.length = 1 := by omega
    show y.cells = setV [_] 0 y.cells
    unfold setV
    rw [h1]; simp

theorem cellsOf_put {sz : Nat} : ∀ {xs : List D} (_ : ∀ x ∈ xs, x.cells.length = sz) {i : Nat} {x x' : D} (_ : xs[i]? = some x) {f : Nat} {bs : List D} (_ : f + bs.length ≤ sz) (_ : x'.cells = setV x.cells f bs), cellsOf (xs.set i x') = setV (cellsOf xs) (i * sz + f) bs
  | [], _, _, _, _, hx, _, _, _, _ => by simp at hx
  | z :: xs, h, 0, x, x', hx, f, bs, hf, he => by
    simp at hx; subst hx
    have hz := h z List.mem_cons_self
    simp only [cellsOf, List.set_cons_zero, List.flatMap_cons, Nat.zero_mul, Nat.zero_add, he, setV]
    rw [List.take_append_of_le_length (by omega), List.drop_append_of_le_length (by omega)]
    simp only [List.append_assoc]
  | z :: xs, h, i + 1, x, x', hx, f, bs, hf, he => by
    have ih := cellsOf_put (sz := sz) (xs := xs) (fun z hz => h z (List.mem_cons_of_mem _ hz)) (i := i) (x := x) (x' := x') (by simpa using hx) hf he
    have hz := h z List.mem_cons_self
    have e1 : (i + 1) * sz + f = z.cells.length + (i * sz + f) := by rw [hz, Nat.add_mul, Nat.one_mul]; omega
    simp only [cellsOf, List.set_cons_succ, List.flatMap_cons, setV] at *
    rw [ih, e1, Nat.add_assoc z.cells.length, List.take_length_add_append, List.drop_length_add_append]
    simp only [List.append_assoc]

def notTup : AV → Bool
  | .tup _ | .undef => false
  | _ => true
theorem notTup_ne {a : AV} (h : notTup a = true) : ∀ vs, a ≠ .tup vs := by rintro vs rfl; cases h

/-- Into an array: a whole one, or a part. -/
def arrSet (one : Bool) (o sz : Nat) (cs bs : List D) (K : List D → Prop) : Prop := match one, o with
  | false, 0 => (bs.length = sz ∧ cs.length = sz) ∧ K bs
  | _, o => (bs.length = sz ∧ o + sz ≤ cs.length) ∧ K (setV cs o bs)
theorem setV_all {α : Type} {cs bs : List α} (h : bs.length = cs.length) : V.setV cs 0 bs = bs := by
  unfold V.setV
  rw [List.take_zero, List.nil_append, Nat.zero_add, List.drop_eq_nil_of_le (by omega), List.append_nil]
theorem arrSet_ok {one : Bool} {o sz : Nat} {cs bs : List D} {K : List D → Prop} (h : arrSet one o sz cs bs K) : (bs.length = sz ∧ o + sz ≤ cs.length) ∧ K (V.setV cs o bs) := by
  unfold arrSet at h
  split at h
  · obtain ⟨⟨h1, h2⟩, h3⟩ := h
    exact ⟨⟨h1, by omega⟩, by rw [setV_all (by omega)]; exact h3⟩
  · exact h
def storeW (i : TI) (a b : AV) (st : St) (K : St → Prop) : Prop :=
  match a with
  | .ptr l o => match lookO st.hp l with
    | .vec t cs => bif (Nat.beq (cellsA b).length i.size && (Nat.ble (o + i.size) cs.length && notTup b)) then K ⟨st.fr, setO st.hp l (.vec t (setV cs o (cellsA b))), st.nx⟩ else False
    | .arr _ _ => toD b st fun y st => match lookO st.hp l with
      | .arr t cs => arrSet i.td.one o i.size cs y.cells fun cs => K ⟨st.fr, setO st.hp l (.arr t cs), st.nx⟩
      | _ => False
    | _ => False
  | .ep l sz j f => toD b st fun y st => match lookO st.hp l with
    | .row e sz' xs => bif Nat.beq sz sz' then Idx xs j (fun x => bif (Nat.beq y.cells.length i.size && (Nat.ble (f + i.size) x.cells.length && Nat.blt 0 i.size)) then K ⟨st.fr, setO st.hp l (.row e sz (xs.set j (putD x f y))), st.nx⟩ else False) else False
    | _ => False
  | _ => False

theorem OpS.mono {o : Oper} {K K' : AV → St → Prop} (h : OpS P N o st K) (hk : ∀ a s, K a s → K' a s) : OpS P N o st K' := by
  intro I ρ F fr L hs a w next Q ha hw hn
  refine h I ρ F fr L hs a w next Q ha hw (fun v I' L' w' hw' hr => hn v I' L' w' hw' ?_)
  obtain ⟨h1, ρ', b, s, h2, h3, h4, h5⟩ := hr
  exact ⟨h1, ρ', b, s, h2, h3, h4, hk b s h5⟩

/-- What an operand told before a step of ours holds behind it. -/
theorem Keeps.evA {st' : St} (k : Keeps st st') {x : Operand} {a : AV} (hx : V.ev st x = a) (ha : a ≠ .undef) (hs : SR I ρ F st' fr L) : ∃ v, evF fr x = some v ∧ RelA I ρ v a := by
  subst hx
  cases x with
  | tmp t =>
    rcases hs.frr t with h1 | ⟨v, h1, h2⟩
    · rw [k.1] at h1; simp only [V.ev, h1, normA] at ha; exact absurd rfl ha
    · refine ⟨v, h1, ?_⟩
      rw [k.1] at h2
      simp only [V.ev]
      generalize hla : lookA st.fr t = la at h2
      cases h2 with
      | @sl l A n c hl =>
        simp only [normA]
        split
        · rename_i xs hx
          obtain ⟨es, h1, _⟩ := hs.obj l
          rw [k.2.2.1 l xs hx] at h1
          exact .d (hl ▸ h1.1)
        · exact .sl hl
      | @ptr l o b hl =>
        simp only [normA]
        split
        · rename_i cs hx
          have hx' := k.2.2.2 l cs hx
          have := normA_ok hs (.ptr hl : RelA I ρ _ (.ptr l o))
          simp only [normA, hx'] at this; exact this
        · exact .ptr hl
      | _ => first | exact .d (by assumption) | exact .nilf | exact .nilm | exact .ifc (by assumption) | exact .rp (by assumption) (by assumption) (by assumption) | exact .ep (by assumption) | exact .av (by assumption) (by assumption) (by assumption) | exact .agg (by assumption) (by assumption) (by assumption) | exact .tup (by assumption) (by assumption) | exact .fn (by assumption) (by assumption) (by assumption) (by assumption) | exact .map (by assumption)
  | const v => exact ⟨v, rfl, constA_ok ha⟩
  | func f => exact ⟨_, rfl, .fn (us := []) (ws := []) rfl (fun j u y hj => by simp at hj) rfl (fun j u y hj => by simp at hj)⟩
  | global g => exact absurd rfl ha
end
end Go.V

/- The second floor, part F: stores, new variables, structs' values. No function of the program is proved here. -/
namespace Go.V
open Go.Eng

section
variable {P : Program} {N : Nat} {T : TypeId → Option TI} {I J : Imm} {ρ ρ' : Nat → Value} {F : List Ent} {st : St} {fr : Frm} {L : List Ent}
variable {ty : TypeId} {pos : String} {aft : Array Edge} {gd : Option (Nat × Bool)} {d : Option Tmp} {x y z : Operand}

theorem storeW_ok (hT : TOk P T) {t : TypeId} {i : TI} {a b : AV} {K : AV → St → Prop} (hi : T t = some i) (hx : ev st x = a) (hy : ev st y = b) (h : storeW i a b st (K .undef)) :
    OpS P N ⟨d, .store t x y, ty, pos, aft, gd⟩ st K := by
  obtain ⟨desc, info, zv, hu, htd, hinf, hz, hsz, hby, hzs, hzc, _⟩ := hT.ok t i hi
  unfold storeW at h
  split at h
  · rename_i l o
    split at h
    · rename_i tt cs hl
      cases hc : (Nat.beq (cellsA b).length i.size && (Nat.ble (o + i.size) cs.length && notTup b)) with
      | false => rw [hc] at h; exact h.elim
      | true =>
        rw [hc] at h
        simp only [Bool.and_eq_true] at hc
        obtain ⟨hc1, hc2, hc3⟩ := hc
        have e1 := Nat.eq_of_beq_eq_true hc1
        have e2 := Nat.le_of_ble_eq_true hc2
        intro I ρ F fr L hs
        obtain ⟨v, x1, x2⟩ := ev_ok hs hx (by simp)
        obtain ⟨u, y1, y2⟩ := ev_ok hs hy (by rintro rfl; cases hc3)
        obtain ⟨M, es, R, rfl, ho, hk⟩ := hs.at hl (by simp)
        obtain ⟨bb, us, r1, r2, ro1, rfl⟩ := ho
        cases x2 with
        | ptr r3 =>
          rw [r1] at r3; simp only [Value.pointer.injEq, Option.some.injEq, Addr.mk.injEq, and_true] at r3; subst r3
          have hcell := cellsA_ok y2
          have hvl : u.cells.toList.length = i.size := by rw [hcell.1, e1]
          have hones := y2.ones (notTup_ne hc3)
          have hlist : M ++ [Ent.blk bb tt us] ++ R = M ++ Ent.blk bb tt us :: R := by simp
          rw [hlist]
          refine Acts.mono (W.storeBlk (cs := us) x1 y1 rfl (run_ti hinf) (by rw [hsz, hvl]) Upd.mid (by rw [hvl, r2.1]; exact e2) hones) (fun v' I' L' hr => ⟨L', .refl _, ?_⟩)
          obtain ⟨rfl, rfl, rfl⟩ := hr
          refine ⟨Imm.le_refl _, ρ, .undef, _, .inl rfl, ?_, fun _ _ => rfl, h⟩
          have := hk (.vec tt (setV cs o (cellsA b))) [.blk bb tt (setV us o u.cells.toList)] I ρ st.nx (Imm.le_refl _) (fun _ _ => rfl) hs.new ⟨bb, _, r1, r2.setV hcell o, ro1.setV hones o, rfl⟩
          have e3 : M ++ [Ent.blk bb tt (setV us o u.cells.toList)] ++ R = M ++ Ent.blk bb tt (us.take o ++ u.cells.toList ++ us.drop (o + u.cells.toList.length)) :: R := by simp [setV]
          rw [e3] at this; exact this
    · obtain ⟨yd, st', g, k, ht, h⟩ := toD_ok h
      split at h
      · rename_i tt cs hl
        obtain ⟨⟨e1, e2⟩, h⟩ := arrSet_ok h
        refine OpS.gh g ?_
        intro I ρ F fr L hs
        obtain ⟨v, x1, x2⟩ := k.evA hx (by simp) hs
        obtain ⟨u, y1, y2⟩ := k.evA hy (by rintro rfl; simp [V.toD, toD1] at *) hs
        have y3 := ht I ρ F fr L u hs y2
        obtain ⟨M, es, R, rfl, ho, hk⟩ := hs.at hl (by simp)
        obtain ⟨bb, us, r1, r2, ro1, rfl⟩ := ho
        cases x2 with
        | ptr r3 =>
          rw [r1] at r3; simp only [Value.pointer.injEq, Option.some.injEq, Addr.mk.injEq, and_true] at r3; subst r3
          have hcell := y3.cells
          have hvl : u.cells.toList.length = i.size := by rw [hcell.1, e1]
          have hones := y3.ones
          have hlist : M ++ [Ent.blk bb tt us] ++ R = M ++ Ent.blk bb tt us :: R := by simp
          rw [hlist]
          refine Acts.mono (W.storeBlk (cs := us) x1 y1 rfl (run_ti hinf) (by rw [hsz, hvl]) Upd.mid (by rw [hvl, r2.1]; exact e2) hones) (fun v' I' L' hr => ⟨L', .refl _, ?_⟩)
          obtain ⟨rfl, rfl, rfl⟩ := hr
          refine ⟨Imm.le_refl _, ρ, .undef, _, .inl rfl, ?_, fun _ _ => rfl, h⟩
          have := hk (.arr tt (setV cs o yd.cells)) [.blk bb tt (setV us o u.cells.toList)] I ρ st'.nx (Imm.le_refl _) (fun _ _ => rfl) hs.new ⟨bb, _, r1, r2.setV hcell o, ro1.setV hones o, rfl⟩
          have e3 : M ++ [Ent.blk bb tt (setV us o u.cells.toList)] ++ R = M ++ Ent.blk bb tt (us.take o ++ u.cells.toList ++ us.drop (o + u.cells.toList.length)) :: R := by simp [setV]
          rw [e3] at this; exact this
      · exact h.elim
    · exact h.elim
  · rename_i l sz j f
    obtain ⟨yd, st', g, k, ht, h⟩ := toD_ok h
    split at h
    · rename_i e sz' xs hl
      cases hsz' : Nat.beq sz sz' with
      | false => rw [hsz'] at h; exact h.elim
      | true =>
      rw [hsz'] at h
      obtain rfl := Nat.eq_of_beq_eq_true hsz'
      obtain ⟨x0, hx0, h⟩ := h
      cases hc : (Nat.beq yd.cells.length i.size && (Nat.ble (f + i.size) x0.cells.length && Nat.blt 0 i.size)) with
      | false => simp only [hc] at h; exact h.elim
      | true =>
        simp only [hc] at h
        simp only [Bool.and_eq_true] at hc
        obtain ⟨hc1, hc2, hc3⟩ := hc
        have e1 := Nat.eq_of_beq_eq_true hc1
        have e2 := Nat.le_of_ble_eq_true hc2
        have e3 : 0 < i.size := by simpa [Nat.blt_eq] using hc3
        refine OpS.gh g ?_
        intro I ρ F fr L hs
        obtain ⟨v, x1, x2⟩ := k.evA hx (by simp) hs
        obtain ⟨u, y1, y2⟩ := k.evA hy (by rintro rfl; simp [V.toD, toD1] at *) hs
        have y3 := ht I ρ F fr L u hs y2
        obtain ⟨M, es, R, rfl, ho, hk⟩ := hs.at hl (by simp)
        obtain ⟨A, c, us, r1, r2, r3, ro1, rfl⟩ := ho
        have hx0l := r2 x0 (List.mem_of_getElem? hx0)
        cases x2 with
        | @ep _ _ _ _ bb n' c' r4 =>
          have hA : A = some ⟨bb, 0, none⟩ := by rw [r1] at r4; simp only [Value.slice.injEq] at r4; exact r4.1
          have hcell := y3.cells
          have hvl : u.cells.toList.length = i.size := by rw [hcell.1, e1]
          have hones := y3.ones
          have hjlt : j < xs.length := (List.getElem?_eq_some_iff.1 hx0).1
          have hul : us.length = xs.length * sz := by rw [r3.1, cellsOf_len r2]
          have hfit : j * sz + f + i.size ≤ us.length := by
            rw [hul]
            have : (j + 1) * sz ≤ xs.length * sz := Nat.mul_le_mul_right _ hjlt
            rw [Nat.add_mul, Nat.one_mul] at this; omega
          have hlist : M ++ [Ent.row (.slice A xs.length c) e sz xs.length us] ++ R = M ++ Ent.row (.slice A xs.length c) e sz xs.length us :: R := by simp
          rw [hlist]
          refine Acts.mono (W.storeRow (us := us) x1 hA y1 rfl (run_ti hinf) (by rw [hsz, hvl]) (by rw [hvl]; exact hfit) hones (by rw [hvl]; exact e3)) (fun v' I' L' hr => ⟨L', .refl _, ?_⟩)
          obtain ⟨rfl, rfl, rfl⟩ := hr
          refine ⟨Imm.le_refl _, ρ, .undef, _, .inl rfl, ?_, fun _ _ => rfl, h⟩
          have hpc := putD_cells (x := x0) (y := yd) (f := f) (by omega) (by omega)
          have hset := cellsOf_put (x' := putD x0 f yd) r2 hx0 (f := f) (bs := yd.cells) (by omega) hpc
          have hlen2 : (xs.set j (putD x0 f yd)).length = xs.length := List.length_set
          have := hk (.row e sz (xs.set j (putD x0 f yd))) [.row (.slice A xs.length c) e sz xs.length (setV us (j * sz + f) u.cells.toList)] I ρ st'.nx (Imm.le_refl _) (fun _ _ => rfl) hs.new
            ⟨A, c, _, by rw [hlen2]; exact r1, fun q hq => by
              rcases List.mem_or_eq_of_mem_set hq with hq | hq
              · exact r2 q hq
              · rw [hq, hpc, setV_len (by omega)]; exact hx0l, by rw [hset]; exact r3.setV hcell _, ro1.setV hones _, by rw [hlen2]⟩
          have e3 : M ++ [Ent.row (.slice A xs.length c) e sz xs.length (setV us (j * sz + f) u.cells.toList)] ++ R = M ++ Ent.row (.slice A xs.length c) e sz xs.length (us.take (j * sz + f) ++ u.cells.toList ++ us.drop (j * sz + f + u.cells.toList.length)) :: R := by simp [setV]
          rw [e3] at this; exact this
    · exact h.elim
  · exact h.elim

/-! ## New variables -/
def newW (arr : Bool) (t : TypeId) (a : AV) (st : St) (K : AV → St → Prop) : Prop :=
  match arr with
  | false => bif notTup a then K (.ptr st.nx 0) ⟨st.fr, (st.nx, .vec t (cellsA a)) :: st.hp, st.nx + 1⟩ else False
  | true => toD a st fun y st => K (.ptr st.nx 0) ⟨st.fr, (st.nx, .arr t y.cells) :: st.hp, st.nx + 1⟩

theorem new_vec {o : Oper} {t : TypeId} {a : AV} {K : AV → St → Prop} (hn : notTup a = true)
    (hr : ∀ I ρ F fr L, SR I ρ F st fr L → ∃ v, RelA I ρ v a ∧ Acts P N fr I L o (fun v' I' L' => ∃ b, v' = .pointer (some ⟨b, 0, none⟩) ∧ I = I' ∧ L' = .blk b t v.cells.toList :: L))
    (h : K (.ptr st.nx 0) ⟨st.fr, (st.nx, .vec t (cellsA a)) :: st.hp, st.nx + 1⟩) : OpS P N o st K := by
  intro I ρ F fr L hs
  obtain ⟨v, hv, ha⟩ := hr I ρ F fr L hs
  refine Acts.mono ha (fun v' I' L' hq => ⟨L', .refl _, ?_⟩)
  obtain ⟨b, rfl, rfl, rfl⟩ := hq
  have hag := bind_agree (v := .pointer (some ⟨b, 0, none⟩)) (hs.new st.nx (Nat.le_refl _))
  exact ⟨Imm.le_refl _, bind ρ st.nx (.pointer (some ⟨b, 0, none⟩)), _, _, .inr (.ptr bind_self), hs.add (o := .vec t (cellsA a)) (es := [.blk b t v.cells.toList]) (Imm.le_refl _) ⟨b, _, bind_self, cellsA_ok (hv.ren hag), hv.ones (notTup_ne hn), rfl⟩, hag, h⟩

theorem new_arr {o : Oper} {t : TypeId} {y : D} {K : AV → St → Prop}
    (hr : ∀ I ρ F fr L, SR I ρ F st fr L → ∃ v, RelD I v y ∧ Acts P N fr I L o (fun v' I' L' => ∃ b, v' = .pointer (some ⟨b, 0, none⟩) ∧ I = I' ∧ L' = .blk b t v.cells.toList :: L))
    (h : K (.ptr st.nx 0) ⟨st.fr, (st.nx, .arr t y.cells) :: st.hp, st.nx + 1⟩) : OpS P N o st K := by
  intro I ρ F fr L hs
  obtain ⟨v, hv, ha⟩ := hr I ρ F fr L hs
  refine Acts.mono ha (fun v' I' L' hq => ⟨L', .refl _, ?_⟩)
  obtain ⟨b, rfl, rfl, rfl⟩ := hq
  have hag := bind_agree (v := .pointer (some ⟨b, 0, none⟩)) (hs.new st.nx (Nat.le_refl _))
  exact ⟨Imm.le_refl _, bind ρ st.nx (.pointer (some ⟨b, 0, none⟩)), _, _, .inr (.ptr bind_self), hs.add (o := .arr t y.cells) (es := [.blk b t v.cells.toList]) (Imm.le_refl _) ⟨b, _, bind_self, hv.cells, hv.ones, rfl⟩, hag, h⟩

theorem boxW_ok {arr : Bool} {t : TypeId} {a : AV} {K : AV → St → Prop} (hx : ev st x = a) (h : newW arr t a st K) : OpS P N ⟨d, .box t x, ty, pos, aft, gd⟩ st K := by
  unfold newW at h
  split at h
  · cases hn : notTup a with
    | false => rw [hn] at h; exact h.elim
    | true =>
      rw [hn] at h
      exact new_vec hn (fun I ρ F fr L hs => by
        obtain ⟨v, x1, x2⟩ := ev_ok hs hx (by rintro rfl; cases hn)
        exact ⟨v, x2, W.box x1 rfl⟩) h
  · obtain ⟨yd, st', g, k, ht, h⟩ := toD_ok h
    refine OpS.gh g (new_arr (fun I ρ F fr L hs => ?_) h)
    obtain ⟨v, x1, x2⟩ := k.evA hx (by rintro rfl; simp [V.toD, toD1] at *) hs
    exact ⟨v, ht I ρ F fr L v hs x2, W.box x1 rfl⟩

theorem allocW_ok (hT : TOk P T) {arr : Bool} {t : TypeId} {i : TI} {K : AV → St → Prop} (hi : T t = some i) (h : newW arr t i.zero st K) : OpS P N ⟨d, .alloc t, ty, pos, aft, gd⟩ st K := by
  obtain ⟨desc, info, zv, hu, htd, hinf, hz, hsz, hby, hzs, hzc, hzu⟩ := hT.ok t i hi
  have hrel : ∀ I ρ, RelA I ρ zv i.zero := fun I ρ => hzc ▸ constA_ok (by rw [hzc]; exact hzu)
  unfold newW at h
  split at h
  · cases hn : notTup i.zero with
    | false => rw [hn] at h; exact h.elim
    | true =>
      rw [hn] at h
      exact new_vec hn (fun I ρ F fr L hs => ⟨zv, hrel I ρ, W.alloc (run_zv hinf hz) rfl⟩) h
  · obtain ⟨yd, st', g, k, ht, h⟩ := toD_ok h
    exact OpS.gh g (new_arr (fun I ρ F fr L hs => ⟨zv, ht I ρ F fr L zv hs (hrel I ρ), W.alloc (run_zv hinf hz) rfl⟩) h)
end
end Go.V

/- The second floor, part G: structs' values, slices that are read, made, appended to. No function of the program is proved here. -/
namespace Go.V
open Go.Eng

section
variable {P : Program} {N : Nat} {T : TypeId → Option TI} {I J : Imm} {ρ ρ' : Nat → Value} {F : List Ent} {st : St} {fr : Frm} {L : List Ent}
variable {ty : TypeId} {pos : String} {aft : Array Edge} {gd : Option (Nat × Bool)} {d : Option Tmp} {x y z q : Operand}

/-! ## Parts -/
def fillA (place : Nat → Option (Nat × Nat)) : List AV → List (Nat × AV) → Option (List AV)
  | cs, [] => some cs
  | cs, (i, a) :: l => match place i with
    | some (off, n) => bif (Nat.beq (cellsA a).length n && (Nat.ble (off + n) cs.length && notTup a)) then fillA place (setV cs off (cellsA a)) l else none
    | none => none

theorem fillA_ok {place : Nat → Option (Nat × Nat)} : ∀ {l : List (Nat × AV)} {cs cs2 : List AV} {us vs : List Value}, fillA place cs l = some cs2 → All2 (RelA I ρ) us cs → Ones us → All2 (RelA I ρ) vs (l.map (·.2)) →
    ∃ us2, FillTo place us ((l.map (·.1)).zip vs) us2 ∧ All2 (RelA I ρ) us2 cs2 ∧ Ones us2
  | [], cs, cs2, us, vs, h, hu, h1, hv => by
    simp [fillA] at h; subst h
    obtain rfl := hv.unnil
    exact ⟨us, .nil, hu, h1⟩
  | (i, a) :: l, cs, cs2, us, vs, h, hu, h1, hv => by
    obtain ⟨v, vs', rfl, hva, hvs⟩ := hv.uncons
    unfold fillA at h
    split at h
    · rename_i off n hp
      cases hc : (Nat.beq (cellsA a).length n && (Nat.ble (off + n) cs.length && notTup a)) with
      | false => rw [hc] at h; cases h
      | true =>
        rw [hc] at h
        simp only [Bool.and_eq_true] at hc
        obtain ⟨c1, c2, c3⟩ := hc
        have e1 := Nat.eq_of_beq_eq_true c1
        have e2 := Nat.le_of_ble_eq_true c2
        have hcell := cellsA_ok hva
        have hlen : v.cells.toList.length = n := by rw [hcell.1, e1]
        obtain ⟨us2, f1, f2, f3⟩ := fillA_ok h (hu.setV hcell off) (h1.setV (hva.ones (notTup_ne c3)) off) hvs
        refine ⟨us2, ?_, f2, f3⟩
        simp only [List.map_cons, List.zip_cons_cons]
        refine .agg hp rfl hlen (by rw [hu.1]; exact e2) ?_
        unfold V.setV at f1
        rw [hlen] at f1
        exact f1
    · cases h

/-- Where a struct's fields lie. -/
def places (T : TypeId → Option TI) : List (TypeId × Nat) → Option (List (Nat × Nat))
  | [] => some []
  | (t, off) :: fs => match T t, places T fs with
    | some i, some ps => some ((off, i.size) :: ps)
    | _, _ => none

theorem places_ok (hT : TOk P T) : ∀ {fs : List Field} {ps : List (Nat × Nat)}, places T (fs.map fun f => (f.type, f.offset)) = some ps → ∀ w, (fs.mapM fun (f : Field) => do pure (f.offset, ← sizeOf f.type)).run P w = .ok ps w
  | [], ps, h, w => by simp [places] at h; subst h; simp
  | f :: fs, ps, h, w => by
    simp only [List.map_cons] at h
    unfold places at h
    split at h
    · rename_i i ps' h1 h2
      simp at h; subst h
      obtain ⟨_, info, _, _, _, hinf, _, hsz, _⟩ := hT.ok _ _ h1
      have ih := places_ok hT h2 w
      have e1 : (do pure (f.offset, ← sizeOf f.type) : Sem (Nat × Nat)).run P w = .ok (f.offset, i.size) w := by simp [sizeOf, run_ti hinf, hsz]
      rw [List.mapM_cons, Sem.run_bind, e1, Result.andThen_ok, Sem.run_bind, ih, Result.andThen_ok]; rfl
    · cases h

theorem R.buildArr {t e : TypeId} {n sz : Nat} {parts : Array (Nat × Operand)} {zv : Value} {zs vals cs : List Value} {info : TypeInfo} (ht : P.underlying t = some (.array n e)) (hz : ∀ w, (zeroValue t).run P w = .ok zv w) (hzc : zv.cells.toList = zs)
    (hi : ∀ w, (typeInfo e).run P w = .ok info w) (hsz : info.size = sz) (hvs : evL fr (parts.toList.map (·.2)) = some vals) (hf : FillTo (fun i => some (i * sz, sz)) zs ((parts.toList.map (·.1)).zip vals) cs) :
    RunsTo P fr I L ⟨d, .build t parts, ty, pos, aft, gd⟩ (.agg cs.toArray) := fun ρ w hρ _ => by
  have hp : (parts.map (fun (i, x) => (i, ρ x))).toList = (parts.toList.map (·.1)).zip vals := by
    have := evL_spec hρ _ vals hvs
    rw [← this]
    simp [List.zip_map', List.map_map]
  have hr : (Instr.build t (parts.map fun (i, x) => (i, ρ x))).run P w = .ok (.agg cs.toArray) w := by
    unfold Instr.build
    rw [Sem.run_bind, hz, Result.andThen_ok, Sem.run_bind, run_und ht, Result.andThen_ok]
    simp only
    simp only [sizeOf, Sem.run_bind, hi, Result.andThen_ok, Sem.run_pure, hsz]
    have e : zv.cells = zs.toArray := by rw [← hzc]
    rw [hp, e, hf.fill]
    rfl
  simp only [execOp]
  rw [Sem.run_bind, hr]; rfl

def buildW (T : TypeId → Option TI) (t : TypeId) (ps : List (Nat × Operand)) (st : St) (K : AV → Prop) : Prop :=
  match T t, evs st (ps.map (·.2)) with
  | some i, some as => match i.td with
    | .struct fs => match places T fs with
      | some pl => match fillA (pl[·]?) (cellsA i.zero) ((ps.map (·.1)).zip as) with
        | some cs => okA (packA cs) K
        | none => False
      | none => False
    | .array _ e => match T e with
      | some ei => match fillA (fun i => some (i * ei.size, ei.size)) (cellsA i.zero) ((ps.map (·.1)).zip as) with
        | some cs => okA (packA cs) K
        | none => False
      | none => False
    | _ => False
  | _, _ => False

theorem zip_map {α β : Type} : ∀ (l : List α) (m : List β), l.length = m.length → (l.zip m).map (·.1) = l ∧ (l.zip m).map (·.2) = m
  | [], [], _ => ⟨rfl, rfl⟩
  | a :: l, b :: m, h => by
    obtain ⟨h1, h2⟩ := zip_map l m (by simpa using h)
    simp [h1, h2]
  | [], _ :: _, h => by simp at h
  | _ :: _, [], h => by simp at h

theorem buildW_ok (hT : TOk P T) {t : TypeId} {ps : Array (Nat × Operand)} {K : AV → St → Prop} (h : buildW T t ps.toList st (fun a => K a st)) : OpS P N ⟨d, .build t ps, ty, pos, aft, gd⟩ st K := by
  unfold buildW at h
  split at h
  · rename_i i as hi has
    obtain ⟨desc, info, zv, hu, htd, hinf, hz, hsz, hby, hzs, hzc, hzu⟩ := hT.ok t i hi
    have hlen : (ps.toList.map (·.1)).length = as.length := by have := evs_len has; simpa using this
    obtain ⟨z1, z2⟩ := zip_map _ _ hlen
    have key : ∀ {place : Nat → Option (Nat × Nat)} {cs : List AV}, fillA place (cellsA i.zero) ((ps.toList.map (·.1)).zip as) = some cs → ∀ I ρ F fr L, SR I ρ F st fr L →
        ∃ vals us2, evL fr (ps.toList.map (·.2)) = some vals ∧ FillTo place zv.cells.toList ((ps.toList.map (·.1)).zip vals) us2 ∧ All2 (RelA I ρ) us2 cs ∧ Ones us2 := by
      intro place cs hf I ρ F fr L hs
      obtain ⟨vals, e1, e2⟩ := evs_ok hs has
      have hzr : RelA I ρ zv i.zero := hzc ▸ constA_ok (by rw [hzc]; exact hzu)
      have hnt : ∀ vs, i.zero ≠ .tup vs := by
        intro vs e
        rw [e] at hzc
        unfold constA at hzc
        split at hzc
        · cases hzc
        · cases hzc
        · cases hzc
        · split at hzc <;> cases hzc
        · split at hzc <;> cases hzc
      obtain ⟨us2, f1, f2, f3⟩ := fillA_ok hf (cellsA_ok hzr) (hzr.ones hnt) (by rw [z2]; exact e2)
      rw [z1] at f1
      exact ⟨vals, us2, e1, f1, f2, f3⟩
    split at h
    · rename_i fs htd'
      obtain ⟨gs, rfl, hgs⟩ := td_struct (htd.trans htd')
      split at h
      · rename_i pl hpl
        split at h
        · rename_i cs hf
          replace h := (okA_ok h).2
          refine OpS.val _ (fun I ρ F fr L hs => ?_) h
          obtain ⟨vals, us2, e1, f1, f2, f3⟩ := key hf I ρ F fr L hs
          refine ⟨_, R.build pl.toArray hu (run_zv hinf hz) rfl (fun w => ?_) e1 (by simpa using f1), packA_ok f2 f3⟩
          have := places_ok hT (by rw [hgs]; exact hpl) w
          rw [← Array.toArray_toList (xs := gs), List.mapM_toArray, Sem.run_map, this]; rfl
        · exact h.elim
      · exact h.elim
    · rename_i n e htd'
      have := td_array (htd.trans htd'); subst this
      split at h
      · rename_i ei hei
        obtain ⟨_, info2, _, _, _, hinf2, _, hsz2, _⟩ := hT.ok _ _ hei
        split at h
        · rename_i cs hf
          replace h := (okA_ok h).2
          refine OpS.val _ (fun I ρ F fr L hs => ?_) h
          obtain ⟨vals, us2, e1, f1, f2, f3⟩ := key hf I ρ F fr L hs
          exact ⟨_, R.buildArr hu (run_zv hinf hz) rfl (run_ti hinf2) hsz2 e1 f1, packA_ok f2 f3⟩
        · exact h.elim
      · exact h.elim
    · exact h.elim
  · exact h.elim

/-! ## Slices that are read -/
def slD (st : St) : AV → Option (List D)
  | .d (.ro xs) => some xs
  | .d .nils => some []
  | .sl l => match lookO st.hp l with
    | .row _ _ xs => some xs
    | _ => none
  | _ => none

theorem slD_undef : slD st .undef = none := rfl
theorem slD_def {a : AV} {xs : List D} (h : slD st a = some xs) : a ≠ .undef := by rintro rfl; rw [slD_undef] at h; cases h

theorem row_facts {w : World} {A : Option Addr} {n c sz : Nat} {e : TypeId} {us : List Value} (hs : HS I L w) (hm : Ent.row (.slice A n c) e sz n us ∈ L) : us.length = n * sz ∧ n ≤ c ∧ n ≤ maxLen := by
  have h := hs.ents _ hm
  simp only [Ent.ok] at h
  obtain ⟨h0, ⟨h1, h2⟩ | ⟨g, cap, cur, h1, _, _, h2, h3, _⟩⟩ := h
  · exact ⟨h0, by omega, by rw [h2]; exact Nat.zero_le _⟩
  · simp only [Value.slice.injEq] at h1; exact ⟨h0, by omega, Nat.le_trans h2 h3⟩

theorem slD_ok (hs : SR I ρ F st fr L) {a : AV} {v : Value} {xs : List D} (h : slD st a = some xs) (hv : RelA I ρ v a) :
    ∃ A c us, v = .slice A xs.length c ∧ (∀ w, HS I L w → ∀ j u, us[j]? = some u → ∃ a, A = some a ∧ w.cell? (a.add j) = some u) ∧ All2 (RelD I) us (cellsOf xs) ∧ Ones us ∧ (∃ sz, ∀ x ∈ xs, x.cells.length = sz) ∧ (∀ w, HS I L w → xs.length ≤ c ∧ xs.length ≤ maxLen) := by
  unfold slD at h
  split at h
  · simp at h; subst h
    cases hv with
    | d hv => cases hv with
      | ro hn hc hm hz hr hl h1 hx => subst hn; exact ⟨_, _, _, rfl, fun w hw j u hj => by obtain ⟨a, e1, e2⟩ := hr j u hj; exact ⟨a, e1, hw.cell e2⟩, ⟨hl, hx⟩, h1, ⟨_, hz⟩, fun w hw => ⟨hc, hm⟩⟩
  · simp at h; subst h
    cases hv with
    | d hv => cases hv with
      | nils => exact ⟨_, _, [], rfl, fun w hw j u hj => by simp at hj, .nil, .nil, ⟨0, fun x hx => by cases hx⟩, fun w hw => ⟨Nat.zero_le _, Nat.zero_le _⟩⟩
  · rename_i l
    split at h
    · rename_i e sz xs' hl
      simp at h; subst h
      obtain ⟨es, ho, hm⟩ := hs.obj l
      rw [hl] at ho
      obtain ⟨A, c, us, r1, r2, r3, ro1, rfl⟩ := ho
      cases hv with
      | sl hv =>
        rw [r1] at hv; simp only [Value.slice.injEq] at hv
        obtain ⟨rfl, rfl, rfl⟩ := hv
        have hmem := hm _ List.mem_cons_self
        exact ⟨A, c, us, rfl, newsRow hmem, r3, ro1, ⟨sz, r2⟩, fun w hw => by have := row_facts hw hmem; exact ⟨this.2.1, this.2.2⟩⟩
    · cases h
  · cases h

/-! ## append -/
theorem SR.consNil (h : SR I ρ F st fr L) (e : TypeId) (sz : Nat) : SR I (bind ρ st.nx (.slice none 0 0)) F ⟨st.fr, (st.nx, .row e sz []) :: st.hp, st.nx + 1⟩ fr (.row (.slice none 0 0) e sz 0 [] :: L) :=
  h.add (o := .row e sz []) (es := [.row (.slice none 0 0) e sz 0 []]) (Imm.le_refl _) ⟨none, 0, [], bind_self, (fun x hx => by cases hx), All2.nil, Ones.nil, rfl⟩

/-- Nothing becomes a row of our own. -/
theorem SR.nilRow {w : World} (h : SR I ρ F st fr L) (hw : HS I L w) (e : TypeId) (sz : Nat) : SR I (bind ρ st.nx (.slice none 0 0)) F ⟨st.fr, (st.nx, .row e sz []) :: st.hp, st.nx + 1⟩ fr (.row (.slice none 0 0) e sz 0 [] :: L) ∧ HS I (.row (.slice none 0 0) e sz 0 [] :: L) w :=
  ⟨h.consNil e sz, hw.addNil e sz⟩

def appendTo (e : TypeId) (sz : Nat) (ei : TI) (l : Nat) (xs : List D) (b : AV) (st : St) (K : AV → St → Prop) : Prop :=
  match slD st b with
  | some ys => ((xs.length + ys.length) * ei.bytes ≤ 140737488355328 ∧ ∀ y ∈ ys, y.cells.length = sz) ∧ K (.sl st.nx) ⟨st.fr, (st.nx, .row e sz (xs ++ ys)) :: setO st.hp l .gone, st.nx + 1⟩
  | none => False

theorem cellsOf_app (a b : List D) : cellsOf (a ++ b) = cellsOf a ++ cellsOf b := by simp [cellsOf]

theorem appendTo_acts (hT : TOk P T) {t e : TypeId} {i ei : TI} (hi : T t = some i) (htd : i.td = .slice e) (hei : T e = some ei) (h0 : Nat.blt 0 ei.size = true) (hb0 : Nat.blt 0 ei.bytes = true) {l : Nat} {xs : List D} {b : AV} {K : AV → St → Prop}
    (hl : lookO st.hp l = .row e ei.size xs) (h : appendTo e ei.size ei l xs b st K) (hs : SR I ρ F st fr L) (x1 : evF fr x = some (ρ l)) {u : Value} (y1 : evF fr y = some u) (y2 : RelA I ρ u b) :
    Acts P N fr I L ⟨d, .call ⟨.builtin .append, #[x, y], #[t, t]⟩, ty, pos, aft, gd⟩ (fun v I' L' => I.le I' ∧ ∃ ρ' a st', RelU I' ρ' v a ∧ SR I' ρ' F st' fr L' ∧ (∀ l, ρ l ≠ .nilFunc → ρ' l = ρ l) ∧ K a st') := by
  obtain ⟨desc, info, zv, hu, htd', hinf, hz, hsz, hby, hzs, hzc, hzu⟩ := hT.ok t i hi
  obtain ⟨desc2, info2, zv2, hu2, htd2, hinf2, hz2, hsz2, hby2, hzs2, hzc2, hzu2⟩ := hT.ok e ei hei
  have := td_slice (htd'.trans htd); subst this
  unfold appendTo at h
  split at h
  · rename_i ys hys
    obtain ⟨⟨h1, h2⟩, h⟩ := h
    obtain ⟨B, cb, ws, rfl, g1, g2, g3, _, _⟩ := slD_ok hs hys y2
    obtain ⟨M, es, R, rfl, ho, hk⟩ := hs.at hl (by simp)
    obtain ⟨A, c, us, r1, r2, r3, ro1, rfl⟩ := ho
    rw [r1] at x1
    have hlist : M ++ [Ent.row (.slice A xs.length c) e ei.size xs.length us] ++ R = M ++ Ent.row (.slice A xs.length c) e ei.size xs.length us :: R := by simp
    have hwl : ws.length = ys.length * ei.size := by rw [g2.1, cellsOf_len h2]
    rw [hlist] at g1 ⊢
    refine Acts.mono (W.append (e := e) (sz := ei.size) (by' := ei.bytes) (news := ws) x1 y1 hu hinf2 hz2 hsz2 hby2 hzs2 h0 Rem.mid hwl g1 g3 h1 hb0) (fun v' I' L' hr => ⟨L', .refl _, ?_⟩)
    obtain ⟨A', cp, rfl, rfl, rfl⟩ := hr
    have s1 := hk .gone [] I ρ st.nx (Imm.le_refl _) (fun _ _ => rfl) hs.new rfl
    have hag := bind_agree (v := .slice A' (xs.length + ys.length) cp) (hs.new st.nx (Nat.le_refl _))
    have s2 := s1.add (o := .row e ei.size (xs ++ ys)) (es := [.row (.slice A' (xs ++ ys).length cp) e ei.size (xs ++ ys).length (us ++ ws)]) (v := .slice A' (xs.length + ys.length) cp) (Imm.le_refl _)
      ⟨A', cp, us ++ ws, by rw [List.length_append]; exact bind_self, fun q hq => (List.mem_append.1 hq).elim (r2 q) (h2 q), by rw [cellsOf_app]; exact r3.app g2, ro1.app g3, rfl⟩
    refine ⟨Imm.le_refl _, _, _, _, .inr (.sl bind_self), ?_, hag, h⟩
    have e2 : (xs ++ ys).length = xs.length + ys.length := List.length_append
    rw [e2] at s2
    simpa using s2
  · exact h.elim

def appendW (T : TypeId → Option TI) (t : TypeId) (a b : AV) (st : St) (K : AV → St → Prop) : Prop :=
  match T t with
  | some i => match i.td with
    | .slice e => match T e with
      | some ei => bif (Nat.blt 0 ei.size && Nat.blt 0 ei.bytes) then match a with
        | .sl l => match lookO st.hp l with
          | .row e' sz xs => bif (Nat.beq e' e && Nat.beq sz ei.size) then appendTo e ei.size ei l xs b st K else False
          | _ => False
        | .d .nils => appendTo e ei.size ei st.nx [] b ⟨st.fr, (st.nx, .row e ei.size []) :: st.hp, st.nx + 1⟩ K
        | _ => False
        else False
      | none => False
    | _ => False
  | none => False

theorem appendW_ok (hT : TOk P T) {t : TypeId} {a b : AV} {K : AV → St → Prop} (hx : ev st x = a) (hy : ev st y = b) (hb : b ≠ .undef) (h : appendW T t a b st K) : OpS P N ⟨d, .call ⟨.builtin .append, #[x, y], #[t, t]⟩, ty, pos, aft, gd⟩ st K := by
  unfold appendW at h
  split at h
  · rename_i i hi
    split at h
    · rename_i e he
      split at h
      · rename_i ei hei
        cases hc : (Nat.blt 0 ei.size && Nat.blt 0 ei.bytes) with
        | false => rw [hc] at h; exact h.elim
        | true =>
          rw [hc] at h
          simp only [Bool.and_eq_true] at hc
          simp only [cond_true] at h
          split at h
          · rename_i l
            split at h
            · rename_i e' sz xs hl
              cases hc2 : (Nat.beq e' e && Nat.beq sz ei.size) with
              | false => rw [hc2] at h; exact h.elim
              | true =>
                rw [hc2] at h
                simp only [Bool.and_eq_true] at hc2
                obtain rfl := Nat.eq_of_beq_eq_true hc2.1
                obtain rfl := Nat.eq_of_beq_eq_true hc2.2
                intro I ρ F fr L hs
                obtain ⟨v, x1, x2⟩ := ev_ok hs hx (by simp)
                obtain ⟨u, y1, y2⟩ := ev_ok hs hy hb
                cases x2 with
                | sl x2 => exact appendTo_acts hT hi he hei hc.1 hc.2 hl h hs (by rw [x2]; exact x1) y1 y2
            · exact h.elim
          · intro I ρ F fr L hs a' w next Q ha hw hk
            obtain ⟨v, x1, x2⟩ := ev_ok hs hx (by simp)
            obtain ⟨u, y1, y2⟩ := ev_ok hs hy hb
            cases x2 with
            | d x2 => cases x2 with
              | nils =>
                have hag := bind_agree (v := .slice none 0 0) (hs.new st.nx (Nat.le_refl _))
                obtain ⟨hs1, hw1⟩ := hs.nilRow hw e ei.size
                refine appendTo_acts (st := ⟨st.fr, (st.nx, .row e ei.size []) :: st.hp, st.nx + 1⟩) hT hi he hei hc.1 hc.2 (by simp [lookO]) h hs1 (by rw [bind_self]; exact x1) y1 (y2.ren hag) a' w next Q ha hw1 (fun v' I' L' w' hw' hr => hk v' I' L' w' hw' ?_)
                obtain ⟨r1, ρ', a2, st', r2, r3, r4, r5⟩ := hr
                exact ⟨r1, ρ', a2, st', r2, r3, fun l hl => by rw [r4 l (by rw [hag l hl]; exact hl), hag l hl], r5⟩
          · exact h.elim
      · exact h.elim
    · exact h.elim
  · exact h.elim
end
end Go.V

/- The second floor, part H: making rows, places of elements, pieces of slices. No function of the program is proved here. -/
namespace Go.V
open Go.Eng

section
variable {P : Program} {N : Nat} {T : TypeId → Option TI} {I J : Imm} {ρ ρ' : Nat → Value} {F : List Ent} {st : St} {fr : Frm} {L : List Ent}
variable {ty : TypeId} {pos : String} {aft : Array Edge} {gd : Option (Nat × Bool)} {d : Option Tmp} {x y z q : Operand}

/-- A new row of our own. -/
theorem OpS.newRow {o : Oper} {e : TypeId} {sz : Nat} {xs : List D} {K : AV → St → Prop} (hz : ∀ x ∈ xs, x.cells.length = sz)
    (hr : ∀ I ρ F fr L, SR I ρ F st fr L → ∃ us, All2 (RelD I) us (cellsOf xs) ∧ Ones us ∧ Acts P N fr I L o (fun v' I' L' => ∃ A c, v' = .slice A xs.length c ∧ I = I' ∧ L' = .row (.slice A xs.length c) e sz xs.length us :: L))
    (h : K (.sl st.nx) ⟨st.fr, (st.nx, .row e sz xs) :: st.hp, st.nx + 1⟩) : OpS P N o st K := by
  intro I ρ F fr L hs
  obtain ⟨us, h1, h2, ha⟩ := hr I ρ F fr L hs
  refine Acts.mono ha (fun v' I' L' hq => ⟨L', .refl _, ?_⟩)
  obtain ⟨A, c, rfl, rfl, rfl⟩ := hq
  have hag := bind_agree (v := .slice A xs.length c) (hs.new st.nx (Nat.le_refl _))
  exact ⟨Imm.le_refl _, _, _, _, .inr (.sl bind_self), hs.add (o := .row e sz xs) (es := [.row (.slice A xs.length c) e sz xs.length us]) (v := .slice A xs.length c) (Imm.le_refl _) ⟨A, c, us, bind_self, hz, h1, h2, rfl⟩, hag, h⟩

theorem made_cells {z : Array Value} {zd : D} {n : Nat} (h : All2 (RelD I) z.toList zd.cells) : All2 (RelD I) (madeCells z (n * z.size)).toList (cellsOf (List.replicate n zd)) := by
  have hl : zd.cells.length = z.size := by rw [← h.1]; simp
  have hz : ∀ x ∈ List.replicate n zd, x.cells.length = z.size := fun x hx => by rw [(List.mem_replicate.1 hx).2]; exact hl
  refine ⟨by rw [cellsOf_len hz]; simp [madeCells], fun j u y hu hy => ?_⟩
  have hj : j < n * z.size := by
    have := (List.getElem?_eq_some_iff.1 hu).1
    simpa [madeCells] using this
  have hp : 0 < z.size := Nat.pos_of_ne_zero (by rintro e; rw [e, Nat.mul_zero] at hj; omega)
  have hm : j % z.size < z.size := Nat.mod_lt _ hp
  have hd : j / z.size < n := by rw [Nat.div_lt_iff_lt_mul hp]; exact hj
  have hy2 : zd.cells[j % z.size]? = some y := by
    have e1 : (cellsOf (List.replicate n zd))[(j / z.size) * z.size + j % z.size]? = zd.cells[j % z.size]? := cellsOf_get hz (by rw [List.getElem?_replicate, if_pos hd]) hm
    rw [← e1, Nat.mul_comm, Nat.div_add_mod]; exact hy
  refine h.2 (j % z.size) u y ?_ hy2
  have hu2 : some z[j % z.size]! = some u := by
    rw [← hu]; simp [madeCells, hj]
  rw [← hu2, Array.getElem?_toList, Array.getElem?_eq_getElem hm]
  simp [hm]

theorem made_ones {z : Array Value} {n : Nat} (h : Ones z.toList) (hp : 0 < z.size) : Ones (madeCells z n).toList := by
  intro u hu
  simp only [madeCells, Array.toList_map, List.mem_map] at hu
  obtain ⟨j, _, rfl⟩ := hu
  have hm : j % z.size < z.size := Nat.mod_lt _ hp
  exact h _ (by simp [hm])

def makeW (T : TypeId → Option TI) (t : TypeId) (l c : Int) (st : St) (K : AV → St → Prop) : Prop :=
  match T t with
  | some i => match i.td with
    | .slice e => match T e with
      | some ei => match ei.zero with
        | .d zd => bif (Nat.blt 0 ei.size && Nat.blt 0 ei.bytes) then (0 ≤ l ∧ l ≤ c ∧ (ei.bytes : Int) * c ≤ 140737488355328) ∧ K (.sl st.nx) ⟨st.fr, (st.nx, .row e ei.size (List.replicate l.toNat zd)) :: st.hp, st.nx + 1⟩ else False
        | _ => False
      | none => False
    | _ => False
  | none => False

theorem makeW_ok (hT : TOk P T) {t : TypeId} {k k' : IntKind} {l c : Int} {K : AV → St → Prop} (hx : ev st x = .d (.int k l)) (hy : ev st y = .d (.int k' c)) (h : makeW T t l c st K) : OpS P N ⟨d, .makeSlice t x y, ty, pos, aft, gd⟩ st K := by
  unfold makeW at h
  split at h
  · rename_i i hi
    obtain ⟨desc, info, zv, hu, htd, hinf, hz, hsz, hby, hzs, hzc, hzu⟩ := hT.ok t i hi
    split at h
    · rename_i e htd'
      have := td_slice (htd.trans htd'); subst this
      split at h
      · rename_i ei hei
        obtain ⟨desc2, info2, zv2, hu2, htd2, hinf2, hz2, hsz2, hby2, hzs2, hzc2, hzu2⟩ := hT.ok e ei hei
        split at h
        · rename_i zd hzd
          cases hc : (Nat.blt 0 ei.size && Nat.blt 0 ei.bytes) with
          | false => rw [hc] at h; exact h.elim
          | true =>
            rw [hc] at h
            simp only [Bool.and_eq_true, Nat.blt_eq] at hc
            obtain ⟨⟨h1, h2, h3⟩, h⟩ := h
            have hrel : ∀ I, RelD I zv2 zd := fun I => by
              have : RelA I (fun _ => .nilFunc) zv2 (.d zd) := hzd ▸ hzc2 ▸ constA_ok (by rw [hzc2]; exact hzu2)
              cases this with | d h => exact h
            have hsize : zv2.cells.size = ei.size := hzs2
            have hc0 : 0 ≤ c := by omega
            have hcb : c ≤ 140737488355328 := by
              have h4 := Int.mul_le_mul_of_nonneg_right (show (1 : Int) ≤ ei.bytes by omega) hc0
              omega
            refine OpS.newRow (fun x hx => by rw [(List.mem_replicate.1 hx).2]; have := (hrel (immOf default)).cells.1; rw [← this]; simpa using hsize) (fun I ρ F fr L hs => ?_) h
            obtain ⟨v, x1, x2⟩ := ev_ok hs hx (by simp)
            obtain ⟨u, y1, y2⟩ := ev_ok hs hy (by simp)
            obtain ⟨rfl, _⟩ := ra_int x2
            obtain ⟨rfl, _⟩ := ra_int y2
            have hmade := made_cells (I := I) (n := l.toNat) (hrel I).cells
            have hones := made_ones (n := l.toNat * zv2.cells.size) (hrel I).ones (by rw [hsize]; exact hc.1)
            refine ⟨_, hmade, hones, ?_⟩
            intro a w next Q ha hw hk
            have hr := run_make (P := P) w t e info2 zv2 hu hinf2 hz2 k k' l c h1 h2 (by rw [hby2]; omega) (by omega)
            have hr' : (execOp a.eval ⟨d, .makeSlice t x y, ty, pos, aft, gd⟩).run P w = .ok (.value (.slice (some ⟨w.heap.size, 0, none⟩) l.toNat c.toNat)) (w.alloc (.cells (madeCells zv2.cells (c.toNat * info2.size)) e)) := by
              simp only [execOp, ha.ev x1, ha.ev y1]
              rw [Sem.run_bind, hr]; rfl
            unfold Oper.wp
            rw [hr', Oper.upon_value]
            have hlc : l.toNat ≤ c.toNat := by omega
            have hrow := hw.alloc_row (madeCells zv2.cells (c.toNat * info2.size)).toList e ei.size l.toNat c.toNat (by simp [madeCells, hsz2]) hlc (by simp only [maxLen]; omega)
            have htk : (madeCells zv2.cells (c.toNat * info2.size)).toList.take (l.toNat * ei.size) = (madeCells zv2.cells (l.toNat * zv2.cells.size)).toList := by
              rw [hsz2, hsize]
              simp only [madeCells, Array.toList_map, Array.toList_range, ← List.map_take, List.take_range]
              congr 2
              rw [Nat.min_eq_left (Nat.mul_le_mul_right _ hlc)]
            rw [htk] at hrow
            have hlen : (List.replicate l.toNat zd).length = l.toNat := by simp
            refine hk _ I _ _ hrow ⟨_, c.toNat, by rw [hlen], rfl, by rw [hlen]⟩
        · exact h.elim
      · exact h.elim
    · exact h.elim
  · exact h.elim

/-- A literal of a slice. -/
def toDL : List AV → St → (List D → St → Prop) → Prop
  | [], st, K => K [] st
  | a :: as, st, K => toD a st fun x st => toDL as st fun xs st => K (x :: xs) st
theorem Told.keeps {st' : St} {a : AV} {x : D} (h : ∀ I ρ F fr L v, SR I ρ F st fr L → RelA I ρ v a → RelD I v x) : Told st a x := h

theorem toDL_ok : ∀ {as : List AV} {st : St} {K : List D → St → Prop}, toDL as st K → ∃ xs st', Gh st st' ∧ Keeps st st' ∧ All2 (fun a x => Told st' a x) as xs ∧ K xs st'
  | [], st, K, h => ⟨[], st, .refl, .refl, .nil, h⟩
  | a :: as, st, K, h => by
    unfold toDL toD at h
    have one : ∀ {a : AV} {K : D → St → Prop}, toD1 a st K → ∃ x st1, Gh st st1 ∧ Keeps st st1 ∧ (∀ st2, Keeps st1 st2 → Told st2 a x) ∧ K x st1 := fun h => by
      obtain ⟨x, st1, g1, k1, t1, h1⟩ := toD1_ok h
      exact ⟨x, st1, g1, k1, fun st2 k => (t1.keeps k).told, h1⟩
    have main : ∃ x st1, Gh st st1 ∧ Keeps st st1 ∧ (∀ st2, Keeps st1 st2 → Told st2 a x) ∧ toDL as st1 fun xs st => K (x :: xs) st := by
      split at h
      · rename_i cs
        obtain ⟨xs, st1, g1, k1, t1, h1⟩ := toDs_ok h
        refine ⟨_, st1, g1, k1, fun st2 k I ρ F fr L v hs hv => ?_, h1⟩
        cases hv with
        | @agg us cs hl ho hx =>
          refine .agg (hl.trans t1.1) ho (fun j u y hu hy => ?_)
          have hlt := (List.getElem?_eq_some_iff.1 hy).1
          rw [← t1.1] at hlt
          exact ((t1.2 j _ y (List.getElem?_eq_getElem hlt) hy).keeps k).told I ρ F fr L u hs (hx j u _ hu (List.getElem?_eq_getElem hlt))
      · exact one h
    obtain ⟨x, st1, g1, k1, t1, h1⟩ := main
    obtain ⟨xs, st2, g2, k2, t2, h2⟩ := toDL_ok h1
    exact ⟨x :: xs, st2, g1.trans g2, k1.trans k2, .cons (t1 st2 k2) t2, h2⟩

theorem Keeps.evs {st' : St} (k : Keeps st st') (hs : SR I ρ F st' fr L) : ∀ {xs : List Operand} {as : List AV}, V.evs st xs = some as → ∃ vs, evL fr xs = some vs ∧ All2 (RelA I ρ) vs as
  | [], as, he => by simp [V.evs] at he; subst he; exact ⟨[], rfl, .nil⟩
  | x :: xs, as, he => by
    unfold V.evs at he
    split at he
    · rename_i a l ha hl
      simp at he; subst he
      obtain ⟨e1, e2⟩ := frc_ok ha
      obtain ⟨vs, h1, h2⟩ := Keeps.evs k hs hl
      obtain ⟨v, h3, h4⟩ := k.evA e1 (x := x) (by rw [← e1]; exact e2) hs
      exact ⟨v :: vs, by simp [evL, h3, h1], .cons h4 h2⟩
    · cases he

def ixsOK (l : List Nat) (n : Nat) : Bool := match l, n with
  | [], 0 => true
  | l, n => (l.length == n) && (List.range n).all fun j => match l[j]? with
    | some i => Nat.beq i j
    | none => false
theorem ixsOK_ok {l : List Nat} {n : Nat} (h : ixsOK l n = true) : l = List.range' 0 n := by
  unfold ixsOK at h
  split at h
  · rfl
  · simp only [Bool.and_eq_true, beq_iff_eq, List.all_eq_true] at h
    obtain ⟨h1, h2⟩ := h
    apply List.ext_getElem?
    intro j
    by_cases hj : j < n
    · have := h2 j (List.mem_range.2 hj)
      rw [List.getElem?_range' hj]
      cases hl : l[j]? with
      | none => rw [hl] at this; cases this
      | some i => rw [hl] at this; simp at this; rw [this]; simp
    · rw [List.getElem?_eq_none (by omega), List.getElem?_eq_none (by simp; omega)]

def cellsAll (sz : Nat) : List D → Bool
  | [] => true
  | x :: xs => Nat.beq x.cells.length sz && cellsAll sz xs
theorem cellsAll_ok {sz : Nat} {xs : List D} (h : cellsAll sz xs = true) : ∀ x ∈ xs, x.cells.length = sz := by
  induction xs with
  | nil => intro x hx; cases hx
  | cons y xs ih =>
    simp only [cellsAll, Bool.and_eq_true] at h
    intro x hx
    rcases List.mem_cons.1 hx with rfl | hx
    · exact Nat.eq_of_beq_eq_true h.1
    · exact ih h.2 x hx

def buildSliceW (T : TypeId → Option TI) (t : TypeId) (n : Nat) (ps : List (Nat × Operand)) (st : St) (K : AV → St → Prop) : Prop :=
  match T t, evs st (ps.map (·.2)) with
  | some i, some as => match i.td with
    | .slice e => match T e with
      | some ei => toDL as st fun xs st => bif (ixsOK (ps.map (·.1)) n && (cellsAll ei.size xs && (Nat.ble (n * ei.size) 65536 && Nat.blt 0 ei.size))) then K (.sl st.nx) ⟨st.fr, (st.nx, .row e ei.size xs) :: st.hp, st.nx + 1⟩ else False
      | none => False
    | _ => False
  | _, _ => False

theorem cells_flat {vs : List Value} {xs : List D} (h : All2 (RelD I) vs xs) : All2 (RelD I) (vs.flatMap (fun v => v.cells.toList)) (cellsOf xs) ∧ Ones (vs.flatMap (fun v => v.cells.toList)) := by
  induction xs generalizing vs with
  | nil => rw [h.unnil]; exact ⟨.nil, .nil⟩
  | cons x xs ih =>
    obtain ⟨v, vs', rfl, h1, h2⟩ := h.uncons
    obtain ⟨h3, h4⟩ := ih h2
    exact ⟨by simp only [List.flatMap_cons, cellsOf]; exact h1.cells.app h3, by rw [List.flatMap_cons]; exact h1.ones.app h4⟩

theorem buildSliceW_ok (hT : TOk P T) {t : TypeId} {n : Nat} {ps : Array (Nat × Operand)} {K : AV → St → Prop} (h : buildSliceW T t n ps.toList st K) : OpS P N ⟨d, .buildSlice t n ps, ty, pos, aft, gd⟩ st K := by
  unfold buildSliceW at h
  split at h
  · rename_i i as hi has
    obtain ⟨desc, info, zv, hu, htd, hinf, hz, hsz, hby, hzs, hzc, hzu⟩ := hT.ok t i hi
    split at h
    · rename_i e htd'
      have := td_slice (htd.trans htd'); subst this
      split at h
      · rename_i ei hei
        obtain ⟨desc2, info2, zv2, hu2, htd2, hinf2, hz2, hsz2, hby2, hzs2, hzc2, hzu2⟩ := hT.ok e ei hei
        obtain ⟨xs, st', g, k, ht, h⟩ := toDL_ok h
        cases hc : (ixsOK (ps.toList.map (·.1)) n && (cellsAll ei.size xs && (Nat.ble (n * ei.size) 65536 && Nat.blt 0 ei.size))) with
        | false => rw [hc] at h; exact h.elim
        | true =>
          rw [hc] at h
          simp only [Bool.and_eq_true] at hc
          obtain ⟨c1, c2, c3, c4⟩ := hc
          have e1 := ixsOK_ok c1
          have e2 := cellsAll_ok c2
          have e3 := Nat.le_of_ble_eq_true c3
          have e4 : 0 < ei.size := by simpa [Nat.blt_eq] using c4
          have hn : as.length = n := by
            have h1 := evs_len has
            have h2 := congrArg List.length e1
            simp only [List.length_map, List.length_range'] at h1 h2
            omega
          refine OpS.gh g (OpS.newRow e2 (fun I ρ F fr L hs => ?_) h)
          obtain ⟨vs, v1, v2⟩ := k.evs hs has
          have vd : All2 (RelD I) vs xs := by
            refine ⟨v2.1.trans ht.1, fun j u y hu hy => ?_⟩
            have hlt := (List.getElem?_eq_some_iff.1 hy).1
            rw [← ht.1] at hlt
            exact ht.2 j _ y (List.getElem?_eq_getElem hlt) hy I ρ F fr L u hs (v2.2 j u _ hu (List.getElem?_eq_getElem hlt))
          obtain ⟨f1, f2⟩ := cells_flat vd
          have hvl : vs.length = n := v2.1.trans hn
          have hxl : xs.length = n := ht.1.symm.trans hn
          refine ⟨_, f1, f2, ?_⟩
          by_cases hn0 : n = 0
          · have hvs : vs = [] := List.length_eq_zero_iff.1 (hvl.trans hn0)
            have hxs : xs = [] := List.length_eq_zero_iff.1 (hxl.trans hn0)
            subst hvs; subst hxs; subst hn0
            have hps : ps = #[] := by
              have h1 := evs_len has
              rw [hn] at h1
              simpa using h1
            refine Acts.mono (W.buildNone hu (run_ti hinf2) hsz2 hps) (fun v' I' L' hr => ⟨L', .refl _, ?_⟩)
            obtain ⟨b, rfl, rfl, rfl⟩ := hr
            exact ⟨_, _, rfl, rfl, rfl⟩
          · refine Acts.mono (W.buildSlice (sz := ei.size) hu (run_ti hinf2) hsz2 (run_zv hinf2 hz2) v1 e1 hvl e3 (Nat.mul_pos (Nat.pos_of_ne_zero hn0) e4) (fun v hv => ?_)) (fun v' I' L' hr => ⟨L', .refl _, ?_⟩)
            · obtain ⟨j, hj, rfl⟩ := List.getElem_of_mem hv
              have hj2 : j < xs.length := by omega
              have := (vd.2 j _ _ (List.getElem?_eq_getElem hj) (List.getElem?_eq_getElem hj2)).cells.1
              rw [e2 _ (List.getElem_mem hj2)] at this
              simpa using this
            · obtain ⟨b, rfl, rfl, rfl⟩ := hr
              exact ⟨_, _, by rw [hxl], rfl, by rw [hxl]⟩
      · exact h.elim
    · exact h.elim
  · exact h.elim
end
end Go.V

/- The second floor, part H2: append of so many zeros. No function of the program is proved here. -/
namespace Go.V
open Go.Eng

section
variable {P : Program} {N : Nat} {T : TypeId → Option TI} {I J : Imm} {ρ ρ' : Nat → Value} {F : List Ent} {st : St} {fr : Frm} {L : List Ent}
variable {ty : TypeId} {pos : String} {aft : Array Edge} {gd : Option (Nat × Bool)} {d : Option Tmp} {x y z q : Operand}

def bytesD (bs : List UInt8) : List D := bs.map fun b => .int .u8 b.toNat
def appendStrTo (e : TypeId) (l : Nat) (xs : List D) (s : List UInt8) (st : St) (K : AV → St → Prop) : Prop :=
  xs.length + s.length ≤ 140737488355328 ∧ K (.sl st.nx) ⟨st.fr, (st.nx, .row e 1 (xs ++ bytesD s)) :: setO st.hp l .gone, st.nx + 1⟩
def appendStrW (T : TypeId → Option TI) (t t' : TypeId) (a : AV) (s : List UInt8) (st : St) (K : AV → St → Prop) : Prop :=
  match T t, T t' with
  | some i, some i' => match i.td, i'.td with
    | .slice e, .string => match T e with
      | some ei => match ei.zero with
        | .d (.int .u8 z) => bif (decide (z = 0) && (Nat.beq ei.size 1 && Nat.beq ei.bytes 1)) then match a with
          | .sl l => match lookO st.hp l with
            | .row e' sz xs => bif (Nat.beq e' e && Nat.beq sz 1) then appendStrTo e l xs s st K else False
            | _ => False
          | _ => False
          else False
        | _ => False
      | none => False
    | _, _ => False
  | _, _ => False
theorem strCells_rel (s : List UInt8) : All2 (RelD I) (Lib.strCells (strOf s)) (cellsOf (bytesD s)) ∧ Ones (Lib.strCells (strOf s)) := by
  have e : cellsOf (bytesD s) = bytesD s := by
    unfold bytesD
    induction s with
    | nil => rfl
    | cons b s ih => simp only [List.map_cons, cellsOf, List.flatMap_cons] at *; rw [ih]; rfl
  rw [e]
  have e2 : Lib.strCells (strOf s) = s.map fun b => Value.int .u8 b.toNat := rfl
  rw [e2]
  refine ⟨⟨by simp [bytesD], fun j u y hu hy => ?_⟩, fun u hu => ?_⟩
  · unfold bytesD at hy
    rw [List.getElem?_map] at hu hy
    cases hj : s[j]? with
    | none => rw [hj] at hu; cases hu
    | some b =>
      rw [hj] at hu hy; simp at hu hy; subst hu; subst hy
      have := b.toNat_lt
      exact .int ⟨by show (0 : Int) ≤ _; omega, by show _ ≤ (255 : Int); omega⟩
  · obtain ⟨b, _, rfl⟩ := List.mem_map.1 hu; rfl
theorem appendStrW_ok (hT : TOk P T) {t t' : TypeId} {a : AV} {s : List UInt8} {K : AV → St → Prop} (hx : ev st x = a) (hy : ev st y = .d (.str s)) (h : appendStrW T t t' a s st K) : OpS P N ⟨d, .call ⟨.builtin .append, #[x, y], #[t, t']⟩, ty, pos, aft, gd⟩ st K := by
  unfold appendStrW at h
  split at h
  · rename_i i i' hi hi'
    split at h
    · rename_i e htd htd'
      split at h
      · rename_i ei hei
        split at h
        · rename_i z hzd
          cases hc : (decide (z = 0) && (Nat.beq ei.size 1 && Nat.beq ei.bytes 1)) with
          | false => rw [hc] at h; exact h.elim
          | true =>
            rw [hc] at h
            simp only [Bool.and_eq_true, decide_eq_true_eq] at hc
            obtain ⟨rfl, h1, h2⟩ := hc
            replace h1 := Nat.eq_of_beq_eq_true h1
            replace h2 := Nat.eq_of_beq_eq_true h2
            simp only [cond_true] at h
            split at h
            · rename_i l
              split at h
              · rename_i e' sz xs hl
                cases hc2 : (Nat.beq e' e && Nat.beq sz 1) with
                | false => rw [hc2] at h; exact h.elim
                | true =>
                  rw [hc2] at h
                  simp only [Bool.and_eq_true] at hc2
                  obtain rfl := Nat.eq_of_beq_eq_true hc2.1
                  obtain rfl := Nat.eq_of_beq_eq_true hc2.2
                  obtain ⟨h3, h⟩ := h
                  obtain ⟨desc, info, zv, hu, htd1, hinf, hz, hsz, hby, hzs, hzc, hzu⟩ := hT.ok t i hi
                  obtain ⟨desc1, info1, zv1, hu1, htd3, hinf1, hz1, hsz1, hby1, hzs1, hzc1, hzu1⟩ := hT.ok t' i' hi'
                  obtain ⟨desc2, info2, zv2, hu2, htd2, hinf2, hz2, hsz2, hby2, hzs2, hzc2, hzu2⟩ := hT.ok e' ei hei
                  have := td_slice (htd1.trans htd); subst this
                  have := td_string (htd3.trans htd'); subst this
                  intro I ρ F fr L hs
                  obtain ⟨v, x1, x2⟩ := ev_ok hs hx (by simp)
                  obtain ⟨u, y1, y2⟩ := ev_ok hs hy (by simp)
                  obtain ⟨rfl, hsl⟩ := ra_str y2
                  have hzv : zv2 = .int .u8 0 := by
                    have : RelA I ρ zv2 (.d (.int .u8 0)) := hzd ▸ hzc2 ▸ constA_ok (by rw [hzc2]; exact hzu2)
                    exact (ra_int this).1
                  subst hzv
                  obtain ⟨M, es, R, rfl, ho, hk⟩ := hs.at hl (by simp)
                  obtain ⟨A, c, us, r1, r2, r3, ro1, rfl⟩ := ho
                  cases x2 with
                  | sl x2 =>
                    rw [r1] at x2; simp only [Value.slice.injEq] at x2
                    obtain ⟨rfl, rfl, rfl⟩ := x2
                    have hlist : M ++ [Ent.row (.slice A xs.length c) e' 1 xs.length us] ++ R = M ++ Ent.row (.slice A xs.length c) e' 1 xs.length us :: R := by simp
                    rw [hlist]
                    have hso : (strOf s).size = s.length := strOf_size s
                    refine Acts.mono (W.appendStr x1 y1 hu hu1 hinf2 hz2 (by rw [hsz2, h1]) (by rw [hby2, h2]) Rem.mid (by rw [hso]; exact h3)) (fun v' I' L' hr => ⟨L', .refl _, ?_⟩)
                    obtain ⟨A', cp, rfl, rfl, rfl⟩ := hr
                    obtain ⟨g2, g3⟩ := strCells_rel (I := I) s
                    have s1 := hk .gone [] I ρ st.nx (Imm.le_refl _) (fun _ _ => rfl) hs.new rfl
                    have hbl : (bytesD s).length = s.length := by simp [bytesD]
                    have e2 : (xs ++ bytesD s).length = xs.length + (strOf s).size := by rw [List.length_append, hbl, hso]
                    have hag := bind_agree (v := .slice A' (xs.length + (strOf s).size) cp) (hs.new st.nx (Nat.le_refl _))
                    have s2 := s1.add (o := .row e' 1 (xs ++ bytesD s)) (es := [.row (.slice A' (xs ++ bytesD s).length cp) e' 1 (xs ++ bytesD s).length (us ++ Lib.strCells (strOf s))]) (v := .slice A' (xs.length + (strOf s).size) cp) (Imm.le_refl _)
                      ⟨A', cp, us ++ Lib.strCells (strOf s), by rw [e2]; exact bind_self, fun q hq => (List.mem_append.1 hq).elim (r2 q) (fun hq => by obtain ⟨b, _, rfl⟩ := List.mem_map.1 hq; rfl), by rw [cellsOf_app]; exact r3.app g2, ro1.app g3, rfl⟩
                    refine ⟨Imm.le_refl _, _, _, _, .inr (.sl bind_self), ?_, hag, h⟩
                    rw [e2] at s2
                    simpa using s2
              · exact h.elim
            · exact h.elim
        · exact h.elim
      · exact h.elim
    · exact h.elim
  · exact h.elim

def appendMkTo (e : TypeId) (ei : TI) (zd : D) (l : Nat) (xs : List D) (m : Int) (st : St) (K : AV → St → Prop) : Prop :=
  (0 ≤ m ∧ (xs.length + m.toNat) * ei.bytes ≤ 140737488355328) ∧ K (.sl st.nx) ⟨st.fr, (st.nx, .row e ei.size (xs ++ List.replicate m.toNat zd)) :: setO st.hp l .gone, st.nx + 1⟩

def appendMkW (T : TypeId → Option TI) (t t' : TypeId) (a b : AV) (st : St) (K : AV → St → Prop) : Prop :=
  match T t, T t', b with
  | some i, some i', .d (.int .i64 m) => match i.td, i'.td with
    | .slice e, .int .i64 => match T e with
      | some ei => match ei.zero with
        | .d zd => bif (Nat.blt 0 ei.size && Nat.blt 0 ei.bytes) then match a with
          | .sl l => match lookO st.hp l with
            | .row e' sz xs => bif (Nat.beq e' e && Nat.beq sz ei.size) then appendMkTo e ei zd l xs m st K else False
            | _ => False
          | .d .nils => appendMkTo e ei zd st.nx [] m ⟨st.fr, (st.nx, .row e ei.size []) :: st.hp, st.nx + 1⟩ K
          | .d (.ro xs) => m = 0 ∧ K (.d (.ro xs)) st
          | _ => False
          else False
        | _ => False
      | none => False
    | _, _ => False
  | _, _, _ => False

theorem appendMkTo_acts (hT : TOk P T) {t t' e : TypeId} {i i' ei : TI} {zd : D} (hi : T t = some i) (hi' : T t' = some i') (htd : i.td = .slice e) (htd' : i'.td = .int .i64) (hei : T e = some ei) (hzd : ei.zero = .d zd) (h0 : Nat.blt 0 ei.size = true) (hb0 : Nat.blt 0 ei.bytes = true) {l : Nat} {xs : List D} {m : Int} {K : AV → St → Prop}
    (hl : lookO st.hp l = .row e ei.size xs) (h : appendMkTo e ei zd l xs m st K) (hs : SR I ρ F st fr L) (x1 : evF fr x = some (ρ l)) (y1 : evF fr y = some (.int .i64 m)) :
    Acts P N fr I L ⟨d, .call ⟨.builtin .append, #[x, y], #[t, t']⟩, ty, pos, aft, gd⟩ (fun v I' L' => I.le I' ∧ ∃ ρ' a st', RelU I' ρ' v a ∧ SR I' ρ' F st' fr L' ∧ (∀ l, ρ l ≠ .nilFunc → ρ' l = ρ l) ∧ K a st') := by
  obtain ⟨desc, info, zv, hu, htd1, hinf, hz, hsz, hby, hzs, hzc, hzu⟩ := hT.ok t i hi
  obtain ⟨desc1, info1, zv1, hu1, htd3, hinf1, hz1, hsz1, hby1, hzs1, hzc1, hzu1⟩ := hT.ok t' i' hi'
  obtain ⟨desc2, info2, zv2, hu2, htd2, hinf2, hz2, hsz2, hby2, hzs2, hzc2, hzu2⟩ := hT.ok e ei hei
  have := td_slice (htd1.trans htd); subst this
  have := td_int (htd3.trans htd'); subst this
  obtain ⟨⟨h1, h2⟩, h⟩ := h
  have hrel : ∀ I, RelD I zv2 zd := fun I => by
    have : RelA I (fun _ => .nilFunc) zv2 (.d zd) := hzd ▸ hzc2 ▸ constA_ok (by rw [hzc2]; exact hzu2)
    cases this with | d h => exact h
  have hp : 0 < ei.size := by simpa [Nat.blt_eq] using h0
  obtain ⟨M, es, R, rfl, ho, hk⟩ := hs.at hl (by simp)
  obtain ⟨A, c, us, r1, r2, r3, ro1, rfl⟩ := ho
  rw [r1] at x1
  have hlist : M ++ [Ent.row (.slice A xs.length c) e ei.size xs.length us] ++ R = M ++ Ent.row (.slice A xs.length c) e ei.size xs.length us :: R := by simp
  have hmade := made_cells (I := I) (n := m.toNat) (hrel I).cells
  have hones := made_ones (n := m.toNat * zv2.cells.size) (hrel I).ones (by rw [hzs2]; exact hp)
  have hzm : Builtin.zeroCells zv2.cells m.toNat = madeCells zv2.cells (m.toNat * zv2.cells.size) := rfl
  have hrz : ∀ q ∈ List.replicate m.toNat zd, q.cells.length = ei.size := fun q hq => by
    rw [(List.mem_replicate.1 hq).2]; have := (hrel (immOf default)).cells.1; rw [← this]; simpa using hzs2
  rw [hlist]
  refine Acts.mono (W.appendMk (e := e) (sz := ei.size) (by' := ei.bytes) x1 y1 hu hu1 hinf2 hz2 hsz2 hby2 hzs2 h0 (hrel I).ones Rem.mid h1 h2 hb0) (fun v' I' L' hr => ⟨L', .refl _, ?_⟩)
  obtain ⟨A', cp, rfl, rfl, rfl⟩ := hr
  rw [hzm]
  have s1 := hk .gone [] I ρ st.nx (Imm.le_refl _) (fun _ _ => rfl) hs.new rfl
  have hag := bind_agree (v := .slice A' (xs.length + m.toNat) cp) (hs.new st.nx (Nat.le_refl _))
  have e2 : (xs ++ List.replicate m.toNat zd).length = xs.length + m.toNat := by rw [List.length_append, List.length_replicate]
  have s2 := s1.add (o := .row e ei.size (xs ++ List.replicate m.toNat zd)) (es := [.row (.slice A' (xs ++ List.replicate m.toNat zd).length cp) e ei.size (xs ++ List.replicate m.toNat zd).length (us ++ (madeCells zv2.cells (m.toNat * zv2.cells.size)).toList)]) (v := .slice A' (xs.length + m.toNat) cp) (Imm.le_refl _)
    ⟨A', cp, us ++ (madeCells zv2.cells (m.toNat * zv2.cells.size)).toList, by rw [e2]; exact bind_self, fun q hq => (List.mem_append.1 hq).elim (r2 q) (hrz q), by rw [cellsOf_app]; exact r3.app hmade, ro1.app hones, rfl⟩
  refine ⟨Imm.le_refl _, _, _, _, .inr (.sl bind_self), ?_, hag, h⟩
  rw [e2] at s2
  simpa using s2

theorem appendMkW_ok (hT : TOk P T) {t t' : TypeId} {a b : AV} {K : AV → St → Prop} (hx : ev st x = a) (hy : ev st y = b) (h : appendMkW T t t' a b st K) : OpS P N ⟨d, .call ⟨.builtin .append, #[x, y], #[t, t']⟩, ty, pos, aft, gd⟩ st K := by
  unfold appendMkW at h
  split at h
  · rename_i i i' m hi hi'
    split at h
    · rename_i e he he'
      split at h
      · rename_i ei hei
        split at h
        · rename_i zd hzd
          cases hc : (Nat.blt 0 ei.size && Nat.blt 0 ei.bytes) with
          | false => rw [hc] at h; exact h.elim
          | true =>
            rw [hc] at h
            simp only [Bool.and_eq_true] at hc
            simp only [cond_true] at h
            split at h
            · rename_i l
              split at h
              · rename_i e' sz xs hl
                cases hc2 : (Nat.beq e' e && Nat.beq sz ei.size) with
                | false => rw [hc2] at h; exact h.elim
                | true =>
                  rw [hc2] at h
                  simp only [Bool.and_eq_true] at hc2
                  obtain rfl := Nat.eq_of_beq_eq_true hc2.1
                  obtain rfl := Nat.eq_of_beq_eq_true hc2.2
                  intro I ρ F fr L hs
                  obtain ⟨v, x1, x2⟩ := ev_ok hs hx (by simp)
                  obtain ⟨u, y1, y2⟩ := ev_ok hs hy (by simp)
                  obtain ⟨rfl, _⟩ := ra_int y2
                  cases x2 with
                  | sl x2 => exact appendMkTo_acts hT hi hi' he he' hei hzd hc.1 hc.2 hl h hs (by rw [x2]; exact x1) y1
              · exact h.elim
            · intro I ρ F fr L hs a' w next Q ha hw hk
              obtain ⟨v, x1, x2⟩ := ev_ok hs hx (by simp)
              obtain ⟨u, y1, y2⟩ := ev_ok hs hy (by simp)
              obtain ⟨rfl, _⟩ := ra_int y2
              cases x2 with
              | d x2 => cases x2 with
                | nils =>
                  have hag := bind_agree (v := .slice none 0 0) (hs.new st.nx (Nat.le_refl _))
                  obtain ⟨hs1, hw1⟩ := hs.nilRow hw e ei.size
                  refine appendMkTo_acts (st := ⟨st.fr, (st.nx, .row e ei.size []) :: st.hp, st.nx + 1⟩) hT hi hi' he he' hei hzd hc.1 hc.2 (by simp [lookO]) h hs1 (by rw [bind_self]; exact x1) y1 a' w next Q ha hw1 (fun v' I' L' w' hw' hr => hk v' I' L' w' hw' ?_)
                  obtain ⟨r1, ρ', a2, st', r2, r3, r4, r5⟩ := hr
                  exact ⟨r1, ρ', a2, st', r2, r3, fun l hl => by rw [r4 l (by rw [hag l hl]; exact hl), hag l hl], r5⟩
            · rename_i xs
              obtain ⟨rfl, h⟩ := h
              obtain ⟨desc, info, zv, hu, htd1, hinf, hz, hsz, hby, hzs, hzc, hzu⟩ := hT.ok t i hi
              obtain ⟨desc1, info1, zv1, hu1, htd3, hinf1, hz1, hsz1, hby1, hzs1, hzc1, hzu1⟩ := hT.ok t' i' hi'
              obtain ⟨desc2, info2, zv2, hu2, htd2, hinf2, hz2, hsz2, hby2, hzs2, hzc2, hzu2⟩ := hT.ok e ei hei
              have := td_slice (htd1.trans he); subst this
              have := td_int (htd3.trans he'); subst this
              intro I ρ F fr L hs
              obtain ⟨v, x1, x2⟩ := ev_ok hs hx (by simp)
              obtain ⟨u, y1, y2⟩ := ev_ok hs hy (by simp)
              obtain ⟨rfl, _⟩ := ra_int y2
              cases x2 with
              | d x2 => cases x2 with
                | ro hn hc' hm hz' hr hl h1 hx' =>
                  refine Acts.mono (W.appendMk0 x1 y1 hc' hu hu1 hinf2) (fun v' I' L' hr' => ⟨L', .refl _, ?_⟩)
                  obtain ⟨rfl, rfl, rfl⟩ := hr'
                  exact ⟨Imm.le_refl _, ρ, _, st, .inr (.d (.ro hn hc' hm hz' hr hl h1 hx')), hs, fun _ _ => rfl, h⟩
            · exact h.elim
        · exact h.elim
      · exact h.elim
    · exact h.elim
  · exact h.elim

/-- append of what is no slice of the same kind. -/
def appendXW (T : TypeId → Option TI) (t t' : TypeId) (a b : AV) (st : St) (K : AV → St → Prop) : Prop := match b with
  | .d (.str s) => appendStrW T t t' a s st K
  | b => appendMkW T t t' a b st K
theorem appendXW_ok (hT : TOk P T) {t t' : TypeId} {a b : AV} {K : AV → St → Prop} (hx : ev st x = a) (hy : ev st y = b) (h : appendXW T t t' a b st K) : OpS P N ⟨d, .call ⟨.builtin .append, #[x, y], #[t, t']⟩, ty, pos, aft, gd⟩ st K := by
  unfold appendXW at h
  split at h
  · exact appendStrW_ok hT hx hy h
  · exact appendMkW_ok hT hx hy h

/-- copy into a piece of an array of our own, of elements of one cell. -/
def copyW (T : TypeId → Option TI) (t : TypeId) (a b : AV) (st : St) (K : AV → St → Prop) : Prop :=
  match T t with
  | some i => match i.td with
    | .slice e => match T e with
      | some ei => bif Nat.beq ei.size 1 then match a with
        | .av l sz o n => bif Nat.beq sz 1 then match lookO st.hp l, slD st b with
          | .arr t0 cs, some ys => (o + n ≤ cs.length ∧ ∀ y ∈ ys, y.cells = [y]) ∧ K (.d (.int .i64 ((min ys.length n : Nat) : Int))) ⟨st.fr, setO st.hp l (.arr t0 (cs.take o ++ ys.take (min ys.length n) ++ cs.drop (o + min ys.length n))), st.nx⟩
          | _, _ => False
          else False
        | _ => False
        else False
      | none => False
    | _ => False
  | none => False

theorem cells_self : ∀ {xs : List D}, (∀ x ∈ xs, x.cells = [x]) → cellsOf xs = xs
  | [], _ => rfl
  | x :: xs, h => by
    have := cells_self (xs := xs) (fun y hy => h y (List.mem_cons_of_mem _ hy))
    simp only [cellsOf, List.flatMap_cons] at *
    rw [this, h x List.mem_cons_self]; rfl

theorem copyW_ok (hT : TOk P T) {t t' : TypeId} {a b : AV} {K : AV → St → Prop} (hx : ev st x = a) (hy : ev st y = b) (h : copyW T t a b st K) : OpS P N ⟨d, .call ⟨.builtin .copy, #[x, y], #[t, t']⟩, ty, pos, aft, gd⟩ st K := by
  unfold copyW at h
  split at h
  · rename_i i hi
    obtain ⟨desc, info, zv, hu, htd, hinf, hz, hsz, hby, hzs, hzc, hzu⟩ := hT.ok t i hi
    split at h
    · rename_i e he
      have := td_slice (htd.trans he); subst this
      split at h
      · rename_i ei hei
        obtain ⟨desc2, info2, zv2, hu2, htd2, hinf2, hz2, hsz2, hby2, hzs2, hzc2, hzu2⟩ := hT.ok e ei hei
        cases hc : Nat.beq ei.size 1 with
        | false => rw [hc] at h; exact h.elim
        | true =>
          rw [hc] at h
          simp only [cond_true] at h
          have h1s : info2.size = 1 := hsz2.trans (Nat.eq_of_beq_eq_true hc)
          split at h
          · rename_i l sz o n
            cases hc2 : Nat.beq sz 1 with
            | false => rw [hc2] at h; exact h.elim
            | true =>
              rw [hc2] at h
              simp only [cond_true] at h
              obtain rfl := Nat.eq_of_beq_eq_true hc2
              split at h
              · rename_i t0 cs ys hl hys
                obtain ⟨⟨h2, h3⟩, h⟩ := h
                intro I ρ F fr L hs
                obtain ⟨v, x1, x2⟩ := ev_ok hs hx (by simp)
                obtain ⟨u, y1, y2⟩ := ev_ok hs hy (slD_def hys)
                obtain ⟨B, cb, ws, rfl, g1, g2, g3, _, _⟩ := slD_ok hs hys y2
                rw [cells_self h3] at g2
                obtain ⟨M, es, R, rfl, ho, hk⟩ := hs.at hl (by simp)
                obtain ⟨bb, us, r1, r2, ro1, rfl⟩ := ho
                cases x2 with
                | av r3 hnc hnm =>
                  rw [r1] at r3; simp only [Value.pointer.injEq, Option.some.injEq, Addr.mk.injEq, and_true] at r3; subst r3
                  rw [Nat.mul_one] at x1
                  have hlist : M ++ [Ent.blk bb t0 us] ++ R = M ++ Ent.blk bb t0 us :: R := by simp
                  have hwl : (ws.take (min ys.length n)).length = min ys.length n := by rw [List.length_take, g2.1]; omega
                  have htk := g2.take (min ys.length n)
                  rw [hlist] at g1 ⊢
                  refine Acts.mono (W.copyBlk (cs := us) (ws := ws.take (min ys.length n)) x1 y1 hu hinf2 h1s Upd.mid (by rw [hwl]) (fun w hw j u hj => ?_) (by rw [hwl, r2.1]; omega) (g3.take _)) (fun v' I' L' hr => ⟨L', .refl _, ?_⟩)
                  · rw [List.getElem?_take] at hj
                    split at hj
                    · exact g1 w hw j u hj
                    · cases hj
                  · obtain ⟨rfl, rfl, rfl⟩ := hr
                    rw [hwl]
                    refine ⟨Imm.le_refl _, ρ, _, _, .inr (rel_int ⟨?_, ?_⟩), ?_, fun _ _ => rfl, h⟩
                    · show (-9223372036854775808 : Int) ≤ _; omega
                    · show _ ≤ (9223372036854775807 : Int); have : maxLen = 9223372036854775807 := rfl; omega
                    · have hnew : All2 (RelD I) (us.take o ++ ws.take (min ys.length n) ++ us.drop (o + min ys.length n)) (cs.take o ++ ys.take (min ys.length n) ++ cs.drop (o + min ys.length n)) := All2.app (All2.app (r2.take o) htk) (r2.drop _)
                      have := hk (.arr t0 (cs.take o ++ ys.take (min ys.length n) ++ cs.drop (o + min ys.length n))) [.blk bb t0 (us.take o ++ ws.take (min ys.length n) ++ us.drop (o + min ys.length n))] I ρ st.nx (Imm.le_refl _) (fun _ _ => rfl) hs.new ⟨bb, _, r1, hnew, Ones.app (Ones.app (ro1.take o) (g3.take _)) (ro1.drop _), rfl⟩
                      simpa using this
              · exact h.elim
          · exact h.elim
      · exact h.elim
    · exact h.elim
  · exact h.elim
end
end Go.V

/- The second floor, part I: places of elements, pieces of slices, lengths, conversions. No function of the program is proved here. -/
namespace Go.V
open Go.Eng

section
variable {P : Program} {N : Nat} {T : TypeId → Option TI} {I J : Imm} {ρ ρ' : Nat → Value} {F : List Ent} {st : St} {fr : Frm} {L : List Ent}
variable {ty : TypeId} {pos : String} {aft : Array Edge} {gd : Option (Nat × Bool)} {d : Option Tmp} {x y z q : Operand}

/-! ## Places -/
def fieldAddrW (T : TypeId → Option TI) (t : TypeId) (i : Nat) (a : AV) (K : AV → Prop) : Prop :=
  match T t with
  | some ti => match ti.td with
    | .struct fs => match fs[i]? with
      | some (ft, off) => match T ft with
        | some fi => bif Nat.beq fi.size 0 then False else fieldW a off K
        | none => False
      | none => False
    | _ => False
  | none => False

theorem fieldAddrW_ok (hT : TOk P T) {t : TypeId} {i : Nat} {a : AV} {K : AV → St → Prop} (hx : ev st x = a) (h : fieldAddrW T t i a (fun a => K a st)) : OpS P N ⟨d, .fieldAddr t x i, ty, pos, aft, gd⟩ st K := by
  unfold fieldAddrW at h
  split at h
  · rename_i ti hti
    obtain ⟨desc, info, zv, hu, htd, hinf, hz, hsz, hby, hzs, hzc, hzu⟩ := hT.ok t ti hti
    split at h
    · rename_i fs hfs
      obtain ⟨gs, rfl, hgs⟩ := td_struct (htd.trans hfs)
      split at h
      · rename_i ft off hf
        split at h
        · rename_i fi hfi
          obtain ⟨_, info2, _, _, _, hinf2, _, hsz2, _⟩ := hT.ok ft fi hfi
          cases h0 : Nat.beq fi.size 0 with
          | true => rw [h0] at h; exact h.elim
          | false =>
            rw [h0] at h
            have hau : a ≠ .undef := by rintro rfl; exact h
            obtain ⟨g, hg, e1, e2⟩ : ∃ g, gs[i]? = some g ∧ g.type = ft ∧ g.offset = off := by
              rw [← hgs, List.getElem?_map] at hf
              cases hg : gs.toList[i]? with
              | none => rw [hg] at hf; cases hf
              | some g => rw [hg] at hf; simp at hf; exact ⟨g, by simpa using hg, hf.1, hf.2⟩
            have hex : ∃ b, K b st ∧ ∀ I ρ v, RelA I ρ v a → ∃ ad, v = .pointer (some ad) ∧ RelA I ρ (.pointer (some (ad.add off))) b := by
              cases a with
              | ptr l o => exact ⟨_, h, fun I ρ v hv => by cases hv with | ptr hl => exact ⟨_, rfl, by rw [add_blk]; exact .ptr hl⟩⟩
              | rp cs f => exact ⟨_, h, fun I ρ v hv => by cases hv with | rp hr h1 hu => exact ⟨_, rfl, by rw [add_add]; exact .rp hr h1 hu⟩⟩
              | ep l sz j f => exact ⟨_, h, fun I ρ v hv => by cases hv with | ep hl => exact ⟨_, rfl, by rw [add_blk, Nat.add_assoc]; exact .ep hl⟩⟩
              | _ => exact h.elim
            obtain ⟨b, hk, hb⟩ := hex
            refine OpS.val b (fun I ρ F fr L hs => ?_) hk
            obtain ⟨v, x1, x2⟩ := ev_ok hs hx hau
            obtain ⟨ad, rfl, hr⟩ := hb I ρ v x2
            exact ⟨_, R.fieldA x1 hu hg (by rw [e1]; exact run_ti hinf2) (by rw [hsz2]; exact h0), by rw [e2]; exact hr⟩
        · exact h.elim
      · exact h.elim
    · exact h.elim
  · exact h.elim

def indexAddrW (T : TypeId → Option TI) (t : TypeId) (a : AV) (i : Int) (st : St) (K : AV → Prop) : Prop :=
  match T t with
  | some ti => match ti.td with
    | .slice e => match T e with
      | some ei => match a with
        | .d (.ro xs) => 0 ≤ i ∧ Idx xs i.toNat (fun x => bif (Nat.beq x.cells.length ei.size && Nat.blt 0 ei.size) then K (.rp x.cells 0) else False)
        | .sl l => match lookO st.hp l with
          | .row _ sz xs => bif (Nat.beq sz ei.size && Nat.blt 0 ei.size) then (0 ≤ i ∧ i < xs.length) ∧ K (.ep l sz i.toNat 0) else False
          | _ => False
        | .av l sz o n => bif Nat.beq sz ei.size then (0 ≤ i ∧ i < n) ∧ K (.ptr l (bif Nat.beq sz 1 then o + i.toNat else (o + i.toNat) * sz)) else False
        | _ => False
      | none => False
    | .array n e => match T e with
      | some ei => match a with
        | .ptr l o => (0 ≤ i ∧ i < n) ∧ K (.ptr l (o + i.toNat * ei.size))
        | .rp cs f => (0 ≤ i ∧ i < n) ∧ K (.rp cs (f + i.toNat * ei.size))
        | .ep l sz j f => (0 ≤ i ∧ i < n) ∧ K (.ep l sz j (f + i.toNat * ei.size))
        | _ => False
      | none => False
    | _ => False
  | none => False

theorem R.ixArr2 {t e : TypeId} {ad : Addr} {n : Nat} {k : IntKind} {i : Int} {info : TypeInfo} (hx : evF fr x = some (.pointer (some ad))) (hy : evF fr y = some (.int k i)) (ht : P.underlying t = some (.array n e)) (hi : ∀ w, (typeInfo e).run P w = .ok info w)
    (h : 0 ≤ i ∧ i < n) : RunsTo P fr I L ⟨d, .indexAddr t x y, ty, pos, aft, gd⟩ (.pointer (some (ad.add (i.toNat * info.size)))) := fun ρ w hρ _ => by
  simp [execOp, hρ x _ hx, hρ y _ hy, Instr.indexAt, asIntOf, run_und ht, sizeOf, hi, h.1, h.2, Instr.sureAddr]

theorem indexAddrW_ok (hT : TOk P T) {t : TypeId} {a : AV} {k : IntKind} {i : Int} {K : AV → St → Prop} (hx : ev st x = a) (hy : ev st y = .d (.int k i)) (h : indexAddrW T t a i st (fun a => K a st)) : OpS P N ⟨d, .indexAddr t x y, ty, pos, aft, gd⟩ st K := by
  unfold indexAddrW at h
  split at h
  · rename_i ti hti
    obtain ⟨desc, info, zv, hu, htd, hinf, hz, hsz, hby, hzs, hzc, hzu⟩ := hT.ok t ti hti
    split at h
    · rename_i e he
      have := td_slice (htd.trans he); subst this
      split at h
      · rename_i ei hei
        obtain ⟨_, info2, _, _, _, hinf2, _, hsz2, _⟩ := hT.ok e ei hei
        split at h
        · rename_i xs
          obtain ⟨h0, x0, hx0, h⟩ := h
          cases hc : (Nat.beq x0.cells.length ei.size && Nat.blt 0 ei.size) with
          | false => simp only [hc] at h; exact h.elim
          | true =>
            simp only [hc] at h
            simp only [Bool.and_eq_true, Nat.blt_eq] at hc
            have e1 := Nat.eq_of_beq_eq_true hc.1
            refine OpS.val _ (fun I ρ F fr L hs => ?_) h
            obtain ⟨v, x1, x2⟩ := ev_ok hs hx (by simp)
            obtain ⟨u, y1, y2⟩ := ev_ok hs hy (by simp)
            obtain ⟨rfl, _⟩ := ra_int y2
            cases x2 with
            | d x2 => cases x2 with
              | @ro A n c sz us _ hn hcc hm hz hr hl ho hxx =>
                have hx0l := hz x0 (List.mem_of_getElem? hx0)
                obtain rfl : sz = ei.size := by omega
                have hlt := (List.getElem?_eq_some_iff.1 hx0).1
                have hul : us.length = xs.length * ei.size := by rw [hl, cellsOf_len hz]
                have hfit : i.toNat * ei.size + ei.size ≤ us.length := by
                  rw [hul]
                  have : (i.toNat + 1) * ei.size ≤ xs.length * ei.size := Nat.mul_le_mul_right _ hlt
                  rw [Nat.add_mul, Nat.one_mul] at this; exact this
                have hlt2 : i.toNat * ei.size < us.length := by omega
                obtain ⟨ad, hA, _⟩ := hr (i.toNat * ei.size) _ (List.getElem?_eq_getElem hlt2)
                subst hA
                refine ⟨_, R.ixA x1 y1 hu (run_ti hinf2) ⟨h0, by omega⟩ hsz2, ?_⟩
                have hslice := cellsOf_slice hz hx0 (f := 0) (n := ei.size) (by omega)
                have hs0 : x0.cells.take ei.size = x0.cells := List.take_of_length_le (by omega)
                rw [Nat.add_zero, List.drop_zero, hs0] at hslice
                have := RelA.rp (I := I) (ρ := ρ) (a := ad.add (i.toNat * ei.size)) (us := (us.drop (i.toNat * ei.size)).take ei.size) (cs := x0.cells) (f := 0) (fun j u hj => by
                  rw [List.getElem?_take] at hj
                  split at hj
                  · rw [List.getElem?_drop] at hj
                    obtain ⟨a', ha, hc⟩ := hr _ u hj
                    simp only [Option.some.injEq] at ha; subst ha
                    rw [add_add]; exact hc
                  · cases hj) ((ho.drop _).take _) (by rw [← hslice]; exact (All2.drop (R := RelD I) ⟨hl, hxx⟩ _).take _)
                have hz0 : (ad.add (i.toNat * ei.size)).add 0 = ad.add (i.toNat * ei.size) := by simp [Addr.add]
                rw [hz0] at this; exact this
        · rename_i l
          split at h
          · rename_i e' sz xs hl
            cases hc : (Nat.beq sz ei.size && Nat.blt 0 ei.size) with
            | false => rw [hc] at h; exact h.elim
            | true =>
              rw [hc] at h
              simp only [Bool.and_eq_true, Nat.blt_eq] at hc
              obtain rfl := Nat.eq_of_beq_eq_true hc.1
              obtain ⟨h1, h⟩ := h
              intro I ρ F fr L hs a' w next Q ha hw hk
              obtain ⟨v, x1, x2⟩ := ev_ok hs hx (by simp)
              obtain ⟨u, y1, y2⟩ := ev_ok hs hy (by simp)
              obtain ⟨rfl, _⟩ := ra_int y2
              obtain ⟨es, ho, hm⟩ := hs.obj l
              rw [hl] at ho
              obtain ⟨A, c, us, r1, r2, r3, ro1, rfl⟩ := ho
              cases x2 with
              | sl x2 =>
                rw [r1] at x2; simp only [Value.slice.injEq] at x2
                obtain ⟨rfl, rfl, rfl⟩ := x2
                obtain ⟨g, hA⟩ := row_some (hw.ents _ (hm _ List.mem_cons_self)) (by omega)
                subst hA
                refine (R.ixA x1 y1 hu (run_ti hinf2) ⟨h1.1, by omega⟩ hsz2).acts a' w next Q ha hw (fun v' I' L' w' hw' hi => hk v' I' L' w' hw' ?_)
                obtain ⟨rfl, rfl, rfl⟩ := hi
                refine ⟨Imm.le_refl _, ρ, _, st, .inr ?_, hs, fun _ _ => rfl, h⟩
                rw [add_blk, Nat.zero_add]
                have := RelA.ep (I := I) (sz := ei.size) (i := i.toNat) (f := 0) r1
                rwa [Nat.add_zero] at this
          · exact h.elim
        · rename_i l sz o n
          cases hc : Nat.beq sz ei.size with
          | false => rw [hc] at h; exact h.elim
          | true =>
            rw [hc] at h
            have e1 := Nat.eq_of_beq_eq_true hc
            obtain ⟨h1, h⟩ := h
            refine OpS.val _ (fun I ρ F fr L hs => ?_) h
            obtain ⟨v, x1, x2⟩ := ev_ok hs hx (by simp)
            obtain ⟨u, y1, y2⟩ := ev_ok hs hy (by simp)
            obtain ⟨rfl, _⟩ := ra_int y2
            cases x2 with
            | av hl hcc hm =>
              refine ⟨_, R.ixA x1 y1 hu (run_ti hinf2) ⟨h1.1, by omega⟩ hsz2, ?_⟩
              have e3 : (bif Nat.beq sz 1 then o + i.toNat else (o + i.toNat) * sz) = o * sz + i.toNat * sz := by
                cases h1b : Nat.beq sz 1 with
                | true => rw [Nat.eq_of_beq_eq_true h1b]; simp
                | false => show (o + i.toNat) * sz = _; rw [Nat.add_mul]
              rw [add_blk, ← e1, e3]
              exact .ptr hl
        · exact h.elim
      · exact h.elim
    · rename_i n e he
      have := td_array (htd.trans he); subst this
      split at h
      · rename_i ei hei
        obtain ⟨_, info2, _, _, _, hinf2, _, hsz2, _⟩ := hT.ok e ei hei
        have key : ∀ {I ρ F fr L}, SR I ρ F st fr L → ∀ {ad : Addr}, evF fr x = some (.pointer (some ad)) → (0 ≤ i ∧ i < n) → RunsTo P fr I L ⟨d, .indexAddr t x y, ty, pos, aft, gd⟩ (.pointer (some (ad.add (i.toNat * ei.size)))) := by
          intro I ρ F fr L hs ad x1 h1
          obtain ⟨u, y1, y2⟩ := ev_ok hs hy (by simp)
          obtain ⟨rfl, _⟩ := ra_int y2
          have := R.ixArr2 (P := P) (I := I) (L := L) (d := d) (ty := ty) (pos := pos) (aft := aft) (gd := gd) x1 y1 hu (run_ti hinf2) h1
          rw [hsz2] at this; exact this
        split at h
        · obtain ⟨h1, h⟩ := h
          refine OpS.val _ (fun I ρ F fr L hs => ?_) h
          obtain ⟨v, x1, x2⟩ := ev_ok hs hx (by simp)
          cases x2 with
          | ptr hl => exact ⟨_, key hs x1 h1, by rw [add_blk]; exact .ptr hl⟩
        · obtain ⟨h1, h⟩ := h
          refine OpS.val _ (fun I ρ F fr L hs => ?_) h
          obtain ⟨v, x1, x2⟩ := ev_ok hs hx (by simp)
          cases x2 with
          | rp hr ho hu => exact ⟨_, key hs x1 h1, by rw [add_add]; exact .rp hr ho hu⟩
        · obtain ⟨h1, h⟩ := h
          refine OpS.val _ (fun I ρ F fr L hs => ?_) h
          obtain ⟨v, x1, x2⟩ := ev_ok hs hx (by simp)
          cases x2 with
          | ep hl => exact ⟨_, key hs x1 h1, by rw [add_blk, Nat.add_assoc]; exact .ep hl⟩
        · exact h.elim
      · exact h.elim
    · exact h.elim
  · exact h.elim

/-! ## A struct's value: its fields -/
def partA (cs : List AV) (off : Nat) (fi : TI) (K : AV → Prop) : Prop :=
  bif fi.td.one then getA cs off K else bif Nat.ble (off + fi.size) cs.length then okA (packA ((cs.drop off).take fi.size)) K else False

def fieldVW (T : TypeId → Option TI) (t : TypeId) (i : Nat) (a : AV) (K : AV → Prop) : Prop :=
  match T t with
  | some ti => match ti.td with
    | .struct fs => match fs[i]? with
      | some (ft, off) => match T ft with
        | some fi => match a with
          | .d (.agg cs) => bif fi.td.one then Idx cs off (fun x => K (.d x)) else bif Nat.ble (off + fi.size) cs.length then K (.d (.agg ((cs.drop off).take fi.size))) else False
          | .agg cs => partA cs off fi K
          | _ => False
        | none => False
      | none => False
    | _ => False
  | none => False

theorem fieldVW_ok (hT : TOk P T) {t : TypeId} {i : Nat} {a : AV} {K : AV → St → Prop} (hx : ev st x = a) (h : fieldVW T t i a (fun a => K a st)) : OpS P N ⟨d, .field t x i, ty, pos, aft, gd⟩ st K := by
  unfold fieldVW at h
  split at h
  · rename_i ti hti
    obtain ⟨desc, info, zv, hu, htd, hinf, hz, hsz, hby, hzs, hzc, hzu⟩ := hT.ok t ti hti
    split at h
    · rename_i fs hfs
      obtain ⟨gs, rfl, hgs⟩ := td_struct (htd.trans hfs)
      split at h
      · rename_i ft off hf
        split at h
        · rename_i fi hfi
          obtain ⟨desc2, info2, _, hu2, htd2, hinf2, _, hsz2, _⟩ := hT.ok ft fi hfi
          have h1b : oneB desc2 = fi.td.one := by rw [td_one, htd2]
          obtain ⟨g, hg, e1, e2⟩ : ∃ g, gs[i]? = some g ∧ g.type = ft ∧ g.offset = off := by
            rw [← hgs, List.getElem?_map] at hf
            cases hg : gs.toList[i]? with
            | none => rw [hg] at hf; cases hf
            | some g => rw [hg] at hf; simp at hf; exact ⟨g, by simpa using hg, hf.1, hf.2⟩
          have one : ∀ {fr : Frm} {us : List Value} {u : Value}, evF fr x = some (.agg us.toArray) → fi.td.one = true → us[off]? = some u → ∀ {I L}, RunsTo P fr I L ⟨d, .field t x i, ty, pos, aft, gd⟩ u := by
            intro fr us u x1 hb hj I L
            exact R.fld x1 hu hg (by rw [e1]; exact hu2) (by rw [h1b, hb]) (by rw [e2]; simpa using hj)
          have agg : ∀ {fr : Frm} {us : List Value}, evF fr x = some (.agg us.toArray) → fi.td.one = false → ∀ {I L}, RunsTo P fr I L ⟨d, .field t x i, ty, pos, aft, gd⟩ (.agg ((us.drop off).take fi.size).toArray) := by
            intro fr us x1 hb I L
            refine R.fldA x1 hu hg (by rw [e1]; exact hu2) (by rw [h1b, hb]) (by rw [e1]; exact run_ti hinf2) ?_
            rw [e2, hsz2]
            apply Array.ext'
            simp [List.take_drop]
          split at h
          · rename_i cs
            cases hb : fi.td.one with
            | true =>
              rw [hb] at h
              obtain ⟨y, hy, h⟩ := h
              refine OpS.val _ (fun I ρ F fr L hs => ?_) h
              obtain ⟨v, x1, x2⟩ := ev_ok hs hx (by simp)
              cases x2 with
              | d x2 => cases x2 with
                | agg hl h1 hxx =>
                  obtain ⟨u, q1, q2⟩ := All2.get (R := RelD I) ⟨hl, hxx⟩ hy
                  exact ⟨u, one x1 hb q1, .d q2⟩
            | false =>
              rw [hb] at h
              cases hble : Nat.ble (off + fi.size) cs.length with
              | false => rw [hble] at h; exact h.elim
              | true =>
                rw [hble] at h
                refine OpS.val _ (fun I ρ F fr L hs => ?_) h
                obtain ⟨v, x1, x2⟩ := ev_ok hs hx (by simp)
                cases x2 with
                | d x2 => cases x2 with
                  | agg hl h1 hxx =>
                    have r4 := (All2.drop (R := RelD I) ⟨hl, hxx⟩ off).take fi.size
                    exact ⟨_, agg x1 hb, .d (.agg r4.1 ((h1.drop _).take _) r4.2)⟩
          · rename_i cs
            unfold partA at h
            cases hb : fi.td.one with
            | true =>
              rw [hb] at h
              obtain ⟨y, hy, h⟩ := getA_ok h
              refine OpS.val _ (fun I ρ F fr L hs => ?_) h
              obtain ⟨v, x1, x2⟩ := ev_ok hs hx (by simp)
              cases x2 with
              | agg hl h1 hxx =>
                obtain ⟨u, q1, q2⟩ := All2.get (R := RelA I ρ) ⟨hl, hxx⟩ hy
                exact ⟨u, one x1 hb q1, q2⟩
            | false =>
              rw [hb] at h
              cases hble : Nat.ble (off + fi.size) cs.length with
              | false => rw [hble] at h; exact h.elim
              | true =>
                rw [hble] at h
                replace h := (okA_ok h).2
                refine OpS.val _ (fun I ρ F fr L hs => ?_) h
                obtain ⟨v, x1, x2⟩ := ev_ok hs hx (by simp)
                cases x2 with
                | agg hl h1 hxx => exact ⟨_, agg x1 hb, packA_ok ((All2.drop (R := RelA I ρ) ⟨hl, hxx⟩ off).take fi.size) ((h1.drop _).take _)⟩
          · exact h.elim
        · exact h.elim
      · exact h.elim
    · exact h.elim
  · exact h.elim
end
end Go.V

/- The second floor, part J: pieces of slices and strings, lengths, conversions, comparing. No function of the program is proved here. -/
namespace Go.V
open Go.Eng

section
variable {P : Program} {N : Nat} {T : TypeId → Option TI} {I J : Imm} {ρ ρ' : Nat → Value} {F : List Ent} {st : St} {fr : Frm} {L : List Ent}
variable {ty : TypeId} {pos : String} {aft : Array Edge} {gd : Option (Nat × Bool)} {d : Option Tmp} {x y z q : Operand}

/-- A bound that may be given. -/
def bndA (st : St) : Option Operand → Option (Option Int)
  | none => some none
  | some x => match ev st x with
    | .d (.int _ i) => some (some i)
    | _ => none

def bndV (fr : Frm) (o : Option Operand) (b : Option Int) : Prop := match o, b with
  | none, none => True
  | some x, some i => ∃ k, evF fr x = some (.int k i)
  | _, _ => False
theorem bndA_ok (hs : SR I ρ F st fr L) {o : Option Operand} {b : Option Int} (h : bndA st o = some b) : bndV fr o b := by
  cases o with
  | none => simp [bndA] at h; subst h; trivial
  | some x =>
    simp only [bndA] at h
    split at h
    · rename_i k i hx
      simp at h; subst h
      obtain ⟨v, h1, h2⟩ := ev_ok hs hx (by simp)
      obtain ⟨rfl, _⟩ := ra_int h2
      exact ⟨k, h1⟩
    · cases h

theorem run_bounds {fr : Frm} {isS : Bool} {n c : Nat} {lo hi mx : Option Operand} {l h m : Option Int} {ρ : Operand → Value} (hρ : Agree fr ρ) (hl : bndV fr lo l) (hh : bndV fr hi h) (hm : bndV fr mx m)
    (hmx : m.isSome = true → h.isSome = true) (h3 : 0 ≤ m.getD c ∧ m.getD c ≤ c) (h2 : h.isSome = true → 0 ≤ h.getD n ∧ h.getD n ≤ m.getD c) (h1 : l.isSome = true → 0 ≤ l.getD 0 ∧ l.getD 0 ≤ h.getD n) (w : World) :
    (Instr.sliceBounds isS n c (lo.map ρ) (hi.map ρ) (mx.map ρ)).run P w = .ok ((l.getD 0).toNat, (h.getD n).toNat, (m.getD c).toNat) w := by
  have e : ∀ {x : Operand} {k : IntKind} {i : Int}, evF fr x = some (.int k i) → ρ x = .int k i := fun h => hρ _ _ h
  cases lo <;> cases l <;> first | exact hl.elim | skip
  all_goals (cases hi <;> cases h <;> first | exact hh.elim | skip)
  all_goals (cases mx <;> cases m <;> first | exact hm.elim | skip)
  all_goals first | (simp at hmx; done) | skip
  all_goals simp only [Option.isSome_some, Option.isSome_none, Option.getD_some, Option.getD_none, forall_const, Bool.false_eq_true, false_implies, Option.map_some, Option.map_none] at *
  · simp [Instr.sliceBounds]
  · obtain ⟨k, hh⟩ := hh
    simp [Instr.sliceBounds, e hh, run_sb (P := P) (w := w) (k := k) ⟨h2.1, h2.2⟩]
  · obtain ⟨k, hh⟩ := hh; obtain ⟨k2, hm⟩ := hm
    rename_i i _ j
    simp [Instr.sliceBounds, e hh, e hm, run_sb (P := P) (w := w) (k := k2) (i := j) (y := c) h3, run_sb (P := P) (w := w) (k := k) (i := i) (y := j.toNat) ⟨h2.1, by omega⟩]
  · obtain ⟨k, hl⟩ := hl
    simp [Instr.sliceBounds, e hl, run_sb (P := P) (w := w) (k := k) h1]
  · obtain ⟨k, hl⟩ := hl; obtain ⟨k2, hh⟩ := hh
    rename_i i _ j
    simp [Instr.sliceBounds, e hl, e hh, run_sb (P := P) (w := w) (k := k2) (i := j) (y := c) ⟨h2.1, by omega⟩, run_sb (P := P) (w := w) (k := k) (i := i) (y := j.toNat) ⟨h1.1, by omega⟩]
  · obtain ⟨k, hl⟩ := hl; obtain ⟨k2, hh⟩ := hh; obtain ⟨k3, hm⟩ := hm
    rename_i i _ j _ q
    simp [Instr.sliceBounds, e hl, e hh, e hm, run_sb (P := P) (w := w) (k := k3) (i := q) (y := c) h3, run_sb (P := P) (w := w) (k := k2) (i := j) (y := q.toNat) ⟨h2.1, by omega⟩, run_sb (P := P) (w := w) (k := k) (i := i) (y := j.toNat) ⟨h1.1, by omega⟩]

theorem R.slAny {t e : TypeId} {A : Option Addr} {n c : Nat} {lo hi mx : Option Operand} {l h m : Option Int} {info : TypeInfo} (hx : evF fr x = some (.slice A n c)) (ht : P.underlying t = some (.slice e)) (hinf : ∀ w, (typeInfo e).run P w = .ok info w)
    (hl : bndV fr lo l) (hh : bndV fr hi h) (hm : bndV fr mx m) (hmx : m.isSome = true → h.isSome = true) (h3 : 0 ≤ m.getD c ∧ m.getD c ≤ c) (h2 : h.isSome = true → 0 ≤ h.getD n ∧ h.getD n ≤ m.getD c) (h1 : l.isSome = true → 0 ≤ l.getD 0 ∧ l.getD 0 ≤ h.getD n) :
    RunsTo P fr I L ⟨d, .slice t x lo hi mx, ty, pos, aft, gd⟩ (.slice (if (m.getD c).toNat = (l.getD 0).toNat then A else A.map (·.add ((l.getD 0).toNat * info.size))) ((h.getD n).toNat - (l.getD 0).toNat) ((m.getD c).toNat - (l.getD 0).toNat)) := fun ρ w hρ _ => by
  have hb := run_bounds (P := P) (isS := true) hρ hl hh hm hmx h3 h2 h1 w
  have := run_sl (A := A) ht hinf hb
  simp only [execOp, hρ x _ hx]
  rw [Sem.run_bind, this]; rfl

theorem R.arAny {t e : TypeId} {a : Addr} {n : Nat} {lo hi mx : Option Operand} {l h m : Option Int} {info : TypeInfo} (hx : evF fr x = some (.pointer (some a))) (ht : P.underlying t = some (.array n e)) (hinf : ∀ w, (typeInfo e).run P w = .ok info w)
    (hl : bndV fr lo l) (hh : bndV fr hi h) (hm : bndV fr mx m) (hmx : m.isSome = true → h.isSome = true) (h3 : 0 ≤ m.getD n ∧ m.getD n ≤ n) (h2 : h.isSome = true → 0 ≤ h.getD n ∧ h.getD n ≤ m.getD n) (h1 : l.isSome = true → 0 ≤ l.getD 0 ∧ l.getD 0 ≤ h.getD n) :
    RunsTo P fr I L ⟨d, .slice t x lo hi mx, ty, pos, aft, gd⟩ (.slice (some (if (m.getD n).toNat = (l.getD 0).toNat then a else a.add ((l.getD 0).toNat * info.size))) ((h.getD n).toNat - (l.getD 0).toNat) ((m.getD n).toNat - (l.getD 0).toNat)) := fun ρ w hρ _ => by
  have hb := run_bounds (P := P) (isS := false) hρ hl hh hm hmx h3 h2 h1 w
  simp only [execOp, hρ x _ hx]
  rw [Sem.run_bind]
  have : (Instr.sliceAt t (.pointer (some a)) (lo.map ρ) (hi.map ρ) (mx.map ρ)).run P w = .ok (.slice (some (if (m.getD n).toNat = (l.getD 0).toNat then a else a.add ((l.getD 0).toNat * info.size))) ((h.getD n).toNat - (l.getD 0).toNat) ((m.getD n).toNat - (l.getD 0).toNat)) w := by
    unfold Instr.sliceAt
    rw [Sem.run_bind, run_und ht, Result.andThen_ok]
    simp only [Instr.sureAddr, Sem.run_bind, Sem.run_pure, Result.andThen_ok, hb, sizeOf, hinf]
  rw [this]; rfl

theorem R.stAny {t : TypeId} {s : List UInt8} {lo hi : Option Operand} {l h : Option Int} (hx : evF fr x = some (.string (strOf s))) (ht : P.underlying t = some .string)
    (hl : bndV fr lo l) (hh : bndV fr hi h) (h2 : h.isSome = true → 0 ≤ h.getD s.length ∧ h.getD s.length ≤ s.length) (h1 : l.isSome = true → 0 ≤ l.getD 0 ∧ l.getD 0 ≤ h.getD s.length) :
    RunsTo P fr I L ⟨d, .slice t x lo hi .none, ty, pos, aft, gd⟩ (.string (strOf ((s.take (h.getD s.length).toNat).drop (l.getD 0).toNat))) := fun ρ w hρ _ => by
  have hb := run_bounds (P := P) (isS := false) (n := s.length) (c := s.length) (mx := .none) (m := .none) hρ hl hh trivial (fun e => by cases e) ⟨by simp, by simp⟩ (fun e => ⟨(h2 e).1, by simpa using (h2 e).2⟩) h1 w
  have e : (strOf s).size = s.length := strOf_size s
  have ex : (strOf s).extract (l.getD 0).toNat (h.getD s.length).toNat = strOf ((s.take (h.getD s.length).toNat).drop (l.getD 0).toNat) := by
    apply bytes_ext
    simp only [strOf_data]
    show ((strOf s).extract _ _).data.toList = _
    rw [ByteArray.data_extract]
    simp [strOf, List.drop_take]
  simp only [Option.map_none] at hb
  simp [execOp, hρ x _ hx, Instr.sliceAt, Instr.slice, run_und ht, e, hb, ex]

theorem mem_piece {α : Type} {xs : List α} {h l : Nat} {x : α} (hx : x ∈ (xs.take h).drop l) : x ∈ xs := List.mem_of_mem_take (List.mem_of_mem_drop hx)

theorem cellsOf_piece {sz : Nat} {xs : List D} (hz : ∀ x ∈ xs, x.cells.length = sz) (h l : Nat) : cellsOf ((xs.take h).drop l) = ((cellsOf xs).take (h * sz)).drop (l * sz) := by
  have key : ∀ (xs : List D), (∀ x ∈ xs, x.cells.length = sz) → ∀ n, cellsOf (xs.take n) = (cellsOf xs).take (n * sz) ∧ cellsOf (xs.drop n) = (cellsOf xs).drop (n * sz) := by
    intro xs
    induction xs with
    | nil => intro _ n; simp [cellsOf]
    | cons x xs ih =>
      intro hz n
      have hx := hz x List.mem_cons_self
      cases n with
      | zero => simp [cellsOf]
      | succ n =>
        obtain ⟨i1, i2⟩ := ih (fun y hy => hz y (List.mem_cons_of_mem _ hy)) n
        simp only [cellsOf, List.take_succ_cons, List.drop_succ_cons, List.flatMap_cons] at *
        have e1 : (n + 1) * sz = x.cells.length + n * sz := by rw [hx, Nat.add_mul, Nat.one_mul, Nat.add_comm]
        rw [e1, List.take_length_add_append, List.drop_length_add_append]
        exact ⟨by rw [i1], i2⟩
  rw [(key (xs.take h) (fun x hx => hz x (List.mem_of_mem_take hx)) l).2, (key xs hz h).1]

theorem ro_piece {A : Option Addr} {n c l h m sz : Nat} {xs : List D} (hr : RelD I (.slice A n c) (.ro xs)) (h1 : l ≤ h) (h2 : h ≤ n) (h3 : h ≤ m) (hs : l = 0 ∨ ∀ x ∈ xs, x.cells.length = sz) :
    RelD I (.slice (if m = l then A else A.map (·.add (l * sz))) (h - l) (m - l)) (.ro ((xs.take h).drop l)) := by
  cases hr with
  | @ro _ _ _ sz0 us _ hn hc hm hz hrd hl ho hx =>
    have hlen : ((xs.take h).drop l).length = h - l := by simp; omega
    have hus : us.length = n * sz0 := by rw [hl, cellsOf_len hz, hn]
    have hall : All2 (RelD I) us (cellsOf xs) := ⟨hl, hx⟩
    have hall2 := (hall.take (h * sz0)).drop (l * sz0)
    rw [← cellsOf_piece hz] at hall2
    refine .ro hlen (by omega) (by omega) (fun x hx => hz x (mem_piece hx)) (us := (us.take (h * sz0)).drop (l * sz0)) (fun j u hj => ?_) hall2.1 ((ho.take _).drop _) hall2.2
    have hj2 := (List.getElem?_eq_some_iff.1 hj).1
    rw [List.getElem?_drop, List.getElem?_take] at hj
    split at hj
    · rename_i hlt
      obtain ⟨a, hA, hcell⟩ := hrd _ u hj
      subst hA
      have hsz : l * sz = l * sz0 := by
        rcases hs with rfl | hs
        · simp
        · congr 1
          have hne : xs ≠ [] := by
            rintro rfl
            simp at hn; subst hn
            simp at hus; subst hus; simp at hj
          obtain ⟨x, hx⟩ := List.exists_mem_of_ne_nil _ hne
          rw [← hs x hx, ← hz x hx]
      by_cases hml : m = l
      · exfalso
        simp only [List.length_drop, List.length_take] at hj2
        have : h = l := by omega
        subst this; omega
      · rw [if_neg hml]
        exact ⟨_, rfl, by rw [hsz, add_add]; exact hcell⟩
    · cases hj

/-- x[l:h:m]. -/
def sliceRo (ei : TI) (xs : List D) (K : AV → Prop) : Option Int → Option Int → Option Int → Prop
  | none, some h, none => (0 ≤ h ∧ h ≤ xs.length) ∧ K (.d (.ro (xs.take h.toNat)))
  | some l, none, none => ((0 ≤ l ∧ l ≤ xs.length) ∧ ∀ x ∈ xs, x.cells.length = ei.size) ∧ K (.d (.ro (xs.drop l.toNat)))
  | some l, some h, none => ((0 ≤ l ∧ l ≤ h ∧ h ≤ xs.length) ∧ ∀ x ∈ xs, x.cells.length = ei.size) ∧ K (.d (.ro ((xs.take h.toNat).drop l.toNat)))
  | none, some h, some m => (0 ≤ h ∧ h ≤ m ∧ m ≤ xs.length) ∧ K (.d (.ro (xs.take h.toNat)))
  | _, _, _ => False

def sliceStr (s : List UInt8) (K : AV → Prop) : Option Int → Option Int → Prop
  | none, some h => (0 ≤ h ∧ h ≤ s.length) ∧ K (.d (.str (s.take h.toNat)))
  | some l, none => (0 ≤ l ∧ l ≤ s.length) ∧ K (.d (.str (s.drop l.toNat)))
  | some l, some h => (0 ≤ l ∧ l ≤ h ∧ h ≤ s.length) ∧ K (.d (.str ((s.take h.toNat).drop l.toNat)))
  | none, none => False

def sliceArr (n : Nat) (K : Nat → Nat → Prop) : Option Int → Option Int → Option Int → Prop
  | none, some h, none => (0 ≤ h ∧ h ≤ n) ∧ K 0 h.toNat
  | some l, none, none => (0 ≤ l ∧ l ≤ n) ∧ K l.toNat n
  | some l, some h, none => (0 ≤ l ∧ l ≤ h ∧ h ≤ n) ∧ K l.toNat h.toNat
  | none, none, none => K 0 n
  | _, _, _ => False

def sliceNil (l h m : Option Int) (X : Prop) : Prop := match h, m with
  | none, some _ => False
  | h, m => (l.getD 0 = 0 ∧ h.getD 0 = 0 ∧ m.getD 0 = 0) ∧ X

def sliceW (T : TypeId → Option TI) (t : TypeId) (a : AV) (l h m : Option Int) (st : St) (K : AV → St → Prop) : Prop :=
  match T t with
  | some ti => match ti.td with
    | .slice e => match T e with
      | some ei => match a with
        | .d (.ro xs) => sliceRo ei xs (fun a => K a st) l h m
        | .d .nils => sliceNil l h m (K (.d .nils) st)
        | .sl lb => match lookO st.hp lb with
          | .row e' sz xs => match l, h, m with
            | none, some i, none => (0 ≤ i ∧ i ≤ xs.length) ∧ K (.sl st.nx) ⟨st.fr, (st.nx, .row e' sz (xs.take i.toNat)) :: setO st.hp lb .gone, st.nx + 1⟩
            | none, some i, some m => (0 ≤ i ∧ i ≤ m ∧ m ≤ xs.length) ∧ K (.sl st.nx) ⟨st.fr, (st.nx, .row e' sz (xs.take i.toNat)) :: setO st.hp lb .gone, st.nx + 1⟩
            | l, h, m => sliceRo ei xs (fun a => K a ⟨st.fr, setO st.hp lb (.froz xs), st.nx⟩) l h m
          | _ => False
        | _ => False
      | none => False
    | .string => match a, m with
      | .d (.str s), none => sliceStr s (fun a => K a st) l h
      | _, _ => False
    | .array n e => match T e with
      | some ei => bif Nat.beq ei.size 1 then match a with
          | .ptr lb o => bif Nat.ble n 1000000 then sliceArr n (fun l h => l < n ∧ K (.av lb 1 (o + l) (h - l)) st) l h m else False
          | .rp cs f => (f + n ≤ cs.length ∧ n ≤ 1000000) ∧ sliceArr n (fun l h => K (.d (.ro ((cs.drop (f + l)).take (h - l)))) st) l h m
          | _ => False
        else False
      | none => False
    | _ => False
  | none => False
end
end Go.V

/- The second floor, part K: pieces, lengths, conversions: what they do. No function of the program is proved here. -/
namespace Go.V
open Go.Eng

section
variable {P : Program} {N : Nat} {T : TypeId → Option TI} {I J : Imm} {ρ ρ' : Nat → Value} {F : List Ent} {st : St} {fr : Frm} {L : List Ent}
variable {ty : TypeId} {pos : String} {aft : Array Edge} {gd : Option (Nat × Bool)} {d : Option Tmp} {x y z q : Operand}

theorem relD_ro_nil : RelD I (.slice none 0 0) (.ro []) := .ro (sz := 0) (us := []) rfl (Nat.le_refl _) (Nat.zero_le _) (fun x hx => by cases hx) (fun j u hj => by simp at hj) rfl .nil (fun j u y hj => by simp at hj)

theorem ro_len {A : Option Addr} {n c : Nat} {xs : List D} (h : RelD I (.slice A n c) (.ro xs)) : n = xs.length ∧ n ≤ c ∧ n ≤ maxLen := by cases h with | ro hn hc hm => exact ⟨hn.symm, hc, hm⟩

theorem sliceRo_ok {t e : TypeId} {ei : TI} {info2 : TypeInfo} {xs : List D} {lo hi mx : Option Operand} {l h m : Option Int} {K : AV → St → Prop} {st0 : St} (hu : P.underlying t = some (.slice e)) (hinf2 : P.info? e = some info2) (hsz2 : info2.size = ei.size)
    (hv : ∀ I ρ F fr L, SR I ρ F st fr L → (∃ A n c, evF fr x = some (.slice A n c) ∧ RelD I (.slice A n c) (.ro xs)) ∧ bndV fr lo l ∧ bndV fr hi h ∧ bndV fr mx m) (hst : st0 = st)
    (hk : sliceRo ei xs (fun a => K a st0) l h m) : OpS P N ⟨d, .slice t x lo hi mx, ty, pos, aft, gd⟩ st K := by
  subst hst
  have key : ∀ (i j : Nat) (K1 : i ≤ j) (K2 : j ≤ xs.length) (_ : i = 0 ∨ ∀ x ∈ xs, x.cells.length = ei.size) (l h m : Option Int) (_ : (l.getD 0).toNat = i) (_ : ∀ n : Nat, n = xs.length → (h.getD n).toNat = j) (_ : m.isSome = true → h.isSome = true) (_ : m.isSome = true → 0 ≤ m.getD 0 ∧ (j : Int) ≤ m.getD 0 ∧ m.getD 0 ≤ xs.length)
      (_ : h.isSome = true → 0 ≤ h.getD 0) (_ : l.isSome = true → 0 ≤ l.getD 0),
      (∀ I ρ F fr L, SR I ρ F st0 fr L → (∃ A n c, evF fr x = some (.slice A n c) ∧ RelD I (.slice A n c) (.ro xs)) ∧ bndV fr lo l ∧ bndV fr hi h ∧ bndV fr mx m) →
      K (.d (.ro ((xs.take j).drop i))) st0 → OpS P N ⟨d, .slice t x lo hi mx, ty, pos, aft, gd⟩ st0 K := by
    intro i j K1 K2 K3 l h m hl hh hmx hm hh0 hl0 hv hk
    refine OpS.val _ (fun I ρ F fr L hs => ?_) hk
    obtain ⟨⟨A, n, c, x1, x2⟩, b1, b2, b3⟩ := hv I ρ F fr L hs
    obtain ⟨hn, hc, hmx'⟩ := ro_len x2
    have hhn := hh n hn
    have e1 : (m.getD c).toNat ≤ c ∧ j ≤ (m.getD c).toNat ∧ 0 ≤ m.getD (c : Int) ∧ m.getD (c : Int) ≤ c := by
      cases m with
      | none => simp; omega
      | some m => have := hm rfl; simp at this ⊢; omega
    have e2 : h.isSome = true → 0 ≤ h.getD (n : Int) ∧ h.getD (n : Int) ≤ m.getD c := by
      intro hs'
      cases h with
      | none => cases hs'
      | some h => have := hh0 rfl; simp at this hhn ⊢; omega
    have e3 : l.isSome = true → 0 ≤ l.getD 0 ∧ l.getD 0 ≤ h.getD (n : Int) := by
      intro hs'
      cases l with
      | none => cases hs'
      | some l =>
        have := hl0 rfl
        simp at this hl ⊢
        refine ⟨this, ?_⟩
        cases h with
        | none => simp at hhn ⊢; omega
        | some h => have := hh0 rfl; simp at this hhn ⊢; omega
    have hr := R.slAny (P := P) (I := I) (L := L) (d := d) (ty := ty) (pos := pos) (aft := aft) (gd := gd) x1 hu (run_ti hinf2) b1 b2 b3 hmx ⟨e1.2.2.1, e1.2.2.2⟩ e2 e3
    rw [hl, hhn] at hr
    exact ⟨_, hr, .d (by rw [hsz2]; exact ro_piece x2 K1 (by omega) e1.2.1 K3)⟩
  unfold sliceRo at hk
  split at hk
  · rename_i h
    obtain ⟨h1, hk⟩ := hk
    exact key 0 h.toNat (Nat.zero_le _) (by omega) (.inl rfl) none (some h) none rfl (fun _ _ => rfl) (fun e => by cases e) (fun e => by cases e) (fun _ => h1.1) (fun e => by cases e) hv (by simpa using hk)
  · rename_i l
    obtain ⟨⟨h1, h2⟩, hk⟩ := hk
    exact key l.toNat xs.length (by omega) (Nat.le_refl _) (.inr h2) (some l) none none rfl (fun n hn => by simp [hn]) (fun e => by cases e) (fun e => by cases e) (fun e => by cases e) (fun _ => h1.1) hv (by rw [List.take_length]; exact hk)
  · rename_i l h
    obtain ⟨⟨h1, h2⟩, hk⟩ := hk
    exact key l.toNat h.toNat (by omega) (by omega) (.inr h2) (some l) (some h) none rfl (fun _ _ => rfl) (fun e => by cases e) (fun e => by cases e) (fun _ => by show 0 ≤ h; omega) (fun _ => h1.1) hv hk
  · rename_i h m
    obtain ⟨h1, hk⟩ := hk
    exact key 0 h.toNat (Nat.zero_le _) (by omega) (.inl rfl) none (some h) (some m) rfl (fun _ _ => rfl) (fun _ => rfl) (fun _ => ⟨by show 0 ≤ m; omega, by show (h.toNat : Int) ≤ m; omega, h1.2.2⟩) (fun _ => h1.1) (fun e => by cases e) hv (by simpa using hk)
  · exact hk.elim

/-- A row is made shorter, and its room with it. -/
theorem HS.clipRow {w : World} {A : Option Addr} {n c sz h m : Nat} {e : TypeId} {us : List Value} (hs : HS I (.row (.slice A n c) e sz n us :: L) w) (hh : h ≤ m) (hm : m ≤ n) : HS I (.row (.slice A h m) e sz h (us.take (h * sz)) :: L) w := by
  have ho := hs.ents _ List.mem_cons_self
  refine hs.swap (fun _ _ _ => rfl) ?_ (fun b hb => .inl (by cases A <;> simpa [Ent.own, Value.ownBlock] using hb)) rfl rfl rfl
  simp only [Ent.ok] at ho ⊢
  obtain ⟨h0, ⟨h1, h2⟩ | ⟨g, cap, cur, h1, h2, h3, h4, h5, h6, h7⟩⟩ := ho
  · simp only [Value.slice.injEq] at h1
    obtain ⟨rfl, hn, rfl⟩ := h1
    have hh0 : h = 0 := by omega
    have hm0 : m = 0 := by omega
    subst hh0; subst hm0
    refine ⟨by simp, .inl ⟨rfl, rfl⟩⟩
  · simp only [Value.slice.injEq] at h1
    obtain ⟨rfl, _, rfl⟩ := h1
    refine ⟨by rw [List.length_take, h0, Nat.min_eq_left (Nat.mul_le_mul_right _ (by omega))], .inr ⟨g, m, cur, rfl, h2, h3, hh, by omega, Nat.le_trans (Nat.mul_le_mul_right _ (by omega)) h6, ?_⟩⟩
    rw [← h7, List.take_take, Nat.min_eq_left (Nat.mul_le_mul_right _ (by omega))]

/-- A row is made shorter. -/
theorem HS.shrinkRow {w : World} {A : Option Addr} {n c sz h : Nat} {e : TypeId} {us : List Value} (hs : HS I (.row (.slice A n c) e sz n us :: L) w) (hh : h ≤ n) : HS I (.row (.slice A h c) e sz h (us.take (h * sz)) :: L) w := by
  have ho := hs.ents _ List.mem_cons_self
  refine hs.swap (fun _ _ _ => rfl) ?_ (fun b hb => .inl (by cases A <;> simpa [Ent.own, Value.ownBlock] using hb)) rfl rfl rfl
  simp only [Ent.ok] at ho ⊢
  obtain ⟨h0, ⟨h1, h2⟩ | ⟨g, cap, cur, h1, h2, h3, h4, h5, h6, h7⟩⟩ := ho
  · simp only [Value.slice.injEq] at h1
    obtain ⟨rfl, hn, rfl⟩ := h1
    have hh0 : h = 0 := by omega
    subst hh0
    refine ⟨by simp, .inl ⟨rfl, rfl⟩⟩
  · simp only [Value.slice.injEq] at h1
    obtain ⟨rfl, _, rfl⟩ := h1
    refine ⟨by rw [List.length_take, h0, Nat.min_eq_left (Nat.mul_le_mul_right _ hh)], .inr ⟨g, c, cur, rfl, h2, h3, by omega, h5, h6, ?_⟩⟩
    rw [← h7, List.take_take, Nat.min_eq_left (Nat.mul_le_mul_right _ hh)]

theorem cellsOf_take {sz : Nat} {xs : List D} (hz : ∀ x ∈ xs, x.cells.length = sz) (h : Nat) : cellsOf (xs.take h) = (cellsOf xs).take (h * sz) := by
  have := cellsOf_piece hz h 0
  simpa using this

theorem cellsOf_one : ∀ {xs : List D}, (∀ x ∈ xs, x.cells = [x]) → cellsOf xs = xs
  | [], _ => rfl
  | x :: xs, h => by
    have := cellsOf_one (xs := xs) (fun y hy => h y (List.mem_cons_of_mem _ hy))
    simp only [cellsOf, List.flatMap_cons] at *
    rw [this, h x List.mem_cons_self]; rfl
theorem RelD.cell1 {u : Value} {x : D} (h : RelD I u x) (h1 : u.oneCell' = true) : x.cells = [x] := by
  cases h with
  | agg => simp [Value.oneCell'] at h1
  | _ => rfl

theorem sliceArr_ok {n : Nat} {K : Nat → Nat → Prop} {l h m : Option Int} (hk : sliceArr n K l h m) :
    ∃ i j : Nat, K i j ∧ i ≤ j ∧ j ≤ n ∧ (l.getD 0).toNat = i ∧ (h.getD (n : Int)).toNat = j ∧ m = none ∧ (h.isSome = true → 0 ≤ h.getD (n : Int) ∧ h.getD (n : Int) ≤ n) ∧ (l.isSome = true → 0 ≤ l.getD 0 ∧ l.getD 0 ≤ h.getD (n : Int)) := by
  unfold sliceArr at hk
  split at hk
  · rename_i h; obtain ⟨h1, hk⟩ := hk; exact ⟨0, h.toNat, hk, Nat.zero_le _, by omega, rfl, rfl, rfl, fun _ => by simpa using h1, (fun e => by cases e)⟩
  · rename_i l; obtain ⟨h1, hk⟩ := hk; exact ⟨l.toNat, n, hk, by omega, Nat.le_refl _, rfl, by simp, rfl, (fun e => by cases e), fun _ => by simpa using h1⟩
  · rename_i l h; obtain ⟨h1, hk⟩ := hk; exact ⟨l.toNat, h.toNat, hk, by omega, by omega, rfl, rfl, rfl, (fun _ => by simp; omega), (fun _ => by simp; omega)⟩
  · exact ⟨0, n, hk, Nat.zero_le _, Nat.le_refl _, rfl, by simp, rfl, (fun e => by cases e), (fun e => by cases e)⟩
  · exact hk.elim

theorem sliceW_ok (hT : TOk P T) {t : TypeId} {a : AV} {lo hi mx : Option Operand} {l h m : Option Int} {K : AV → St → Prop} (hx : ev st x = a) (hl : bndA st lo = some l) (hh : bndA st hi = some h) (hm : bndA st mx = some m)
    (hk : sliceW T t a l h m st K) : OpS P N ⟨d, .slice t x lo hi mx, ty, pos, aft, gd⟩ st K := by
  unfold sliceW at hk
  split at hk
  · rename_i ti hti
    obtain ⟨desc, info, zv, hu, htd, hinf, hz, hsz, hby, hzs, hzc, hzu⟩ := hT.ok t ti hti
    split at hk
    · rename_i e he
      have := td_slice (htd.trans he); subst this
      split at hk
      · rename_i ei hei
        obtain ⟨_, info2, _, _, _, hinf2, _, hsz2, _⟩ := hT.ok e ei hei
        have bnds : ∀ {I ρ F fr L}, SR I ρ F st fr L → bndV fr lo l ∧ bndV fr hi h ∧ bndV fr mx m := fun hs => ⟨bndA_ok hs hl, bndA_ok hs hh, bndA_ok hs hm⟩
        split at hk
        · rename_i xs
          refine sliceRo_ok hu hinf2 hsz2 (fun I ρ F fr L hs => ?_) rfl hk
          obtain ⟨v, x1, x2⟩ := ev_ok hs hx (by simp)
          cases x2 with
          | d x2 => cases x2 with
            | ro a b c d e f g i => exact ⟨⟨_, _, _, x1, .ro a b c d e f g i⟩, bnds hs⟩
        · have hk' : (m.isSome = true → h.isSome = true) ∧ (l.getD 0 = 0 ∧ h.getD 0 = 0 ∧ m.getD 0 = 0) ∧ K (.d .nils) st := by
            unfold sliceNil at hk
            split at hk
            · exact hk.elim
            · rename_i hne
              refine ⟨fun e => ?_, hk⟩
              cases h with
              | some _ => rfl
              | none =>
                cases m with
                | none => cases e
                | some m => exact absurd rfl (hne m rfl)
          obtain ⟨hmh, ⟨e1, e2, e3⟩, hk'⟩ := hk'
          refine OpS.val _ (fun I ρ F fr L hs => ?_) hk'
          obtain ⟨v, x1, x2⟩ := ev_ok hs hx (by simp)
          cases x2 with
          | d x2 => cases x2 with
            | nils =>
              obtain ⟨b1, b2, b3⟩ := bnds hs
              have hr := R.slAny (P := P) (I := I) (L := L) (d := d) (ty := ty) (pos := pos) (aft := aft) (gd := gd) x1 hu (run_ti hinf2) b1 b2 b3 hmh (by simp only [Int.natCast_zero] at *; omega) (fun _ => by simp only [Int.natCast_zero] at *; omega) (fun _ => by simp only [Int.natCast_zero] at *; omega)
              have e2' : (h.getD ((0 : Nat) : Int)).toNat = 0 := by simp only [Int.natCast_zero]; omega
              have e3' : (m.getD ((0 : Nat) : Int)).toNat = 0 := by simp only [Int.natCast_zero]; omega
              have e1' : (l.getD 0).toNat = 0 := by omega
              rw [e2', e3', e1'] at hr
              exact ⟨_, hr, .d .nils⟩
        · rename_i lb
          split at hk
          · rename_i e' sz xs hl'
            split at hk
            · rename_i i
              obtain ⟨h1, hk⟩ := hk
              intro I ρ F fr L hs a' w next Q ha hw hn
              obtain ⟨v, x1, x2⟩ := ev_ok hs hx (by simp)
              obtain ⟨b1, b2, b3⟩ := bnds hs
              obtain ⟨M, es, R0, rfl, ho, hk2⟩ := hs.at hl' (by simp)
              obtain ⟨A, c, us, r1, r2, r3, ro1, rfl⟩ := ho
              cases x2 with
              | sl x2 =>
                rw [r1] at x2; simp only [Value.slice.injEq] at x2
                obtain ⟨rfl, rfl, rfl⟩ := x2
                have hmid : (M ++ [Ent.row (.slice A xs.length c) e' sz xs.length us] ++ R0).Perm (Ent.row (.slice A xs.length c) e' sz xs.length us :: (M ++ R0)) := by simpa using List.perm_middle
                have hw1 := hw.perm hmid
                have hfacts := row_facts hw1 List.mem_cons_self
                have hr := R.slAny (P := P) (I := I) (L := M ++ [Ent.row (.slice A xs.length c) e' sz xs.length us] ++ R0) (d := d) (ty := ty) (pos := pos) (aft := aft) (gd := gd) x1 hu (run_ti hinf2) b1 b2 b3 (fun e => by cases e) ⟨by simp, by simp⟩ (fun _ => by simp; omega) (fun e => by cases e)
                refine hr.acts a' w next Q ha hw (fun v' I' L' w' hw' hi => ?_)
                obtain ⟨rfl, rfl, rfl⟩ := hi
                have hw2 := HS.shrinkRow (h := i.toNat) (hw'.perm hmid) (by omega)
                refine hn _ I _ w' hw2 ?_
                have hag := bind_agree (v := .slice A i.toNat c) (hs.new st.nx (Nat.le_refl _))
                have s1 := hk2 .gone [] I ρ st.nx (Imm.le_refl _) (fun _ _ => rfl) hs.new rfl
                have hlen : (xs.take i.toNat).length = i.toNat := by rw [List.length_take]; omega
                have s2 := s1.add (o := .row e' sz (xs.take i.toNat)) (es := [.row (.slice A (xs.take i.toNat).length c) e' sz (xs.take i.toNat).length (us.take (i.toNat * sz))]) (v := .slice A i.toNat c) (Imm.le_refl _)
                  ⟨A, c, _, by rw [hlen]; exact bind_self, fun q hq => r2 q (List.mem_of_mem_take hq), by rw [cellsOf_take r2]; exact r3.take _, ro1.take _, rfl⟩
                rw [hlen] at s2
                refine ⟨Imm.le_refl _, _, _, _, .inr ?_, by simpa using s2, hag, hk⟩
                have e1 : ((some i : Option Int).getD (xs.length : Int)).toNat - ((none : Option Int).getD 0).toNat = i.toNat := by simp
                have e2 : ((none : Option Int).getD (c : Int)).toNat - ((none : Option Int).getD 0).toNat = c := by simp
                have e3 : (if ((none : Option Int).getD (c : Int)).toNat = ((none : Option Int).getD 0).toNat then A else A.map (·.add (((none : Option Int).getD 0).toNat * info2.size))) = A := by
                  split
                  · rfl
                  · cases A <;> simp [Addr.add]
                rw [e1, e2, e3]
                exact .sl bind_self
            · rename_i i mm
              obtain ⟨h1, hk⟩ := hk
              intro I ρ F fr L hs a' w next Q ha hw hn
              obtain ⟨v, x1, x2⟩ := ev_ok hs hx (by simp)
              obtain ⟨b1, b2, b3⟩ := bnds hs
              obtain ⟨M, es, R0, rfl, ho, hk2⟩ := hs.at hl' (by simp)
              obtain ⟨A, c, us, r1, r2, r3, ro1, rfl⟩ := ho
              cases x2 with
              | sl x2 =>
                rw [r1] at x2; simp only [Value.slice.injEq] at x2
                obtain ⟨rfl, rfl, rfl⟩ := x2
                have hmid : (M ++ [Ent.row (.slice A xs.length c) e' sz xs.length us] ++ R0).Perm (Ent.row (.slice A xs.length c) e' sz xs.length us :: (M ++ R0)) := by simpa using List.perm_middle
                have hw1 := hw.perm hmid
                have hfacts := row_facts hw1 List.mem_cons_self
                have hr := R.slAny (P := P) (I := I) (L := M ++ [Ent.row (.slice A xs.length c) e' sz xs.length us] ++ R0) (d := d) (ty := ty) (pos := pos) (aft := aft) (gd := gd) x1 hu (run_ti hinf2) b1 b2 b3 (fun _ => rfl) ⟨by show 0 ≤ mm; omega, by show mm ≤ (c : Int); omega⟩ (fun _ => by show 0 ≤ i ∧ i ≤ mm; omega) (fun e => by cases e)
                refine hr.acts a' w next Q ha hw (fun v' I' L' w' hw' hi => ?_)
                obtain ⟨rfl, rfl, rfl⟩ := hi
                have hw2 := HS.clipRow (h := i.toNat) (m := mm.toNat) (hw'.perm hmid) (by omega) (by omega)
                refine hn _ I _ w' hw2 ?_
                have hag := bind_agree (v := .slice A i.toNat mm.toNat) (hs.new st.nx (Nat.le_refl _))
                have s1 := hk2 .gone [] I ρ st.nx (Imm.le_refl _) (fun _ _ => rfl) hs.new rfl
                have hlen : (xs.take i.toNat).length = i.toNat := by rw [List.length_take]; omega
                have s2 := s1.add (o := .row e' sz (xs.take i.toNat)) (es := [.row (.slice A (xs.take i.toNat).length mm.toNat) e' sz (xs.take i.toNat).length (us.take (i.toNat * sz))]) (v := .slice A i.toNat mm.toNat) (Imm.le_refl _)
                  ⟨A, mm.toNat, _, by rw [hlen]; exact bind_self, fun q hq => r2 q (List.mem_of_mem_take hq), by rw [cellsOf_take r2]; exact r3.take _, ro1.take _, rfl⟩
                rw [hlen] at s2
                refine ⟨Imm.le_refl _, _, _, _, .inr ?_, by simpa using s2, hag, hk⟩
                have e1 : ((some i : Option Int).getD (xs.length : Int)).toNat - ((none : Option Int).getD 0).toNat = i.toNat := by simp
                have e2 : ((some mm : Option Int).getD (c : Int)).toNat - ((none : Option Int).getD 0).toNat = mm.toNat := by simp
                have e3 : (if ((some mm : Option Int).getD (c : Int)).toNat = ((none : Option Int).getD 0).toNat then A else A.map (·.add (((none : Option Int).getD 0).toNat * info2.size))) = A := by
                  split
                  · rfl
                  · cases A <;> simp [Addr.add]
                rw [e1, e2, e3]
                exact .sl bind_self
            · refine OpS.gh (.freeze hl') ?_
              refine sliceRo_ok hu hinf2 hsz2 (fun I ρ F fr L hs => ?_) rfl hk
              have kp : Keeps st ⟨st.fr, setO st.hp lb (.froz xs), st.nx⟩ := by
                refine ⟨rfl, rfl, fun k ys hkk => ?_, fun k ys hkk => ?_⟩ <;>
                · have : k ≠ lb := by rintro rfl; rw [hl'] at hkk; cases hkk
                  exact (lookO_set _ _ _ _ this).trans hkk
              have bk : ∀ {o : Option Operand} {b : Option Int}, bndA st o = some b → bndV fr o b := by
                intro o b hb
                cases o with
                | none => simp [bndA] at hb; subst hb; trivial
                | some x =>
                  simp only [bndA] at hb
                  split at hb
                  · rename_i k i hx'
                    simp at hb; subst hb
                    obtain ⟨v, h1, h2⟩ := kp.evA hx' (by simp) hs
                    obtain ⟨rfl, _⟩ := ra_int h2
                    exact ⟨k, h1⟩
                  · cases hb
              obtain ⟨v, x1, x2⟩ := kp.evA hx (by simp) hs
              obtain ⟨es, ho, _⟩ := hs.obj lb
              rw [lookO_self hl' (by simp)] at ho
              cases x2 with
              | sl x2 => exact ⟨⟨_, _, _, x1, x2 ▸ ho.1⟩, bk hl, bk hh, bk hm⟩
          · exact hk.elim
        · exact hk.elim
      · exact hk.elim
    · rename_i he
      have := td_string (htd.trans he); subst this
      split at hk
      · rename_i s
        have hmx : mx = none := by
          cases mx with
          | none => rfl
          | some m' =>
            simp only [bndA] at hm
            split at hm
            · cases hm
            · cases hm
        subst hmx
        have key : ∀ I ρ F fr L, SR I ρ F st fr L → evF fr x = some (.string (strOf s)) ∧ s.length ≤ 9223372036854775807 ∧ bndV fr lo l ∧ bndV fr hi h := by
          intro I ρ F fr L hs
          obtain ⟨v, x1, x2⟩ := ev_ok hs hx (by simp)
          obtain ⟨rfl, h1⟩ := ra_str x2
          exact ⟨x1, h1, bndA_ok hs hl, bndA_ok hs hh⟩
        unfold sliceStr at hk
        split at hk
        · obtain ⟨h1, hk⟩ := hk
          refine OpS.val _ (fun I ρ F fr L hs => ?_) hk
          obtain ⟨x1, x2, b1, b2⟩ := key I ρ F fr L hs
          exact ⟨_, R.stAny x1 hu b1 b2 (fun _ => h1) (fun e => by cases e), .d (.str (by simp; omega))⟩
        · obtain ⟨h1, hk⟩ := hk
          refine OpS.val _ (fun I ρ F fr L hs => ?_) hk
          obtain ⟨x1, x2, b1, b2⟩ := key I ρ F fr L hs
          have hr := R.stAny (P := P) (I := I) (L := L) (d := d) (ty := ty) (pos := pos) (aft := aft) (gd := gd) x1 hu b1 b2 (fun e => by cases e) (fun _ => by simpa using h1)
          exact ⟨_, hr, .d (by
            have : s.take ((none : Option Int).getD (s.length : Int)).toNat = s := by simp
            rw [this]; exact .str (by simp; omega))⟩
        · obtain ⟨h1, hk⟩ := hk
          refine OpS.val _ (fun I ρ F fr L hs => ?_) hk
          obtain ⟨x1, x2, b1, b2⟩ := key I ρ F fr L hs
          exact ⟨_, R.stAny x1 hu b1 b2 (fun _ => by simp; omega) (fun _ => by simp; omega), .d (.str (by simp; omega))⟩
        · exact hk.elim
      · exact hk.elim
    · rename_i n e he
      have := td_array (htd.trans he); subst this
      split at hk
      · rename_i ei hei
        obtain ⟨_, info2, _, _, _, hinf2, _, hsz2, _⟩ := hT.ok e ei hei
        cases h1 : Nat.beq ei.size 1 with
        | false => rw [h1] at hk; exact hk.elim
        | true =>
          rw [h1] at hk
          simp only [cond_true] at hk
          have hs1 : info2.size = 1 := hsz2.trans (Nat.eq_of_beq_eq_true h1)
          split at hk
          · rename_i lb o
            cases h2 : Nat.ble n 1000000 with
            | false => rw [h2] at hk; exact hk.elim
            | true =>
              rw [h2] at hk
              have hn := Nat.le_of_ble_eq_true h2
              simp only [cond_true] at hk
              obtain ⟨i, j, ⟨hk0, hk2⟩, q1, q2, q3, q4, rfl, q5, q6⟩ := sliceArr_ok hk
              refine OpS.val _ (fun I ρ F fr L hs => ?_) hk2
              obtain ⟨v, x1, x2⟩ := ev_ok hs hx (by simp)
              cases x2 with
              | ptr x2 =>
                have hr := R.arAny (P := P) (I := I) (L := L) (d := d) (ty := ty) (pos := pos) (aft := aft) (gd := gd) x1 hu (run_ti hinf2) (bndA_ok hs hl) (bndA_ok hs hh) (bndA_ok hs hm) (fun e => by cases e) ⟨by simp, by simp⟩ (fun e => by simpa using q5 e) q6
                rw [q3, q4] at hr
                simp only [Option.getD_none, Int.toNat_natCast] at hr
                rw [if_neg (by omega), hs1, add_blk] at hr
                have hml : maxLen = 9223372036854775807 := rfl
                refine ⟨_, hr, ?_⟩
                rw [← Nat.mul_one (o + i)] at *
                have := RelA.av (I := I) (sz := 1) (o := o + i) (n := j - i) (c := n - i) x2 (by omega) (by omega)
                simpa [Nat.add_mul] using this
          · rename_i cs f
            obtain ⟨⟨hf, hn⟩, hk⟩ := hk
            obtain ⟨i, j, hk2, q1, q2, q3, q4, rfl, q5, q6⟩ := sliceArr_ok hk
            refine OpS.val _ (fun I ρ F fr L hs => ?_) hk2
            obtain ⟨v, x1, x2⟩ := ev_ok hs hx (by simp)
            cases x2 with
            | @rp a us _ _ hr0 ho hu0 =>
              have hr := R.arAny (P := P) (I := I) (L := L) (d := d) (ty := ty) (pos := pos) (aft := aft) (gd := gd) x1 hu (run_ti hinf2) (bndA_ok hs hl) (bndA_ok hs hh) (bndA_ok hs hm) (fun e => by cases e) ⟨by simp, by simp⟩ (fun e => by simpa using q5 e) q6
              rw [q3, q4] at hr
              simp only [Option.getD_none, Int.toNat_natCast] at hr
              refine ⟨_, hr, .d ?_⟩
              have hml : maxLen = 9223372036854775807 := rfl
              have hall := (hu0.drop (f + i)).take (j - i)
              have h1c : ∀ x ∈ (cs.drop (f + i)).take (j - i), x.cells = [x] := fun x hx => by
                obtain ⟨k, hk1⟩ := List.getElem?_of_mem hx
                obtain ⟨u, hu1, hu2⟩ := hall.get hk1
                exact hu2.cell1 (((ho.drop (f + i)).take (j - i)).get hu1)
              have hco := cellsOf_one h1c
              have hcl : cs.length = us.length := hu0.1.symm
              refine .ro (sz := 1) (us := (us.drop (f + i)).take (j - i)) (by rw [List.length_take, List.length_drop]; omega) (by omega) (by omega) (fun x hx => by rw [h1c x hx]; rfl) (fun k u hk1 => ?_) (by rw [hco]; exact hall.1) ((ho.drop (f + i)).take (j - i)) (fun k u y hk1 hy => by rw [hco] at hy; exact hall.2 k u y hk1 hy)
              rw [List.getElem?_take] at hk1
              split at hk1
              · rename_i hlt
                rw [List.getElem?_drop] at hk1
                have := hr0 _ _ hk1
                refine ⟨_, rfl, ?_⟩
                rw [if_neg (by omega), hs1, Nat.mul_one, add_add, add_add]
                rw [← Nat.add_assoc] at *
                exact this
              · cases hk1
          · exact hk.elim
      · exact hk.elim
    · exact hk.elim
  · exact hk.elim
end
end Go.V

/- The second floor, part L: all operations but calls of functions. No function of the program is proved here. -/
namespace Go.V
open Go.Eng

section
variable {P : Program} {N : Nat} {T : TypeId → Option TI} {I J : Imm} {ρ ρ' : Nat → Value} {F : List Ent} {st : St} {fr : Frm} {L : List Ent}
variable {ty : TypeId} {pos : String} {aft : Array Edge} {gd : Option (Nat × Bool)} {d : Option Tmp} {x y z q : Operand}

/-! ## Comparing what is not a number -/
def nilPtr : AV → Option Bool
  | .d .nilp => some true
  | .ptr _ _ | .rp _ _ | .ep _ _ _ _ => some false
  | _ => none
def nilFn : AV → Option Bool
  | .nilf => some true
  | .fn _ _ _ => some false
  | _ => none

def boolW (neg : Bool) (b : Bool) (K : AV → Prop) : Prop := match neg with
  | false => K (.d (.bool b))
  | true => K (.d (.bool !b))

def cmpW (T : TypeId → Option TI) (neg : Bool) (t : TypeId) (a b : AV) (st : St) (K : AV → Prop) : Prop :=
  match T t with
  | some i => match i.td, a, b with
    | .bool, .d (.bool p), .d (.bool q) => boolW neg (p == q) K
    | .string, .d (.str p), .d (.str q) => boolW neg (decide (p = q)) K
    | .pointer _, a, .d .nilp => match nilPtr a with
      | some b => boolW neg b K
      | none => False
    | .func, a, .nilf => match nilFn a with
      | some b => boolW neg b K
      | none => False
    | .slice _, .d .nils, .d .nils => boolW neg true K
    | .slice _, .d (.ro xs), .d .nils => ∀ b : Bool, (cellsOf xs ≠ [] → b = false) → boolW neg b K
    | .slice _, .sl l, .d .nils => match lookO st.hp l with
      | .row _ _ xs => ∀ b : Bool, (cellsOf xs ≠ [] → b = false) → boolW neg b K
      | _ => False
    | _, _, _ => False
  | none => False

theorem in_FN {t : TypeId} {ps rs : Array TypeId} {vr : Bool} {f : Fn} {us ws : Array Value} {w : World} (ht : P.underlying t = some (.func ps rs vr)) (n : Nat) : (Op.equalIn (n + 1) t (.func f us ws) .nilFunc).run P w = .ok false w := by
  simp [Op.equalIn, run_und ht]
theorem in_NF {t : TypeId} {ps rs : Array TypeId} {vr : Bool} {w : World} (ht : P.underlying t = some (.func ps rs vr)) (n : Nat) : (Op.equalIn (n + 1) t .nilFunc .nilFunc).run P w = .ok true w := by
  simp [Op.equalIn, run_und ht]
theorem in_PNx {t e : TypeId} {A : Option Addr} {w : World} (ht : P.underlying t = some (.pointer e)) (n : Nat) : (Op.equalIn (n + 1) t (.pointer A) (.pointer none)).run P w = .ok A.isNone w := by
  cases A <;> simp [Op.equalIn, run_und ht]

theorem cmp_ok {neg : Bool} {t u : TypeId} {v vy : Value} {p : Bool} (hx : evF fr x = some v) (hy : evF fr y = some vy) (hg : ∀ w, (eqGuard (bif neg then .neq else .eql) t x y v vy).run P w = .ok () w)
    (hb1 : binOp .eql t v vy = do pure (.bool (← Op.equal t v vy))) (hb2 : binOp .neq t v vy = do pure (.bool (!(← Op.equal t v vy)))) (h : ∀ (w : World) n, (Op.equalIn (n + 1) t v vy).run P w = .ok p w) :
    RunsTo P fr I L ⟨d, .binOp (bif neg then .neq else .eql) t x y u, ty, pos, aft, gd⟩ (.bool (bif neg then !p else p)) := by
  cases neg with
  | false => exact R.bin' hx hy hg (fun w => eql_run hb1 (h w))
  | true => exact R.bin' hx hy hg (fun w => neq_run hb2 (h w))

theorem boolW_k {neg b : Bool} {K : AV → Prop} (h : boolW neg b K) : K (.d (.bool (bif neg then !b else b))) := by cases neg <;> exact h

theorem nilPtr_ok {a : AV} {b : Bool} (h : nilPtr a = some b) : a ≠ .undef ∧ ∀ {I : Imm} {ρ : Nat → Value} {v : Value}, RelA I ρ v a → ∃ A : Option Addr, v = .pointer A ∧ A.isNone = b := by
  cases a with
  | d a => cases a with
    | nilp => simp [nilPtr] at h; subst h; exact ⟨by simp, fun h => by cases h with | d h => cases h with | nilp => exact ⟨_, rfl, rfl⟩⟩
    | _ => simp [nilPtr] at h
  | ptr l o => simp [nilPtr] at h; subst h; exact ⟨by simp, fun h => by cases h with | ptr h => exact ⟨_, rfl, rfl⟩⟩
  | rp cs f => simp [nilPtr] at h; subst h; exact ⟨by simp, fun h => by cases h with | rp a b c => exact ⟨_, rfl, rfl⟩⟩
  | ep l sz i f => simp [nilPtr] at h; subst h; exact ⟨by simp, fun h => by cases h with | ep h => exact ⟨_, rfl, rfl⟩⟩
  | _ => simp [nilPtr] at h
theorem nilFn_ok {a : AV} {b : Bool} (h : nilFn a = some b) : (a = .nilf ∧ b = true) ∨ (∃ f us ws, a = .fn f us ws ∧ b = false) := by
  cases a with
  | nilf => simp [nilFn] at h; exact .inl ⟨rfl, h⟩
  | fn f us ws => simp [nilFn] at h; exact .inr ⟨f, us, ws, rfl, h⟩
  | _ => simp [nilFn] at h
theorem td_func {d : TypeDesc} (h : tdOf d = .func) : ∃ p r v, d = .func p r v := by cases d <;> simp [tdOf] at h; exact ⟨_, _, _, rfl⟩

theorem cmpW_ok (hT : TOk P T) {neg : Bool} {t u : TypeId} {a b : AV} {K : AV → St → Prop} (hx : ev st x = a) (hy : ev st y = b) (h : cmpW T neg t a b st (fun a => K a st)) : OpS P N ⟨d, .binOp (bif neg then .neq else .eql) t x y u, ty, pos, aft, gd⟩ st K := by
  unfold cmpW at h
  split at h
  · rename_i i hi
    obtain ⟨desc, info, zv, hu, htd, _⟩ := hT.ok t i hi
    split at h
    · rename_i p q he
      have := td_bool (htd.trans he); subst this
      refine OpS.val _ (fun I ρ F fr L hs => ?_) (boolW_k h)
      obtain ⟨v, x1, x2⟩ := ev_ok hs hx (by simp)
      obtain ⟨w, y1, y2⟩ := ev_ok hs hy (by simp)
      obtain rfl := ra_bool x2
      obtain rfl := ra_bool y2
      exact ⟨_, cmp_ok x1 y1 (fun w => by cases neg <;> simp [eqGuard]) rfl rfl (fun w => in_B hu), rel_bool⟩
    · rename_i p q he
      refine OpS.val _ (fun I ρ F fr L hs => ?_) (boolW_k h)
      obtain ⟨v, x1, x2⟩ := ev_ok hs hx (by simp)
      obtain ⟨w, y1, y2⟩ := ev_ok hs hy (by simp)
      obtain ⟨rfl, _⟩ := ra_str x2
      obtain ⟨rfl, _⟩ := ra_str y2
      cases neg with
      | false => exact ⟨_, R.eqT x1 y1, rel_bool⟩
      | true => refine ⟨_, R.neT x1 y1, ?_⟩; simp only [cond_true, ← decide_not]; exact rel_bool
    · rename_i a e he
      have := td_pointer (htd.trans he); subst this
      split at h
      · rename_i pb hpb
        have hv := nilPtr_ok hpb
        refine OpS.val _ (fun I ρ F fr L hs => ?_) (boolW_k h)
        obtain ⟨v, x1, x2⟩ := ev_ok hs hx hv.1
        obtain ⟨w, y1, y2⟩ := ev_ok hs hy (by simp)
        obtain ⟨A, rfl, rfl⟩ := hv.2 x2
        cases y2 with
        | d y2 => cases y2 with
          | nilp => exact ⟨_, cmp_ok x1 y1 (fun w => by cases neg <;> cases A <;> simp [eqGuard]) (by cases A <;> rfl) (by cases A <;> rfl) (fun w n => in_PNx hu n), rel_bool⟩
      · exact h.elim
    · rename_i a he
      obtain ⟨ps, rs, vr, rfl⟩ := td_func (htd.trans he)
      split at h
      · rename_i pb hpb
        rcases nilFn_ok hpb with ⟨rfl, rfl⟩ | ⟨f, us, ws, rfl, rfl⟩
        · refine OpS.val _ (fun I ρ F fr L hs => ?_) (boolW_k h)
          obtain ⟨v, x1, x2⟩ := ev_ok hs hx (by simp)
          obtain ⟨w, y1, y2⟩ := ev_ok hs hy (by simp)
          cases x2; cases y2
          exact ⟨_, cmp_ok x1 y1 (fun w => by cases neg <;> simp [eqGuard]) rfl rfl (fun w n => in_NF hu n), rel_bool⟩
        · refine OpS.val _ (fun I ρ F fr L hs => ?_) (boolW_k h)
          obtain ⟨v, x1, x2⟩ := ev_ok hs hx (by simp)
          obtain ⟨w, y1, y2⟩ := ev_ok hs hy (by simp)
          cases y2
          cases x2 with
          | fn a b c d => exact ⟨_, cmp_ok x1 y1 (fun w => by cases neg <;> simp [eqGuard]) rfl rfl (fun w n => in_FN hu n), rel_bool⟩
      · exact h.elim
    · rename_i e he
      have := td_slice (htd.trans he); subst this
      refine OpS.val _ (fun I ρ F fr L hs => ?_) (boolW_k h)
      obtain ⟨v, x1, x2⟩ := ev_ok hs hx (by simp)
      obtain ⟨w, y1, y2⟩ := ev_ok hs hy (by simp)
      cases x2 with | d x2 => cases x2; cases y2 with | d y2 => cases y2; exact ⟨_, cmp_ok x1 y1 (fun w => by cases neg <;> simp [eqGuard]) rfl rfl (fun w n => in_SN hu n), rel_bool⟩
    · rename_i e xs he
      have := td_slice (htd.trans he); subst this
      intro I ρ F fr L hs
      obtain ⟨v, x1, x2⟩ := ev_ok hs hx (by simp)
      obtain ⟨w, y1, y2⟩ := ev_ok hs hy (by simp)
      cases x2 with
      | d x2 => cases x2 with
        | @ro A n c sz us _ hn hc hm hz hr hl ho hxx =>
          cases y2 with
          | d y2 => cases y2 with
            | nils =>
              have hb : cellsOf xs ≠ [] → A.isNone = false := fun hne => by
                have hp : 0 < us.length := by rw [hl]; exact List.length_pos_iff.2 hne
                obtain ⟨ad, hA, _⟩ := hr 0 us[0] (List.getElem?_eq_getElem hp)
                rw [hA]; rfl
              have hr' := cmp_ok (P := P) (I := I) (L := L) (neg := neg) (t := t) (u := u) (d := d) (ty := ty) (pos := pos) (aft := aft) (gd := gd) x1 y1 (fun w => by cases neg <;> simp [eqGuard]) rfl rfl (fun w n => in_SN hu n)
              intro a' w0 next Q ha hw hk
              refine hr'.acts a' w0 next Q ha hw (fun v' I' L' w' hw' hi => hk v' I' L' w' hw' ?_)
              obtain ⟨rfl, rfl, rfl⟩ := hi
              exact ⟨Imm.le_refl _, ρ, _, st, .inr rel_bool, hs, fun _ _ => rfl, boolW_k (h _ hb)⟩
    · rename_i e l he
      have := td_slice (htd.trans he); subst this
      split at h
      · rename_i e' sz xs hl
        intro I ρ F fr L hs a' w0 next Q ha hw hk
        obtain ⟨v, x1, x2⟩ := ev_ok hs hx (by simp)
        obtain ⟨w, y1, y2⟩ := ev_ok hs hy (by simp)
        obtain ⟨es, ho, hm⟩ := hs.obj l
        rw [hl] at ho
        obtain ⟨A, c, us, r1, r2, r3, ro1, rfl⟩ := ho
        cases x2 with
        | sl x2 =>
          rw [r1] at x2; simp only [Value.slice.injEq] at x2
          obtain ⟨rfl, rfl, rfl⟩ := x2
          cases y2 with
          | d y2 => cases y2 with
            | nils =>
              have hb : cellsOf xs ≠ [] → A.isNone = false := fun hne => by
                have hp : 0 < us.length := by rw [r3.1]; exact List.length_pos_iff.2 hne
                obtain ⟨ad, hA, _⟩ := newsRow (hm _ List.mem_cons_self) w0 hw 0 us[0] (List.getElem?_eq_getElem hp)
                rw [hA]; rfl
              have hr := cmp_ok (P := P) (I := I) (L := L) (neg := neg) (t := t) (u := u) (d := d) (ty := ty) (pos := pos) (aft := aft) (gd := gd) x1 y1 (fun w => by cases neg <;> simp [eqGuard]) rfl rfl (fun w n => in_SN hu n)
              refine hr.acts a' w0 next Q ha hw (fun v' I' L' w' hw' hi => hk v' I' L' w' hw' ?_)
              obtain ⟨rfl, rfl, rfl⟩ := hi
              exact ⟨Imm.le_refl _, ρ, _, st, .inr rel_bool, hs, fun _ _ => rfl, boolW_k (h _ hb)⟩
      · exact h.elim
    · exact h.elim
  · exact h.elim
end
end Go.V

/- The second floor, part M: every operation that calls no function. No function of the program is proved here. -/
namespace Go.V
open Go.Eng

section
variable {P : Program} {N : Nat} {T : TypeId → Option TI} {I J : Imm} {ρ ρ' : Nat → Value} {F : List Ent} {st : St} {fr : Frm} {L : List Ent}
variable {ty : TypeId} {pos : String} {aft : Array Edge} {gd : Option (Nat × Bool)} {d : Option Tmp} {x y z q : Operand}

theorem moveW_ok {a : AV} {K : AV → St → Prop} (hx : ev st x = a) (h : okA a (fun a => K a st)) : OpS P N ⟨d, .move x, ty, pos, aft, gd⟩ st K := by
  obtain ⟨hu, hk⟩ := okA_ok h
  exact OpS.val a (fun I ρ F fr L hs => by obtain ⟨v, x1, x2⟩ := ev_ok hs hx hu; exact ⟨v, R.move x1, x2⟩) hk
theorem assignW_ok {a : AV} {K : AV → St → Prop} (hx : ev st x = a) (h : okA a (fun a => K a st)) : OpS P N ⟨d, .assign x, ty, pos, aft, gd⟩ st K := by
  obtain ⟨hu, hk⟩ := okA_ok h
  exact OpS.val a (fun I ρ F fr L hs => by obtain ⟨v, x1, x2⟩ := ev_ok hs hx hu; exact ⟨v, R.assign x1, x2⟩) hk

def pickW (c a b : AV) (K : AV → Prop) : Prop := match c with
  | .d (.bool t) => bif t then okA a K else okA b K
  | _ => False
theorem pickW_ok {a b c : AV} {K : AV → St → Prop} (hx : ev st x = c) (hy : ev st y = a) (hz : ev st z = b) (h : pickW c a b (fun a => K a st)) : OpS P N ⟨d, .pick x y z, ty, pos, aft, gd⟩ st K := by
  unfold pickW at h
  split at h
  · rename_i t
    have one : ∀ {o : Operand} {a' : AV}, ev st o = a' → (bif t then y else z) = o → okA a' (fun a => K a st) → OpS P N ⟨d, .pick x y z, ty, pos, aft, gd⟩ st K := by
      intro o a' ho he hk
      obtain ⟨hu, hk⟩ := okA_ok hk
      refine OpS.val a' (fun I ρ F fr L hs => ?_) hk
      obtain ⟨v, x1, x2⟩ := ev_ok hs hx (by simp)
      obtain rfl := ra_bool x2
      obtain ⟨u, y1, y2⟩ := ev_ok hs ho hu
      exact ⟨u, R.pick x1 (by rw [he]; exact y1), y2⟩
    cases t with
    | true => exact one hy rfl h
    | false => exact one hz rfl h
  · exact h.elim

def nilChkW (a : AV) (K : AV → Prop) : Prop := match nilPtr a with
  | some false => K a
  | some true => False
  | none => match nilFn a with
    | some false => K a
    | _ => False
theorem nilChkW_ok {a : AV} {K : AV → St → Prop} (hx : ev st x = a) (h : nilChkW a (fun a => K a st)) : OpS P N ⟨d, .nilCheck x, ty, pos, aft, gd⟩ st K := by
  unfold nilChkW at h
  split at h
  · rename_i hp
    obtain ⟨hu, hv⟩ := nilPtr_ok hp
    refine OpS.val a (fun I ρ F fr L hs => ?_) h
    obtain ⟨v, x1, x2⟩ := ev_ok hs hx hu
    obtain ⟨A, rfl, hA⟩ := hv x2
    cases A with
    | none => cases hA
    | some ad => exact ⟨_, R.nilP x1, x2⟩
  · exact h.elim
  · split at h
    · rename_i hp
      rcases nilFn_ok hp with ⟨_, h0⟩ | ⟨f, us, ws, rfl, _⟩
      · cases h0
      · refine OpS.val _ (fun I ρ F fr L hs => ?_) h
        obtain ⟨v, x1, x2⟩ := ev_ok hs hx (by simp)
        cases x2 with
        | fn a b c e => exact ⟨_, R.nilF x1, .fn a b c e⟩
    · exact h.elim

def extractW (a : AV) (i : Nat) (K : AV → Prop) : Prop := match a with
  | .tup vs => getA vs i K
  | _ => False
theorem extractW_ok {a : AV} {i : Nat} {K : AV → St → Prop} (hx : ev st x = a) (h : extractW a i (fun a => K a st)) : OpS P N ⟨d, .extract x i, ty, pos, aft, gd⟩ st K := by
  unfold extractW at h
  split at h
  · obtain ⟨a, ha, hk⟩ := getA_ok h
    refine OpS.val a (fun I ρ F fr L hs => ?_) hk
    obtain ⟨v, x1, x2⟩ := ev_ok hs hx (by simp)
    cases x2 with
    | tup hl hxx =>
      obtain ⟨u, q1, q2⟩ := All2.get (R := RelA I ρ) ⟨hl, hxx⟩ ha
      exact ⟨u, R.ext x1 (by simpa using q1), q2⟩
  · exact h.elim

def makeFuncW (fn : Fn) (fs cs : Option (List AV)) (K : AV → Prop) : Prop := match fn, fs, cs with
  | .func f, some fs, some cs => K (.fn f fs cs)
  | _, _, _ => False
theorem makeFuncW_ok {fn : Fn} {fs cs : Array Operand} {K : AV → St → Prop} (h : makeFuncW fn (evs st fs.toList) (evs st cs.toList) (fun a => K a st)) : OpS P N ⟨d, .makeFunc fn fs cs, ty, pos, aft, gd⟩ st K := by
  unfold makeFuncW at h
  split at h
  · rename_i f fa ca h1 h2
    refine OpS.val _ (fun I ρ F fr L hs => ?_) h
    obtain ⟨us, a1, a2⟩ := evs_ok hs h1
    obtain ⟨ws, b1, b2⟩ := evs_ok hs h2
    refine ⟨_, R.func (fs := us.toArray) (cs := ws.toArray) (fun ρ hρ => ?_) (fun ρ hρ => ?_), .fn a2.1 a2.2 b2.1 b2.2⟩
    · have := evL_spec hρ _ _ a1
      apply Array.ext'; rw [Array.toList_map, this]
    · have := evL_spec hρ _ _ b1
      apply Array.ext'; rw [Array.toList_map, this]
  · exact h.elim

def unW (op : UnOp) (a : AV) (K : AV → Prop) : Prop := match op, a with
  | .not, .d (.bool b) => K (.d (.bool !b))
  | .neg, .d (.int k n) => arithW k (0 - n) K
  | .xor, .d (.int k n) => bif uns k then K (.d (.int k (hiK k - n))) else False
  | _, _ => False
theorem unW_ok {op : UnOp} {t : TypeId} {a : AV} {K : AV → St → Prop} (hx : ev st x = a) (h : unW op a (fun a => K a st)) : OpS P N ⟨d, .unOp op t x, ty, pos, aft, gd⟩ st K := by
  unfold unW at h
  split at h
  · refine OpS.val _ (fun I ρ F fr L hs => ?_) h
    obtain ⟨v, x1, x2⟩ := ev_ok hs hx (by simp)
    obtain rfl := ra_bool x2
    exact ⟨_, R.not x1, rel_bool⟩
  · rename_i k n
    have key : ∀ I ρ F fr L, SR I ρ F st fr L → evF fr x = some (.int k n) := fun I ρ F fr L hs => by
      obtain ⟨v, x1, x2⟩ := ev_ok hs hx (by simp)
      obtain ⟨rfl, _⟩ := ra_int x2; exact x1
    refine arith_ok (fun I ρ F fr L hs hr => ?_) (fun I ρ F fr L hs => R.neg (key I ρ F fr L hs)) (fun a ha => ha) h
    have := R.neg (P := P) (I := I) (L := L) (t := t) (ty := ty) (pos := pos) (aft := aft) (gd := gd) (d := d) (key I ρ F fr L hs)
    rw [← wrap_wr, wrap_in hr] at this; exact this
  · rename_i k n
    cases hu : uns k with
    | false => rw [hu] at h; exact h.elim
    | true =>
      rw [hu] at h
      refine OpS.val _ (fun I ρ F fr L hs => ?_) h
      obtain ⟨v, x1, x2⟩ := ev_ok hs hx (by simp)
      obtain ⟨rfl, h1⟩ := ra_int x2
      have h2 := h1.1; rw [uns_lo hu] at h2
      have h3 := h1.2
      exact ⟨_, R.com x1 hu ⟨h2, h3⟩, rel_int ⟨by rw [uns_lo hu]; omega, by omega⟩⟩
  · exact h.elim

/-- Is one kind's range within another's? -/
def subK (a b : IntKind) : Bool := decide (loK b ≤ loK a) && decide (hiK a ≤ hiK b)
def convIntW (k k' : IntKind) (n : Int) (K : AV → Prop) : Prop :=
  bif subK k k' then K (.d (.int k' n)) else bif uns k' then K (.d (.int k' (wr k' n))) else (loK k' ≤ n ∧ n ≤ hiK k') ∧ K (.d (.int k' n))


def convW (T : TypeId → Option TI) (s t : TypeId) (a : AV) (st : St) (K : AV → St → Prop) : Prop :=
  match T s, T t with
  | some si, some ti => match si.td, ti.td with
    | .int _, .int k' => match a with
      | .d (.int k n) => convIntW k k' n (fun a => K a st)
      | _ => False
    | .slice e, .string => match T e, slD st a with
      | some ei, some xs => match ei.td with
        | .int .u8 => ∃ bs, xs = bytesD bs ∧ K (.d (.str bs)) st
        | _ => False
      | _, _ => False
    | .string, .slice e => match T e, a with
      | some ei, .d (.str s) => match ei.td with
        | .int .u8 => s.length ≤ 140737488355328 ∧ K (.d (.ro (bytesD s))) st
        | _ => False
      | _, _ => False
    | _, _ => False
  | _, _ => False

theorem bytesD_cells (bs : List UInt8) : cellsOf (bytesD bs) = bytesD bs := by
  induction bs with
  | nil => rfl
  | cons b bs ih => simp only [bytesD, cellsOf, List.map_cons, List.flatMap_cons] at *; rw [ih]; rfl
theorem bytesD_len1 (bs : List UInt8) : ∀ x ∈ bytesD bs, x.cells.length = 1 := fun x hx => by
  obtain ⟨b, _, rfl⟩ := List.mem_map.1 hx; rfl
theorem bytesD_all {us : List Value} {bs : List UInt8} (h : All2 (RelD I) us (bytesD bs)) : us = bytesV bs := by
  apply List.ext_getElem?
  intro j
  rw [bytesV_get]
  cases hb : bs[j]? with
  | none =>
    have : us.length = bs.length := by rw [h.1]; simp [bytesD]
    rw [List.getElem?_eq_none (by rw [this]; exact List.getElem?_eq_none_iff.1 hb)]; rfl
  | some b =>
    obtain ⟨u, h1, h2⟩ := h.get (j := j) (y := .int .u8 b.toNat) (by simp [bytesD, hb])
    obtain ⟨rfl, _⟩ := rd_int h2
    rw [h1]; rfl
theorem inr_u8 (b : UInt8) : InR .u8 b.toNat := by
  have := b.toNat_lt
  constructor
  · simp only [loK]; omega
  · simp only [hiK]; omega

theorem convW_ok (hT : TOk P T) {s t : TypeId} {a : AV} {K : AV → St → Prop} (hx : ev st x = a) (h : convW T s t a st K) : OpS P N ⟨d, .convert s t x, ty, pos, aft, gd⟩ st K := by
  unfold convW at h
  split at h
  · rename_i si ti hsi hti
    obtain ⟨ds, infos, zvs, hus, htds, _⟩ := hT.ok s si hsi
    obtain ⟨dt, infot, zvt, hut, htdt, _⟩ := hT.ok t ti hti
    split at h
    · rename_i k0 k' he1 he2
      split at h
      rotate_left
      · exact h.elim
      rename_i k n
      have e1 := td_int (htds.trans he1); subst e1
      have e2 := td_int (htdt.trans he2); subst e2
      have key : ∀ I ρ F fr L, SR I ρ F st fr L → evF fr x = some (.int k n) ∧ InR k n := fun I ρ F fr L hs => by
        obtain ⟨v, x1, x2⟩ := ev_ok hs hx (by simp)
        obtain ⟨rfl, h1⟩ := ra_int x2; exact ⟨x1, h1⟩
      unfold convIntW at h
      cases hsub : subK k k' with
      | true =>
        rw [hsub] at h
        simp only [subK, Bool.and_eq_true, decide_eq_true_eq] at hsub
        refine OpS.val _ (fun I ρ F fr L hs => ?_) h
        obtain ⟨x1, h1⟩ := key I ρ F fr L hs
        have hin : InR k' n := ⟨Int.le_trans hsub.1 h1.1, Int.le_trans h1.2 hsub.2⟩
        exact ⟨_, R.conv x1 hus hut hin, rel_int hin⟩
      | false =>
        rw [hsub] at h
        cases hu : uns k' with
        | true =>
          rw [hu] at h
          exact OpS.val _ (fun I ρ F fr L hs => ⟨_, R.convW (key I ρ F fr L hs).1 hus hut, rel_int (wr_inR hu _)⟩) h
        | false =>
          rw [hu] at h
          obtain ⟨hin, h⟩ := h
          exact OpS.val _ (fun I ρ F fr L hs => ⟨_, R.conv (key I ρ F fr L hs).1 hus hut hin, rel_int hin⟩) h
    · rename_i e he1 he2
      have e1 := td_slice (htds.trans he1); subst e1
      have e2 := td_string (htdt.trans he2); subst e2
      split at h
      · rename_i ei xs hei hxs
        obtain ⟨de, infoe, zve, hue, htde, _⟩ := hT.ok e ei hei
        split at h
        · rename_i he3
          have e3 := td_int (htde.trans he3); subst e3
          obtain ⟨bs, rfl, h⟩ := h
          intro I ρ F fr L hs a' w next Q ha hw hk
          have hau : a ≠ .undef := slD_def hxs
          obtain ⟨v, x1, x2⟩ := ev_ok hs hx hau
          obtain ⟨A, c, us, rfl, g1, g2, g3, g4, g5⟩ := slD_ok hs hxs x2
          rw [bytesD_cells] at g2
          obtain rfl := bytesD_all g2
          have hlen : (bytesD bs).length = bs.length := by simp [bytesD]
          have hr := R.bytesT (P := P) (I := I) (L := L) (d := d) (ty := ty) (pos := pos) (aft := aft) (gd := gd) (bs := bs) x1 hus hue hut hlen.symm g1
          refine hr.acts a' w next Q ha hw (fun v' I' L' w' hw' hi => hk v' I' L' w' hw' ?_)
          obtain ⟨rfl, rfl, rfl⟩ := hi
          have := (g5 w hw).2
          exact ⟨Imm.le_refl _, ρ, _, st, .inr (.d (.str (by rw [hlen] at this; simp only [maxLen] at this; omega))), hs, fun _ _ => rfl, h⟩
        · exact h.elim
      · exact h.elim
    · rename_i e he1 he2
      have e1 := td_string (htds.trans he1); subst e1
      have e2 := td_slice (htdt.trans he2); subst e2
      split at h
      · rename_i ei s hei
        obtain ⟨de, infoe, zve, hue, htde, _⟩ := hT.ok e ei hei
        split at h
        · rename_i he3
          have e3 := td_int (htde.trans he3); subst e3
          obtain ⟨hmax, h⟩ := h
          intro I ρ F fr L hs
          obtain ⟨v, x1, x2⟩ := ev_ok hs hx (by simp)
          obtain ⟨rfl, hsl⟩ := ra_str x2
          refine Acts.mono (W.strBytes x1 hus hut hue) (fun v' I' L' hr => ⟨L', .refl _, ?_⟩)
          obtain ⟨A, c, rfl, hle, hrd, hc, rfl⟩ := hr
          rw [strOf_data] at hrd hc ⊢
          have hlen : (bytesD s).length = s.length := by simp [bytesD]
          refine ⟨hle, ρ, _, st, .inr (.d (.ro hlen hc (by simp only [maxLen]; omega) (bytesD_len1 s) (us := bytesV s) (fun j u hj => ?_) (by rw [bytesD_cells, bytesV_len, hlen]) (bytesV_one s) (fun j u y hu hy => ?_))), hs.mono hle, fun _ _ => rfl, h⟩
          · rw [bytesV_get] at hj
            cases hb : s[j]? with
            | none => rw [hb] at hj; cases hj
            | some b =>
              rw [hb] at hj; simp at hj; subst hj
              obtain ⟨a, hA⟩ := hrd.addr (by decide) (List.length_pos_iff.2 (by rintro rfl; simp at hb))
              have := byteAt hrd hA hb
              rw [Nat.mul_one] at this
              exact ⟨a, hA, this⟩
          · rw [bytesD_cells] at hy
            rw [bytesV_get] at hu
            simp only [bytesD, List.getElem?_map] at hy
            cases hb : s[j]? with
            | none => rw [hb] at hu; cases hu
            | some b =>
              rw [hb] at hu hy; simp at hu hy; subst hu; subst hy
              exact .int (inr_u8 b)
        · exact h.elim
      · exact h.elim
    · exact h.elim
  · exact h.elim
end
end Go.V

/- The second floor, part LA: interfaces beside nil; slices' literals that hold ways to memory. No function of the program is proved here. -/
namespace Go.V
open Go.Eng

section
variable {P : Program} {N : Nat} {T : TypeId → Option TI} {I J : Imm} {ρ ρ' : Nat → Value} {F : List Ent} {st : St} {fr : Frm} {L : List Ent}
variable {ty : TypeId} {pos : String} {aft : Array Edge} {gd : Option (Nat × Bool)} {d : Option Tmp} {x y z q : Operand}

/-! ## An interface beside nil -/
theorem td_iface {d : TypeDesc} (h : tdOf d = .iface) : ∃ ms, d = .interface ms := by cases d <;> simp [tdOf] at h; exact ⟨_, rfl⟩
theorem in_IN {t : TypeId} {ms : _} {v : Value} {b : Bool} {w : World} (ht : P.underlying t = some (.interface ms)) (hv : isIfc v = some b) (n : Nat) : (Op.equalIn (n + 1) t v .nilIface).run P w = .ok b w := by
  cases v <;> simp [isIfc] at hv <;> subst hv <;> simp [Op.equalIn, run_und ht]
def ifcW (T : TypeId → Option TI) (op : BinOp) (t : TypeId) (b : Bool) (K : AV → Prop) : Prop := match T t with
  | some i => match i.td, op with
    | .iface, .eql => boolW false b K
    | .iface, .neq => boolW true b K
    | _, _ => False
  | none => False
theorem ifcW_ok (hT : TOk P T) {op : BinOp} {t u : TypeId} {b : Bool} {K : AV → St → Prop} (hx : ev st x = .ifc b) (h : ifcW T op t b (fun a => K a st)) : OpS P N ⟨d, .binOp op t x (.const .nilIface) u, ty, pos, aft, gd⟩ st K := by
  have key : ∀ (neg : Bool), (∃ i, T t = some i ∧ i.td = .iface) → boolW neg b (fun a => K a st) → OpS P N ⟨d, .binOp (bif neg then .neq else .eql) t x (.const .nilIface) u, ty, pos, aft, gd⟩ st K := by
    rintro neg ⟨i, hi, he⟩ h
    obtain ⟨desc, info, zv, hu, htd, _⟩ := hT.ok t i hi
    obtain ⟨ms, rfl⟩ := td_iface (htd.trans he)
    refine OpS.val _ (fun I ρ F fr L hs => ?_) (boolW_k h)
    obtain ⟨v, x1, x2⟩ := ev_ok hs hx (by simp)
    have y1 : evF fr (.const .nilIface) = some .nilIface := rfl
    cases x2 with
    | ifc hv =>
      refine ⟨_, cmp_ok x1 y1 (fun w => ?_) ?_ ?_ (fun w n => in_IN hu hv n), rel_bool⟩
      · cases v <;> simp [isIfc] at hv <;> cases neg <;> simp [eqGuard]
      · cases v <;> simp [isIfc] at hv <;> rfl
      · cases v <;> simp [isIfc] at hv <;> rfl
  unfold ifcW at h
  split at h
  · rename_i i hi
    split at h
    · rename_i he; exact key false ⟨i, hi, he⟩ h
    · rename_i he; exact key true ⟨i, hi, he⟩ h
    · exact h.elim
  · exact h.elim

/-! ## A slice's literal whose elements hold ways to memory -/
def isWay : AV → Bool
  | .ptr _ _ => true
  | .fn _ _ _ => true
  | .map _ => true
  | _ => false
def hasWay : AV → Bool
  | .agg cs => cs.any isWay
  | a => isWay a
def vecish : Option (List AV) → Bool
  | some as => as.any hasWay
  | none => false
def cellsLA : List AV → List AV
  | [] => []
  | a :: as => cellsA a ++ cellsLA as
def szAll (sz : Nat) : List AV → Bool
  | [] => true
  | a :: as => notTup a && (Nat.beq (cellsA a).length sz && szAll sz as)
theorem szAll_ok {sz : Nat} {as : List AV} (h : szAll sz as = true) : ∀ a ∈ as, notTup a = true ∧ (cellsA a).length = sz := by
  induction as with
  | nil => intro x hx; cases hx
  | cons y as ih =>
    simp only [szAll, Bool.and_eq_true] at h
    intro x hx
    rcases List.mem_cons.1 hx with rfl | hx
    · exact ⟨h.1, Nat.eq_of_beq_eq_true h.2.1⟩
    · exact ih h.2.2 x hx
theorem cellsLA_ok {sz : Nat} : ∀ {as : List AV} {vs : List Value}, All2 (RelA I ρ) vs as → (∀ a ∈ as, notTup a = true ∧ (cellsA a).length = sz) →
    All2 (RelA I ρ) (vs.flatMap fun v => v.cells.toList) (cellsLA as) ∧ Ones (vs.flatMap fun v => v.cells.toList) ∧ ∀ v ∈ vs, v.cells.size = sz
  | [], vs, h, _ => by rw [h.unnil]; exact ⟨.nil, .nil, fun v hv => by cases hv⟩
  | a :: as, vs, h, hz => by
    obtain ⟨v, vs', rfl, h1, h2⟩ := h.uncons
    obtain ⟨h3, h4, h5⟩ := cellsLA_ok h2 (fun b hb => hz b (List.mem_cons_of_mem _ hb))
    obtain ⟨z1, z2⟩ := hz a (List.mem_cons_self ..)
    have hc := cellsA_ok h1
    refine ⟨by simp only [List.flatMap_cons, cellsLA]; exact hc.app h3, by rw [List.flatMap_cons]; exact (h1.ones (notTup_ne z1)).app h4, fun u hu => ?_⟩
    rcases List.mem_cons.1 hu with rfl | hu
    · have := hc.1; rw [z2] at this; simpa using this
    · exact h5 u hu

theorem W.buildVec {t e : TypeId} {n sz : Nat} {parts : Array (Nat × Operand)} {vs : List Value} {info : TypeInfo} {zv : Value} (ht : P.underlying t = some (.slice e)) (hi : ∀ w, (typeInfo e).run P w = .ok info w) (hsz : info.size = sz)
    (hz : ∀ w, (zeroValue e).run P w = .ok zv w) (hvs : evL fr (parts.toList.map (·.2)) = some vs) (hix : parts.toList.map (·.1) = List.range' 0 n) (hn : vs.length = n) (hb' : n * sz ≤ 65536) (hp : 0 < n * sz)
    (hv : ∀ v ∈ vs, v.cells.size = sz) :
    Acts P N fr I L ⟨d, .buildSlice t n parts, ty, pos, aft, gd⟩ (fun v' I' L' => ∃ b, v' = .slice (some ⟨b, 0, .none⟩) n n ∧ I = I' ∧ L' = .blk b e (vs.flatMap (fun v => v.cells.toList)) :: L) := by
  intro a w next Q ha hs hk
  subst hsz
  have hparts : (parts.map (fun (i, x) => (i, a.eval x))).toList = (List.range' 0 vs.length).zip vs := by
    have := evL_spec ha.agree _ vs hvs
    rw [hn, ← hix, ← this]
    simp [List.zip_map', List.map_map]
  have hsz' : ((Array.range (n * info.size)).map (zv.cells[· % zv.cells.size]!)).size = n * info.size := by simp
  have hfill := fill_row (sz := info.size) vs 0 ((Array.range (n * info.size)).map (zv.cells[· % zv.cells.size]!)) hv (by rw [hsz', hn, Nat.zero_add]; exact Nat.le_refl _)
  have hdrop : ((Array.range (n * info.size)).map (zv.cells[· % zv.cells.size]!)).toList.drop ((0 + vs.length) * info.size) = [] := by
    apply List.drop_of_length_le
    rw [Array.length_toList, hsz', hn, Nat.zero_add]; exact Nat.le_refl _
  rw [hdrop, Nat.zero_mul, List.take_zero, List.nil_append, List.append_nil] at hfill
  have hr : (execOp a.eval ⟨d, .buildSlice t n parts, ty, pos, aft, gd⟩).run P w = .ok (.value (.slice (some ⟨w.heap.size, 0, .none⟩) n n)) (w.alloc (.cells (vs.flatMap (fun v => v.cells.toList)).toArray e)) := by
    simp only [execOp]
    rw [Sem.run_bind]
    have : (Instr.buildSlice t n (parts.map fun (i, x) => (i, a.eval x))).run P w = .ok (.slice (some ⟨w.heap.size, 0, .none⟩) n n) (w.alloc (.cells (vs.flatMap (fun v => v.cells.toList)).toArray e)) := by
      unfold Instr.buildSlice
      rw [Sem.run_bind, run_und ht, Result.andThen_ok]
      simp only [sizeOf, Sem.run_bind, hi, Result.andThen_ok, Sem.run_pure]
      rw [if_neg (by omega), if_neg (by omega)]
      simp only [Sem.run_bind, hz, Result.andThen_ok, Sem.run_pure, hparts, hfill]
      simp [newRow]
    rw [this]; rfl
  unfold Oper.wp
  rw [hr, Oper.upon_value]
  exact hk _ I _ _ (hs.alloc_blk (vs.flatMap (fun v => v.cells.toList)) e) ⟨_, rfl, rfl, rfl⟩

def buildVecW (T : TypeId → Option TI) (t : TypeId) (n : Nat) (ps : List (Nat × Operand)) (st : St) (K : AV → St → Prop) : Prop :=
  match T t, evs st (ps.map (·.2)) with
  | some i, some as => match i.td with
    | .slice e => match T e with
      | some ei => bif (ixsOK (ps.map (·.1)) n && (szAll ei.size as && (Nat.ble (n * ei.size) 65536 && Nat.blt 0 (n * ei.size)))) then K (.av st.nx ei.size 0 n) ⟨st.fr, (st.nx, .vec e (cellsLA as)) :: st.hp, st.nx + 1⟩ else False
      | none => False
    | _ => False
  | _, _ => False
theorem buildVecW_ok (hT : TOk P T) {t : TypeId} {n : Nat} {ps : Array (Nat × Operand)} {K : AV → St → Prop} (h : buildVecW T t n ps.toList st K) : OpS P N ⟨d, .buildSlice t n ps, ty, pos, aft, gd⟩ st K := by
  unfold buildVecW at h
  split at h
  · rename_i i as hi has
    obtain ⟨desc, info, zv, hu, htd, hinf, hz, hsz, hby, hzs, hzc, hzu⟩ := hT.ok t i hi
    split at h
    · rename_i e htd'
      have := td_slice (htd.trans htd'); subst this
      split at h
      · rename_i ei hei
        obtain ⟨desc2, info2, zv2, hu2, htd2, hinf2, hz2, hsz2, hby2, hzs2, hzc2, hzu2⟩ := hT.ok e ei hei
        cases hc : (ixsOK (ps.toList.map (·.1)) n && (szAll ei.size as && (Nat.ble (n * ei.size) 65536 && Nat.blt 0 (n * ei.size)))) with
        | false => rw [hc] at h; exact h.elim
        | true =>
          rw [hc] at h
          simp only [Bool.and_eq_true] at hc
          obtain ⟨c1, c2, c3, c4⟩ := hc
          have e1 := ixsOK_ok c1
          have e2 := szAll_ok c2
          have e3 := Nat.le_of_ble_eq_true c3
          have e4 : 0 < n * ei.size := by simpa [Nat.blt_eq] using c4
          have hn : as.length = n := by
            have h1 := evs_len has
            have h2 := congrArg List.length e1
            simp only [List.length_map, List.length_range'] at h1 h2
            omega
          intro I ρ F fr L hs
          obtain ⟨vs, v1, v2⟩ := evs_ok hs has
          obtain ⟨f1, f2, f3⟩ := cellsLA_ok v2 e2
          have hvl : vs.length = n := v2.1.trans hn
          have hsp : 0 < ei.size := Nat.pos_of_ne_zero (by intro e; rw [e] at e4; simp at e4)
          have hnm : n ≤ maxLen := by
            have := Nat.le_mul_of_pos_right n hsp
            simp only [maxLen]; omega
          refine Acts.mono (W.buildVec (sz := ei.size) hu (run_ti hinf2) hsz2 (run_zv hinf2 hz2) v1 e1 hvl e3 e4 f3) (fun v' I' L' hq => ⟨L', .refl _, ?_⟩)
          obtain ⟨b, rfl, rfl, rfl⟩ := hq
          have hag := bind_agree (v := .pointer (some ⟨b, 0, none⟩)) (hs.new st.nx (Nat.le_refl _))
          have hrel : ∀ ρ' : Nat → Value, ρ' st.nx = .pointer (some ⟨b, 0, none⟩) → RelA I ρ' (.slice (some ⟨b, 0, none⟩) n n) (.av st.nx ei.size 0 n) := fun ρ' hb => by
            have := RelA.av (I := I) (ρ := ρ') (sz := ei.size) (o := 0) (n := n) (c := n) hb (Nat.le_refl _) hnm
            rwa [Nat.zero_mul] at this
          exact ⟨Imm.le_refl _, bind ρ st.nx (.pointer (some ⟨b, 0, none⟩)), _, _, .inr (hrel _ bind_self), hs.add (o := .vec e (cellsLA as)) (es := [.blk b e (vs.flatMap fun v => v.cells.toList)]) (Imm.le_refl _) ⟨b, _, bind_self, ⟨f1.1, fun j u a hj ha => (f1.2 j u a hj ha).ren hag⟩, f2, rfl⟩, hag, h⟩
      · exact h.elim
    · exact h.elim
  · exact h.elim
end
end Go.V

/- The second floor, part N: lengths; all operations together. No function of the program is proved here. -/
namespace Go.V
open Go.Eng

section
variable {P : Program} {N : Nat} {T : TypeId → Option TI} {I J : Imm} {ρ ρ' : Nat → Value} {F : List Ent} {st : St} {fr : Frm} {L : List Ent}
variable {ty : TypeId} {pos : String} {aft : Array Edge} {gd : Option (Nat × Bool)} {d : Option Tmp} {x y z q : Operand}

def lenW (T : TypeId → Option TI) (t : TypeId) (a : AV) (st : St) (K : AV → Prop) : Prop :=
  match T t with
  | some i => match i.td with
    | .slice _ => match a with
      | .av _ _ _ n => K (.d (.int .i64 n))
      | a => match slD st a with
        | some xs => K (.d (.int .i64 xs.length))
        | none => False
    | .string => match a with
      | .d (.str s) => K (.d (.int .i64 s.length))
      | _ => False
    | .array n _ => bif (isU a || !(Nat.ble n 1000000)) then False else K (.d (.int .i64 n))
    | _ => False
  | none => False

theorem inr_i64 {n : Nat} (h : n ≤ 9223372036854775807) : InR .i64 n := ⟨by simp only [loK]; omega, by simp only [hiK]; omega⟩

theorem lenW_ok (hT : TOk P T) {t : TypeId} {a : AV} {K : AV → St → Prop} (hx : ev st x = a) (h : lenW T t a st (fun a => K a st)) : OpS P N ⟨d, .call ⟨.builtin .len, #[x], #[t]⟩, ty, pos, aft, gd⟩ st K := by
  unfold lenW at h
  split at h
  · rename_i i hi
    obtain ⟨desc, info, zv, hu, htd, _⟩ := hT.ok t i hi
    split at h
    · rename_i e he
      have := td_slice (htd.trans he); subst this
      split at h
      · refine OpS.val _ (fun I ρ F fr L hs => ?_) h
        obtain ⟨v, x1, x2⟩ := ev_ok hs hx (by simp)
        cases x2 with
        | av h1 h2 h3 => exact ⟨_, R.len x1 rfl hu, rel_int (inr_i64 (by simp only [maxLen] at h3; omega))⟩
      · split at h
        · rename_i xs hxs
          intro I ρ F fr L hs a' w next Q ha hw hk
          obtain ⟨v, x1, x2⟩ := ev_ok hs hx (slD_def hxs)
          obtain ⟨A, c, us, rfl, g1, g2, g3, g4, g5⟩ := slD_ok hs hxs x2
          refine (R.len x1 rfl hu).acts a' w next Q ha hw (fun v' I' L' w' hw' hi => hk v' I' L' w' hw' ?_)
          obtain ⟨rfl, rfl, rfl⟩ := hi
          have := (g5 w hw).2
          exact ⟨Imm.le_refl _, ρ, _, st, .inr (rel_int (inr_i64 (by simp only [maxLen] at this; omega))), hs, fun _ _ => rfl, h⟩
        · exact h.elim
    · rename_i he
      have := td_string (htd.trans he); subst this
      split at h
      · refine OpS.val _ (fun I ρ F fr L hs => ?_) h
        obtain ⟨v, x1, x2⟩ := ev_ok hs hx (by simp)
        obtain ⟨rfl, h1⟩ := ra_str x2
        exact ⟨_, R.lenT x1 rfl hu, rel_int (inr_i64 h1)⟩
      · exact h.elim
    · rename_i n e he
      have := td_array (htd.trans he); subst this
      cases hc : (isU a || !(Nat.ble n 1000000)) with
      | true => rw [hc] at h; exact h.elim
      | false =>
        rw [hc] at h
        simp only [Bool.or_eq_false_iff, Bool.not_eq_false'] at hc
        have hb := Nat.le_of_ble_eq_true hc.2
        refine OpS.val _ (fun I ρ F fr L hs => ?_) h
        obtain ⟨v, x1, x2⟩ := ev_ok hs hx (by intro e; rw [e] at hc; cases hc.1)
        exact ⟨_, R.lenA x1 rfl hu, rel_int (inr_i64 (by omega))⟩
    · exact h.elim
  · exact h.elim

/-- How much room there is: not less than what is there. -/
def capW (T : TypeId → Option TI) (t : TypeId) (a : AV) (st : St) (K : AV → Prop) : Prop :=
  match T t with
  | some i => match i.td, a with
    | .slice _, .d .nils => K (.d (.int .i64 0))
    | .slice _, .sl l => match lookO st.hp l with
      | .row _ _ xs => ∀ c : Nat, xs.length ≤ c → c ≤ 9223372036854775807 → K (.d (.int .i64 c))
      | _ => False
    | _, _ => False
  | none => False
theorem capW_ok (hT : TOk P T) {t : TypeId} {a : AV} {K : AV → St → Prop} (hx : ev st x = a) (h : capW T t a st (fun a => K a st)) : OpS P N ⟨d, .call ⟨.builtin .cap, #[x], #[t]⟩, ty, pos, aft, gd⟩ st K := by
  unfold capW at h
  split at h
  · rename_i i hi
    obtain ⟨desc, info, zv, hu, htd, _⟩ := hT.ok t i hi
    split at h
    · rename_i e he
      have := td_slice (htd.trans he); subst this
      refine OpS.val _ (fun I ρ F fr L hs => ?_) h
      obtain ⟨v, x1, x2⟩ := ev_ok hs hx (by simp)
      cases x2 with
      | d x2 => cases x2 with
        | nils => exact ⟨_, R.cap x1 rfl hu, rel_int (inr_i64 (n := 0) (by omega))⟩
    · rename_i e l he
      have := td_slice (htd.trans he); subst this
      split at h
      · rename_i e' sz xs hl
        intro I ρ F fr L hs a' w next Q ha hw hk
        obtain ⟨v, x1, x2⟩ := ev_ok hs hx (by simp)
        obtain ⟨es, ho, hm⟩ := hs.obj l
        rw [hl] at ho
        obtain ⟨A, c, us, r1, r2, r3, ro1, rfl⟩ := ho
        cases x2 with
        | sl x2 =>
          rw [r1] at x2; simp only [Value.slice.injEq] at x2
          obtain ⟨rfl, rfl, rfl⟩ := x2
          have hrow := hw.ents _ (hm _ List.mem_cons_self)
          simp only [Ent.ok] at hrow
          have hcb : xs.length ≤ c ∧ c ≤ 9223372036854775807 := by
            obtain ⟨_, ⟨h1, h2⟩ | ⟨g, cap, cur, h1, _, _, h2, h3, _⟩⟩ := hrow
            · simp only [Value.slice.injEq] at h1; omega
            · simp only [Value.slice.injEq] at h1; simp only [maxLen] at h3; omega
          refine (R.cap x1 rfl hu).acts a' w next Q ha hw (fun v' I' L' w' hw' hi => hk v' I' L' w' hw' ?_)
          obtain ⟨rfl, rfl, rfl⟩ := hi
          exact ⟨Imm.le_refl _, ρ, _, st, .inr (rel_int (inr_i64 (by omega))), hs, fun _ _ => rfl, h c hcb.1 hcb.2⟩
      · exact h.elim
    · exact h.elim
  · exact h.elim

def minmaxW (mx : Bool) (a b : AV) (K : AV → Prop) : Prop := match a, b with
  | .d (.int k a), .d (.int k' b) => bif kEq k k' then K (.d (.int k (bif mx then max a b else min a b))) else False
  | _, _ => False

def indexW (T : TypeId → Option TI) (t : TypeId) (a b : AV) (K : AV → Prop) : Prop :=
  match T t with
  | some ti => match ti.td, a, b with
    | .string, .d (.str s), .d (.int _ i) => 0 ≤ i ∧ Idx s i.toNat (fun c => K (.d (.int .u8 c.toNat)))
    | .array n e, .d (.agg cs), .d (.int _ i) => match T e with
      | some ei => (0 ≤ i ∧ i < n) ∧ (bif ei.td.one then Idx cs (i.toNat * ei.size) (fun x => K (.d x)) else i.toNat * ei.size + ei.size ≤ cs.length ∧ K (.d (.agg ((cs.drop (i.toNat * ei.size)).take ei.size))))
      | none => False
    | _, _, _ => False
  | none => False
theorem indexW_ok (hT : TOk P T) {t : TypeId} {a b : AV} {K : AV → St → Prop} (hx : ev st x = a) (hy : ev st y = b) (h : indexW T t a b (fun a => K a st)) : OpS P N ⟨d, .index t x y, ty, pos, aft, gd⟩ st K := by
  unfold indexW at h
  split at h
  · rename_i i hi
    obtain ⟨desc, info, zv, hu, htd, _⟩ := hT.ok t i hi
    split at h
    · rename_i s k n he
      have := td_string (htd.trans he); subst this
      obtain ⟨h0, c, hc, h⟩ := h
      refine OpS.val _ (fun I ρ F fr L hs => ?_) h
      obtain ⟨v, x1, x2⟩ := ev_ok hs hx (by simp)
      obtain ⟨u, y1, y2⟩ := ev_ok hs hy (by simp)
      obtain ⟨rfl, h1⟩ := ra_str x2
      obtain ⟨rfl, _⟩ := ra_int y2
      exact ⟨_, R.ixT x1 y1 hu h0 hc, rel_int (inr_u8 c)⟩
    · rename_i n e cs k j he
      have := td_array (htd.trans he); subst this
      split at h
      · rename_i ei hei
        obtain ⟨desc2, info2, zv2, hu2, htd2, hinf2, hz2, hsz2, _⟩ := hT.ok e ei hei
        have h1b : oneB desc2 = ei.td.one := by rw [td_one, htd2]
        obtain ⟨⟨h0, h1⟩, h⟩ := h
        have run : ∀ {fr : Frm} {us : Array Value} {I L} {u : Value}, evF fr x = some (.agg us) → evF fr y = some (.int k j) → (∀ w, (part e us (j.toNat * ei.size)).run P w = .ok u w) → RunsTo P fr I L ⟨d, .index t x y, ty, pos, aft, gd⟩ u := fun {fr us I L u} hx hy hp ρ w hρ _ => by
          simp [execOp, hρ x _ hx, hρ y _ hy, Instr.index, asIntOf, run_und hu, sizeOf, run_ti hinf2, hsz2, h0, h1, hp]
        have part1 : ∀ {us : Array Value} {u : Value}, ei.td.one = true → us[j.toNat * ei.size]? = some u → ∀ w, (part e us (j.toNat * ei.size)).run P w = .ok u w := fun {us u} hb hq w => by
          simp [part, isAgg_one hu2 (by rw [h1b, hb]), hq]
        have partA : ∀ {us : List Value}, ei.td.one = false → ∀ w, (part e us.toArray (j.toNat * ei.size)).run P w = .ok (.agg ((us.drop (j.toNat * ei.size)).take ei.size).toArray) w := fun {us} hb w => by
          have e2 : us.toArray.extract (j.toNat * ei.size) (j.toNat * ei.size + ei.size) = ((us.drop (j.toNat * ei.size)).take ei.size).toArray := by
            apply Array.ext'
            simp [List.take_drop]
          simp [part, isAgg_agg hu2 (by rw [h1b, hb]), sizeOf, run_ti hinf2, hsz2, e2]
        cases hb : ei.td.one with
        | true =>
          rw [hb] at h
          obtain ⟨z, hz, h⟩ := h
          refine OpS.val _ (fun I ρ F fr L hs => ?_) h
          obtain ⟨v, x1, x2⟩ := ev_ok hs hx (by simp)
          obtain ⟨u, y1, y2⟩ := ev_ok hs hy (by simp)
          obtain ⟨rfl, _⟩ := ra_int y2
          cases x2 with
          | d x2 => cases x2 with
            | agg hl h1 hxx =>
              obtain ⟨u, q1, q2⟩ := All2.get (R := RelD I) ⟨hl, hxx⟩ hz
              exact ⟨u, run x1 y1 (part1 hb (by simpa using q1)), .d q2⟩
        | false =>
          rw [hb] at h
          obtain ⟨_, h⟩ := h
          refine OpS.val _ (fun I ρ F fr L hs => ?_) h
          obtain ⟨v, x1, x2⟩ := ev_ok hs hx (by simp)
          obtain ⟨u, y1, y2⟩ := ev_ok hs hy (by simp)
          obtain ⟨rfl, _⟩ := ra_int y2
          cases x2 with
          | d x2 => cases x2 with
            | @agg us _ hl h1 hxx =>
              have r4 := (All2.drop (R := RelD I) ⟨hl, hxx⟩ (j.toNat * ei.size)).take ei.size
              refine ⟨.agg ((us.drop (j.toNat * ei.size)).take ei.size).toArray, run x1 y1 (partA hb), .d (.agg r4.1 ((h1.drop _).take _) r4.2)⟩
      · exact h.elim
    · exact h.elim
  · exact h.elim

def isSh : BinOp → Bool
  | .shl | .shr => true
  | _ => false
def binW (T : TypeId → Option TI) (op : BinOp) (t : TypeId) (a b : AV) (st : St) (K : AV → Prop) : Prop :=
  match a, b with
  | .d (.int k a), .d (.int k' b) => bif (isSh op || kEq k k') then intW op k k' a b K else False
  | a, b => match op with
    | .eql => cmpW T false t a b st K
    | .neq => cmpW T true t a b st K
    | .add => match a, b with
      | .d (.str p), .d (.str q) => p.length + q.length ≤ 9223372036854775807 ∧ K (.d (.str (p ++ q)))
      | _, _ => False
    | _ => False
theorem binW_ok (hT : TOk P T) {op : BinOp} {t u : TypeId} {a b : AV} {K : AV → St → Prop} (hx : ev st x = a) (hy : ev st y = b) (h : binW T op t a b st (fun a => K a st)) : OpS P N ⟨d, .binOp op t x y u, ty, pos, aft, gd⟩ st K := by
  unfold binW at h
  split at h
  · rename_i k a k' b
    cases hc : (isSh op || kEq k k') with
    | false => rw [hc] at h; exact h.elim
    | true =>
      rw [hc] at h
      refine intW_ok ?_ hx hy h
      simp only [Bool.or_eq_true] at hc
      rcases hc with hc | hc
      · left; cases op <;> first | exact .inl rfl | exact .inr rfl | cases hc
      · exact .inr (kEq_eq hc)
  · split at h
    · exact cmpW_ok (neg := false) hT hx hy h
    · exact cmpW_ok (neg := true) hT hx hy h
    · split at h
      · obtain ⟨hl, h⟩ := h
        refine OpS.val _ (fun I ρ F fr L hs => ?_) h
        obtain ⟨v, x1, x2⟩ := ev_ok hs hx (by simp)
        obtain ⟨u, y1, y2⟩ := ev_ok hs hy (by simp)
        obtain ⟨rfl, _⟩ := ra_str x2
        obtain ⟨rfl, _⟩ := ra_str y2
        exact ⟨_, R.catT x1 y1 hl, .d (.str (by simpa using hl))⟩
      · exact h.elim
    · exact h.elim

/-! ## All of them -/
def isArr (T : TypeId → Option TI) (t : TypeId) : Bool := match T t with
  | some i => match i.td with
    | .array _ _ => true
    | .struct fs => fs.any fun f => match T f.1 with
      | some fi => match fi.td with
        | .array _ _ => true
        | _ => false
      | none => false
    | _ => false
  | none => false

def two (l : List Operand) (K : Operand → Operand → Prop) : Prop := match l with
  | [x, y] => K x y
  | _ => False

def opW (T : TypeId → Option TI) (o : Op) (st : St) (K : AV → St → Prop) : Prop :=
  match o with
  | .move x | .assign x => okA (ev st x) (fun a => K a st)
  | .pick c a b => pickW (ev st c) (ev st a) (ev st b) (fun a => K a st)
  | .nilCheck x => nilChkW (ev st x) (fun a => K a st)
  | .binOp op t x y _ => match y, ev st x with
    | .const .nilIface, .ifc b => ifcW T op t b (fun a => K a st)
    | _, _ => binW T op t (ev st x) (ev st y) st (fun a => K a st)
  | .unOp op _ x => unW op (ev st x) (fun a => K a st)
  | .convert s t x => convW T s t (ev st x) st K
  | .load t x => match T t with
    | some i => loadW i (ev st x) st (fun a => K a st)
    | none => False
  | .store t x y => match T t with
    | some i => storeW i (ev st x) (ev st y) st (K .undef)
    | none => False
  | .fieldAddr t x i => fieldAddrW T t i (ev st x) (fun a => K a st)
  | .field t x i => fieldVW T t i (ev st x) (fun a => K a st)
  | .indexAddr t x y => match ev st y with
    | .d (.int _ i) => indexAddrW T t (ev st x) i st (fun a => K a st)
    | _ => False
  | .index t x y => indexW T t (ev st x) (ev st y) (fun a => K a st)
  | .slice t x lo hi mx => match bndA st lo, bndA st hi, bndA st mx with
    | some l, some h, some m => sliceW T t (ev st x) l h m st K
    | _, _, _ => False
  | .extract x i => extractW (ev st x) i (fun a => K a st)
  | .alloc t => match T t with
    | some i => newW (isArr T t) t i.zero st K
    | none => False
  | .box t x => newW (isArr T t) t (ev st x) st K
  | .build t ps => buildW T t ps.toList st (fun a => K a st)
  | .buildSlice t n ps => bif vecish (evs st (ps.toList.map (·.2))) then buildVecW T t n ps.toList st K else buildSliceW T t n ps.toList st K
  | .makeSlice t x y => match ev st x, ev st y with
    | .d (.int _ l), .d (.int _ c) => makeW T t l c st K
    | _, _ => False
  | .makeFunc fn fs cs => makeFuncW fn (evs st fs.toList) (evs st cs.toList) (fun a => K a st)
  | .call ⟨.builtin .len, ⟨[x]⟩, ⟨[t]⟩⟩ => lenW T t (ev st x) st (fun a => K a st)
  | .call ⟨.builtin .cap, ⟨[x]⟩, ⟨[t]⟩⟩ => capW T t (ev st x) st (fun a => K a st)
  | .call ⟨.builtin .append, ⟨[x, y]⟩, ⟨[t, t']⟩⟩ => bif Nat.beq t t' then okA (ev st y) (fun b => appendW T t (ev st x) b st K) else appendXW T t t' (ev st x) (ev st y) st K
  | .call ⟨.builtin .copy, ⟨[x, y]⟩, ⟨[t, _]⟩⟩ => copyW T t (ev st x) (ev st y) st K
  | .call ⟨.builtin .min, ⟨[x, y]⟩, ⟨[_, _]⟩⟩ => minmaxW false (ev st x) (ev st y) (fun a => K a st)
  | .call ⟨.builtin .max, ⟨[x, y]⟩, ⟨[_, _]⟩⟩ => minmaxW true (ev st x) (ev st y) (fun a => K a st)
  | _ => False

theorem minmaxW_ok {mx : Bool} {t t' : TypeId} {a b : AV} {K : AV → St → Prop} (hx : ev st x = a) (hy : ev st y = b) (h : minmaxW mx a b (fun a => K a st)) : OpS P N ⟨d, .call ⟨.builtin (bif mx then .max else .min), #[x, y], #[t, t']⟩, ty, pos, aft, gd⟩ st K := by
  unfold minmaxW at h
  split at h
  · rename_i k a k' b
    cases hc : kEq k k' with
    | false => rw [hc] at h; exact h.elim
    | true =>
      rw [hc] at h
      obtain rfl := kEq_eq hc
      refine OpS.val _ (fun I ρ F fr L hs => ?_) h
      obtain ⟨v, x1, x2⟩ := ev_ok hs hx (by simp)
      obtain ⟨u, y1, y2⟩ := ev_ok hs hy (by simp)
      obtain ⟨rfl, h1⟩ := ra_int x2
      obtain ⟨rfl, h2⟩ := ra_int y2
      cases mx with
      | false => exact ⟨_, R.min2 x1 y1, rel_int ⟨Int.le_min.2 ⟨h1.1, h2.1⟩, Int.le_trans (Int.min_le_left _ _) h1.2⟩⟩
      | true => exact ⟨_, R.max2 x1 y1, rel_int ⟨Int.le_trans h1.1 (Int.le_max_left _ _), Int.max_le.2 ⟨h1.2, h2.2⟩⟩⟩
  · exact h.elim

theorem opW_ok (hT : TOk P T) {o : Op} {K : AV → St → Prop} (h : opW T o st K) : OpS P N ⟨d, o, ty, pos, aft, gd⟩ st K := by
  unfold opW at h
  split at h
  · exact moveW_ok rfl h
  · exact assignW_ok rfl h
  · exact pickW_ok rfl rfl rfl h
  · exact nilChkW_ok rfl h
  · split at h
    · rename_i b hb; exact ifcW_ok hT hb h
    · exact binW_ok hT rfl rfl h
  · exact unW_ok rfl h
  · exact convW_ok hT rfl h
  · split at h
    · rename_i i hi; exact loadW_ok hT hi rfl h
    · exact h.elim
  · split at h
    · rename_i i hi; exact storeW_ok hT hi rfl rfl h
    · exact h.elim
  · exact fieldAddrW_ok hT rfl h
  · exact fieldVW_ok hT rfl h
  · split at h
    · rename_i hy; exact indexAddrW_ok hT rfl hy h
    · exact h.elim
  · exact indexW_ok hT rfl rfl h
  · split at h
    · rename_i h1 h2 h3; exact sliceW_ok hT rfl h1 h2 h3 h
    · exact h.elim
  · exact extractW_ok rfl h
  · split at h
    · rename_i i hi; exact allocW_ok hT hi h
    · exact h.elim
  · exact boxW_ok rfl h
  · exact buildW_ok hT h
  · rename_i t n ps
    cases hc : vecish (evs st (ps.toList.map (·.2))) with
    | true => rw [hc] at h; exact buildVecW_ok hT h
    | false => rw [hc] at h; exact buildSliceW_ok hT h
  · split at h
    · rename_i h1 h2; exact makeW_ok hT h1 h2 h
    · exact h.elim
  · exact makeFuncW_ok h
  · exact lenW_ok hT rfl h
  · exact capW_ok hT rfl h
  · rename_i x y t t'
    cases hc : Nat.beq t t' with
    | false => rw [hc] at h; exact appendXW_ok hT rfl rfl h
    | true =>
      rw [hc] at h
      obtain rfl := Nat.eq_of_beq_eq_true hc
      obtain ⟨hu, h⟩ := okA_ok h
      exact appendW_ok hT rfl rfl hu h
  · exact copyW_ok hT rfl rfl h
  · exact minmaxW_ok (mx := false) rfl rfl h
  · exact minmaxW_ok (mx := true) rfl rfl h
  · exact h.elim
end
end Go.V

/- The second floor, part LB: values that are known only by themselves: their length, a place in them, what lies there. No function of the program is proved here. -/
namespace Go.V
open Go.Eng

section
variable {P : Program} {N : Nat} {T : TypeId → Option TI} {I J : Imm} {ρ ρ' : Nat → Value} {F : List Ent} {st : St} {fr : Frm} {L : List Ent}
variable {ty : TypeId} {pos : String} {aft : Array Edge} {gd : Option (Nat × Bool)} {d : Option Tmp} {x y z q : Operand}

theorem ra_opq {v w : Value} (h : RelA I ρ v (.d (.opq w))) : v = w ∧ v.cells = #[v] ∧ v.oneCell' = true := by
  cases h with | d h => cases h with | opq h => exact ⟨rfl, h⟩
def opqLen (T : TypeId → Option TI) (t : TypeId) (v : Value) (K : AV → Prop) : Prop := match T t with
  | some i => match i.td, v with
    | .slice _, .slice _ n _ => n ≤ 9223372036854775807 ∧ K (.d (.int .i64 n))
    | _, _ => False
  | none => False
theorem opqLen_ok (hT : TOk P T) {t : TypeId} {v : Value} {K : AV → St → Prop} (hx : ev st x = .d (.opq v)) (h : opqLen T t v (fun a => K a st)) : OpS P N ⟨d, .call ⟨.builtin .len, #[x], #[t]⟩, ty, pos, aft, gd⟩ st K := by
  unfold opqLen at h
  split at h
  · rename_i i hi
    obtain ⟨desc, info, zv, hu, htd, _⟩ := hT.ok t i hi
    split at h
    · rename_i e A n c he
      have := td_slice (htd.trans he); subst this
      obtain ⟨hn, h⟩ := h
      refine OpS.val _ (fun I ρ F fr L hs => ?_) h
      obtain ⟨u, x1, x2⟩ := ev_ok hs hx (by simp)
      obtain ⟨rfl, _⟩ := ra_opq x2
      exact ⟨_, R.len x1 rfl hu, rel_int (inr_i64 hn)⟩
    · exact h.elim
  · exact h.elim
def opqIdx (T : TypeId → Option TI) (t : TypeId) (v : Value) (i : Int) (K : AV → Prop) : Prop := match T t with
  | some ti => match ti.td, v with
    | .slice e, .slice (some a) n _ => match T e with
      | some ei => (0 ≤ i ∧ i < n) ∧ K (.d (.opq (.pointer (some (a.add (i.toNat * ei.size))))))
      | none => False
    | _, _ => False
  | none => False
theorem opqIdx_ok (hT : TOk P T) {t : TypeId} {v : Value} {k : IntKind} {i : Int} {K : AV → St → Prop} (hx : ev st x = .d (.opq v)) (hy : ev st y = .d (.int k i)) (h : opqIdx T t v i (fun a => K a st)) : OpS P N ⟨d, .indexAddr t x y, ty, pos, aft, gd⟩ st K := by
  unfold opqIdx at h
  split at h
  · rename_i ti hti
    obtain ⟨desc, info, zv, hu, htd, _⟩ := hT.ok t ti hti
    split at h
    · rename_i e a n c he
      have := td_slice (htd.trans he); subst this
      split at h
      · rename_i ei hei
        obtain ⟨_, info2, _, _, _, hinf2, _, hsz2, _⟩ := hT.ok e ei hei
        obtain ⟨h1, h⟩ := h
        refine OpS.val _ (fun I ρ F fr L hs => ?_) h
        obtain ⟨u, x1, x2⟩ := ev_ok hs hx (by simp)
        obtain ⟨w, y1, y2⟩ := ev_ok hs hy (by simp)
        obtain ⟨rfl, _⟩ := ra_opq x2
        obtain ⟨rfl, _⟩ := ra_int y2
        exact ⟨_, R.ixA x1 y1 hu (run_ti hinf2) h1 hsz2, .d (.opq ⟨rfl, rfl⟩)⟩
      · exact h.elim
    · exact h.elim
  · exact h.elim
/-- What lies at a place that is known only by itself: told by a law. -/
inductive LoadO (st : St) (ad : Addr) (K : AV → Prop) : Prop where
  | mk (y : D) (h : ∀ I ρ F fr L, SR I ρ F st fr L → ∃ u, (∀ w, HS I L w → w.cell? ad = some u) ∧ RelD I u y) (k : K (.d y))
def opqLoad (T : TypeId → Option TI) (t : TypeId) (v : Value) (st : St) (K : AV → Prop) : Prop := match T t with
  | some i => match v with
    | .pointer (some ad) => bif i.td.one then LoadO st ad K else False
    | _ => False
  | none => False
theorem opqLoad_ok (hT : TOk P T) {t : TypeId} {v : Value} {K : AV → St → Prop} (hx : ev st x = .d (.opq v)) (h : opqLoad T t v st (fun a => K a st)) : OpS P N ⟨d, .load t x, ty, pos, aft, gd⟩ st K := by
  unfold opqLoad at h
  split at h
  · rename_i i hi
    obtain ⟨desc, info, zv, hu, htd, _⟩ := hT.ok t i hi
    have h1 : oneB desc = i.td.one := by rw [td_one, htd]
    split at h
    · rename_i ad
      cases hb : i.td.one with
      | false => rw [hb] at h; exact h.elim
      | true =>
        rw [hb] at h
        obtain ⟨y, hy, h⟩ := h
        refine OpS.val _ (fun I ρ F fr L hs => ?_) h
        obtain ⟨u, x1, x2⟩ := ev_ok hs hx (by simp)
        obtain ⟨rfl, _⟩ := ra_opq x2
        obtain ⟨u, hc, hr⟩ := hy I ρ F fr L hs
        exact ⟨u, R.load x1 hu (by rw [h1, hb]) hc, .d hr⟩
    · exact h.elim
  · exact h.elim
/-- What is put at such a place: told by a law. -/
inductive StoO (st : St) (ad : Addr) (y : D) (K : St → Prop) : Prop where
  | mk (hp : List (Nat × Obj)) (h : ∀ I ρ F fr L u, SR I ρ F st fr L → RelD I u y → ∃ L', SR I ρ F ⟨st.fr, hp, st.nx⟩ fr L' ∧ ∀ w, HS I L w → (∃ u0, w.cell? ad = some u0) ∧ w.frozen? ad = false ∧ HS I L' (w.setCell ad u)) (k : K ⟨st.fr, hp, st.nx⟩)
def opqStore (T : TypeId → Option TI) (t : TypeId) (v : Value) (b : AV) (st : St) (K : St → Prop) : Prop := match T t with
  | some i => match v, b with
    | .pointer (some ad), .d y => bif (Nat.beq i.size 1 && one1 (.d y)) then StoO st ad y K else False
    | _, _ => False
  | none => False
theorem opqStore_ok (hT : TOk P T) {t : TypeId} {v : Value} {b : AV} {K : AV → St → Prop} (hx : ev st x = .d (.opq v)) (hy : ev st y = b) (h : opqStore T t v b st (K .undef)) : OpS P N ⟨d, .store t x y, ty, pos, aft, gd⟩ st K := by
  unfold opqStore at h
  split at h
  · rename_i i hi
    obtain ⟨desc, info, zv, hu, htd, hinf, hz, hsz, _⟩ := hT.ok t i hi
    split at h
    · rename_i ad yd
      cases hb : (Nat.beq i.size 1 && one1 (.d yd)) with
      | false => rw [hb] at h; exact h.elim
      | true =>
        rw [hb] at h
        simp only [Bool.and_eq_true] at hb
        obtain ⟨hp, hyp, h⟩ := h
        intro I ρ F fr L hs a w next Q ha hw hk
        obtain ⟨v1, x1, x2⟩ := ev_ok hs hx (by simp)
        obtain ⟨u, y1, y2⟩ := ev_ok hs hy (by simp)
        obtain ⟨rfl, _⟩ := ra_opq x2
        cases y2 with
        | d y2 =>
          obtain ⟨o1, o2⟩ := relD_one y2 hb.2
          obtain ⟨L', hs', hall⟩ := hyp I ρ F fr L u hs y2
          obtain ⟨⟨u0, hc⟩, hf, hw'⟩ := hall w hw
          have hr : (execOp a.eval ⟨d, .store t x y, ty, pos, aft, gd⟩).run P w = .ok .skip (w.setCell ad u) := by
            simp [execOp, ha.ev x1, ha.ev y1, Instr.storeAt, Instr.sureAddr, run_storeVar_one (run_ti hinf) (hsz.trans (Nat.eq_of_beq_eq_true hb.1)) o1 o2 hc hf]
          unfold Oper.wp
          rw [hr, Oper.upon_skip]
          exact hk undef I L' _ hw' ⟨Imm.le_refl _, ρ, .undef, _, .inl rfl, hs', fun _ _ => rfl, h⟩
    · exact h.elim
  · exact h.elim
end
end Go.V

/- The second floor, part O: objects taken out of a state, by new names; contracts. No function of the program is proved here. -/
namespace Go.V
open Go.Eng

section
variable {P : Program} {N : Nat} {T : TypeId → Option TI} {I J : Imm} {ρ ρ' : Nat → Value} {F : List Ent} {st : St} {fr : Frm} {L : List Ent}

/-! ## Labels -/
def labsA : Nat → AV → List Nat
  | _, .sl l | _, .ptr l _ | _, .ep l _ _ _ | _, .av l _ _ _ | _, .map l => [l]
  | n + 1, .agg cs => cs.flatMap (labsA n)
  | n + 1, .tup cs => cs.flatMap (labsA n)
  | n + 1, .fn _ fs cs => fs.flatMap (labsA n) ++ cs.flatMap (labsA n)
  | _, _ => []
def labsO (hp : List (Nat × Obj)) : Obj → List Nat
  | .vec _ cs => cs.flatMap fun a => labsA 4 (normA hp a)
  | _ => []

def elemN (l : Nat) : List Nat → Bool
  | [] => false
  | k :: ks => bif Nat.beq k l then true else elemN l ks
def clos (m : Nat) (hp : List (Nat × Obj)) : Nat → List Nat → List Nat → List Nat
  | 0, _, acc => acc
  | _, [], acc => acc
  | n + 1, l :: todo, acc => bif (Nat.blt l m || elemN l acc) then clos m hp n todo acc else clos m hp n (todo ++ labsO hp (lookO hp l)) (acc ++ [l])

/-- The new name of a label: those below 'm' keep theirs. -/
def idxN (l : Nat) : Nat → List Nat → Option Nat
  | _, [] => none
  | i, k :: ks => bif Nat.beq k l then some i else idxN l (i + 1) ks
def renL (m : Nat) (ls : List Nat) (l : Nat) : Option Nat := bif Nat.blt l m then some l else idxN l m ls

mutual
def renA (φ : Nat → Option Nat) : Nat → AV → Option AV
  | _, .d x => some (.d x)
  | _, .sl l => (φ l).map .sl
  | _, .ptr l o => (φ l).map fun l => .ptr l o
  | _, .rp cs f => some (.rp cs f)
  | _, .ep l sz i f => (φ l).map fun l => .ep l sz i f
  | _, .av l sz o n => (φ l).map fun l => .av l sz o n
  | _, .nilf => some .nilf
  | _, .map l => (φ l).map .map
  | _, .nilm => some .nilm
  | _, .ifc b => some (.ifc b)
  | n + 1, .agg cs => match renAs φ n cs with
    | some cs => some (.agg cs)
    | none => none
  | n + 1, .tup cs => match renAs φ n cs with
    | some cs => some (.tup cs)
    | none => none
  | n + 1, .fn f fs cs => match renAs φ n fs, renAs φ n cs with
    | some fs, some cs => some (.fn f fs cs)
    | _, _ => none
  | _, _ => none
def renAs (φ : Nat → Option Nat) : Nat → List AV → Option (List AV)
  | _, [] => some []
  | n, a :: as => match renA φ n a, renAs φ n as with
    | some a, some as => some (a :: as)
    | _, _ => none
end

def AgL (φ : Nat → Option Nat) (ρ ρ' : Nat → Value) : Prop := ∀ l l', φ l = some l' → ρ l ≠ .nilFunc → ρ' l' = ρ l

mutual
theorem renA_ok {φ : Nat → Option Nat} (h : AgL φ ρ ρ') : ∀ (n : Nat) (a : AV) {a' : AV} {v : Value}, renA φ n a = some a' → RelA I ρ v a → RelA I ρ' v a'
  | n, .d x, a', v, he, hv => by cases n <;> (simp [renA] at he; subst he; cases hv with | d hv => exact .d hv)
  | n, .sl l, a', v, he, hv => by
    cases n <;> (
      simp only [renA, Option.map_eq_some_iff] at he
      obtain ⟨l', h1, rfl⟩ := he
      cases hv with | sl hv => exact .sl (by rw [h _ _ h1 (by rw [hv]; exact fun e => by cases e)]; exact hv))
  | n, .ptr l o, a', v, he, hv => by
    cases n <;> (
      simp only [renA, Option.map_eq_some_iff] at he
      obtain ⟨l', h1, rfl⟩ := he
      cases hv with | ptr hv => exact .ptr (by rw [h _ _ h1 (by rw [hv]; exact fun e => by cases e)]; exact hv))
  | n, .rp cs f, a', v, he, hv => by cases n <;> (simp [renA] at he; subst he; cases hv with | rp a b c => exact .rp a b c)
  | n, .ep l sz i f, a', v, he, hv => by
    cases n <;> (
      simp only [renA, Option.map_eq_some_iff] at he
      obtain ⟨l', h1, rfl⟩ := he
      cases hv with | ep hv => exact .ep (by rw [h _ _ h1 (by rw [hv]; exact fun e => by cases e)]; exact hv))
  | n, .av l sz o k, a', v, he, hv => by
    cases n <;> (
      simp only [renA, Option.map_eq_some_iff] at he
      obtain ⟨l', h1, rfl⟩ := he
      cases hv with | av hv h2 h3 => exact .av (by rw [h _ _ h1 (by rw [hv]; exact fun e => by cases e)]; exact hv) h2 h3)
  | n, .nilf, a', v, he, hv => by cases n <;> (simp [renA] at he; subst he; cases hv; exact .nilf)
  | n, .map l, a', v, he, hv => by
    cases n <;> (
      simp only [renA, Option.map_eq_some_iff] at he
      obtain ⟨l', h1, rfl⟩ := he
      cases hv with | map hv => exact .map (by rw [h _ _ h1 (by rw [hv]; exact fun e => by cases e)]; exact hv))
  | n, .nilm, a', v, he, hv => by cases n <;> (simp [renA] at he; subst he; cases hv; exact .nilm)
  | n, .ifc b, a', v, he, hv => by cases n <;> (simp [renA] at he; subst he; cases hv with | ifc hv => exact .ifc hv)
  | n, .undef, a', v, he, hv => by cases n <;> simp [renA] at he
  | 0, .agg cs, a', v, he, hv => by simp [renA] at he
  | 0, .tup cs, a', v, he, hv => by simp [renA] at he
  | 0, .fn f fs cs, a', v, he, hv => by simp [renA] at he
  | n + 1, .agg cs, a', v, he, hv => by
    unfold renA at he
    split at he
    · rename_i cs' hc
      simp at he; subst he
      cases hv with
      | agg hl h1 hx =>
        have := renAs_ok h n cs hc ⟨hl, hx⟩
        exact .agg this.1 h1 this.2
    · cases he
  | n + 1, .tup cs, a', v, he, hv => by
    unfold renA at he
    split at he
    · rename_i cs' hc
      simp at he; subst he
      cases hv with
      | tup hl hx =>
        have := renAs_ok h n cs hc ⟨hl, hx⟩
        exact .tup this.1 this.2
    · cases he
  | n + 1, .fn f fs cs, a', v, he, hv => by
    unfold renA at he
    split at he
    · rename_i fs' cs' h1 h2
      simp at he; subst he
      cases hv with
      | fn hl hx hm hy =>
        have a := renAs_ok h n fs h1 ⟨hl, hx⟩
        have b := renAs_ok h n cs h2 ⟨hm, hy⟩
        exact .fn a.1 a.2 b.1 b.2
    · cases he
theorem renAs_ok {φ : Nat → Option Nat} (h : AgL φ ρ ρ') : ∀ (n : Nat) (as : List AV) {as' : List AV} {vs : List Value}, renAs φ n as = some as' → All2 (RelA I ρ) vs as → All2 (RelA I ρ') vs as'
  | n, [], as', vs, he, hv => by cases n <;> (simp [renAs] at he; subst he; rw [hv.unnil]; exact .nil)
  | n, a :: as, as', vs, he, hv => by
    unfold renAs at he
    split at he
    · rename_i a1 as1 h1 h2
      simp at he; subst he
      obtain ⟨v, vs', rfl, x, y⟩ := hv.uncons
      exact .cons (renA_ok h n a h1 x) (renAs_ok h n as h2 y)
    · cases he
end

def renO (hp : List (Nat × Obj)) (φ : Nat → Option Nat) : Obj → Option Obj
  | .vec t cs => match renAs φ 4 (cs.map (normA hp)) with
    | some cs => some (.vec t cs)
    | none => none
  | o => some o

theorem renO_ok {hp : List (Nat × Obj)} {φ : Nat → Option Nat} (h : AgL φ ρ ρ') (hn : ∀ v a, RelA I ρ v a → RelA I ρ v (normA hp a)) {l l' : Nat} {o o' : Obj} {es : List Ent} (hl : φ l = some l') (he : renO hp φ o = some o') (ho : RelO I ρ l o es) : RelO I ρ' l' o' es := by
  cases o with
  | vec t cs =>
    simp only [renO] at he
    split at he
    · rename_i cs' hc
      simp at he; subst he
      obtain ⟨b, us, r1, r2, r3, rfl⟩ := ho
      refine ⟨b, us, by rw [h _ _ hl (by rw [r1]; exact fun e => by cases e)]; exact r1, renAs_ok h 4 _ hc ⟨by simpa using r2.1, fun j u y hu hy => ?_⟩, r3, rfl⟩
      rw [List.getElem?_map] at hy
      cases hj : cs[j]? with
      | none => rw [hj] at hy; cases hy
      | some a => rw [hj] at hy; simp at hy; subst hy; exact hn u a (r2.2 j u a hu hj)
    · cases he
  | row e sz xs => simp [renO] at he; subst he; obtain ⟨A, c, us, r1, r2⟩ := ho; exact ⟨A, c, us, by rw [h _ _ hl (by rw [r1]; exact fun e => by cases e)]; exact r1, r2⟩
  | arr t cs => simp [renO] at he; subst he; obtain ⟨b, us, r1, r2⟩ := ho; exact ⟨b, us, by rw [h _ _ hl (by rw [r1]; exact fun e => by cases e)]; exact r1, r2⟩
  | froz xs =>
    simp [renO] at he; subst he
    refine ⟨?_, ho.2⟩
    have h1 := ho.1
    rw [h _ _ hl (by intro e; rw [e] at h1; cases h1)]; exact h1
  | fzn cs => simp [renO] at he; subst he; obtain ⟨⟨b, us, r1, r2⟩, r3⟩ := ho; exact ⟨⟨b, us, by rw [h _ _ hl (by rw [r1]; exact fun e => by cases e)]; exact r1, r2⟩, r3⟩
  | abs R =>
    simp [renO] at he; subst he
    have h1 : R.rel I (ρ l) es := ho
    show R.rel I (ρ' l') es
    rw [h _ _ hl (R.ne h1)]; exact h1
  | gone => simp [renO] at he; subst he; exact ho

/-! ## Taking objects out -/
def goneAll : List (Nat × Obj) → List Nat → List (Nat × Obj)
  | hp, [] => hp
  | hp, l :: ls => goneAll (setO hp l .gone) ls

theorem setO_gone_gone {hp : List (Nat × Obj)} {l : Nat} (h : lookO hp l = .gone) : ∀ k, lookO (setO hp l .gone) k = lookO hp k := by
  intro k
  induction hp with
  | nil => rfl
  | cons p hp ih =>
    obtain ⟨a, b⟩ := p
    simp only [lookO, beq_eq] at h
    simp only [setO, beq_eq]
    by_cases e : a = l
    · subst e
      simp at h
      by_cases e2 : a = k
      · subst e2; simp [lookO, h]
      · simp [lookO, beq_eq, e2]
    · simp [e] at h
      simp only [e, decide_false, cond_false, lookO, ih h]

theorem RelH.out {h : List (Nat × Obj)} {L : List Ent} (k : RelH I ρ h L) : ∀ (ls : List Nat), ls.Nodup → ∃ (Ls : List (List Ent)) (Lr : List Ent), L.Perm (Ls.flatten ++ Lr) ∧ Ls.length = ls.length ∧ (∀ (i l : Nat), ls[i]? = some l → ∃ es, Ls[i]? = some es ∧ RelO I ρ l (lookO h l) es) ∧ RelH I ρ (goneAll h ls) Lr
  | [], _ => ⟨[], L, by simp, rfl, fun i l hl => by simp at hl, k⟩
  | l :: ls, hnd => by
    obtain ⟨hnl, hnd'⟩ := List.nodup_cons.1 hnd
    by_cases hg : lookO h l = .gone
    · have k' : RelH I ρ (setO h l .gone) L := by
        clear hnd hnl hnd' ls
        induction k with
        | nil g => exact .nil g
        | @cons a b h es L ho k ih =>
          simp only [lookO, beq_eq] at hg
          simp only [setO, beq_eq]
          by_cases e : a = l
          · subst e
            simp at hg; subst hg
            simp only [decide_true, cond_true]
            have : es = [] := ho
            subst this
            exact .cons (rfl : RelO I ρ a .gone []) k
          · simp [e] at hg
            simp only [e, decide_false, cond_false]
            exact .cons ho (ih hg)
      obtain ⟨Ls, Lr, p, hlen, h1, h2⟩ := RelH.out k' ls hnd'
      refine ⟨[] :: Ls, Lr, by simpa using p, by simp [hlen], fun i m hm => ?_, h2⟩
      cases i with
      | zero => simp at hm; subst hm; exact ⟨[], rfl, by rw [hg]; rfl⟩
      | succ i =>
        obtain ⟨es, e1, e2⟩ := h1 i m (by simpa using hm)
        rw [setO_gone_gone hg] at e2
        exact ⟨es, by simpa using e1, e2⟩
    · obtain ⟨M, es, R, rfl, ho, hk⟩ := k.at rfl hg
      have k' := hk .gone [] I ρ (fun g => g) (fun _ _ _ h => h) rfl
      obtain ⟨Ls, Lr, p, hlen, h1, h2⟩ := RelH.out k' ls hnd'
      refine ⟨es :: Ls, Lr, ?_, by simp [hlen], fun i m hm => ?_, h2⟩
      · have p1 : (M ++ es ++ R).Perm (es ++ (M ++ R)) := by
          rw [List.append_assoc]
          exact (List.perm_append_comm_assoc _ _ _)
        refine p1.trans ?_
        simp only [List.flatten_cons, List.append_assoc]
        exact List.Perm.append_left es (by simpa using p)
      · cases i with
        | zero => simp at hm; subst hm; exact ⟨es, rfl, ho⟩
        | succ i =>
          obtain ⟨es', e1, e2⟩ := h1 i m (by simpa using hm)
          have hne : m ≠ l := by
            rintro rfl
            exact hnl (List.mem_of_getElem? (by simpa using hm))
          rw [lookO_set _ _ _ _ hne] at e2
          exact ⟨es', by simpa using e1, e2⟩

def numb : Nat → List Obj → List (Nat × Obj)
  | _, [] => []
  | k, o :: os => (k, o) :: numb (k + 1) os

theorem RelH.numb {k : Nat} (g : Glob I) : ∀ {os : List Obj} {Ls : List (List Ent)} {k : Nat}, Ls.length = os.length → (∀ i o es, os[i]? = some o → Ls[i]? = some es → RelO I ρ (k + i) o es) → RelH I ρ (V.numb k os) Ls.flatten
  | [], [], _, _, _ => .nil g
  | o :: os, es :: Ls, k, hl, h => by
    simp only [V.numb, List.flatten_cons]
    refine .cons (by simpa using h 0 o es rfl rfl) (RelH.numb g (k := k + 1) (by simpa using hl) (fun i o' es' h1 h2 => ?_))
    have := h (i + 1) o' es' (by simpa using h1) (by simpa using h2)
    rwa [show k + 1 + i = k + (i + 1) from by omega]
  | [], _ :: _, _, hl, _ => by simp at hl
  | _ :: _, [], _, hl, _ => by simp at hl

/-- A contract: called with such values and objects, a function gives such a value, and leaves such objects. -/
structure Ct (P : Program) (f : FuncId) (vs : List AV) (os : List Obj) (Q : AV → List Obj → Prop) : Prop where
  call : ∀ as w, (callFunc f as).run P w = .ok (.enter f as) w
  run : ∀ I ρ us L, All2 (RelA I ρ) us vs → RelH I ρ (numb 0 os) L → (∀ k, os.length ≤ k → ρ k = .nilFunc) →
    Meets P f us.toArray I L (fun v I' L' => ∃ ρ' r os', RelA I' ρ' v r ∧ RelH I' ρ' (numb 0 os') L' ∧ (∀ k, os'.length ≤ k → ρ' k = .nilFunc) ∧ os.length ≤ os'.length ∧ (∀ l, ρ l ≠ .nilFunc → ρ' l = ρ l) ∧ Q r os')

theorem Ct.mono {f : FuncId} {vs : List AV} {os : List Obj} {Q Q' : AV → List Obj → Prop} (h : Ct P f vs os Q) (k : ∀ r os', Q r os' → Q' r os') : Ct P f vs os Q' :=
  ⟨h.call, fun I ρ us L a b c => (h.run I ρ us L a b c).mono fun v I' L' _ ⟨ρ', r, os', h1, h2, h3, h4, h5, h6⟩ => ⟨ρ', r, os', h1, h2, h3, h4, h5, k r os' h6⟩⟩
end
end Go.V

/- The second floor, part P0: things reckoned out, so that what follows finds them plain. No function of the program is proved here. -/
namespace Go.V
open Go.Eng

def frcN : Nat → (Nat → Prop) → Prop
  | 0, K => K 0
  | 1, K => K 1
  | 2, K => K 2
  | 3, K => K 3
  | 4, K => K 4
  | 5, K => K 5
  | 6, K => K 6
  | 7, K => K 7
  | 8, K => K 8
  | 9, K => K 9
  | 10, K => K 10
  | 11, K => K 11
  | 12, K => K 12
  | 13, K => K 13
  | 14, K => K 14
  | 15, K => K 15
  | 16, K => K 16
  | 17, K => K 17
  | 18, K => K 18
  | 19, K => K 19
  | 20, K => K 20
  | 21, K => K 21
  | 22, K => K 22
  | 23, K => K 23
  | 24, K => K 24
  | 25, K => K 25
  | 26, K => K 26
  | 27, K => K 27
  | 28, K => K 28
  | 29, K => K 29
  | 30, K => K 30
  | 31, K => K 31
  | 32, K => K 32
  | 33, K => K 33
  | 34, K => K 34
  | 35, K => K 35
  | 36, K => K 36
  | 37, K => K 37
  | 38, K => K 38
  | 39, K => K 39
  | 40, K => K 40
  | n, K => K n
theorem frcN_ok {n : Nat} {K : Nat → Prop} (h : frcN n K) : K n := by
  unfold frcN at h
  split at h <;> exact h
def frcL : List Nat → (List Nat → Prop) → Prop
  | [], K => K []
  | l :: ls, K => frcN l fun l => frcL ls fun ls => K (l :: ls)
theorem frcL_ok : ∀ {ls : List Nat} {K : List Nat → Prop}, frcL ls K → K ls
  | [], _, h => h
  | _ :: ls, _, h => by
    unfold frcL at h
    exact frcL_ok (ls := ls) (frcN_ok h)

mutual
def frcA : Nat → AV → (AV → Prop) → Prop
  | _, .d x, K => K (.d x)
  | _, .sl l, K => frcN l fun l => K (.sl l)
  | _, .ptr l o, K => frcN l fun l => K (.ptr l o)
  | _, .rp cs f, K => K (.rp cs f)
  | _, .ep l sz i f, K => frcN l fun l => K (.ep l sz i f)
  | _, .av l sz o n, K => frcN l fun l => K (.av l sz o n)
  | n + 1, .agg cs, K => frcAs n cs fun cs => K (.agg cs)
  | n + 1, .tup cs, K => frcAs n cs fun cs => K (.tup cs)
  | n + 1, .fn f fs cs, K => frcN f fun f => frcAs n fs fun fs => frcAs n cs fun cs => K (.fn f fs cs)
  | _, .nilf, K => K .nilf
  | _, .map l, K => frcN l fun l => K (.map l)
  | _, .nilm, K => K .nilm
  | _, .ifc b, K => K (.ifc b)
  | _, .undef, K => K .undef
  | _, a, K => K a
def frcAs : Nat → List AV → (List AV → Prop) → Prop
  | _, [], K => K []
  | n, a :: as, K => frcA n a fun a => frcAs n as fun as => K (a :: as)
end
mutual
theorem frcA_ok : ∀ (n : Nat) (a : AV) {K : AV → Prop}, frcA n a K → K a
  | n, .d x, K, h => by cases n <;> exact h
  | n, .sl l, K, h => by cases n <;> (unfold frcA at h; exact frcN_ok h)
  | n, .ptr l o, K, h => by cases n <;> (unfold frcA at h; exact frcN_ok h)
  | n, .rp cs f, K, h => by cases n <;> exact h
  | n, .ep l sz i f, K, h => by cases n <;> (unfold frcA at h; exact frcN_ok h)
  | n, .av l sz o m, K, h => by cases n <;> (unfold frcA at h; exact frcN_ok h)
  | 0, .agg cs, K, h => h
  | 0, .tup cs, K, h => h
  | 0, .fn f fs cs, K, h => h
  | n + 1, .agg cs, K, h => by unfold frcA at h; exact frcAs_ok n cs h
  | n + 1, .tup cs, K, h => by unfold frcA at h; exact frcAs_ok n cs h
  | n + 1, .fn f fs cs, K, h => by
    unfold frcA at h
    exact frcAs_ok n cs (frcAs_ok n fs (frcN_ok h))
  | n, .nilf, K, h => by cases n <;> exact h
  | n, .map l, K, h => by cases n <;> (unfold frcA at h; exact frcN_ok h)
  | n, .nilm, K, h => by cases n <;> exact h
  | n, .ifc b, K, h => by cases n <;> exact h
  | n, .undef, K, h => by cases n <;> exact h
theorem frcAs_ok : ∀ (n : Nat) (as : List AV) {K : List AV → Prop}, frcAs n as K → K as
  | n, [], K, h => by cases n <;> exact h
  | n, a :: as, K, h => by
    unfold frcAs at h
    exact frcAs_ok n as (frcA_ok n a h)
end
def frcO : Obj → (Obj → Prop) → Prop
  | .row e sz xs, K => K (.row e sz xs)
  | .vec t cs, K => frcAs 3 cs fun cs => K (.vec t cs)
  | .arr t cs, K => K (.arr t cs)
  | .froz xs, K => K (.froz xs)
  | .fzn cs, K => K (.fzn cs)
  | .abs R, K => K (.abs R)
  | .gone, K => K .gone
theorem frcO_ok {o : Obj} {K : Obj → Prop} (h : frcO o K) : K o := by
  cases o with
  | vec t cs => exact frcAs_ok 3 cs h
  | _ => exact h
/-- Objects that are not there any more are left out. -/
def frcH : List (Nat × Obj) → (List (Nat × Obj) → Prop) → Prop
  | [], K => K []
  | (l, o) :: h, K => frcN l fun l => frcO o fun o => frcH h fun h => K ((l, o) :: h)
theorem frcH_ok : ∀ {h : List (Nat × Obj)} {K : List (Nat × Obj) → Prop}, frcH h K → K h
  | [], _, k => k
  | (_, _) :: t, _, k => by
    unfold frcH at k
    exact frcH_ok (h := t) (frcO_ok (frcN_ok k))
def frcF : List (Nat × AV) → (List (Nat × AV) → Prop) → Prop
  | [], K => K []
  | (t, a) :: l, K => frcA 3 a fun a => frcF l fun l => K ((t, a) :: l)
theorem frcF_ok : ∀ {l : List (Nat × AV)} {K : List (Nat × AV) → Prop}, frcF l K → K l
  | [], _, k => k
  | (_, a) :: t, _, k => by
    unfold frcF at k
    exact frcF_ok (l := t) (frcA_ok 3 a k)
def frc1 : List (Nat × AV) → (List (Nat × AV) → Prop) → Prop
  | [], K => K []
  | x :: l, K => K (x :: l)
theorem frc1_ok : ∀ {l : List (Nat × AV)} {K : List (Nat × AV) → Prop}, frc1 l K → K l
  | [], _, k => k
  | _ :: _, _, k => k
def frcOs : List Obj → (List Obj → Prop) → Prop
  | [], K => K []
  | o :: os, K => frcO o fun o => frcOs os fun os => K (o :: os)
theorem frcOs_ok : ∀ {os : List Obj} {K : List Obj → Prop}, frcOs os K → K os
  | [], _, k => k
  | o :: os, _, k => by
    unfold frcOs at k
    exact frcOs_ok (os := os) (frcO_ok k)
def frcS (st : St) (K : St → Prop) : Prop := match st with
  | ⟨fr, hp, nx⟩ => frcF fr fun fr => frcH hp fun hp => frcN nx fun nx => K ⟨fr, hp, nx⟩
theorem frcS_ok {st : St} {K : St → Prop} (h : frcS st K) : K st := by
  obtain ⟨fr, hp, nx⟩ := st
  exact frcN_ok (frcH_ok (frcF_ok h))
/-- The same, of a state whose slots are plain. -/
def frcT (st : St) (K : St → Prop) : Prop := match st with
  | ⟨fr, hp, nx⟩ => frc1 fr fun fr => frcH hp fun hp => frcN nx fun nx => K ⟨fr, hp, nx⟩
theorem frcT_ok {st : St} {K : St → Prop} (h : frcT st K) : K st := by
  obtain ⟨fr, hp, nx⟩ := st
  exact frcN_ok (frcH_ok (frc1_ok h))
end Go.V
