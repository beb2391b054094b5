/- The second floor, part Q2: code. No function of the program is proved here. -/
import Derived.Test.YtlgbdfcipfekhaaJuC
set_option linter.unusedVariables false
set_option linter.unusedSimpArgs false
set_option linter.unnecessarySimpa false
set_option linter.unusedSectionVars false
set_option linter.all false
/- The second floor, part Q2: code. No function of the program is proved here. -/
namespace Go.V
open Go.Eng

section
variable {P : Program} {N : Nat} {T : TypeId → Option TI} {I J : Imm} {ρ ρ' : Nat → Value} {F : List Ent} {st : St} {fr : Frm} {L : List Ent} {E : Env}

/-! ## Where ways meet, and loops: what is kept of a state -/
def mkSt (keep : List Nat) (vs : List AV) (os : List Obj) : St := ⟨keep.zip vs, numb 0 os, os.length⟩
def snap (m : Nat) (keep : List Nat) (st : St) (K : List AV → List Obj → Prop) : Prop :=
  match evs st (keep.map .tmp) with
  | some as => match canon m st as with
    | some (_, vs, os) => K vs os
    | none => False
  | none => False

theorem zip_frr {ρ : Nat → Value} : ∀ {keep : List Nat} {us : List Value} {vs : List AV}, evL fr (keep.map .tmp) = some us → All2 (RelA I ρ) us vs → FrR I ρ (keep.zip vs) fr
  | [], us, vs, _, _ => fun t => .inl (by simp [lookA])
  | k :: keep, us, vs, h, hv => by
    simp only [List.map_cons] at h
    unfold evL at h
    split at h
    · rename_i u us' h1 h2
      simp at h; subst h
      cases vs with
      | nil => have := hv.1; simp at this
      | cons a vs =>
        obtain ⟨u', us'', e, x, y⟩ := hv.uncons
        simp at e
        obtain ⟨rfl, rfl⟩ := e
        intro t
        simp only [List.zip_cons_cons]
        rw [lookA_cons]
        by_cases e : k = t
        · subst e; rw [if_pos rfl]; exact .inr ⟨u, h1, x⟩
        · rw [if_neg e]; exact zip_frr h2 y t
    · cases h

theorem snap_ok {m : Nat} {keep : List Nat} {K : List AV → List Obj → Prop} (hs : SR I ρ F st fr L) (h : snap m keep st K) :
    ∃ vs os ρ' L', K vs os ∧ SR I ρ' F (mkSt keep vs os) fr L' ∧ (∀ w, HS I L w → HS I L' w) ∧ (∀ k, k < m → ρ' k = ρ k) ∧ m ≤ os.length := by
  unfold snap at h
  split at h
  · rename_i as has
    split at h
    · rename_i ls vs os hc
      obtain ⟨us, a1, a2⟩ := evs_ok hs has
      obtain ⟨Lc, Lr, hp, h1, h2, h3, h4, h5, h6, _⟩ := canon_ok hs hc
      refine ⟨vs, os, canρ ρ m ls, Lc ++ F, h, ⟨zip_frr a1 (h6 us a2), ⟨Lc, h1, rfl⟩, fun l hl => ?_⟩, fun w hw => ?_, fun k hk => by unfold canρ; rw [if_pos hk], by omega⟩
      · have hl' : os.length ≤ l := hl
        unfold canρ
        rw [if_neg (by omega), List.getElem?_eq_none (by omega)]
      · refine (hw.perm hp).sublist ?_
        exact (List.Sublist.refl Lc).append (List.sublist_append_right _ _)
    · exact h.elim
  · exact h.elim

inductive JoinI (m : Nat) (keep : List Nat) (st : St) (wa : St → (Exit → St → Prop) → Prop) (wb : St → (Exit → St → Prop) → Prop) (Q : Exit → St → Prop) : Prop where
  | mk (J : List AV → List Obj → Prop) (h : wa st (fun e st' => match e with
      | .normal => snap m keep st' J
      | e => Q e st')) (k : ∀ vs os, J vs os → wb (mkSt keep vs os) Q) : JoinI m keep st wa wb Q

inductive LoopI (m : Nat) (keep : List Nat) (st : St) (wc : St → (Exit → St → Prop) → Prop) (Q : Exit → St → Prop) : Prop where
  | mk (Inv : Nat → List AV → List Obj → Prop) (n : Nat) (h0 : snap m keep st (Inv n)) (step : ∀ n vs os, Inv n vs os → wc (mkSt keep vs os) (fun e st' => match e with
      | .normal => snap m keep st' (fun vs os => ∃ k, k < n ∧ Inv k vs os)
      | e => Q e st')) : LoopI m keep st wc Q

def firstReg : Code → Option Nat
  | .region id _ _ => some id
  | .seq a b => match firstReg a with
    | some r => some r
    | none => firstReg b
  | .cond _ a b => match firstReg a with
    | some r => some r
    | none => firstReg b
  | .block _ c | .loop c | .scope c => firstReg c
  | _ => none
def hook (l : List (Nat × List Nat)) (c : Code) : Option (List Nat) := match firstReg c with
  | some r => assoc l r
  | none => none

/-! ## Steps of ours -/
def ghW1 (st : St) : Gst → Option St
  | .own t e sz => match lookA st.fr t with
    | .d .nils => some ⟨(t, .sl st.nx) :: st.fr, (st.nx, .row e sz []) :: st.hp, st.nx + 1⟩
    | _ => some st
  | .fz t => match lookA st.fr t with
    | .sl l => match lookO st.hp l with
      | .row _ _ xs => some ⟨st.fr, setO st.hp l (.froz xs), st.nx⟩
      | _ => some st
    | .ptr l _ => match lookO st.hp l with
      | .arr _ cs => some ⟨st.fr, setO st.hp l (.fzn cs), st.nx⟩
      | _ => some st
    | _ => some st
  | .nl t => match lookA st.fr t with
    | .d .nils => some ⟨(t, .d (.ro [])) :: st.fr, st.hp, st.nx⟩
    | _ => some st
def ghW : List Gst → St → Option St
  | [], st => some st
  | g :: gs, st => match ghW1 st g with
    | some st => ghW gs st
    | none => none

/-- A step of ours that may give new names. -/
def Gn (st st' : St) : Prop := ∀ I ρ F fr L w, SR I ρ F st fr L → HS I L w → ∃ I' ρ' L', I.le I' ∧ SR I' ρ' F st' fr L' ∧ HS I' L' w ∧ Ag ρ ρ'
theorem Gh.gn {st' : St} (h : Gh st st') : Gn st st' := fun I ρ F fr L w hs hw => by
  obtain ⟨I', L', a, b, c⟩ := h I ρ F fr L w hs hw
  exact ⟨I', ρ, L', a, b, c, Ag.refl⟩
theorem Gn.refl : Gn st st := Gh.refl.gn
theorem Gn.trans {s1 s2 s3 : St} (h : Gn s1 s2) (k : Gn s2 s3) : Gn s1 s3 := fun I ρ F fr L w hs hw => by
  obtain ⟨I1, ρ1, L1, a, b, c, d⟩ := h I ρ F fr L w hs hw
  obtain ⟨I2, ρ2, L2, e, f, g, i⟩ := k I1 ρ1 F fr L1 w b c
  exact ⟨I2, ρ2, L2, a.trans e, f, g, d.trans i⟩
theorem ghW1_ok {g : Gst} {st' : St} (h : ghW1 st g = some st') : Gn st st' := by
  unfold ghW1 at h
  split at h
  · rename_i t e sz
    split at h
    · rename_i hl
      simp at h; subst h
      intro I ρ F fr L w hs hw
      obtain ⟨h1, h2⟩ := hs.nilRow hw e sz
      refine ⟨I, _, _, Imm.le_refl _, ⟨?_, h1.hpr, h1.new⟩, h2, bind_agree (hs.new _ (Nat.le_refl _))⟩
      intro k
      rw [lookA_cons]
      by_cases e : t = k
      · subst e
        rw [if_pos rfl]
        rcases hs.frr t with h3 | ⟨v, h3, h4⟩
        · rw [hl] at h3; cases h3
        · rw [hl] at h4
          cases h4 with
          | d h4 => cases h4; exact .inr ⟨_, h3, .sl bind_self⟩
      · rw [if_neg e]; exact h1.frr k
    · simp at h; subst h; exact .refl
  · split at h
    · split at h
      · rename_i hl; simp at h; subst h; exact (Gh.freeze hl).gn
      · simp at h; subst h; exact .refl
    · split at h
      · rename_i hl; simp at h; subst h; exact (Gh.freezeArr hl).gn
      · simp at h; subst h; exact .refl
    · simp at h; subst h; exact .refl
  · rename_i t
    split at h
    · rename_i hl
      simp at h; subst h
      intro I ρ F fr L w hs hw
      refine ⟨I, ρ, L, Imm.le_refl _, ⟨fun k => ?_, hs.hpr, hs.new⟩, hw, Ag.refl⟩
      rw [lookA_cons]
      by_cases e : t = k
      · subst e
        rw [if_pos rfl]
        rcases hs.frr t with h3 | ⟨v, h3, h4⟩
        · rw [hl] at h3; cases h3
        · rw [hl] at h4
          cases h4 with
          | d h4 => cases h4; exact .inr ⟨_, h3, .d relD_ro_nil⟩
      · rw [if_neg e]; exact hs.frr k
    · simp at h; subst h; exact .refl
theorem ghW_ok : ∀ {gs : List Gst} {st st' : St}, ghW gs st = some st' → Gn st st'
  | [], st, st', h => by simp [ghW] at h; subst h; exact .refl
  | g :: gs, st, st', h => by
    unfold ghW at h
    split at h
    · rename_i st1 h1; exact (ghW1_ok h1).trans (ghW_ok h)
    · cases h

def ghosts (l : List (Nat × List Gst)) (id : Nat) (st : St) (K : St → Prop) : Prop := match assoc l id with
  | none => K st
  | some gs => match ghW gs st with
    | some st => K st
    | none => False
theorem ghosts_ok {l : List (Nat × List Gst)} {id : Nat} {K : St → Prop} (h : ghosts l id st K) : ∃ st', Gn st st' ∧ K st' := by
  unfold ghosts at h
  split at h
  · exact ⟨st, .refl, h⟩
  · split at h
    · rename_i st' h1; exact ⟨st', ghW_ok h1, h⟩
    · exact h.elim

/-! ## Results -/
def resA (E : Env) (st : St) : List ResultVar → (List AV → Prop) → Prop
  | [], K => K []
  | .tmp t :: rs, K => okA (ev st (.tmp t)) (fun a => resA E st rs (fun as => K (a :: as)))
  | .cell a ty :: rs, K => match ev st (.tmp a), E.T ty with
    | .ptr l 0, some i => match lookO st.hp l with
      | .vec _ cs => match i.td.one with
        | true => getA cs 0 (fun a => okA (normA st.hp a) (fun a => resA E st rs (fun as => K (a :: as))))
        | false => bif Nat.beq cs.length i.size then okA (packA (cs.map (normA st.hp))) (fun a => resA E st rs (fun as => K (a :: as))) else False
      | .arr _ cs => match i.td.one with
        | true => False
        | false => cs.length = i.size ∧ resA E st rs (fun as => K (.d (.agg cs) :: as))
      | _ => False
    | _, _ => False

def fzAgg (st : St) : List AV → St
  | [] => st
  | .agg cs :: as => fzAgg (fzArgs cs st) as
  | _ :: as => fzAgg st as
theorem fzAgg_ok : ∀ (as : List AV) (st : St), Gh st (fzAgg st as)
  | [], _ => .refl
  | a :: as, st => by
    cases a with
    | agg cs => exact (fzArgs_ok cs st).1.trans (fzAgg_ok as _)
    | _ => exact fzAgg_ok as st

def deepN (hp : List (Nat × Obj)) : AV → AV
  | .agg cs => packA (cs.map (normA hp))
  | a => a
def tupA : List AV → AV
  | [a] => a
  | as => .tup as

def retW (E : Env) (Q : AV → List Obj → Prop) (e : Exit) (st : St) : Prop := match e with
  | .ret | .normal => resA E st E.rs (fun as => match canon E.m st [tupA (as.map (deepN st.hp))] with
    | some (_, [r], os) => Q r os
    | _ => False)
  | _ => False

def wp (E : Env) : Code → St → (Exit → St → Prop) → Prop
  | .skip, st, Q => Q .normal st
  | .exit id, st, Q => Q (.exit id) st
  | .ret, st, Q => resA E st E.rs (fun as => frcT (fzAgg st as) fun st => Q .ret st)
  | .seq a b, st, Q => match hook E.joins b with
    | some keep => JoinI E.m keep st (fun st Q => wp E a st Q) (fun st Q => wp E b st Q) Q
    | none => wp E a st (fun e st' => match e with
      | .normal => wp E b st' Q
      | e => Q e st')
  | .region id ops false, st, Q => ghosts E.ghosts id st (fun st => frcS st fun st => opsW E ops ops.toList st (fun st => ghosts E.ghosts (id + 1000000) st (fun st => Q .normal st)))
  | .region id ops true, st, Q => ghosts E.ghosts id st (fun st => frcS st fun st => DrawI E ops st (fun st => ghosts E.ghosts (id + 1000000) st (fun st => Q .normal st)))
  | .cond c a b, st, Q => match ev st c with
    | .d (.bool t) => cond t (wp E a st Q) (wp E b st Q)
    | _ => False
  | .block id c, st, Q => wp E c st (fun e st' => match e with
    | .exit j => bif Nat.beq j id then Q .normal st' else Q (.exit j) st'
    | e => Q e st')
  | .loop c, st, Q => match hook E.loops c with
    | some keep => LoopI E.m keep st (fun st Q => wp E c st Q) Q
    | none => False
  | _, _, _ => False
end
end Go.V

/- The second floor, part R: code is right. No function of the program is proved here. -/
namespace Go.V
open Go.Eng

section
variable {P : Program} {N : Nat} {T : TypeId → Option TI} {I J : Imm} {ρ ρ' : Nat → Value} {F : List Ent} {st : St} {fr : Frm} {L : List Ent} {E : Env}

theorem resA_ex : ∀ {rs : List ResultVar} {K : List AV → Prop}, resA E st rs K → ∃ as, K as
  | [], K, h => ⟨[], h⟩
  | .tmp t :: rs, K, h => by
    unfold resA at h
    obtain ⟨_, h⟩ := okA_ok h
    obtain ⟨as, h⟩ := resA_ex h; exact ⟨_, h⟩
  | .cell a ty :: rs, K, h => by
    unfold resA at h
    split at h
    · rename_i l i hp hi
      split at h
      · rename_i t cs hl
        split at h
        · obtain ⟨c, _, h⟩ := getA_ok h
          obtain ⟨as, h⟩ := resA_ex (okA_ok h).2; exact ⟨_, h⟩
        · cases hc : Nat.beq cs.length i.size with
          | false => rw [hc] at h; exact h.elim
          | true => rw [hc] at h; obtain ⟨as, h⟩ := resA_ex (okA_ok h).2; exact ⟨_, h⟩
      · split at h
        · exact h.elim
        · obtain ⟨as, h⟩ := resA_ex h.2; exact ⟨_, h⟩
      · exact h.elim
    · exact h.elim

/-- What holds behind a piece of code. -/
def PS (m : Nat) (I : Imm) (ρ : Nat → Value) (F : List Ent) (Q : Exit → St → Prop) : Post := fun e fr' I' L' => I.le I' ∧ ∃ ρ' st', SR I' ρ' F st' fr' L' ∧ (∀ k, k < m → ρ k ≠ .nilFunc → ρ' k = ρ k) ∧ Q e st'
theorem PS.trans {m : Nat} {J : Imm} {Q : Exit → St → Prop} {e : Exit} {fr : Frm} {I' : Imm} {L' : List Ent} (hle : I.le J) (ha : ∀ k, k < m → ρ k ≠ .nilFunc → ρ' k = ρ k) (h : PS m J ρ' F Q e fr I' L') : PS m I ρ F Q e fr I' L' := by
  obtain ⟨h1, ρ2, st', h2, h3, h4⟩ := h
  exact ⟨hle.trans h1, ρ2, st', h2, fun k hk hne => by have e := ha k hk hne; rw [h3 k hk (by rw [e]; exact hne), e], h4⟩

theorem Cd.mono {c : Code} {Q Q' : Post} (h : Cd P N c fr I L Q) (k : ∀ e fr I L, Q e fr I L → Q' e fr I L) : Cd P N c fr I L Q' := fun a w ha hw => wp_mono (h a w ha hw) (fun e a' w' ⟨fr', I', L', h1, h2, h3⟩ => ⟨fr', I', L', h1, h2, k _ _ _ _ h3⟩)

theorem Cd.gn {m : Nat} {c : Code} {st' : St} {Q : Exit → St → Prop} (g : Gn st st') (h : ∀ I ρ F fr L, SR I ρ F st' fr L → Cd P N c fr I L (PS m I ρ F Q)) : ∀ I ρ F fr L, SR I ρ F st fr L → Cd P N c fr I L (PS m I ρ F Q) := by
  intro I ρ F fr L hs a w ha hw
  obtain ⟨I1, ρ1, L1, hle, hs1, hw1, hag⟩ := g I ρ F fr L w hs hw
  exact wp_mono (h I1 ρ1 F fr L1 hs1 a w ha hw1) (fun e a' w' ⟨fr', I', L', h1, h2, h3⟩ => ⟨fr', I', L', h1, h2, h3.trans hle (fun k _ hk => hag k hk)⟩)

theorem PS.ag {m : Nat} {Q : Exit → St → Prop} {K : St → Prop} {e : Exit} {I' : Imm} {L' : List Ent} (h : KS I ρ F K fr I' L') (hk : ∀ st, K st → Q e st) : PS m I ρ F Q e fr I' L' := by
  obtain ⟨h1, ρ', st', h2, h3, h4⟩ := h
  exact ⟨h1, ρ', st', h2, fun k _ hk => h3 k hk, hk _ h4⟩

def nrmQ (m : Nat) (keep : List Nat) (J : List AV → List Obj → Prop) (Q : Exit → St → Prop) (e : Exit) (st' : St) : Prop := match e with
  | .normal => snap m keep st' J
  | e => Q e st'

/-- Steps of ours behind a region. -/
def ghQ (E : Env) (id : Nat) (Q : Exit → St → Prop) (e : Exit) (st : St) : Prop := match e with
  | .normal => ghosts E.ghosts (id + 1000000) st (fun st => Q .normal st)
  | e => Q e st
theorem ghQ_ok {m id : Nat} {c : Code} {Q : Exit → St → Prop} (h : Cd P N c fr I L (PS m I ρ F (ghQ E id Q))) : Cd P N c fr I L (PS m I ρ F Q) := by
  intro a w ha hw
  refine wp_mono (h a w ha hw) (fun e a' w' ⟨fr', I', L', h1, h2, hle, ρ', st', h3, h4, h5⟩ => ?_)
  cases e with
  | normal =>
    obtain ⟨st2, g, h6⟩ := ghosts_ok h5
    obtain ⟨I2, ρ2, L2, hle2, hs2, hw2, hag⟩ := g I' ρ' F fr' L' w' h3 h2
    exact ⟨fr', I2, L2, h1, hw2, hle.trans hle2, ρ2, st2, hs2, fun k hk hne => by have e := h4 k hk hne; rw [hag k (by rw [e]; exact hne), e], h6⟩
  | _ => exact ⟨fr', I', L', h1, h2, hle, ρ', st', h3, h4, h5⟩

theorem wp_ok (hT : TOk E.P E.T) : ∀ (c : Code) {st : St} {Q : Exit → St → Prop}, wp E c st Q → ∀ I ρ F fr L, SR I ρ F st fr L → Cd E.P E.N c fr I L (PS E.m I ρ F Q) := by
  intro c
  induction c with
  | skip => intro st Q h I ρ F fr L hs; exact Cd.skip ⟨Imm.le_refl _, ρ, st, hs, fun _ _ _ => rfl, h⟩
  | exit id => intro st Q h I ρ F fr L hs; exact Cd.exit ⟨Imm.le_refl _, ρ, st, hs, fun _ _ _ => rfl, h⟩
  | ret =>
    intro st Q h
    unfold wp at h
    obtain ⟨as, h⟩ := resA_ex h
    replace h := frcT_ok h
    exact Cd.gn (m := E.m) (Q := Q) (fzAgg_ok as st).gn (fun I ρ F fr L hs => Cd.ret ⟨Imm.le_refl _, ρ, _, hs, fun _ _ _ => rfl, h⟩)
  | region id ops dr =>
    intro st Q h
    cases dr with
    | true =>
      obtain ⟨st', g, h⟩ := ghosts_ok h
      replace h := frcS_ok h
      refine Cd.gn (m := E.m) (Q := Q) g (fun I ρ F fr L hs => ?_)
      have := DrawI.ok (id := id) (l := ops.toList) (Q := PS E.m I ρ F (ghQ E id Q)) (K := fun st => ghosts E.ghosts (id + 1000000) st (fun st => Q .normal st)) hT hT.mix (by simpa using h) hs (fun fr I' L' hk => PS.ag hk (fun _ h => h))
      exact ghQ_ok (by simpa using this)
    | false =>
      obtain ⟨st', g, h⟩ := ghosts_ok h
      replace h := frcS_ok h
      refine Cd.gn (m := E.m) (Q := Q) g (fun I ρ F fr L hs => ?_)
      have := Cd.region (id := id) (l := ops.toList) (Q := PS E.m I ρ F (ghQ E id Q)) ((opsW_ok hT h I ρ F fr L hs).imp (fun fr I' L' hk => PS.ag hk (fun _ h => h)))
      exact ghQ_ok (by simpa using this)
  | seq a b iha ihb =>
    intro st Q h
    unfold wp at h
    split at h
    · rename_i keep hk
      obtain ⟨J, h1, h2⟩ := h
      intro I ρ F fr L hs
      refine Cd.seq (Cd.mono (iha h1 I ρ F fr L hs) (fun e fr' I' L' hp => ?_))
      obtain ⟨hle, ρ', st', hs', hag, hq⟩ := hp
      cases e with
      | normal =>
        obtain ⟨vs, os, ρ2, L2, hj, hs2, hw2, hag2, _⟩ := snap_ok hs' hq
        intro a w ha hw
        exact wp_mono (ihb (h2 vs os hj) I' ρ2 F fr' L2 hs2 a w ha (hw2 w hw)) (fun e a' w' ⟨fr3, I3, L3, x1, x2, x3⟩ => ⟨fr3, I3, L3, x1, x2, x3.trans hle (fun k hk hne => by rw [hag2 k hk]; exact hag k hk hne)⟩)
      | _ => exact ⟨hle, ρ', st', hs', hag, hq⟩
    · intro I ρ F fr L hs
      refine Cd.seq (Cd.mono (iha h I ρ F fr L hs) (fun e fr' I' L' hp => ?_))
      obtain ⟨hle, ρ', st', hs', hag, hq⟩ := hp
      cases e with
      | normal => exact Cd.mono (ihb hq I' ρ' F fr' L' hs') (fun e fr I L hp => PS.trans hle hag hp)
      | _ => exact ⟨hle, ρ', st', hs', hag, hq⟩
  | cond o a b iha ihb =>
    intro st Q h I ρ F fr L hs
    unfold wp at h
    split at h
    · rename_i t ht
      obtain ⟨v, h1, h2⟩ := ev_ok hs ht (by simp)
      obtain rfl := ra_bool h2
      refine Cd.cond h1 (fun e => ?_) (fun e => ?_)
      · rw [e] at h; exact iha h I ρ F fr L hs
      · rw [e] at h; exact ihb h I ρ F fr L hs
    · exact h.elim
  | block id c ih =>
    intro st Q h I ρ F fr L hs
    refine Cd.block (Cd.mono (ih h I ρ F fr L hs) (fun e fr' I' L' hp => ?_))
    obtain ⟨hle, ρ', st', hs', hag, hq⟩ := hp
    cases e with
    | exit j =>
      simp only [blkQ]
      split
      · rename_i e; subst e
        refine ⟨hle, ρ', st', hs', hag, ?_⟩
        simpa using hq
      · rename_i e
        refine ⟨hle, ρ', st', hs', hag, ?_⟩
        have : Nat.beq j id = false := by rw [beq_eq]; simpa using e
        simpa [this] using hq
    | _ => exact ⟨hle, ρ', st', hs', hag, hq⟩
  | loop c ih =>
    intro st Q h I ρ F fr L hs
    unfold wp at h
    split at h
    · rename_i keep hk
      obtain ⟨Inv, n, h0, step⟩ := h
      intro a w ha hw
      obtain ⟨vs, os, ρ2, L2, hj, hs2, hw2, hag2, _⟩ := snap_ok hs h0
      refine wp_loop_rel (fun n a w => ∃ vs os I' ρ' fr' L', Inv n vs os ∧ SR I' ρ' F (mkSt keep vs os) fr' L' ∧ Fr E.N fr' a ∧ HS I' L' w ∧ I.le I' ∧ (∀ k, k < E.m → ρ k ≠ .nilFunc → ρ' k = ρ k)) (n := n)
        ⟨vs, os, I, ρ2, fr, L2, hj, hs2, ha, hw2 w hw, Imm.le_refl _, fun k hk _ => hag2 k hk⟩ ?_
      rintro n a w ⟨vs, os, I', ρ', fr', L', hinv, hs', ha', hw', hle, hag⟩
      refine wp_mono (ih (step n vs os hinv) I' ρ' F fr' L' hs' a w ha' hw') ?_
      rintro e a2 w2 ⟨fr3, I3, L3, x1, x2, x3⟩
      obtain ⟨hle3, ρ3, st3, hs3, hag3, hq⟩ := x3
      have hagt : ∀ k, k < E.m → ρ k ≠ .nilFunc → ρ3 k = ρ k := fun k hk hne => by
        have e := hag k hk hne; rw [hag3 k hk (by rw [e]; exact hne), e]
      cases e with
      | normal =>
        obtain ⟨vs4, os4, ρ4, L4, ⟨k, hlt, hj4⟩, hs4, hw4, hag4, _⟩ := snap_ok hs3 hq
        exact ⟨k, hlt, vs4, os4, I3, ρ4, fr3, L4, hj4, hs4, x1, hw4 _ x2, hle.trans hle3, fun k hk hne => by rw [hag4 k hk]; exact hagt k hk hne⟩
      | _ => exact ⟨fr3, I3, L3, x1, x2, hle.trans hle3, ρ3, st3, hs3, hagt, hq⟩
    · exact h.elim
  | scope c ih => intro st Q h; exact (h : False).elim
  | rangeFunc _ _ _ _ _ _ => intro st Q h; exact (h : False).elim
  | label _ => intro st Q h; exact (h : False).elim
  | goto _ => intro st Q h; exact (h : False).elim
  | refuse _ => intro st Q h; exact (h : False).elim

/-! ## A function -/
def argS : Nat → List AV → List (Nat × AV)
  | _, [] => []
  | i, a :: as => (i, a) :: argS (i + 1) as
theorem argS_frr : ∀ {vs : List AV} {us : List Value} {i : Nat}, All2 (RelA I ρ) us vs → FrR I ρ (argS i vs) (argF i us)
  | [], us, i, _ => fun t => .inl (by simp [argS, lookA])
  | a :: as, us, i, h => by
    obtain ⟨u, us', rfl, x, y⟩ := h.uncons
    simp only [argS, argF]
    exact (argS_frr y).put i x

theorem tupA_ok {us : List Value} {as : List AV} (h : All2 (RelA I ρ) us as) : RelA I ρ (tupV us) (tupA as) := by
  match us, as, h with
  | [u], [a], h => exact h.2 0 u a rfl rfl
  | [], [], h => exact .tup rfl (fun j u y hj => by simp at hj)
  | u :: u2 :: us, a :: a2 :: as, h => exact .tup h.1 h.2
  | [], _ :: _, h => have := h.1; simp at this
  | [_], [], h => have := h.1; simp at this
  | [_], _ :: _ :: _, h => have := h.1; simp at this
  | _ :: _ :: _, [], h => have := h.1; simp at this
  | _ :: _ :: _, [_], h => have := h.1; simp at this

theorem deepN_ok (hs : SR I ρ F st fr L) {v : Value} {a : AV} (h : RelA I ρ v a) : RelA I ρ v (deepN st.hp a) := by
  cases a with
  | agg cs =>
    cases h with
    | agg hl h1 hx =>
      refine packA_ok ⟨by simpa using hl, fun j u y hu hy => ?_⟩ h1
      rw [List.getElem?_map] at hy
      cases hj : cs[j]? with
      | none => rw [hj] at hy; cases hy
      | some b => rw [hj] at hy; simp at hy; subst hy; exact normA_ok hs (hx j u b hu hj)
  | _ => exact h

theorem resA_ok (hT : TOk E.P E.T) : ∀ {rs : List ResultVar} {K : List AV → Prop}, resA E st rs K → ∃ as, K as ∧ ∀ {I : Imm} {ρ : Nat → Value} {F : List Ent} {fr : Frm} {L : List Ent}, SR I ρ F st fr L → ∃ us, ResOK E.P fr L rs us ∧ All2 (RelA I ρ) us as
  | [], K, h => ⟨[], h, fun _ => ⟨[], .nil, .nil⟩⟩
  | .tmp t :: rs, K, h => by
    unfold resA at h
    obtain ⟨hu, h⟩ := okA_ok h
    obtain ⟨as, h, hr⟩ := resA_ok hT h
    refine ⟨_, h, fun hs => ?_⟩
    obtain ⟨us, h1, h2⟩ := hr hs
    obtain ⟨v, x1, x2⟩ := ev_ok hs rfl (x := .tmp t) hu
    exact ⟨v :: us, .tmp x1 h1, .cons x2 h2⟩
  | .cell a ty :: rs, K, h => by
    unfold resA at h
    split at h
    · rename_i l i hp hi
      obtain ⟨desc, info, zv, hu, htd, hinf, hz, hsz, hby, hzs, hzc, hzu⟩ := hT.ok ty i hi
      have hob : oneB desc = i.td.one := by rw [td_one, htd]
      split at h
      · rename_i t cs hl
        split at h
        · rename_i hb
          obtain ⟨c, hc, h⟩ := getA_ok h
          replace h := (okA_ok h).2
          obtain ⟨as, h, hr⟩ := resA_ok hT h
          refine ⟨_, h, fun hs => ?_⟩
          obtain ⟨us, h1, h2⟩ := hr hs
          obtain ⟨v, x1, x2⟩ := ev_ok hs hp (by simp)
          obtain ⟨es, ho, hm⟩ := hs.obj l
          rw [hl] at ho
          obtain ⟨b, ws, r1, r2, r3, rfl⟩ := ho
          cases x2 with
          | ptr x2 =>
            rw [r1] at x2; simp only [Value.pointer.injEq, Option.some.injEq, Addr.mk.injEq, and_true] at x2; subst x2
            obtain ⟨u, q1, q2⟩ := r2.get hc
            exact ⟨u :: us, .one x1 (hm _ List.mem_cons_self) hu (by rw [hob, hb]) q1 h1, .cons (normA_ok hs q2) h2⟩
        · rename_i hb
          cases hc : Nat.beq cs.length i.size with
          | false => rw [hc] at h; exact h.elim
          | true =>
            rw [hc] at h
            have e1 := Nat.eq_of_beq_eq_true hc
            replace h := (okA_ok h).2
            obtain ⟨as, h, hr⟩ := resA_ok hT h
            refine ⟨_, h, fun hs => ?_⟩
            obtain ⟨us, h1, h2⟩ := hr hs
            obtain ⟨v, x1, x2⟩ := ev_ok hs hp (by simp)
            obtain ⟨es, ho, hm⟩ := hs.obj l
            rw [hl] at ho
            obtain ⟨b, ws, r1, r2, r3, rfl⟩ := ho
            cases x2 with
            | ptr x2 =>
              rw [r1] at x2; simp only [Value.pointer.injEq, Option.some.injEq, Addr.mk.injEq, and_true] at x2; subst x2
              refine ⟨_ :: us, .agg x1 (hm _ List.mem_cons_self) hu (by rw [hob, hb]) (run_ti hinf) (by rw [hsz, r2.1, e1]) h1, .cons (packA_ok ⟨by simpa using r2.1, fun j u y hu hy => ?_⟩ r3) h2⟩
              rw [List.getElem?_map] at hy
              cases hj : cs[j]? with
              | none => rw [hj] at hy; cases hy
              | some b => rw [hj] at hy; simp at hy; subst hy; exact normA_ok hs (r2.2 j u b hu hj)
      · rename_i t cs hl
        split at h
        · exact h.elim
        · rename_i hb
          obtain ⟨hlen, h⟩ := h
          obtain ⟨as, h, hr⟩ := resA_ok hT h
          refine ⟨_, h, fun hs => ?_⟩
          obtain ⟨us, h1, h2⟩ := hr hs
          obtain ⟨v, x1, x2⟩ := ev_ok hs hp (by simp)
          obtain ⟨es, ho, hm⟩ := hs.obj l
          rw [hl] at ho
          obtain ⟨b, ws, r1, r2, r3, rfl⟩ := ho
          cases x2 with
          | ptr x2 =>
            rw [r1] at x2; simp only [Value.pointer.injEq, Option.some.injEq, Addr.mk.injEq, and_true] at x2; subst x2
            exact ⟨_ :: us, .agg x1 (hm _ List.mem_cons_self) hu (by rw [hob, hb]) (run_ti hinf) (by rw [hsz, r2.1, hlen]) h1, .cons (.d (.agg r2.1 r3 r2.2)) h2⟩
      · exact h.elim
    · exact h.elim
theorem finQ_of {P : Program} {I0 : Imm} {F : List Ent} {rs : List ResultVar} {post : Value → Imm → List Ent → Prop} {e : Exit} (he : e = .ret ∨ e = .normal) {us : List Value} {L' : List Ent} (hv : ResOK P fr L rs us) (hle : I0.le I) (hh : Have L (L' ++ F)) (hp : post (tupV us) I L') : finQ P I0 F rs post e fr I L := by
  rcases he with rfl | rfl
  · exact ⟨us, L', hv, hle, hp, hh⟩
  · exact ⟨us, L', hv, hle, hp, hh⟩

theorem Have.skips : ∀ (B : List Ent) {C : List Ent}, Have (B ++ C) C
  | [], _ => .refl
  | _ :: B, _ => .skip (Have.skips B)
theorem Have.of_perm {A B C : List Ent} (h : L.Perm (A ++ (B ++ C))) : Have L (A ++ C) := Have.perm h (Have.app (Have.skips B))

/-! ## What is known of values that come in -/
def ok0 : D → Prop
  | .int k n => InR k n
  | .str s => s.length ≤ 9223372036854775807
  | .ro xs => xs.length ≤ 9223372036854775807
  | _ => True
def okX : D → Prop
  | .int k n => InR k n
  | .str s => s.length ≤ 9223372036854775807
  | .ro xs => xs.length ≤ 9223372036854775807 ∧ ∀ y ∈ cellsOf xs, ok0 y
  | .agg cs => ∀ y ∈ cs, ok0 y
  | _ => True
def okV : AV → Prop
  | .d x => okX x
  | _ => True
def InV : List AV → Prop
  | [] => True
  | a :: as => okV a ∧ InV as
theorem RelD.ok0 {v : Value} {x : D} (h : RelD I v x) : V.ok0 x := by
  cases h with
  | int h => exact h
  | str h => exact h
  | ro hn hc hm => subst hn; exact hm
  | _ => trivial
theorem RelD.okX {v : Value} {x : D} (h : RelD I v x) : V.okX x := by
  cases h with
  | int h => exact h
  | str h => exact h
  | ro hn hc hm hz hr hl h1 hx =>
    subst hn
    refine ⟨hm, fun y hy => ?_⟩
    obtain ⟨j, hj, rfl⟩ := List.getElem_of_mem hy
    exact RelD.ok0 (hx j _ _ (List.getElem?_eq_getElem (by rw [hl]; exact hj)) (List.getElem?_eq_getElem hj))
  | agg hl h1 hx =>
    intro y hy
    obtain ⟨j, hj, rfl⟩ := List.getElem_of_mem hy
    exact RelD.ok0 (hx j _ _ (List.getElem?_eq_getElem (by rw [hl]; exact hj)) (List.getElem?_eq_getElem hj))
  | _ => trivial
theorem inV_ok : ∀ {vs : List AV} {us : List Value}, All2 (RelA I ρ) us vs → InV vs
  | [], _, _ => trivial
  | a :: as, us, h => by
    obtain ⟨u, us', rfl, x, y⟩ := h.uncons
    refine ⟨?_, inV_ok y⟩
    cases x with
    | d x => exact x.okX
    | _ => trivial
theorem inr_u64 {n : Int} (h : InR .u64 n) : 0 ≤ n ∧ n ≤ 18446744073709551615 := h
theorem inr_i64' {n : Int} (h : InR .i64 n) : -9223372036854775808 ≤ n ∧ n ≤ 9223372036854775807 := h

/-- A contract, by a function's code. -/
theorem Ct.intro (hT : TOk E.P E.T) {f : FuncId} {fn : Func} {c : Code} {vs : List AV} {os : List Obj} {Q : AV → List Obj → Prop} (hc : ∀ as w, (callFunc f as).run E.P w = .ok (.enter f as) w)
    (hf : E.P.funcs[f]? = some fn) (hb : fn.body = some c) (hN : fn.ntmps = E.N) (hr : fn.results = E.rs.toArray) (hn : Nat.ble vs.length E.N = true) (hm : E.m = os.length)
    (h : InV vs → wp E c ⟨argS 0 vs, numb 0 os, os.length⟩ (retW E Q)) : Ct E.P f vs os Q := by
  refine ⟨hc, fun I ρ us L hargs hh hnew => ?_⟩
  refine Meets.intro (args := us) (N := E.N) (rs := E.rs) hf hb hN hr (by rw [hargs.1]; exact hn) (fun F => ?_)
  have hs : SR I ρ F ⟨argS 0 vs, numb 0 os, os.length⟩ (argF 0 us) (L ++ F) := ⟨argS_frr hargs, ⟨L, hh, rfl⟩, hnew⟩
  refine Cd.mono (wp_ok hT c (h (inV_ok hargs)) I ρ F (argF 0 us) (L ++ F) hs) (fun e fr' I' L' hp => ?_)
  obtain ⟨hle, ρ', st', hs', hag, hq⟩ := hp
  have main : (e = .ret ∨ e = .normal) → resA E st' E.rs (fun as => match canon E.m st' [tupA (as.map (deepN st'.hp))] with
    | some (_, [r], os) => Q r os
    | _ => False) → finQ E.P I F E.rs (fun v I' L' => ∃ ρ' r os', RelA I' ρ' v r ∧ RelH I' ρ' (numb 0 os') L' ∧ (∀ k, os'.length ≤ k → ρ' k = .nilFunc) ∧ os.length ≤ os'.length ∧ (∀ l, ρ l ≠ .nilFunc → ρ' l = ρ l) ∧ Q r os') e fr' I' L' := by
    intro he hq
    obtain ⟨as, hq, hres⟩ := resA_ok hT hq
    obtain ⟨rus, h1, h2⟩ := hres hs'
    split at hq
    · rename_i ls r os' hcan
      obtain ⟨Lc, Lr, hp, c1, c2, c3, c4, c5, c6, _⟩ := canon_ok hs' hcan
      have hdeep : All2 (RelA I' ρ') rus (as.map (deepN st'.hp)) := ⟨by simpa using h2.1, fun j u y hu hy => by
        rw [List.getElem?_map] at hy
        cases hj : as[j]? with
        | none => rw [hj] at hy; cases hy
        | some a => rw [hj] at hy; simp at hy; subst hy; exact deepN_ok hs' (h2.2 j u a hu hj)⟩
      have hr := c6 [tupV rus] (.one (tupA_ok hdeep))
      have hr1 : RelA I' (canρ ρ' E.m ls) (tupV rus) r := hr.2 0 _ _ rfl rfl
      refine finQ_of he h1 hle (Have.of_perm hp) ⟨canρ ρ' E.m ls, r, os', hr1, c1, fun k hk => ?_, by omega, fun l hl => ?_, hq⟩
      · unfold canρ
        rw [if_neg (by omega), List.getElem?_eq_none (by omega)]
      · have hlt : l < os.length := by
          rcases Nat.lt_or_ge l os.length with h | h
          · exact h
          · exact absurd (hnew l h) hl
        unfold canρ
        rw [if_pos (by omega)]
        exact hag l (by omega) hl
    · exact hq.elim
  cases e with
  | ret => exact main (.inl rfl) hq
  | normal => exact main (.inr rfl) hq
  | _ => exact (hq : False).elim
end
end Go.V

/- The second floor, part S: tables of types; how contracts are used. No function of the program is proved here. -/
namespace Go.V
open Go.Eng

def TOk1 (P : Program) (t : TypeId) (i : TI) : Prop := ∃ desc info zv, P.underlying t = some desc ∧ tdOf desc = i.td ∧ P.info? t = some info ∧ info.zero = some zv ∧ info.size = i.size ∧ info.bytes = i.bytes ∧ zv.cells.size = i.size ∧ constA zv = i.zero ∧ i.zero ≠ .undef
inductive TokL (P : Program) : List (Nat × TI) → Prop where
  | nil : TokL P []
  | cons {t : TypeId} {i : TI} {l : List (Nat × TI)} (h : TOk1 P t i) (k : TokL P l) : TokL P ((t, i) :: l)
theorem TOk.ofL {P : Program} {l : List (Nat × TI)} (hm : P.follows .mixedOrders = true) (h : TokL P l) : TOk P (fun t => assoc l t) := by
  refine ⟨fun t i hi => ?_, hm⟩
  induction h with
  | nil => simp [assoc] at hi
  | @cons t' i' l h _ ih =>
    simp only [assoc, beq_eq] at hi
    by_cases e : t' = t
    · subst e; simp at hi; subst hi; exact h
    · simp [e] at hi; exact ih hi

/-- What a function gives, outright. -/
def Is2 (r : AV) (os : List Obj) : AV → List Obj → Prop := fun r' os' => r = r' ∧ os = os'
theorem Is2.mk {r r' : AV} {os : List Obj} (h : r = r') : Is2 r os r' os := ⟨h, rfl⟩
theorem isInt {k : IntKind} {a b : Int} {os : List Obj} (h : b = a) : Is2 (.d (.int k a)) os (.d (.int k b)) os := by subst h; exact ⟨rfl, rfl⟩
theorem isBool {a b : Bool} {os : List Obj} (h : b = a) : Is2 (.d (.bool a)) os (.d (.bool b)) os := by subst h; exact ⟨rfl, rfl⟩
theorem Ct.use {P : Program} {f : FuncId} {vs : List AV} {os : List Obj} {r : AV} {os' : List Obj} {Q : AV → List Obj → Prop} (h : Ct P f vs os (Is2 r os')) (k : Q r os') : Ct P f vs os Q :=
  h.mono (fun r' os'' ⟨e1, e2⟩ => by subst e1; subst e2; exact k)
theorem again {Inv : Nat → List AV → List Obj → Prop} {n : Nat} {vs : List AV} {os : List Obj} (k : Nat) (hk : k < n) (h : Inv k vs os) : ∃ k, k < n ∧ Inv k vs os := ⟨k, hk, h⟩
theorem cond_i {c : Bool} {A B : Prop} (h : c = true → A) (k : c = false → B) : cond c A B := by cases c with
  | true => exact h rfl
  | false => exact k rfl
theorem cond_d {p : Prop} [Decidable p] {A B : Prop} (h : p → A) (k : ¬ p → B) : cond (decide p) A B := cond_i (fun e => h (of_decide_eq_true e)) (fun e => k (of_decide_eq_false e))
theorem cond_nd {p : Prop} [Decidable p] {A B : Prop} (h : ¬ p → A) (k : p → B) : cond (!decide p) A B := cond_i (fun e => h (by simpa using e)) (fun e => k (by simpa using e))
theorem cond_y {p : Prop} [Decidable p] {A B : Prop} (h : p) (k : A) : cond (decide p) A B := by rw [decide_eq_true h]; exact k
theorem cond_n {p : Prop} [Decidable p] {A B : Prop} (h : ¬ p) (k : B) : cond (decide p) A B := by rw [decide_eq_false h]; exact k
theorem Ct.args {P : Program} {f : FuncId} {vs vs' : List AV} {os : List Obj} {Q : AV → List Obj → Prop} (h : Ct P f vs' os Q) (k : ∀ I ρ us, All2 (RelA I ρ) us vs → All2 (RelA I ρ) us vs') : Ct P f vs os Q :=
  ⟨h.call, fun I ρ us L a b c => h.run I ρ us L (k I ρ us a) b c⟩
def nlA : AV → AV
  | .d .nils => .d (.ro [])
  | a => a
theorem Ct.nl {P : Program} {f : FuncId} {vs : List AV} {os : List Obj} {Q : AV → List Obj → Prop} (h : Ct P f (vs.map nlA) os Q) : Ct P f vs os Q :=
  h.args (fun I ρ us ⟨hl, hx⟩ => ⟨by simpa using hl, fun j u y hu hy => by
    rw [List.getElem?_map] at hy
    cases hj : vs[j]? with
    | none => rw [hj] at hy; cases hy
    | some a =>
      rw [hj] at hy; simp at hy; subst hy
      have := hx j u a hu hj
      unfold nlA
      split
      · cases this with | d h => cases h; exact .d relD_ro_nil
      · exact this⟩)
end Go.V

/- The second floor, part W: the same programs, without what slows their reckoning. No function of the program is proved here. -/
namespace Go.V
open Go.Eng
set_option maxRecDepth 100000

noncomputable def frcL_p : { g // g = @frcL } := ⟨_, by delta frcL; exact rfl⟩
noncomputable def frcLF := frcL_p.1
theorem frcL_f : @frcL = @frcLF := frcL_p.2.symm
noncomputable def frcA_p : { g // g = @frcA } := ⟨_, by delta frcA; exact rfl⟩
noncomputable def frcAF := frcA_p.1
theorem frcA_f : @frcA = @frcAF := frcA_p.2.symm
noncomputable def frcAs_p : { g // g = @frcAs } := ⟨_, by delta frcAs; exact rfl⟩
noncomputable def frcAsF := frcAs_p.1
theorem frcAs_f : @frcAs = @frcAsF := frcAs_p.2.symm
noncomputable def frcO_p : { g // g = @frcO } := ⟨_, by delta frcO; rw [frcAs_f]⟩
noncomputable def frcOF := frcO_p.1
theorem frcO_f : @frcO = @frcOF := frcO_p.2.symm
noncomputable def frcOs_p : { g // g = @frcOs } := ⟨_, by delta frcOs; delta frcOs._f; rw [frcO_f]⟩
noncomputable def frcOsF := frcOs_p.1
theorem frcOs_f : @frcOs = @frcOsF := frcOs_p.2.symm
noncomputable def frcH_p : { g // g = @frcH } := ⟨_, by delta frcH; delta frcH._f; rw [frcO_f]⟩
noncomputable def frcHF := frcH_p.1
theorem frcH_f : @frcH = @frcHF := frcH_p.2.symm
noncomputable def frcF_p : { g // g = @frcF } := ⟨_, by delta frcF; delta frcF._f; rw [frcA_f]⟩
noncomputable def frcFF := frcF_p.1
theorem frcF_f : @frcF = @frcFF := frcF_p.2.symm
noncomputable def frcS_p : { g // g = @frcS } := ⟨_, by delta frcS; rw [frcF_f, frcH_f]⟩
noncomputable def frcSF := frcS_p.1
theorem frcS_f : @frcS = @frcSF := frcS_p.2.symm
noncomputable def frcT_p : { g // g = @frcT } := ⟨_, by delta frcT; rw [frcH_f]⟩
noncomputable def frcTF := frcT_p.1
theorem frcT_f : @frcT = @frcTF := frcT_p.2.symm
noncomputable def callW_p : { g // g = @callW } := ⟨_, by delta callW; rw [frcAs_f, frcT_f, frcL_f, frcOs_f]⟩
noncomputable def callWF := callW_p.1
theorem callW_f : @callW = @callWF := callW_p.2.symm
noncomputable def stepW_p : { g // g = @stepW } := ⟨_, by delta stepW; rw [callW_f]⟩
noncomputable def stepWF := stepW_p.1
theorem stepW_f : @stepW = @stepWF := stepW_p.2.symm
noncomputable def opsW_p : { g // g = @opsW } := ⟨_, by delta opsW; delta opsW._f; rw [stepW_f, frcA_f, frcT_f]⟩
noncomputable def opsWF := opsW_p.1
theorem opsW_f : @opsW = @opsWF := opsW_p.2.symm
noncomputable def resA_p : { g // g = @resA } := ⟨_, by delta resA; exact rfl⟩
noncomputable def resAF := resA_p.1
theorem resA_f : @resA = @resAF := resA_p.2.symm
noncomputable def wp_p : { g // g = @wp } := ⟨_, by delta wp; delta wp._f; rw [resA_f, frcT_f, frcS_f, opsW_f]⟩
noncomputable def wpF := wp_p.1
theorem wp_f : @wp = @wpF := wp_p.2.symm
noncomputable def retW_p : { g // g = @retW } := ⟨_, by delta retW; rw [resA_f]⟩
noncomputable def retWF := retW_p.1
theorem retW_f : @retW = @retWF := retW_p.2.symm
noncomputable def drawW_p : { g // g = @drawW } := ⟨_, by delta drawW; delta drawW._f; rw [opsW_f, frcF_f]⟩
noncomputable def drawWF := drawW_p.1
theorem drawW_f : @drawW = @drawWF := drawW_p.2.symm
end Go.V

/- The second floor, part X: what is used of it, with the fast programs. No function of the program is proved here. -/
namespace Go.V
open Go.Eng
theorem wp_fast {E : Env} {c : Code} {st : St} {Q : Exit → St → Prop} (h : wpF E c st Q) : wp E c st Q := by rw [wp_f]; exact h
theorem retW_fast {E : Env} {Q : AV → List Obj → Prop} {e : Exit} {st : St} : retW E Q e st = retWF E Q e st := by rw [retW_f]
theorem Ct.introF {E : Env} (hT : TOk E.P E.T) {f : FuncId} {fn : Func} {c : Code} {vs : List AV} {os : List Obj} {Q : AV → List Obj → Prop} (hc : ∀ as w, (callFunc f as).run E.P w = .ok (.enter f as) w)
    (hf : E.P.funcs[f]? = some fn) (hb : fn.body = some c) (hN : fn.ntmps = E.N) (hr : fn.results = E.rs.toArray) (hn : Nat.ble vs.length E.N = true) (hm : E.m = os.length)
    (h : InV vs → wpF E c ⟨argS 0 vs, numb 0 os, os.length⟩ (retWF E Q)) : Ct E.P f vs os Q :=
  Ct.intro hT hc hf hb hN hr hn hm (fun hi => by rw [wp_f, retW_f]; exact h hi)
theorem DrawI.mkF {E : Env} {all : Array Oper} {st : St} {K : St → Prop} (m : Nat) (rs : List (List Nat)) (h : drawOK all m rs = true) (k : drawWF E all m rs (all.toList.take m) st.fr st.hp st.nx K) : DrawI E all st K :=
  .mk m rs h (by rw [drawW_f]; exact k)
theorem DrawO.mkF {E : Env} {o : Op} {rfr : List (Nat × AV)} {hp : List (Nat × Obj)} {nx : Nat} {k : AV → Prop} (A : AV) (h : stepWF E o ⟨rfr, hp, nx⟩ (fun a st' => frcAF 3 a fun a => frcTF st' fun st' => a = A ∧ st' = ⟨rfr, hp, nx⟩)) (next : k A) : DrawO E o rfr hp nx k :=
  .mk A (by rw [stepW_f, frcA_f, frcT_f]; exact h) next
theorem DrawO.roF {E : Env} {o : Op} {rfr : List (Nat × AV)} {hp : List (Nat × Obj)} {nx : Nat} {k : AV → Prop} (xs : List D) (e : TypeId) (sz : Nat) (h : stepWF E o ⟨rfr, hp, nx⟩ (fun a st' => frcAF 3 a fun a => frcTF st' fun st' => a = .sl nx ∧ st' = ⟨rfr, (nx, .row e sz xs) :: hp, nx + 1⟩)) (next : k (.d (.ro xs))) : DrawO E o rfr hp nx k :=
  .ro xs e sz (by rw [stepW_f, frcA_f, frcT_f]; exact h) next
end Go.V
