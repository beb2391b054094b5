/- The second floor, part P: calls. No function of the program is proved here. -/
import Derived.Test.YtidelnccggfmgaaJuD
set_option linter.unusedVariables false
set_option linter.unusedSimpArgs false
set_option linter.unnecessarySimpa false
set_option linter.unusedSectionVars false
set_option linter.all false
/- The second floor, part P: calls. No function of the program is proved here. -/
namespace Go.V
open Go.Eng

section
variable {P : Program} {N : Nat} {T : TypeId → Option TI} {I J : Imm} {ρ ρ' : Nat → Value} {F : List Ent} {st : St} {fr : Frm} {L : List Ent}
variable {ty : TypeId} {pos : String} {aft : Array Edge} {gd : Option (Nat × Bool)} {d : Option Tmp} {x y z q : Operand}

def okLs (m : Nat) : List Nat → Bool
  | [] => true
  | l :: ls => !(Nat.blt l m) && (!(elemN l ls) && okLs m ls)
theorem elemN_iff {l : Nat} {ls : List Nat} : elemN l ls = true ↔ l ∈ ls := by
  induction ls with
  | nil => simp [elemN]
  | cons k ls ih =>
    simp only [elemN, beq_eq, List.mem_cons]
    by_cases e : k = l
    · subst e; simp
    · simp [e, ih]; exact fun h => absurd h.symm e
theorem okLs_ok {m : Nat} {ls : List Nat} (h : okLs m ls = true) : ls.Nodup ∧ ∀ l ∈ ls, m ≤ l := by
  induction ls with
  | nil => simp
  | cons l ls ih =>
    simp only [okLs, Bool.and_eq_true, Bool.not_eq_true'] at h
    obtain ⟨h1, h2, h3⟩ := h
    obtain ⟨i1, i2⟩ := ih h3
    refine ⟨List.nodup_cons.2 ⟨fun hm => ?_, i1⟩, fun k hk => ?_⟩
    · rw [elemN_iff.2 hm] at h2; cases h2
    · rcases List.mem_cons.1 hk with rfl | hk
      · have : ¬ k < m := by intro h; rw [← Nat.blt_eq] at h; rw [h] at h1; cases h1
        omega
      · exact i2 k hk

def objAll (hp : List (Nat × Obj)) (φ : Nat → Option Nat) : List Nat → Option (List Obj)
  | [] => some []
  | l :: ls => match renO hp φ (lookO hp l), objAll hp φ ls with
    | some o, some os => some (o :: os)
    | _, _ => none

def plain : List Nat → Option (List Nat)
  | [] => some []
  | l :: ls => match plain ls with
    | some ls => some (l :: ls)
    | none => none
theorem plain_ok : ∀ {ls ls' : List Nat}, plain ls = some ls' → ls = ls'
  | [], _, h => by cases h; rfl
  | l :: ls, _, h => by
    unfold plain at h
    split at h
    · rename_i ls' hl; simp at h; subst h; rw [plain_ok hl]
    · cases h
/-- What is told by a law of its own goes with every call. -/
def insN (l : Nat) : List Nat → List Nat
  | [] => [l]
  | k :: ks => bif Nat.ble l k then l :: k :: ks else k :: insN l ks
def absLs : List (Nat × Obj) → List Nat
  | [] => []
  | (l, .abs _) :: hp => insN l (absLs hp)
  | _ :: hp => absLs hp
/-- Values and what they reach, by new names: those below 'm' keep theirs. -/
def canon (m : Nat) (st : St) (as : List AV) : Option (List Nat × List AV × List Obj) :=
  match plain (clos m st.hp 300 ((as.map (normA st.hp)).flatMap (labsA 4) ++ (List.range m).flatMap (fun l => labsO st.hp (lookO st.hp l)) ++ absLs st.hp) []) with
  | some ls => bif okLs m ls then match renAs (renL m ls) 4 (as.map (normA st.hp)), objAll st.hp (renL m ls) (List.range m ++ ls) with
      | some vs, some os => some (ls, vs, os)
      | _, _ => none
    else none
  | none => none

theorem idxN_spec {l : Nat} : ∀ {ls : List Nat} {i j : Nat}, idxN l i ls = some j → i ≤ j ∧ ls[j - i]? = some l
  | [], i, j, h => by simp [idxN] at h
  | k :: ls, i, j, h => by
    simp only [idxN, beq_eq] at h
    by_cases e : k = l
    · subst e; simp at h; subst h; simp
    · simp [e] at h
      obtain ⟨h1, h2⟩ := idxN_spec h
      refine ⟨by omega, ?_⟩
      have : j - i = (j - (i + 1)) + 1 := by omega
      rw [this]; simpa using h2

def canρ (ρ : Nat → Value) (m : Nat) (ls : List Nat) : Nat → Value := fun k => if k < m then ρ k else match ls[k - m]? with
  | some l => ρ l
  | none => .nilFunc
theorem canρ_ag {m : Nat} {ls : List Nat} : AgL (renL m ls) ρ (canρ ρ m ls) := by
  intro l l' h _
  unfold renL at h
  cases hb : Nat.blt l m with
  | true =>
    rw [hb] at h; simp at h; subst h
    have : l < m := by rwa [Nat.blt_eq] at hb
    unfold canρ; rw [if_pos this]
  | false =>
    rw [hb] at h
    obtain ⟨h1, h2⟩ := idxN_spec h
    unfold canρ
    rw [if_neg (by omega), h2]

theorem objAll_ok {hp : List (Nat × Obj)} {φ : Nat → Option Nat} : ∀ {ls : List Nat} {os : List Obj}, objAll hp φ ls = some os → os.length = ls.length ∧ ∀ (i l : Nat) (o : Obj), ls[i]? = some l → os[i]? = some o → renO hp φ (lookO hp l) = some o
  | [], os, h => by simp [objAll] at h; subst h; simp
  | l :: ls, os, h => by
    unfold objAll at h
    split at h
    · rename_i o os' h1 h2
      simp at h; subst h
      obtain ⟨h3, h4⟩ := objAll_ok h2
      refine ⟨by simp [h3], fun i l' o' hl ho => ?_⟩
      cases i with
      | zero => simp at hl ho; subst hl; subst ho; exact h1
      | succ i => exact h4 i l' o' (by simpa using hl) (by simpa using ho)
    · cases h

theorem idxN_at {l : Nat} : ∀ {ls : List Nat} {i j : Nat}, ls.Nodup → ls[j]? = some l → idxN l i ls = some (i + j)
  | [], i, j, _, h => by simp at h
  | k :: ls, i, j, hn, h => by
    obtain ⟨h1, h2⟩ := List.nodup_cons.1 hn
    simp only [idxN, beq_eq]
    cases j with
    | zero => simp at h; subst h; simp
    | succ j =>
      have hj : ls[j]? = some l := by simpa using h
      have : k ≠ l := by rintro rfl; exact h1 (List.mem_of_getElem? hj)
      simp only [this, decide_false, cond_false]
      rw [idxN_at h2 hj]; congr 1; omega

theorem canon_okJ {m : Nat} {as : List AV} {ls : List Nat} {vs : List AV} {os : List Obj} (hs : SR I ρ F st fr L) (h : canon m st as = some (ls, vs, os)) :
    ∃ Lc Lr, L.Perm (Lc ++ (Lr ++ F)) ∧ RelH I (canρ ρ m ls) (numb 0 os) Lc ∧ RelH I ρ (goneAll st.hp (List.range m ++ ls)) Lr ∧ os.length = m + ls.length ∧ ls.Nodup ∧ (∀ l ∈ ls, m ≤ l) ∧
      (∀ J, I.le J → ∀ us, All2 (RelA J ρ) us as → All2 (RelA J (canρ ρ m ls)) us vs) ∧ ∀ (i l : Nat) (o : Obj), (List.range m ++ ls)[i]? = some l → os[i]? = some o → renO st.hp (renL m ls) (lookO st.hp l) = some o := by
  unfold canon at h
  split at h
  rotate_left
  · cases h
  rename_i ls0 _
  cases hok : okLs m ls0 with
  | false => rw [hok] at h; cases h
  | true =>
    rw [hok] at h
    simp only [cond_true] at h
    split at h
    · rename_i vs' os' h1 h2
      simp at h
      obtain ⟨rfl, rfl, rfl⟩ := h
      obtain ⟨n1, n2⟩ := okLs_ok hok
      obtain ⟨L', hh, rfl⟩ := hs.hpr
      have hnd : (List.range m ++ ls0).Nodup := by
        refine List.nodup_append.2 ⟨List.nodup_range, n1, fun a ha b hb => ?_⟩
        have := List.mem_range.1 ha; have := n2 b hb; omega
      obtain ⟨Ls, Lr, p, hlen, g1, g2⟩ := hh.out _ hnd
      obtain ⟨o1, o2⟩ := objAll_ok h2
      have hn : ∀ v a, RelA I ρ v a → RelA I ρ v (normA st.hp a) := fun v a ha => normA_ok hs ha
      refine ⟨Ls.flatten, Lr, ?_, ?_, g2, by rw [o1]; simp, n1, n2, fun J hJ us hus => ?_, o2⟩
      · have := p.append_right F
        simpa using this
      · refine RelH.numb hs.glob (k := 0) (by rw [hlen, o1]) (fun i o es hi hes => ?_)
        have hil : i < (List.range m ++ ls0).length := by rw [← o1]; exact (List.getElem?_eq_some_iff.1 hi).1
        have hl := List.getElem?_eq_getElem hil
        obtain ⟨es', e1, e2⟩ := g1 i _ hl
        rw [hes] at e1; simp at e1; subst e1
        have hφ : renL m ls0 (List.range m ++ ls0)[i] = some i := by
          unfold renL
          by_cases him : i < m
          · have : (List.range m ++ ls0)[i] = i := by rw [List.getElem_append_left (by simpa using him)]; simp
            rw [this]
            have hb : Nat.blt i m = true := by rw [Nat.blt_eq]; exact him
            rw [hb]; rfl
          · have hls' : ls0[i - m]? = some (List.range m ++ ls0)[i] := by
              rw [← hl, List.getElem?_append_right (by simpa using Nat.le_of_not_lt him)]; simp
            have hge := n2 _ (List.mem_of_getElem? hls')
            have hb : Nat.blt (List.range m ++ ls0)[i] m = false := by
              cases hb : Nat.blt (List.range m ++ ls0)[i] m with
              | false => rfl
              | true => rw [Nat.blt_eq] at hb; omega
            rw [hb]
            simp only [cond_false]
            rw [idxN_at n1 hls']; congr 1; omega
        rw [Nat.zero_add]
        exact renO_ok canρ_ag hn hφ (o2 i _ o hl hi) e2
      · refine renAs_ok canρ_ag 4 _ h1 ⟨by simpa using hus.1, fun j u y hu hy => ?_⟩
        rw [List.getElem?_map] at hy
        cases hj : as[j]? with
        | none => rw [hj] at hy; cases hy
        | some a => rw [hj] at hy; simp at hy; subst hy; exact normA_ok (hs.mono hJ) (hus.2 j u a hu hj)
    · cases h

theorem canon_ok {m : Nat} {as : List AV} {ls : List Nat} {vs : List AV} {os : List Obj} (hs : SR I ρ F st fr L) (h : canon m st as = some (ls, vs, os)) :
    ∃ Lc Lr, L.Perm (Lc ++ (Lr ++ F)) ∧ RelH I (canρ ρ m ls) (numb 0 os) Lc ∧ RelH I ρ (goneAll st.hp (List.range m ++ ls)) Lr ∧ os.length = m + ls.length ∧ ls.Nodup ∧ (∀ l ∈ ls, m ≤ l) ∧
      (∀ us, All2 (RelA I ρ) us as → All2 (RelA I (canρ ρ m ls)) us vs) ∧ ∀ (i l : Nat) (o : Obj), (List.range m ++ ls)[i]? = some l → os[i]? = some o → renO st.hp (renL m ls) (lookO st.hp l) = some o := by
  obtain ⟨Lc, Lr, h1, h2, h3, h4, h5, h6, h7, h8⟩ := canon_okJ hs h
  exact ⟨Lc, Lr, h1, h2, h3, h4, h5, h6, h7 I (Imm.le_refl _), h8⟩

/-! ## Back from a call -/
def backL (ls : List Nat) (nx : Nat) (i : Nat) : Option Nat := match ls[i]? with
  | some l => some l
  | none => some (nx + (i - ls.length))
def backO (φ : Nat → Option Nat) : List Obj → Option (List Obj)
  | [] => some []
  | o :: os => match renO [] φ o, backO φ os with
    | some o, some os => some (o :: os)
    | _, _ => none
def zipN : List Nat → List Obj → List (Nat × Obj)
  | l :: ls, o :: os => (l, o) :: zipN ls os
  | _, _ => []
def dropN : List Nat → List Obj → List Obj
  | _ :: ls, _ :: os => dropN ls os
  | [], os => os
  | _, [] => []
/-- Objects put where others were. -/
def putAll (hp : List (Nat × Obj)) : List Nat → List Obj → List (Nat × Obj)
  | l :: ls, o :: os => setO (putAll hp ls os) l o
  | _, _ => hp
def back (ls : List Nat) (st : St) (r : AV) (os : List Obj) : Option (AV × St) := match st with
  | ⟨fr, hp, nx⟩ => match renA (backL ls nx) 4 r, backO (backL ls nx) os with
    | some r, some os => some (r, ⟨fr, numb nx (dropN ls os) ++ putAll hp ls os, nx + (dropN ls os).length⟩)
    | _, _ => none
theorem setO_comm {a b : Nat} (hab : a ≠ b) (x y : Obj) : ∀ (h : List (Nat × Obj)), setO (setO h a x) b y = setO (setO h b y) a x
  | [] => rfl
  | (k, o) :: h => by
    simp only [setO, beq_eq]
    by_cases h1 : k = a
    · subst h1
      have h2 : ¬ k = b := hab
      simp [setO, beq_eq, h2]
    · by_cases h2 : k = b
      · subst h2
        simp [setO, beq_eq, h1]
      · simp [setO, beq_eq, h1, h2, setO_comm hab x y h]
theorem setO_gone2 (a b : Nat) (h : List (Nat × Obj)) : setO (setO h a .gone) b .gone = setO (setO h b .gone) a .gone := by
  by_cases e : a = b
  · subst e; rfl
  · exact setO_comm e _ _ h
theorem goneAll_set : ∀ (ls : List Nat) (h : List (Nat × Obj)) (l : Nat), goneAll (setO h l .gone) ls = setO (goneAll h ls) l .gone
  | [], _, _ => rfl
  | k :: ks, h, l => by
    simp only [goneAll]
    rw [setO_gone2, goneAll_set ks]
theorem goneAll_comm : ∀ (ks ls : List Nat) (h : List (Nat × Obj)), goneAll (goneAll h ks) ls = goneAll (goneAll h ls) ks
  | [], _, _ => rfl
  | k :: ks, ls, h => by
    simp only [goneAll]
    rw [goneAll_comm ks ls, goneAll_set ls h k]
def keyIn : List (Nat × Obj) → Nat → Prop
  | [], _ => False
  | (k, _) :: h, l => k = l ∨ keyIn h l
theorem keyIn_of {l : Nat} : ∀ {h : List (Nat × Obj)}, lookO h l ≠ .gone → keyIn h l
  | [], hg => (hg rfl).elim
  | (k, o) :: h, hg => by
    simp only [lookO, beq_eq] at hg
    by_cases e : k = l
    · exact .inl e
    · simp [e] at hg; exact .inr (keyIn_of hg)
theorem keyIn_set {l m : Nat} {o : Obj} : ∀ {h : List (Nat × Obj)}, keyIn h l → keyIn (setO h m o) l
  | [], hk => hk.elim
  | (k, x) :: h, hk => by
    simp only [setO, beq_eq]
    by_cases e : k = m
    · simp only [e, decide_true, cond_true]; subst e; exact hk
    · simp only [e, decide_false, cond_false]
      rcases hk with hk | hk
      · exact .inl hk
      · exact .inr (keyIn_set hk)
theorem keyIn_put {l : Nat} {hp : List (Nat × Obj)} : ∀ {ls : List Nat} {os : List Obj}, keyIn hp l → keyIn (putAll hp ls os) l
  | [], _, h => by simpa [putAll] using h
  | _ :: _, [], h => by simpa [putAll] using h
  | _ :: ls, _ :: os, h => keyIn_set (keyIn_put (ls := ls) (os := os) h)
theorem putAll_set {hp : List (Nat × Obj)} {l : Nat} {x : Obj} : ∀ {ls : List Nat} {os : List Obj}, l ∉ ls → putAll (setO hp l x) ls os = setO (putAll hp ls os) l x
  | [], _, _ => by simp [putAll]
  | _ :: _, [], _ => by simp [putAll]
  | k :: ls, o :: os, h => by
    simp only [putAll]
    rw [putAll_set (fun e => h (List.mem_cons_of_mem _ e)), setO_comm (fun e => h (by subst e; exact List.mem_cons_self))]
/-- One object put where another was. -/
theorem RelH.ins {l : Nat} {o : Obj} {es : List Ent} (ho : RelO I ρ l o es) : ∀ {h : List (Nat × Obj)} {L : List Ent}, RelH I ρ (setO h l .gone) L → keyIn h l → ∃ L2, RelH I ρ (setO h l o) L2 ∧ (es ++ L).Perm L2
  | [], _, _, hk => hk.elim
  | (k, x) :: h, L, hr, hk => by
    simp only [setO, beq_eq] at hr ⊢
    by_cases e : k = l
    · subst e
      simp only [decide_true, cond_true] at hr ⊢
      cases hr with
      | cons h1 h2 =>
        have h1' : _ = [] := h1
        subst h1'
        exact ⟨_, .cons ho h2, by simp⟩
    · simp only [e, decide_false, cond_false] at hr ⊢
      cases hr with
      | @cons _ _ _ es' L' h1 h2 =>
        obtain ⟨L2, r1, r2⟩ := RelH.ins ho h2 (hk.resolve_left e)
        refine ⟨es' ++ L2, .cons h1 r1, ?_⟩
        exact (List.perm_append_comm_assoc _ _ _).trans (List.Perm.append_left _ r2)
theorem RelH.putAll : ∀ {ls : List Nat} {os : List Obj} {hp : List (Nat × Obj)} {M Lr : List Ent}, (∀ l ∈ ls, keyIn hp l) → ls.Nodup → ls.length ≤ os.length → RelH I ρ (zipN ls os) M → RelH I ρ (goneAll hp ls) Lr → ∃ L', RelH I ρ (V.putAll hp ls os) L' ∧ (M ++ Lr).Perm L'
  | [], os, hp, M, Lr, _, _, _, hz, hg => by
    have : M = [] := by cases os <;> (simp only [zipN] at hz; cases hz; rfl)
    subst this
    exact ⟨Lr, by simpa [V.putAll] using (show RelH I ρ hp Lr from hg), by simp⟩
  | _ :: _, [], _, _, _, _, _, hl, _, _ => by simp at hl
  | l :: ls, o :: os, hp, M, Lr, hk, hnd, hl, hz, hg => by
    obtain ⟨hnl, hnd'⟩ := List.nodup_cons.1 hnd
    simp only [zipN] at hz
    cases hz with
    | @cons _ _ _ es M' ho hz =>
      obtain ⟨L1, r1, r2⟩ := RelH.putAll (hp := setO hp l .gone) (ls := ls) (os := os) (fun k hk' => keyIn_set (hk k (List.mem_cons_of_mem _ hk'))) hnd' (by simpa using hl) hz (by simpa [goneAll] using hg)
      rw [putAll_set hnl] at r1
      obtain ⟨L2, r3, r4⟩ := RelH.ins ho r1 (keyIn_put (hk l List.mem_cons_self))
      refine ⟨L2, r3, ?_⟩
      rw [List.append_assoc]
      exact (List.Perm.append_left _ r2).trans r4
theorem setO_same {l : Nat} : ∀ {h : List (Nat × Obj)}, setO h l (lookO h l) = h
  | [] => rfl
  | (k, o) :: h => by
    simp only [setO, lookO, beq_eq]
    by_cases e : k = l
    · simp [e]
    · simp [e, setO_same]
theorem putAll_same {h : List (Nat × Obj)} : ∀ {ks : List Nat}, V.putAll h ks (ks.map (lookO h)) = h
  | [] => by simp [V.putAll]
  | k :: ks => by simp only [List.map_cons, V.putAll]; rw [putAll_same, setO_same]
theorem RelH.cut : ∀ {h1 h2 : List (Nat × Obj)} {L : List Ent}, RelH I ρ (h1 ++ h2) L → ∃ L1 L2, L = L1 ++ L2 ∧ RelH I ρ h1 L1 ∧ RelH I ρ h2 L2
  | [], _, L, h => ⟨[], L, rfl, .nil h.glob, h⟩
  | _ :: h1, _, _, h => by
    cases h with
    | cons ho hr =>
      obtain ⟨L1, L2, rfl, a, b⟩ := RelH.cut hr
      exact ⟨_ ++ L1, L2, by simp, .cons ho a, b⟩
theorem lookO_goneAll {l : Nat} : ∀ {ks : List Nat} {h : List (Nat × Obj)}, l ∉ ks → lookO (goneAll h ks) l = lookO h l
  | [], _, _ => rfl
  | k :: ks, h, hn => by
    simp only [goneAll]
    rw [lookO_goneAll (fun e => hn (List.mem_cons_of_mem _ e)), lookO_set _ _ _ _ (fun e => hn (by subst e; exact List.mem_cons_self))]
theorem lookO_setG {l : Nat} : ∀ {h : List (Nat × Obj)}, lookO (setO h l .gone) l = .gone
  | [] => rfl
  | (k, o) :: h => by
    simp only [setO, beq_eq]
    by_cases e : k = l
    · simp [e, lookO]
    · simp [e, lookO, beq_eq, lookO_setG]
theorem lookO_goneIn {l : Nat} : ∀ {ks : List Nat} {h : List (Nat × Obj)}, l ∈ ks → lookO (goneAll h ks) l = .gone
  | k :: ks, h, hm => by
    by_cases e : l ∈ ks
    · exact lookO_goneIn (ks := ks) (h := setO h k .gone) e
    · rcases List.mem_cons.1 hm with rfl | hm
      · simp only [goneAll]; rw [lookO_goneAll e, lookO_setG]
      · exact absurd hm e
theorem keyIn_gone {l : Nat} : ∀ {ks : List Nat} {h : List (Nat × Obj)}, keyIn h l → keyIn (goneAll h ks) l
  | [], _, hk => hk
  | k :: ks, h, hk => keyIn_gone (ks := ks) (h := setO h k .gone) (keyIn_set hk)

theorem back_eq (ls : List Nat) (st : St) (r : AV) (os : List Obj) : back ls st r os = match renA (backL ls st.nx) 4 r, backO (backL ls st.nx) os with
    | some r, some os => some (r, ⟨st.fr, numb st.nx (dropN ls os) ++ putAll st.hp ls os, st.nx + (dropN ls os).length⟩)
    | _, _ => none := by cases st; rfl

theorem backO_ok {φ : Nat → Option Nat} : ∀ {os os2 : List Obj}, backO φ os = some os2 → os2.length = os.length ∧ ∀ (i : Nat) (o o2 : Obj), os[i]? = some o → os2[i]? = some o2 → renO [] φ o = some o2
  | [], os2, h => by simp [backO] at h; subst h; simp
  | o :: os, os2, h => by
    unfold backO at h
    split at h
    · rename_i o' os' h1 h2
      simp at h; subst h
      obtain ⟨h3, h4⟩ := backO_ok h2
      refine ⟨by simp [h3], fun i a b ha hb => ?_⟩
      cases i with
      | zero => simp at ha hb; subst ha; subst hb; exact h1
      | succ i => exact h4 i a b (by simpa using ha) (by simpa using hb)
    · cases h

theorem normA_nil (a : AV) : normA [] a = a := by cases a <;> rfl
theorem RelH.app {h1 h2 : List (Nat × Obj)} {L1 L2 : List Ent} (a : RelH I ρ h1 L1) (b : RelH I ρ h2 L2) : RelH I ρ (h1 ++ h2) (L1 ++ L2) := by
  induction a with
  | nil => exact b
  | cons ho _ ih => rw [List.cons_append, List.append_assoc]; exact .cons ho ih

/-- The same objects by other names. -/
theorem RelH.back {φ : Nat → Option Nat} (hag : AgL φ ρ ρ') {nx : Nat} : ∀ {ls : List Nat} {os os2 : List Obj} {k : Nat} {L : List Ent}, RelH I ρ (V.numb k os) L → (os2.length = os.length ∧ ∀ (i : Nat) (o o2 : Obj), os[i]? = some o → os2[i]? = some o2 → renO [] φ o = some o2) → ls.length ≤ os.length →
    (∀ (i l : Nat), ls[i]? = some l → φ (k + i) = some l) → (∀ i, ls.length ≤ i → φ (k + i) = some (nx + (i - ls.length))) → RelH I ρ' (zipN ls os2 ++ V.numb nx (dropN ls os2)) L
  | [], [], [], k, L, h, _, _, _, _ => by cases h with | nil g => exact .nil g
  | [], o :: os, o2 :: os2, k, L, h, h2, hl, h3, h4 => by
    cases h with
    | @cons _ _ _ es L' ho hr =>
      simp only [zipN, dropN, V.numb, List.nil_append]
      have hnn : ∀ v a, RelA I ρ v a → RelA I ρ v (normA [] a) := fun v a ha => by rw [normA_nil]; exact ha
      have e0 := h4 0 (Nat.zero_le _)
      refine .cons (renO_ok hag hnn (by simpa using e0) (h2.2 0 o o2 rfl rfl) ho) ?_
      have := RelH.back (nx := nx + 1) (ls := []) hag hr ⟨by simpa using h2.1, fun i a b ha hb => h2.2 (i + 1) a b (by simpa using ha) (by simpa using hb)⟩ (Nat.zero_le _) (fun i l hi => by simp at hi) (fun i _ => by
        have := h4 (i + 1) (Nat.zero_le _)
        simp only [List.length_nil, Nat.sub_zero] at this ⊢
        rw [show k + 1 + i = k + (i + 1) from by omega, this]; congr 1; omega)
      simpa [zipN, dropN] using this
  | l :: ls, o :: os, o2 :: os2, k, L, h, h2, hl, h3, h4 => by
    cases h with
    | @cons _ _ _ es L' ho hr =>
      simp only [zipN, dropN, List.cons_append]
      have hnn : ∀ v a, RelA I ρ v a → RelA I ρ v (normA [] a) := fun v a ha => by rw [normA_nil]; exact ha
      have e0 := h3 0 l rfl
      refine .cons (renO_ok hag hnn (by simpa using e0) (h2.2 0 o o2 rfl rfl) ho) ?_
      exact RelH.back (nx := nx) (ls := ls) hag hr ⟨by simpa using h2.1, fun i a b ha hb => h2.2 (i + 1) a b (by simpa using ha) (by simpa using hb)⟩ (by simpa using hl) (fun i l' hi => by
        have := h3 (i + 1) l' (by simpa using hi)
        rwa [show k + 1 + i = k + (i + 1) from by omega]) (fun i hi => by
        have := h4 (i + 1) (by simpa using hi)
        rw [show k + 1 + i = k + (i + 1) from by omega, this]; simp)
  | [], [], _ :: _, _, _, _, h2, _, _, _ => by simp at h2
  | [], _ :: _, [], _, _, _, h2, _, _, _ => by simp at h2
  | _ :: _, [], _, _, _, _, _, hl, _, _ => by simp at hl
  | _ :: _, _ :: _, [], _, _, _, h2, _, _, _ => by simp at h2

def liveAll (hp : List (Nat × Obj)) (nx : Nat) : List Nat → Bool
  | [] => true
  | l :: ls => (match lookO hp l with
    | .gone => false
    | _ => Nat.blt l nx) && liveAll hp nx ls
theorem liveAll_ok {hp : List (Nat × Obj)} {nx : Nat} {ls : List Nat} (h : liveAll hp nx ls = true) : ∀ l ∈ ls, lookO hp l ≠ .gone ∧ l < nx := by
  induction ls with
  | nil => intro l hl; cases hl
  | cons k ls ih =>
    simp only [liveAll, Bool.and_eq_true] at h
    intro l hl
    rcases List.mem_cons.1 hl with rfl | hl
    · have h1 := h.1
      constructor
      · intro e; rw [e] at h1; cases h1
      · split at h1
        · cases h1
        · rwa [Nat.blt_eq] at h1
    · exact ih h.2 l hl
theorem RelO.live {l : Nat} {o : Obj} {es : List Ent} (h : RelO I ρ l o es) (hg : o ≠ .gone) : ρ l ≠ .nilFunc := by
  intro e
  cases o with
  | row a b c => obtain ⟨_, _, _, h1, _⟩ := h; rw [e] at h1; cases h1
  | vec a b => obtain ⟨_, _, h1, _⟩ := h; rw [e] at h1; cases h1
  | arr a b => obtain ⟨_, _, h1, _⟩ := h; rw [e] at h1; cases h1
  | froz a => have := h.1; rw [e] at this; cases this
  | fzn a => obtain ⟨⟨_, _, h1, _⟩, _⟩ := h; rw [e] at h1; cases h1
  | abs R => exact R.ne h e
  | gone => exact hg rfl

/-- Rows that are handed on to read stay as they are from now on. -/
def fzArgs : List AV → St → St
  | [], st => st
  | .sl l :: as, st => match lookO st.hp l with
    | .row _ _ xs => fzArgs as ⟨st.fr, setO st.hp l (.froz xs), st.nx⟩
    | _ => fzArgs as st
  | _ :: as, st => fzArgs as st
theorem fzArgs_ok : ∀ (as : List AV) (st : St), Gh st (fzArgs as st) ∧ Keeps st (fzArgs as st)
  | [], st => ⟨.refl, .refl⟩
  | a :: as, st => by
    cases a with
    | sl l =>
      simp only [fzArgs]
      split
      · rename_i e sz xs hl
        obtain ⟨g, k⟩ := fzArgs_ok as ⟨st.fr, setO st.hp l (.froz xs), st.nx⟩
        have kk : Keeps st ⟨st.fr, setO st.hp l (.froz xs), st.nx⟩ := by
          refine ⟨rfl, rfl, fun k ys hk => ?_, fun k ys hk => ?_⟩ <;>
          · have : k ≠ l := by rintro rfl; rw [hl] at hk; cases hk
            exact (lookO_set _ _ _ _ this).trans hk
        exact ⟨(Gh.freeze hl).trans g, kk.trans k⟩
      · exact fzArgs_ok as st
    | _ => exact fzArgs_ok as st

/-! ## Rows that are lent: handed on to read, and given back -/
/-- What tells of no memory that stays. -/
def flat0 : D → Prop
  | .ro _ | .agg _ => False
  | _ => True
def FlatD : D → Prop
  | .ro _ => False
  | .agg cs => ∀ c ∈ cs, flat0 c
  | _ => True
def FlatA0 : AV → Prop
  | .d x => FlatD x
  | .rp _ _ | .agg _ | .tup _ | .fn _ _ _ | .undef => False
  | _ => True
def FlatAs : List AV → Prop
  | [] => True
  | a :: as => FlatA0 a ∧ FlatAs as
def FlatA : AV → Prop
  | .agg cs => FlatAs cs
  | .tup cs => FlatAs cs
  | a => FlatA0 a
def FlatO : Obj → Prop
  | .row _ _ xs => ∀ x ∈ xs, FlatD x
  | .vec _ cs => FlatAs cs
  | .arr _ cs => ∀ x ∈ cs, flat0 x
  | .froz _ | .fzn _ | .abs _ => False
  | .gone => True
def FlatOs : List Obj → Prop
  | [] => True
  | o :: os => FlatO o ∧ FlatOs os
theorem flat0_ok {v : Value} {x : D} (h : RelD I v x) (hf : flat0 x) : RelD J v x := by
  cases h with
  | int h => exact .int h
  | bool => exact .bool
  | str h => exact .str h
  | nils => exact .nils
  | nilp => exact .nilp
  | ro _ _ _ _ _ _ _ _ => exact hf.elim
  | agg _ _ _ => exact hf.elim
  | opq h => exact .opq h
theorem flatD_ok {v : Value} {x : D} (h : RelD I v x) (hf : FlatD x) : RelD J v x := by
  cases h with
  | int h => exact .int h
  | bool => exact .bool
  | str h => exact .str h
  | nils => exact .nils
  | nilp => exact .nilp
  | ro _ _ _ _ _ _ _ _ => exact hf.elim
  | agg hl h1 hx => exact .agg hl h1 (fun j u y hu hy => flat0_ok (hx j u y hu hy) (hf y (List.mem_of_getElem? hy)))
  | opq h => exact .opq h
theorem flatA0_ok {v : Value} {a : AV} (h : RelA I ρ v a) (hf : FlatA0 a) : RelA J ρ v a := by
  cases h with
  | d h => exact .d (flatD_ok h hf)
  | sl h => exact .sl h
  | ptr h => exact .ptr h
  | rp _ _ _ => exact hf.elim
  | ep h => exact .ep h
  | av h hc hm => exact .av h hc hm
  | agg _ _ _ => exact hf.elim
  | tup _ _ => exact hf.elim
  | fn _ _ _ _ => exact hf.elim
  | nilf => exact .nilf
  | map h => exact .map h
  | nilm => exact .nilm
  | ifc h => exact .ifc h
theorem flatAs_mem : ∀ {cs : List AV}, FlatAs cs → ∀ a ∈ cs, FlatA0 a
  | [], _, _, h => by cases h
  | a :: as, hf, b, h => by
    rcases List.mem_cons.1 h with rfl | h
    · exact hf.1
    · exact flatAs_mem hf.2 b h
theorem flatA_ok {v : Value} {a : AV} (h : RelA I ρ v a) (hf : FlatA a) : RelA J ρ v a := by
  cases h with
  | agg hl h1 hx => exact .agg hl h1 (fun j u y hu hy => flatA0_ok (hx j u y hu hy) (flatAs_mem hf y (List.mem_of_getElem? hy)))
  | tup hl hx => exact .tup hl (fun j u y hu hy => flatA0_ok (hx j u y hu hy) (flatAs_mem hf y (List.mem_of_getElem? hy)))
  | d h => exact flatA0_ok (.d h) hf
  | sl h => exact .sl h
  | ptr h => exact .ptr h
  | rp _ _ _ => exact hf.elim
  | ep h => exact .ep h
  | av h hc hm => exact .av h hc hm
  | fn _ _ _ _ => exact hf.elim
  | nilf => exact .nilf
  | map h => exact .map h
  | nilm => exact .nilm
  | ifc h => exact .ifc h
theorem flatO_ok {l : Nat} {o : Obj} {es : List Ent} (h : RelO I ρ l o es) (hf : FlatO o) : RelO J ρ l o es := by
  cases o with
  | row e sz xs =>
    obtain ⟨A, c, us, h1, h2, h3, h4⟩ := h
    refine ⟨A, c, us, h1, h2, ⟨h3.1, fun j u y hu hy => ?_⟩, h4⟩
    obtain ⟨x, hx, hy2⟩ := List.mem_flatMap.1 (List.mem_of_getElem? hy)
    have hr := h3.2 j u y hu hy
    have hfx := hf x hx
    cases x with
    | agg cs => exact flat0_ok hr (hfx y hy2)
    | ro _ => exact hfx.elim
    | _ =>
      have : y = _ := List.mem_singleton.1 hy2
      subst this
      exact flatD_ok hr hfx
  | vec t cs =>
    obtain ⟨b, us, h1, h2, h3⟩ := h
    exact ⟨b, us, h1, ⟨h2.1, fun j u y hu hy => flatA0_ok (h2.2 j u y hu hy) (flatAs_mem hf y (List.mem_of_getElem? hy))⟩, h3⟩
  | arr t cs =>
    obtain ⟨b, us, h1, h2, h3⟩ := h
    exact ⟨b, us, h1, ⟨h2.1, fun j u y hu hy => flat0_ok (h2.2 j u y hu hy) (hf y (List.mem_of_getElem? hy))⟩, h3⟩
  | froz xs => exact hf.elim
  | fzn cs => exact hf.elim
  | abs R => exact hf.elim
  | gone => exact h
theorem flatOs_ok : ∀ {os : List Obj} {k : Nat} {L : List Ent}, RelH I ρ (V.numb k os) L → FlatOs os → Glob J → RelH J ρ (V.numb k os) L
  | [], _, _, h, _, g => by cases h; exact .nil g
  | o :: os, k, L, h, hf, g => by
    cases h with
    | cons ho hr => exact .cons (flatO_ok ho hf.1) (flatOs_ok hr hf.2 g)
/-- A row stays as it is for a while. -/
theorem HS.lend1 {w : World} {A : Option Addr} {n c sz : Nat} {e : TypeId} {xs : List Value} (hs : HS I (.row (.slice A n c) e sz n xs :: L) w) :
    ∃ I', I.le I' ∧ HS I' L w ∧ (∀ j u, xs[j]? = some u → ∃ a, A = some a ∧ I'.cell (a.add j) = some u) ∧ n ≤ c ∧ n ≤ maxLen ∧
      ∀ (I2 : Imm) (L2 : List Ent) (w' : World), I'.le I2 → HS I2 L2 w' → ∃ I3, I.le I3 ∧ HS I3 (.row (.slice A n c) e sz n xs :: L2) w' := by
  have h := hs.ents _ List.mem_cons_self
  simp only [Ent.ok] at h
  obtain ⟨h0, ⟨h1, hn0⟩ | ⟨g, cap, cur, h1, h2, h3, h4, h5, h6, h7⟩⟩ := h
  · simp only [Value.slice.injEq] at h1
    obtain ⟨rfl, rfl, rfl⟩ := h1
    have hx : xs = [] := by simpa using h0
    subst hx
    exact ⟨I, Imm.le_refl _, hs.sublist (List.sublist_cons_self _ _), fun j u hj => by simp at hj, Nat.le_refl _, Nat.zero_le _, fun I2 L2 w' hle hw => ⟨I2, hle, hw.addNil e sz⟩⟩
  · simp only [Value.slice.injEq] at h1
    obtain ⟨rfl, _, rfl⟩ := h1
    refine ⟨I.with g (.cells cur e (0, 0)), Imm.with_le _ (hs.imm _ List.mem_cons_self g rfl), hs.freeze (b := g) rfl h3, fun j u hj => ⟨_, rfl, ?_⟩, h4, Nat.le_trans h4 h5, fun I2 L2 w' hle hw => ?_⟩
    · rw [add_blk, Nat.zero_add]
      rw [← h7, List.getElem?_take] at hj
      split at hj
      · simpa [Imm.cell, Imm.with] using hj
      · cases hj
    · have hg : I2.mem g = some (.cells cur e (0, 0)) := hle.1 g _ (by simp [Imm.with])
      have hIg : I.mem g = none := hs.imm _ List.mem_cons_self g rfl
      have hle0 : I.le I2 := (Imm.with_le (I := I) (b := g) (.cells cur e (0, 0)) hIg).trans hle
      refine ⟨{ I2 with mem := fun b => if b = g then none else I2.mem b }, ⟨fun b o hb => ?_, hle0.2⟩, ⟨fun b o hb => ?_, fun x hx => ?_, ?_, fun x hx b hb => ?_, hw.os, hw.tape, hw.output⟩⟩
      · show (if b = g then none else I2.mem b) = some o
        rw [if_neg (by rintro rfl; rw [hIg] at hb; cases hb)]
        exact hle0.1 b o hb
      · have hb' : (if b = g then none else I2.mem b) = some o := hb
        split at hb'
        · cases hb'
        · exact hw.sat b o hb'
      · rcases List.mem_cons.1 hx with rfl | hx
        · exact ⟨h0, .inr ⟨g, c, cur, rfl, h2, hw.sat g _ hg, h4, h5, h6, h7⟩⟩
        · exact hw.ents x hx
      · refine List.pairwise_cons.2 ⟨fun x hx b hb hb' => ?_, hw.dis⟩
        have hbg : b = g := by simp [Ent.own, Value.ownBlock] at hb; exact hb.symm
        subst hbg
        have := hw.imm x hx b hb'
        rw [hg] at this; cases this
      · show (if b = g then none else I2.mem b) = none
        split
        · rfl
        · rcases List.mem_cons.1 hx with rfl | hx
          · rename_i hne
            exact absurd (by simp [Ent.own, Value.ownBlock] at hb; exact hb.symm) hne
          · exact hw.imm x hx b hb
/-- Rows stay as they are for a while. -/
theorem HS.lend {w : World} : ∀ {R : List Ent} {I : Imm} {L : List Ent}, HS I (R ++ L) w → (∀ x ∈ R, ∃ A n c e sz xs, x = Ent.row (.slice A n c) e sz n xs) →
    ∃ I', I.le I' ∧ HS I' L w ∧ (∀ A n c e sz xs, Ent.row (.slice A n c) e sz n xs ∈ R → (∀ (j : Nat) (u : Value), xs[j]? = some u → ∃ a, A = some a ∧ I'.cell (a.add j) = some u) ∧ n ≤ c ∧ n ≤ maxLen) ∧
      ∀ (I2 : Imm) (L2 : List Ent) (w' : World), I'.le I2 → HS I2 L2 w' → ∃ I3, I.le I3 ∧ HS I3 (R ++ L2) w'
  | [], I, L, hs, _ => ⟨I, Imm.le_refl _, hs, (fun _ _ _ _ _ _ h => by cases h), fun I2 L2 w' hle hw => ⟨I2, hle, hw⟩⟩
  | x :: R, I, L, hs, hR => by
    obtain ⟨A, n, c, e, sz, xs, rfl⟩ := hR x List.mem_cons_self
    obtain ⟨I1, hle1, hs1, hc1, hn1, hm1, hb1⟩ := HS.lend1 (show HS I (.row (.slice A n c) e sz n xs :: (R ++ L)) w from hs)
    obtain ⟨I2, hle2, hs2, hc2, hb2⟩ := HS.lend hs1 (fun y hy => hR y (List.mem_cons_of_mem _ hy))
    refine ⟨I2, hle1.trans hle2, hs2, fun A' n' c' e' sz' xs' hm => ?_, fun J L2 w' hle hw => ?_⟩
    · rcases List.mem_cons.1 hm with h | h
      · cases h
        exact ⟨fun j u hj => by obtain ⟨a, ha, hc⟩ := hc1 j u hj; exact ⟨a, ha, hle2.cell hc⟩, hn1, hm1⟩
      · exact hc2 _ _ _ _ _ _ h
    · obtain ⟨I3, hle3, hw3⟩ := hb2 J L2 w' hle hw
      exact hb1 I3 (R ++ L2) w' hle3 hw3

def flatAs : List AV → List AV
  | [] => []
  | .agg cs :: as => cs ++ flatAs as
  | a :: as => a :: flatAs as
/-- The rows among arguments. -/
def lendN (hp : List (Nat × Obj)) : List AV → List Nat → List Nat
  | [], acc => acc
  | .sl l :: as, acc => match lookO hp l with
    | .row _ _ _ => bif elemN l acc then lendN hp as acc else lendN hp as (acc ++ [l])
    | _ => lendN hp as acc
  | _ :: as, acc => lendN hp as acc
def lendA1 (hp : List (Nat × Obj)) (ks : List Nat) : AV → AV
  | .sl l => bif elemN l ks then (match lookO hp l with
    | .row _ _ xs => .d (.ro xs)
    | _ => .sl l) else .sl l
  | a => a
def lendA (hp : List (Nat × Obj)) (ks : List Nat) : AV → AV
  | .agg cs => packA (cs.map (lendA1 hp ks))
  | a => lendA1 hp ks a
def rowsAll (hp : List (Nat × Obj)) : List Nat → Bool
  | [] => true
  | l :: ls => (match lookO hp l with
    | .row _ _ _ => true
    | _ => false) && rowsAll hp ls
theorem rowsAll_ok {hp : List (Nat × Obj)} : ∀ {ls : List Nat}, rowsAll hp ls = true → ∀ l ∈ ls, ∃ e sz xs, lookO hp l = .row e sz xs
  | [], _, _, hl => by cases hl
  | k :: ls, h, l, hl => by
    simp only [rowsAll, Bool.and_eq_true] at h
    rcases List.mem_cons.1 hl with rfl | hl
    · have h1 := h.1
      split at h1
      · rename_i e sz xs he; exact ⟨e, sz, xs, he⟩
      · cases h1
    · exact rowsAll_ok h.2 l hl
theorem lent_ok {hp : List (Nat × Obj)} (g : Glob I) : ∀ {ks : List Nat} {Ls : List (List Ent)}, Ls.length = ks.length → (∀ (i l : Nat), ks[i]? = some l → ∃ es, Ls[i]? = some es ∧ RelO I ρ l (lookO hp l) es) → RelH I ρ (zipN ks (ks.map (lookO hp))) Ls.flatten
  | [], [], _, _ => .nil g
  | k :: ks, es :: Ls, hl, hx => by
    obtain ⟨es', e1, e2⟩ := hx 0 k rfl
    simp at e1; subst e1
    exact RelH.cons e2 (lent_ok g (ks := ks) (Ls := Ls) (by simpa using hl) (fun i l hi => by obtain ⟨es', e1, e2⟩ := hx (i + 1) l (by simpa using hi); exact ⟨es', by simpa using e1, e2⟩))
  | [], _ :: _, hl, _ => by simp at hl
  | _ :: _, [], hl, _ => by simp at hl

def lendW (P : Program) (f : FuncId) (as : List AV) (st : St) (K : AV → St → Prop) : Prop :=
  frcL (lendN st.hp (flatAs as) []) fun ks => bif (okLs 0 ks && rowsAll st.hp ks) then frcAs 3 (as.map (lendA st.hp ks)) fun as2 => frcT ⟨st.fr, goneAll st.hp ks, st.nx⟩ fun st2 => match canon 0 st2 as2 with
    | some (ls, vs, os) => frcL ls fun ls => bif liveAll st2.hp st2.nx ls then frcAs 3 vs fun vs => frcOs os fun os => Ct P f vs os (fun r os' => match back ls st r os' with
        | some (r', st') => (FlatA r ∧ FlatOs os') ∧ K r' st'
        | none => False) else False
    | none => False
    else False

def callW (P : Program) (own : FuncId → Nat) (f : FuncId) (as : List AV) (st : St) (K : AV → St → Prop) : Prop :=
  bif Nat.beq (own f) 2 then lendW P f as st K else
  frcAs 3 as fun as => frcT (bif Nat.beq (own f) 1 then st else fzArgs as st) fun st => match canon 0 st as with
    | some (ls, vs, os) => frcL ls fun ls => bif liveAll st.hp st.nx ls then frcAs 3 vs fun vs => frcOs os fun os => Ct P f vs os (fun r os' => match back ls st r os' with
        | some (r', st') => K r' st'
        | none => False) else False
    | none => False

def evCall (st : St) (f : Operand) (args : List Operand) : Option (FuncId × List AV) := match ev st f, evs st args with
  | .fn k fs cs, some as => some (k, fs ++ as ++ cs)
  | _, _ => none

theorem lendA1_ok {ks : List Nat} {J : Imm} (hle : I.le J) (hks : ∀ l e sz xs, l ∈ ks → lookO st.hp l = .row e sz xs → RelD J (ρ l) (.ro xs)) {v : Value} {a : AV} (h : RelA I ρ v a) : RelA J ρ v (lendA1 st.hp ks a) := by
  cases h with
  | @sl l A n c h =>
    simp only [lendA1]
    cases he : elemN l ks with
    | false => exact .sl h
    | true =>
      simp only [cond_true]
      split
      · rename_i e sz xs hl
        exact .d (h ▸ hks l e sz xs (elemN_iff.1 he) hl)
      · exact .sl h
  | d h => exact (RelA.d h).mono hle
  | ptr h => exact .ptr h
  | rp a b c => exact (RelA.rp a b c).mono hle
  | ep h => exact .ep h
  | av a b c => exact .av a b c
  | agg a b c => exact (RelA.agg a b c).mono hle
  | tup a b => exact (RelA.tup a b).mono hle
  | fn a b c d => exact (RelA.fn a b c d).mono hle
  | nilf => exact .nilf
  | map h => exact .map h
  | nilm => exact .nilm
  | ifc h => exact .ifc h
theorem lendA_ok {ks : List Nat} {J : Imm} (hle : I.le J) (hks : ∀ l e sz xs, l ∈ ks → lookO st.hp l = .row e sz xs → RelD J (ρ l) (.ro xs)) {v : Value} {a : AV} (h : RelA I ρ v a) : RelA J ρ v (lendA st.hp ks a) := by
  cases h with
  | @agg us cs hl h1 hx =>
    refine packA_ok ⟨by simpa using hl, fun j u y hu hy => ?_⟩ h1
    rw [List.getElem?_map] at hy
    cases hj : cs[j]? with
    | none => rw [hj] at hy; cases hy
    | some b => rw [hj] at hy; simp at hy; subst hy; exact lendA1_ok hle hks (hx j u b hu hj)
  | sl h => exact lendA1_ok hle hks (.sl h)
  | d h => exact (RelA.d h).mono hle
  | ptr h => exact .ptr h
  | rp a b c => exact (RelA.rp a b c).mono hle
  | ep h => exact .ep h
  | av a b c => exact .av a b c
  | tup a b => exact (RelA.tup a b).mono hle
  | fn a b c d => exact (RelA.fn a b c d).mono hle
  | nilf => exact .nilf
  | map h => exact .map h
  | nilm => exact .nilm
  | ifc h => exact .ifc h

theorem lendW_ok {f : Operand} {args : Array Operand} {ts : Array TypeId} {k : FuncId} {as : List AV} {K : AV → St → Prop} (he : evCall st f args.toList = some (k, as)) (h : lendW P k as st K) :
    OpS P N ⟨d, .call ⟨.value f, args, ts⟩, ty, pos, aft, gd⟩ st K := by
  unfold evCall at he
  split at he
  rotate_left
  · cases he
  rename_i k' fs cs' as' hf hargs
  simp at he
  obtain ⟨rfl, rfl⟩ := he
  unfold lendW at h
  replace h := frcL_ok h
  obtain ⟨ks, hks0⟩ : ∃ z, z = lendN st.hp (flatAs (fs ++ (as' ++ cs'))) [] := ⟨_, rfl⟩
  rw [← hks0] at h
  cases hok : (okLs 0 ks && rowsAll st.hp ks) with
  | false => rw [hok] at h; exact h.elim
  | true =>
  rw [hok] at h
  simp only [cond_true] at h
  rw [Bool.and_eq_true] at hok
  obtain ⟨hnd, _⟩ := okLs_ok hok.1
  have hrows := rowsAll_ok hok.2
  replace h := frcT_ok (frcAs_ok 3 _ h)
  split at h
  rotate_left
  · exact h.elim
  rename_i ls vs os hcan
  replace h := frcL_ok h
  cases hlive : liveAll (goneAll st.hp ks) st.nx ls with
  | false => rw [hlive] at h; exact h.elim
  | true =>
  rw [hlive] at h
  simp only [cond_true] at h
  replace h := frcOs_ok (frcAs_ok 3 _ h)
  intro I ρ F fr L hs a w next Q ha hw hk
  obtain ⟨vf, f1, f2⟩ := ev_ok hs hf (by simp)
  obtain ⟨us, a1, a2⟩ := evs_ok hs hargs
  obtain ⟨L', hh, rfl⟩ := hs.hpr
  obtain ⟨Ls, Lr, p, hlen, g1, g2⟩ := hh.out ks hnd
  have hs2 : SR I ρ F ⟨st.fr, goneAll st.hp ks, st.nx⟩ fr (Lr ++ F) := ⟨hs.frr, ⟨Lr, g2, rfl⟩, hs.new⟩
  have hw1 : HS I (Ls.flatten ++ (Lr ++ F)) w := by
    refine hw.perm ?_
    have := p.append_right F
    simpa using this
  have hR : ∀ x ∈ Ls.flatten, ∃ A n c e sz xs, x = Ent.row (.slice A n c) e sz n xs := by
    intro x hx
    obtain ⟨es, hes, hxe⟩ := List.mem_flatten.1 hx
    obtain ⟨i, hi⟩ := List.getElem?_of_mem hes
    have hik : i < ks.length := by rw [← hlen]; exact (List.getElem?_eq_some_iff.1 hi).1
    obtain ⟨es', e1, e2⟩ := g1 i _ (List.getElem?_eq_getElem hik)
    rw [hi] at e1; simp at e1; subst e1
    obtain ⟨e, sz, xs, hl⟩ := hrows _ (List.getElem_mem hik)
    rw [hl] at e2
    obtain ⟨A, c, ws, _, _, _, _, rfl⟩ := e2
    have := List.mem_singleton.1 hxe
    exact ⟨A, _, c, e, sz, ws, this⟩
  obtain ⟨I1, hle1, hw2, hcell, hgive⟩ := HS.lend hw1 hR
  have hro : ∀ l e sz xs, l ∈ ks → lookO st.hp l = .row e sz xs → RelD I1 (ρ l) (.ro xs) := by
    intro l e sz xs hl ho
    obtain ⟨i, hi⟩ := List.getElem?_of_mem hl
    obtain ⟨es, e1, e2⟩ := g1 i l hi
    rw [ho] at e2
    obtain ⟨A, c, ws, r1, r2, r3, ro1, rfl⟩ := e2
    have hm : Ent.row (.slice A xs.length c) e sz xs.length ws ∈ Ls.flatten := List.mem_flatten.2 ⟨_, List.mem_of_getElem? e1, List.mem_cons_self⟩
    obtain ⟨hc, hn1, hn2⟩ := hcell _ _ _ _ _ _ hm
    rw [r1]
    exact .ro rfl hn1 hn2 r2 hc r3.1 ro1 (fun j u y a b => (r3.2 j u y a b).mono hle1)
  obtain ⟨Lc, Lr2, hp, hc1, hc2, hlen2, hnd2, _, hargs2, _⟩ := canon_okJ hs2 hcan
  cases f2 with
  | @fn _ fu cu _ _ fl fx cl cx =>
    have hall0 : All2 (RelA I ρ) (fu ++ (us ++ cu)) (fs ++ (as' ++ cs')) := All2.app (R := RelA I ρ) ⟨fl, fx⟩ (All2.app (R := RelA I ρ) a2 ⟨cl, cx⟩)
    have hall1 : All2 (RelA I1 ρ) (fu ++ (us ++ cu)) ((fs ++ (as' ++ cs')).map (lendA st.hp ks)) := by
      refine ⟨by rw [List.length_map]; exact hall0.1, fun j u y hu hy => ?_⟩
      rw [List.getElem?_map] at hy
      cases hj : (fs ++ (as' ++ cs'))[j]? with
      | none => rw [hj] at hy; cases hy
      | some b => rw [hj] at hy; simp at hy; subst hy; exact lendA_ok hle1 hro (hall0.2 j u b hu hj)
    have hall := hargs2 I1 hle1 _ hall1
    have hnew : ∀ j, os.length ≤ j → canρ ρ 0 ls j = .nilFunc := by
      intro j hj
      unfold canρ
      rw [if_neg (by omega), List.getElem?_eq_none (by omega)]
    have hm := h.run I1 (canρ ρ 0 ls) (fu ++ (us ++ cu)) Lc hall (hc1.mono hle1) hnew
    refine (Acts.perm hp (W.call (d := d) (ty := ty) (pos := pos) (aft := aft) (gd := gd) (ts := ts) (vs := us) (as := fu ++ (us ++ cu)) (Lp := Lc) (F := Lr2 ++ F) f1 a1 h.call hm (by simp) (Take.app' _ _))) a w next Q ha hw2 (fun v I' L' w' hw' hr => ?_)
    obtain ⟨hle, M, ⟨ρ2, r, os', q1, q2, q3, q4, q5, q6⟩, rfl⟩ := hr
    split at q6
    rotate_left
    · exact q6.elim
    rename_i r' st' hback
    obtain ⟨⟨hfa, hfo⟩, q6⟩ := q6
    rw [back_eq] at hback
    split at hback
    rotate_left
    · cases hback
    rename_i r2 os2 hr2 hos2
    simp at hback
    obtain ⟨rfl, rfl⟩ := hback
    obtain ⟨I3, hle3, hw3⟩ := hgive I' _ w' hle hw'
    have q1' : RelA I3 ρ2 v r := flatA_ok q1 hfa
    have q2' : RelH I3 ρ2 (V.numb 0 os') M := flatOs_ok q2 hfo (hs.glob.mono hle3)
    have hb := backO_ok hos2
    have hlsl : ls.length = os.length := by rw [hlen2]; omega
    have hρc : ∀ (i l : Nat), ls[i]? = some l → canρ ρ 0 ls i = ρ l := fun i l hi => by
      unfold canρ; rw [if_neg (by omega), Nat.sub_zero, hi]
    have hl1 := liveAll_ok hlive
    have hag : AgL (backL ls st.nx) ρ2 (fun l => if st.nx ≤ l then ρ2 (ls.length + (l - st.nx)) else ρ l) := by
      intro i l' hi hne
      unfold backL at hi
      split at hi
      · rename_i l hl
        simp at hi; subst hi
        obtain ⟨hg, hlt⟩ := hl1 l (List.mem_of_getElem? hl)
        obtain ⟨es, ho, _⟩ := hs2.obj l
        have hne2 : canρ ρ 0 ls i ≠ .nilFunc := by rw [hρc i l hl]; exact ho.live hg
        show (if st.nx ≤ l then ρ2 (ls.length + (l - st.nx)) else ρ l) = ρ2 i
        rw [if_neg (by omega), q5 i hne2, hρc i l hl]
      · rename_i hl
        simp at hi; subst hi
        have hge : ls.length ≤ i := List.getElem?_eq_none_iff.1 hl
        show (if st.nx ≤ st.nx + (i - ls.length) then ρ2 (ls.length + (st.nx + (i - ls.length) - st.nx)) else ρ (st.nx + (i - ls.length))) = ρ2 i
        rw [if_pos (by omega)]
        congr 1; omega
    have hagree : ∀ l, ρ l ≠ .nilFunc → (if st.nx ≤ l then ρ2 (ls.length + (l - st.nx)) else ρ l) = ρ l := by
      intro l hl
      rw [if_neg]
      intro hge; exact hl (hs.new l hge)
    have hdl : (dropN ls os2).length = os2.length - ls.length := by
      have key : ∀ (ls : List Nat) (os : List Obj), ls.length ≤ os.length → (dropN ls os).length = os.length - ls.length := by
        intro ls
        induction ls with
        | nil => intro os _; cases os <;> rfl
        | cons a ls ih => intro os h; cases os with
          | nil => simp at h
          | cons o os => simp only [dropN, List.length_cons] at *; rw [ih os (by omega)]; omega
      exact key ls os2 (by rw [hb.1]; omega)
    have hdis : ∀ l ∈ ls, l ∉ ks := fun l hl hm => (hl1 l hl).1 (lookO_goneIn hm)
    have hkeyk : ∀ k ∈ ks, keyIn (goneAll st.hp ls) k := fun k hm => keyIn_gone (keyIn_of (by obtain ⟨e, sz, xs, h⟩ := hrows k hm; rw [h]; simp))
    have hback2 := RelH.back (nx := st.nx) (ls := ls) hag q2' hb (by omega) (fun i l hi => by unfold backL; rw [Nat.zero_add, hi]) (fun i hi => by
      unfold backL; rw [Nat.zero_add, List.getElem?_eq_none hi])
    obtain ⟨M1, M2, rfl, hz1, hz2⟩ := RelH.cut hback2
    have hlk : ∀ k ∈ ks, lookO (goneAll st.hp ls) k = lookO st.hp k := fun k hm => lookO_goneAll (fun hl => hdis k hl hm)
    have hz3 : RelH I3 (fun l => if st.nx ≤ l then ρ2 (ls.length + (l - st.nx)) else ρ l) (zipN ks (ks.map (lookO (goneAll st.hp ls)))) Ls.flatten := lent_ok (hs.glob.mono hle3) hlen (fun i l hi => by
      obtain ⟨es, e1, e2⟩ := g1 i l hi
      rw [hlk l (List.mem_of_getElem? hi)]
      exact ⟨es, e1, (e2.mono hle3).ren hagree⟩)
    rw [goneAll_comm] at hc2
    obtain ⟨L4, hx1, hx2⟩ := RelH.putAll (hp := goneAll st.hp ls) hkeyk hnd (by simp) hz3 ((hc2.mono hle3).ren hagree)
    rw [putAll_same] at hx1
    obtain ⟨Lp, hp1, hp2⟩ := RelH.putAll (hp := st.hp) (fun l hl => keyIn_of (by have := (hl1 l hl).1; rwa [lookO_goneAll (hdis l hl)] at this)) hnd2 (by rw [hb.1]; omega) hz1 hx1
    have hperm : (Ls.flatten ++ (M1 ++ M2 ++ (Lr2 ++ F))).Perm ((M2 ++ Lp) ++ F) := by
      have e1 : (Ls.flatten ++ (M1 ++ M2 ++ (Lr2 ++ F))).Perm (M2 ++ (M1 ++ (Ls.flatten ++ Lr2)) ++ F) := by
        have p1 : (Ls.flatten ++ (M1 ++ M2)).Perm (M2 ++ (M1 ++ Ls.flatten)) := by
          refine List.perm_append_comm.trans ?_
          have : (M1 ++ M2).Perm (M2 ++ M1) := List.perm_append_comm
          simpa [List.append_assoc] using this.append_right Ls.flatten
        have := p1.append_right (Lr2 ++ F)
        simpa [List.append_assoc] using this
      exact e1.trans ((List.Perm.append_left _ ((List.Perm.append_left _ hx2).trans hp2)).append_right _)
    refine hk v I3 _ w' (hw3.perm hperm) ⟨hle3, fun l => if st.nx ≤ l then ρ2 (ls.length + (l - st.nx)) else ρ l, r2, _, .inr (renA_ok hag 4 r hr2 q1'), ?_, hagree, q6⟩
    refine ⟨(hs.frr.mono hle3).ren hagree, ⟨M2 ++ Lp, RelH.app hz2 hp1, rfl⟩, fun l hl => ?_⟩
    simp only at hl
    rw [hdl, hb.1] at hl
    rw [if_pos (by omega)]
    exact q3 _ (by omega)

theorem callW_ok {own : FuncId → Nat} {f : Operand} {args : Array Operand} {ts : Array TypeId} {k : FuncId} {as : List AV} {K : AV → St → Prop} (he : evCall st f args.toList = some (k, as)) (h : callW P own k as st K) :
    OpS P N ⟨d, .call ⟨.value f, args, ts⟩, ty, pos, aft, gd⟩ st K := by
  unfold evCall at he
  split at he
  · rename_i k' fs cs' as' hf hargs
    simp at he
    obtain ⟨rfl, rfl⟩ := he
    unfold callW at h
    cases hown2 : Nat.beq (own k') 2 with
    | true =>
      rw [hown2] at h
      refine lendW_ok (k := k') (as := fs ++ (as' ++ cs')) ?_ h
      unfold evCall
      rw [hf, hargs]; simp
    | false =>
    rw [hown2] at h
    simp only [cond_false] at h
    have hghost : ∃ st1, (bif Nat.beq (own k') 1 then st else fzArgs (fs ++ (as' ++ cs')) st) = st1 ∧ Gh st st1 ∧ Keeps st st1 := by
      cases Nat.beq (own k') 1 with
      | true => exact ⟨st, rfl, .refl, .refl⟩
      | false => exact ⟨_, rfl, (fzArgs_ok _ _).1, (fzArgs_ok _ _).2⟩
    obtain ⟨st1, e1, g, kp⟩ := hghost
    replace h := frcAs_ok 3 _ h
    replace h := frcT_ok h
    rw [e1] at h
    split at h
    · rename_i ls vs os hcan
      replace h := frcL_ok h
      cases hlive : liveAll st1.hp st1.nx ls with
      | false => rw [hlive] at h; exact h.elim
      | true =>
        rw [hlive] at h
        simp only [cond_true] at h
        replace h := frcOs_ok (frcAs_ok 3 _ h)
        refine OpS.gh g ?_
        intro I ρ F fr L hs
        obtain ⟨vf, f1, f2⟩ := kp.evA hf (by simp) hs
        obtain ⟨us, a1, a2⟩ := kp.evs hs hargs
        obtain ⟨Lc, Lr, hp, hc1, hc2, hlen, hnd, _, hargs2, _⟩ := canon_ok hs hcan
        cases f2 with
        | @fn _ fu cu _ _ fl fx cl cx =>
          have hall := hargs2 (fu ++ (us ++ cu)) (All2.app (R := RelA I ρ) ⟨fl, fx⟩ (All2.app (R := RelA I ρ) a2 ⟨cl, cx⟩))
          have hnew : ∀ j, os.length ≤ j → canρ ρ 0 ls j = .nilFunc := by
            intro j hj
            unfold canρ
            rw [if_neg (by omega), List.getElem?_eq_none (by omega)]
          have hm := h.run I (canρ ρ 0 ls) (fu ++ (us ++ cu)) Lc hall hc1 hnew
          refine Acts.perm hp (Acts.mono (W.call (vs := us) (as := fu ++ (us ++ cu)) (Lp := Lc) (F := Lr ++ F) f1 a1 h.call hm (by simp) (Take.app' _ _)) (fun v I' L' hr => ?_))
          obtain ⟨hle, M, ⟨ρ2, r, os', q1, q2, q3, q4, q5, q6⟩, rfl⟩ := hr
          split at q6
          · rename_i r' st' hback
            rw [back_eq] at hback
            split at hback
            · rename_i r2 os2 hr2 hos2
              simp at hback
              obtain ⟨rfl, rfl⟩ := hback
              have hb := backO_ok hos2
              have hlsl : ls.length = os.length := by rw [hlen]; omega
              have hρc : ∀ (i l : Nat), ls[i]? = some l → canρ ρ 0 ls i = ρ l := fun i l hi => by
                unfold canρ; rw [if_neg (by omega), Nat.sub_zero, hi]
              have hl1 := liveAll_ok hlive
              have hag : AgL (backL ls st1.nx) ρ2 (fun l => if st1.nx ≤ l then ρ2 (ls.length + (l - st1.nx)) else ρ l) := by
                intro i l' hi hne
                unfold backL at hi
                split at hi
                · rename_i l hl
                  simp at hi; subst hi
                  obtain ⟨hg, hlt⟩ := hl1 l (List.mem_of_getElem? hl)
                  obtain ⟨es, ho, _⟩ := hs.obj l
                  have hne2 : canρ ρ 0 ls i ≠ .nilFunc := by rw [hρc i l hl]; exact ho.live hg
                  show (if st1.nx ≤ l then ρ2 (ls.length + (l - st1.nx)) else ρ l) = ρ2 i
                  rw [if_neg (by omega), q5 i hne2, hρc i l hl]
                · rename_i hl
                  simp at hi; subst hi
                  have hge : ls.length ≤ i := List.getElem?_eq_none_iff.1 hl
                  show (if st1.nx ≤ st1.nx + (i - ls.length) then ρ2 (ls.length + (st1.nx + (i - ls.length) - st1.nx)) else ρ (st1.nx + (i - ls.length))) = ρ2 i
                  rw [if_pos (by omega)]
                  congr 1; omega
              have hagree : ∀ l, ρ l ≠ .nilFunc → (if st1.nx ≤ l then ρ2 (ls.length + (l - st1.nx)) else ρ l) = ρ l := by
                intro l hl
                rw [if_neg]
                intro hge; exact hl (hs.new l hge)
              have hback2 := RelH.back (nx := st1.nx) (ls := ls) hag q2 hb (by omega) (fun i l hi => by unfold backL; rw [Nat.zero_add, hi]) (fun i hi => by
                  unfold backL; rw [Nat.zero_add, List.getElem?_eq_none hi])
              obtain ⟨M1, M2, rfl, hz1, hz2⟩ := RelH.cut hback2
              obtain ⟨Lp, hp1, hp2⟩ := RelH.putAll (hp := st1.hp) (fun l hl => keyIn_of (hl1 l hl).1) hnd (by rw [hb.1]; omega) hz1 ((hc2.mono hle).ren hagree)
              refine ⟨(M2 ++ Lp) ++ F, ?_, hle, fun l => if st1.nx ≤ l then ρ2 (ls.length + (l - st1.nx)) else ρ l, r2, _, .inr (renA_ok hag 4 r hr2 q1), ?_, hagree, q6⟩
              · have e1 : (M1 ++ M2 ++ (Lr ++ F)).Perm (M2 ++ (M1 ++ Lr) ++ F) := by
                  have : (M1 ++ M2).Perm (M2 ++ M1) := List.perm_append_comm
                  have := this.append_right (Lr ++ F)
                  simpa [List.append_assoc] using this
                exact e1.trans ((List.Perm.append_left _ hp2).append_right _)
              have hdl : (dropN ls os2).length = os2.length - ls.length := by
                have key : ∀ (ls : List Nat) (os : List Obj), ls.length ≤ os.length → (dropN ls os).length = os.length - ls.length := by
                  intro ls
                  induction ls with
                  | nil => intro os _; cases os <;> rfl
                  | cons a ls ih => intro os h; cases os with
                    | nil => simp at h
                    | cons o os => simp only [dropN, List.length_cons] at *; rw [ih os (by omega)]; omega
                exact key ls os2 (by rw [hb.1]; omega)
              refine ⟨(hs.frr.mono hle).ren hagree, ⟨M2 ++ Lp, RelH.app hz2 hp1, rfl⟩, fun l hl => ?_⟩
              · simp only at hl
                rw [hdl, hb.1] at hl
                rw [if_pos (by omega)]
                exact q3 _ (by omega)
            · cases hback
          · exact q6.elim
    · exact h.elim
  · cases he
end
end Go.V
