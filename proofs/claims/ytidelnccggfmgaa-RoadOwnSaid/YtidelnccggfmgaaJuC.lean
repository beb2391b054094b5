/- The engine, part N: append of a string to a row of bytes. No function of the program is proved here. -/
import Derived.Test.YtidelnccggfmgaaJuA
import Derived.Lib.AppendStr
set_option linter.unusedVariables false
set_option linter.unusedSimpArgs false
set_option linter.unnecessarySimpa false
set_option linter.unusedSectionVars false
set_option linter.all false
/- The engine, part N: append of a string to a row of bytes. No function of the program is proved here. -/
namespace Go.Eng
open Go.RowKit
section
variable {P : Program} {N : Nat} {fr : Frm} {I : Imm} {L : List Ent}
variable {ty : TypeId} {pos : String} {aft : Array Edge} {gd : Option (Nat × Bool)} {d : Option Tmp} {x y : Operand}
theorem run_append_str2 {w : World} (t u ty e : TypeId) (i : TypeInfo) (ht : P.underlying t = some (.slice e)) (hu : P.underlying u = some .string) (hi : P.info? e = some i) (hz : i.zero = some (.int .u8 0))
    (hsize : i.size = 1) (hby : i.bytes = 1) (v : Value) (n : Nat) (xs : List Value) (hown : Row w e 1 v n xs) (s : ByteArray) (h63 : n + s.size ≤ maxLen) (hbytes : n + s.size ≤ 140737488355328) :
    ∃ v' w', (Builtin.append_ #[t, u] ty #[v, .string s]).run P w = .ok v' w' ∧ Row w' e 1 v' (n + s.size) (xs ++ Lib.strCells s) ∧ w.grownBy w' v.ownBlock ∧
      (∀ b, v'.ownBlock = some b → v.ownBlock = some b ∨ w.heap.size ≤ b) := by
  have hxl : xs.length = n := by simpa using hown.1
  have hsl := Lib.strCells_length s
  have hlen : (xs ++ Lib.strCells s).length = (n + s.size) * 1 := by rw [List.length_append, hxl, hsl, Nat.mul_one]
  have hmx : maxLen = 9223372036854775807 := rfl
  rcases hown.2 with ⟨rfl, rfl⟩ | ⟨g, cap, cur, rfl, hbg, hg, hnc, hcm, hcs, htake⟩
  · have hx : xs = [] := List.eq_nil_of_length_eq_zero hxl
    subst hx
    obtain ⟨v', w', hrun, hown', hgr, _⟩ := Lib.run_append_own_string (P := P) w (ty := ty) w.heap.size t u e i ht hu hi hz hsize hby (.slice none 0 0) 0 [] (World.ownsRow_nil w _ e 1) s h63 hbytes (Nat.le_refl _)
    refine ⟨v', w', hrun, ⟨hown'.1, ?_⟩, hgr, fun b hb => .inr ((hown'.lt b hb).1)⟩
    rcases hown'.2 with h | ⟨g, cap, cur, h2, _, h3, h4, h5, h6, h7⟩
    · exact .inl h
    · exact .inr ⟨g, cap, cur, h2, Nat.zero_le _, h3, h4, h5, by omega, h7⟩
  · by_cases hroom : n + s.size ≤ cap
    · have hr := Lib.run_append_room_string (P := P) w t u ty e i ht hu hi hsize g n cap cur hg s hroom (by omega)
      refine ⟨_, _, hr, ⟨hlen, .inr ⟨g, cap, _, rfl, hbg, setRow_heap w g cur _ e _ hg, hroom, hcm, ?_, ?_⟩⟩, ⟨rfl, rfl, rfl, by simp, fun k _ hk => setRow_other w g k _ (fun e => hk (by simp [Value.ownBlock, e]))⟩, fun b hb => .inl (by simpa [Value.ownBlock] using hb)⟩
      · simp only [List.size_toArray, List.length_append, List.length_take, List.length_drop, Array.length_toList, hsl]
        omega
      · have ht' : cur.toList.take n = xs := by simpa using htake
        rw [ht', ← hlen]
        exact List.take_left
    · have holds : ∀ j u, xs[j]? = some u → w.cell? ((⟨g, 0, none⟩ : Addr).add j) = some u := hown.cells (g := g) rfl
      have hr := Lib.run_append_grow_string (P := P) w t u ty e i (.int .u8 0) ht hu hi hz ⟨g, 0, none⟩ n cap xs (by rw [hsize]; simpa using hxl) holds s (by omega) (by omega) (by rw [hby]; exact growslice_fits (by omega) (by omega))
      have hge := grownCap_ge w (n + s.size) cap e
      have hcm2 : grownCap w (n + s.size) cap e ≤ maxLen := grownCap_le_maxLen w (n + s.size) cap e h63
      refine ⟨_, _, hr, ⟨hlen, .inr ⟨w.heap.size, _, _, rfl, Nat.zero_le _, alloc_new w.drew _, hge, hcm2, ?_, ?_⟩⟩, ⟨rfl, rfl, rfl, by simp, fun k hk _ => alloc_old (w := w.drew) hk⟩, fun b hb => .inr (by simp [Value.ownBlock] at hb; omega)⟩
      · have hz1 : (Value.int IntKind.u8 0).cells.size = 1 := rfl
        simp only [Array.size_append, List.size_toArray, size_zeroCells, hz1, hxl, hsl]
        omega
      · simp only [Array.toList_append, List.append_assoc]
        rw [← List.append_assoc, ← hlen]
        exact List.take_left

/-- append of a string to a row of bytes of our own. -/
theorem W.appendStr {t t' e : TypeId} {n c : Nat} {A : Option Addr} {xs : List Value} {s : ByteArray} {L' : List Ent} {info : TypeInfo} (hx : evF fr x = some (.slice A n c)) (hy : evF fr y = some (.string s))
    (ht : P.underlying t = some (.slice e)) (ht' : P.underlying t' = some .string) (hi : P.info? e = some info) (hz : info.zero = some (.int .u8 0)) (hsz : info.size = 1) (hby : info.bytes = 1)
    (hr : Rem L (.row (.slice A n c) e 1 n xs) L') (hb : n + s.size ≤ 140737488355328) :
    Acts P N fr I L ⟨d, .call ⟨.builtin .append, #[x, y], #[t, t']⟩, ty, pos, aft, gd⟩ (fun v I' L2 => ∃ A' cp, v = .slice A' (n + s.size) cp ∧ I = I' ∧ L2 = .row (.slice A' (n + s.size) cp) e 1 (n + s.size) (xs ++ Lib.strCells s) :: L') := by
  intro a w next Q ha hs hk
  have hown : Row w e 1 (.slice A n c) n xs := hs.ents _ (hr.perm.mem_iff.2 List.mem_cons_self)
  obtain ⟨v', w', hrun, hown', hg, hbk⟩ := run_append_str2 (P := P) (w := w) t t' ty e info ht ht' hi hz hsz hby (.slice A n c) n xs hown s (by simp only [maxLen]; omega) hb
  have hr' : (execOp a.eval ⟨d, .call ⟨.builtin .append, #[x, y], #[t, t']⟩, ty, pos, aft, gd⟩).run P w = .ok (.value v') w' := by
    simp [execOp, resolve, invoke, builtin, ha.ev hx, ha.ev hy, hrun]
  unfold Oper.wp
  rw [hr', Oper.upon_value]
  have hv' : ∃ A' cp, v' = .slice A' (n + s.size) cp := by
    obtain ⟨_, ⟨h1, h0⟩ | ⟨g, cap, cur, h1, _⟩⟩ := hown'
    · exact ⟨.none, 0, by rw [h1, h0]⟩
    · exact ⟨_, _, h1⟩
  obtain ⟨A', cp, rfl⟩ := hv'
  refine hk _ I _ w' ?_ ⟨A', cp, rfl, rfl, rfl⟩
  exact (hs.perm hr.perm).swap (fun b hb hne => hg.block b hb (fun e => hne e.symm)) hown' hbk hg.os hg.tape hg.output
end
end Go.Eng

/- The second floor, part A: values by what they tell; states. No function of the program is proved here. -/
namespace Go.V
open Go.Eng

/-- What a value tells. -/
inductive D where
  | int (k : IntKind) (n : Int)
  | bool (b : Bool)
  | str (s : List UInt8)
  | nils
  | nilp
  | ro (xs : List D)
  | agg (cs : List D)
  | opq (v : Value)

def D.cells : D → List D
  | .agg cs => cs
  | x => [x]
abbrev cellsOf (xs : List D) : List D := xs.flatMap D.cells

theorem cellsOf_len {sz : Nat} {xs : List D} (h : ∀ x ∈ xs, x.cells.length = sz) : (cellsOf xs).length = xs.length * sz := by
  induction xs with
  | nil => simp [cellsOf]
  | cons x xs ih =>
    have := ih (fun y hy => h y (List.mem_cons_of_mem _ hy))
    simp only [cellsOf, List.flatMap_cons, List.length_append, List.length_cons] at *
    rw [this, h x List.mem_cons_self, Nat.add_mul, Nat.one_mul, Nat.add_comm]

theorem cellsOf_get {sz : Nat} : ∀ {xs : List D} (_ : ∀ x ∈ xs, x.cells.length = sz) {i : Nat} {x : D} (_ : xs[i]? = some x) {j : Nat} (_ : j < sz), (cellsOf xs)[i * sz + j]? = x.cells[j]?
  | [], _, _, _, hx, _, _ => by simp at hx
  | y :: xs, h, 0, x, hx, j, hj => by
    simp at hx; subst hx
    simp only [cellsOf, List.flatMap_cons, Nat.zero_mul, Nat.zero_add]
    rw [List.getElem?_append_left (by rw [h _ List.mem_cons_self]; exact hj)]
  | y :: xs, h, i + 1, x, hx, j, hj => by
    have ih := cellsOf_get (sz := sz) (xs := xs) (fun z hz => h z (List.mem_cons_of_mem _ hz)) (i := i) (x := x) (by simpa using hx) hj
    simp only [cellsOf, List.flatMap_cons] at *
    rw [List.getElem?_append_right (by rw [h y List.mem_cons_self, Nat.add_mul, Nat.one_mul]; omega)]
    have e : (i + 1) * sz + j - y.cells.length = i * sz + j := by rw [h y List.mem_cons_self, Nat.add_mul, Nat.one_mul]; omega
    rw [e]; exact ih

theorem cellsOf_set {sz : Nat} : ∀ {xs : List D} (_ : ∀ x ∈ xs, x.cells.length = sz) {i : Nat} {x x' : D} (_ : xs[i]? = some x) {j : Nat} {y : D} (_ : j < sz) (_ : x'.cells = x.cells.set j y), cellsOf (xs.set i x') = (cellsOf xs).set (i * sz + j) y
  | [], _, _, _, _, hx, _, _, _, _ => by simp at hx
  | z :: xs, h, 0, x, x', hx, j, y, hj, he => by
    simp at hx; subst hx
    simp only [cellsOf, List.set_cons_zero, List.flatMap_cons, Nat.zero_mul, Nat.zero_add, he]
    rw [List.set_append_left _ _ (by rw [h _ List.mem_cons_self]; exact hj)]
  | z :: xs, h, i + 1, x, x', hx, j, y, hj, he => by
    have ih := cellsOf_set (sz := sz) (xs := xs) (fun z hz => h z (List.mem_cons_of_mem _ hz)) (i := i) (x := x) (x' := x') (by simpa using hx) (y := y) hj he
    simp only [cellsOf, List.set_cons_succ, List.flatMap_cons] at *
    rw [List.set_append_right _ _ (by rw [h z List.mem_cons_self, Nat.add_mul, Nat.one_mul]; omega), ih]
    congr 2
    rw [h z List.mem_cons_self, Nat.add_mul, Nat.one_mul]; omega

def All2 {α β : Type} (R : α → β → Prop) (us : List α) (cs : List β) : Prop := us.length = cs.length ∧ ∀ (j : Nat) (u : α) (y : β), us[j]? = some u → cs[j]? = some y → R u y

section
variable {α β : Type} {R : α → β → Prop}
theorem All2.nil : All2 R ([] : List α) ([] : List β) := ⟨rfl, fun j u y h => by simp at h⟩
theorem All2.cons {u : α} {y : β} {us : List α} {cs : List β} (h : R u y) (k : All2 R us cs) : All2 R (u :: us) (y :: cs) := by
  refine ⟨by simp [k.1], fun j a b ha hb => ?_⟩
  cases j with
  | zero => simp at ha hb; subst ha; subst hb; exact h
  | succ j => exact k.2 j a b (by simpa using ha) (by simpa using hb)
theorem All2.one {u : α} {y : β} (h : R u y) : All2 R [u] [y] := .cons h .nil
theorem All2.uncons {us : List α} {y : β} {cs : List β} (h : All2 R us (y :: cs)) : ∃ u vs, us = u :: vs ∧ R u y ∧ All2 R vs cs := by
  obtain ⟨hl, hx⟩ := h
  cases us with
  | nil => simp at hl
  | cons u vs => exact ⟨u, vs, rfl, hx 0 u y rfl rfl, by simpa using hl, fun j a b ha hb => hx (j + 1) a b (by simpa using ha) (by simpa using hb)⟩
theorem All2.unnil {us : List α} (h : All2 R us ([] : List β)) : us = [] := List.length_eq_zero_iff.1 h.1
theorem All2.imp {S : α → β → Prop} {us : List α} {cs : List β} (h : All2 R us cs) (k : ∀ u y, R u y → S u y) : All2 S us cs := ⟨h.1, fun j u y a b => k u y (h.2 j u y a b)⟩
theorem All2.app {us vs : List α} {cs ds : List β} (h : All2 R us cs) (k : All2 R vs ds) : All2 R (us ++ vs) (cs ++ ds) := by
  refine ⟨by simp [h.1, k.1], fun j u y ha hb => ?_⟩
  rw [List.getElem?_append] at ha hb
  rw [← h.1] at hb
  split at ha
  · rename_i hj; rw [if_pos hj] at hb; exact h.2 j u y ha hb
  · rename_i hj; rw [if_neg hj] at hb; exact k.2 _ u y ha hb
theorem All2.take {us : List α} {cs : List β} (h : All2 R us cs) (n : Nat) : All2 R (us.take n) (cs.take n) := by
  refine ⟨by simp [h.1], fun j u y ha hb => ?_⟩
  rw [List.getElem?_take] at ha hb
  split at ha
  · rename_i hj; rw [if_pos hj] at hb; exact h.2 j u y ha hb
  · cases ha
theorem All2.drop {us : List α} {cs : List β} (h : All2 R us cs) (n : Nat) : All2 R (us.drop n) (cs.drop n) := by
  refine ⟨by simp [h.1], fun j u y ha hb => ?_⟩
  rw [List.getElem?_drop] at ha hb
  exact h.2 _ u y ha hb
theorem All2.set {us : List α} {cs : List β} (h : All2 R us cs) (n : Nat) {u : α} {y : β} (hr : R u y) : All2 R (us.set n u) (cs.set n y) := by
  refine ⟨by simp [h.1], fun j a b ha hb => ?_⟩
  rw [List.getElem?_set] at ha hb
  by_cases e : n = j
  · subst e
    rw [if_pos rfl] at ha hb
    split at ha
    · split at hb
      · simp at ha hb; subst ha; subst hb; exact hr
      · cases hb
    · cases ha
  · rw [if_neg e] at ha hb; exact h.2 j a b ha hb
theorem All2.get {us : List α} {cs : List β} (h : All2 R us cs) {j : Nat} {y : β} (hy : cs[j]? = some y) : ∃ u, us[j]? = some u ∧ R u y := by
  have hlt : j < us.length := by rw [h.1]; exact (List.getElem?_eq_some_iff.1 hy).1
  exact ⟨us[j], List.getElem?_eq_getElem hlt, h.2 j _ y (List.getElem?_eq_getElem hlt) hy⟩
theorem All2.replicate {u : α} {y : β} (h : R u y) (n : Nat) : All2 R (List.replicate n u) (List.replicate n y) := by
  refine ⟨by simp, fun j a b ha hb => ?_⟩
  rw [List.getElem?_replicate] at ha hb
  split at ha
  · rename_i hj; rw [if_pos hj] at hb; simp at ha hb; subst ha; subst hb; exact h
  · cases ha
theorem All2.choose {cs : List β} (h : ∀ y ∈ cs, ∃ u, R u y) : ∃ us, All2 R us cs := by
  induction cs with
  | nil => exact ⟨[], .nil⟩
  | cons y cs ih =>
    obtain ⟨u, hu⟩ := h y List.mem_cons_self
    obtain ⟨us, hus⟩ := ih (fun z hz => h z (List.mem_cons_of_mem _ hz))
    exact ⟨u :: us, .cons hu hus⟩
end

def Ones (us : List Value) : Prop := ∀ u ∈ us, u.oneCell' = true
theorem Ones.nil : Ones [] := fun _ h => by cases h
theorem Ones.one {u : Value} (h : u.oneCell' = true) : Ones [u] := fun x hx => by rw [List.mem_singleton.1 hx]; exact h
theorem Ones.app {us vs : List Value} (h : Ones us) (k : Ones vs) : Ones (us ++ vs) := fun x hx => (List.mem_append.1 hx).elim (h x) (k x)
theorem Ones.take {us : List Value} (h : Ones us) (n : Nat) : Ones (us.take n) := fun x hx => h x (List.mem_of_mem_take hx)
theorem Ones.drop {us : List Value} (h : Ones us) (n : Nat) : Ones (us.drop n) := fun x hx => h x (List.mem_of_mem_drop hx)
theorem Ones.get {us : List Value} (h : Ones us) {j : Nat} {u : Value} (hj : us[j]? = some u) : u.oneCell' = true := h u (List.mem_of_getElem? hj)

inductive RelD (I : Imm) : Value → D → Prop where
  | int {k : IntKind} {n : Int} (h : InR k n) : RelD I (.int k n) (.int k n)
  | bool {b : Bool} : RelD I (.bool b) (.bool b)
  | str {s : List UInt8} (h : s.length ≤ 9223372036854775807) : RelD I (.string (strOf s)) (.str s)
  | nils : RelD I (.slice none 0 0) .nils
  | nilp : RelD I (.pointer none) .nilp
  | ro {A : Option Addr} {n c sz : Nat} {us : List Value} {xs : List D} (hn : xs.length = n) (hc : n ≤ c) (hm : n ≤ maxLen) (hz : ∀ x ∈ xs, x.cells.length = sz)
      (hr : ∀ (j : Nat) (u : Value), us[j]? = some u → ∃ a, A = some a ∧ I.cell (a.add j) = some u) (hl : us.length = (cellsOf xs).length) (h1 : Ones us) (hx : ∀ (j : Nat) (u : Value) (y : D), us[j]? = some u → (cellsOf xs)[j]? = some y → RelD I u y) : RelD I (.slice A n c) (.ro xs)
  | agg {us : List Value} {cs : List D} (hl : us.length = cs.length) (h1 : Ones us) (hx : ∀ (j : Nat) (u : Value) (y : D), us[j]? = some u → cs[j]? = some y → RelD I u y) : RelD I (.agg us.toArray) (.agg cs)
  | opq {v : Value} (h : v.cells = #[v] ∧ v.oneCell' = true) : RelD I v (.opq v)

theorem RelD.mono {I J : Imm} {v : Value} {x : D} (h : RelD I v x) (hle : I.le J) : RelD J v x := by
  induction h with
  | int h => exact .int h
  | bool => exact .bool
  | str h => exact .str h
  | nils => exact .nils
  | nilp => exact .nilp
  | ro hn hc hm hz hr hl h1 _ ih => exact .ro hn hc hm hz (fun j u hj => by obtain ⟨a, h1, h2⟩ := hr j u hj; exact ⟨a, h1, hle.cell h2⟩) hl h1 ih
  | agg hl h1 _ ih => exact .agg hl h1 ih
  | opq h => exact .opq h

theorem RelD.cells {I : Imm} {v : Value} {x : D} (h : RelD I v x) : All2 (RelD I) v.cells.toList x.cells := by
  cases h with
  | agg hl h1 hx => exact ⟨by simpa [Value.cells, D.cells] using hl, by simpa [Value.cells, D.cells] using hx⟩
  | int h => exact .one (.int h)
  | bool => exact .one .bool
  | str h => exact .one (.str h)
  | nils => exact .one .nils
  | nilp => exact .one .nilp
  | ro hn hc hm hz hr hl h1 hx => exact .one (.ro hn hc hm hz hr hl h1 hx)
  | opq h => rw [h.1]; exact .one (.opq h)

theorem RelD.ones {I : Imm} {v : Value} {x : D} (h : RelD I v x) : Ones v.cells.toList := by
  cases h with
  | agg hl h1 hx => simpa [Value.cells] using h1
  | opq h => rw [h.1]; exact .one h.2
  | _ => exact .one rfl

/-- What a slot holds: data, or a way to memory of the call's own. -/
inductive AV where
  | d (x : D)
  | sl (l : Nat)
  | ptr (l o : Nat)
  | rp (cs : List D) (f : Nat)
  | ep (l sz i f : Nat)
  | av (l sz o n : Nat)
  | agg (cs : List AV)
  | tup (vs : List AV)
  | fn (f : FuncId) (fs cs : List AV)
  | nilf
  | map (l : Nat)
  | nilm
  | ifc (b : Bool)
  | undef

/-- Is an interface's value nil? -/
def isIfc : Value → Option Bool
  | .nilIface => some true
  | .iface _ _ => some false
  | _ => none
theorem isIfc_cell {v : Value} {b : Bool} (h : isIfc v = some b) : v.cells = #[v] ∧ v.oneCell' = true := by cases v <;> first | exact ⟨rfl, rfl⟩ | (simp [isIfc] at h)

inductive RelA (I : Imm) (ρ : Nat → Value) : Value → AV → Prop where
  | d {v : Value} {x : D} (h : RelD I v x) : RelA I ρ v (.d x)
  | sl {l : Nat} {A : Option Addr} {n c : Nat} (h : ρ l = .slice A n c) : RelA I ρ (.slice A n c) (.sl l)
  | ptr {l o b : Nat} (h : ρ l = .pointer (some ⟨b, 0, none⟩)) : RelA I ρ (.pointer (some ⟨b, o, none⟩)) (.ptr l o)
  | rp {a : Addr} {us : List Value} {cs : List D} {f : Nat} (hr : ∀ (j : Nat) (u : Value), us[j]? = some u → I.cell (a.add j) = some u) (h1 : Ones us) (hu : All2 (RelD I) us cs) : RelA I ρ (.pointer (some (a.add f))) (.rp cs f)
  | ep {l sz i f b n c : Nat} (h : ρ l = .slice (some ⟨b, 0, none⟩) n c) : RelA I ρ (.pointer (some ⟨b, i * sz + f, none⟩)) (.ep l sz i f)
  | av {l sz o n c b : Nat} (h : ρ l = .pointer (some ⟨b, 0, none⟩)) (hc : n ≤ c) (hm : n ≤ maxLen) : RelA I ρ (.slice (some ⟨b, o * sz, none⟩) n c) (.av l sz o n)
  | agg {us : List Value} {cs : List AV} (hl : us.length = cs.length) (h1 : Ones us) (hx : ∀ (j : Nat) (u : Value) (y : AV), us[j]? = some u → cs[j]? = some y → RelA I ρ u y) : RelA I ρ (.agg us.toArray) (.agg cs)
  | tup {us : List Value} {cs : List AV} (hl : us.length = cs.length) (hx : ∀ (j : Nat) (u : Value) (y : AV), us[j]? = some u → cs[j]? = some y → RelA I ρ u y) : RelA I ρ (.tuple us.toArray) (.tup cs)
  | fn {f : FuncId} {us ws : List Value} {fs cs : List AV} (hl : us.length = fs.length) (hx : ∀ (j : Nat) (u : Value) (y : AV), us[j]? = some u → fs[j]? = some y → RelA I ρ u y) (hm : ws.length = cs.length) (hy : ∀ (j : Nat) (u : Value) (y : AV), ws[j]? = some u → cs[j]? = some y → RelA I ρ u y) :
      RelA I ρ (.func (.func f) us.toArray ws.toArray) (.fn f fs cs)
  | nilf : RelA I ρ .nilFunc .nilf
  | map {l r : Nat} (h : ρ l = .map (some r)) : RelA I ρ (.map (some r)) (.map l)
  | nilm : RelA I ρ (.map none) .nilm
  | ifc {v : Value} {b : Bool} (h : isIfc v = some b) : RelA I ρ v (.ifc b)

theorem RelA.mono {I J : Imm} {ρ : Nat → Value} {v : Value} {a : AV} (h : RelA I ρ v a) (hle : I.le J) : RelA J ρ v a := by
  induction h with
  | d h => exact .d (h.mono hle)
  | sl h => exact .sl h
  | ptr h => exact .ptr h
  | rp hr h1 hu => exact .rp (fun j u hj => hle.cell (hr j u hj)) h1 (hu.imp (fun _ _ h => h.mono hle))
  | ep h => exact .ep h
  | av h hc hm => exact .av h hc hm
  | agg hl h1 _ ih => exact .agg hl h1 ih
  | tup hl _ ih => exact .tup hl ih
  | fn hl _ hm _ ih ih2 => exact .fn hl ih hm ih2
  | nilf => exact .nilf
  | map h => exact .map h
  | nilm => exact .nilm
  | ifc h => exact .ifc h

/-- Another way to tell blocks by labels, that agrees where it counts. -/
theorem RelA.ren {I : Imm} {ρ ρ' : Nat → Value} {v : Value} {a : AV} (h : RelA I ρ v a) (he : ∀ l, ρ l ≠ .nilFunc → ρ' l = ρ l) : RelA I ρ' v a := by
  induction h with
  | d h => exact .d h
  | sl h => exact .sl (by rw [he _ (by rw [h]; exact fun e => by cases e)]; exact h)
  | ptr h => exact .ptr (by rw [he _ (by rw [h]; exact fun e => by cases e)]; exact h)
  | rp hr h1 hu => exact .rp hr h1 hu
  | ep h => exact .ep (by rw [he _ (by rw [h]; exact fun e => by cases e)]; exact h)
  | av h hc hm => exact .av (by rw [he _ (by rw [h]; exact fun e => by cases e)]; exact h) hc hm
  | agg hl h1 _ ih => exact .agg hl h1 ih
  | tup hl _ ih => exact .tup hl ih
  | fn hl _ hm _ ih ih2 => exact .fn hl ih hm ih2
  | nilf => exact .nilf
  | map h => exact .map (by rw [he _ (by rw [h]; exact fun e => by cases e)]; exact h)
  | nilm => exact .nilm
  | ifc h => exact .ifc h

/-! ## Objects -/
/-- What is told of an object only by a law of its own. -/
structure Rl where
  rel : Imm → Value → List Ent → Prop
  mono : ∀ {I J : Imm} {v : Value} {es : List Ent}, rel I v es → I.le J → rel J v es
  ne : ∀ {I : Imm} {v : Value} {es : List Ent}, rel I v es → v ≠ .nilFunc
inductive Obj where
  | row (e : TypeId) (sz : Nat) (xs : List D)
  | vec (t : TypeId) (cs : List AV)
  | arr (t : TypeId) (cs : List D)
  | froz (xs : List D)
  | fzn (cs : List D)
  | abs (R : Rl)
  | gone

/-- What an object is in memory: its entries. -/
def RelO (I : Imm) (ρ : Nat → Value) (l : Nat) : Obj → List Ent → Prop
  | .row e sz xs, es => ∃ A c us, ρ l = .slice A xs.length c ∧ (∀ x ∈ xs, x.cells.length = sz) ∧ All2 (RelD I) us (cellsOf xs) ∧ Ones us ∧ es = [.row (.slice A xs.length c) e sz xs.length us]
  | .vec t cs, es => ∃ b us, ρ l = .pointer (some ⟨b, 0, none⟩) ∧ All2 (RelA I ρ) us cs ∧ Ones us ∧ es = [.blk b t us]
  | .arr t cs, es => ∃ b us, ρ l = .pointer (some ⟨b, 0, none⟩) ∧ All2 (RelD I) us cs ∧ Ones us ∧ es = [.blk b t us]
  | .froz xs, es => RelD I (ρ l) (.ro xs) ∧ es = []
  | .fzn cs, es => (∃ b us, ρ l = .pointer (some ⟨b, 0, none⟩) ∧ (∀ (j : Nat) (u : Value), us[j]? = some u → I.cell ⟨b, j, none⟩ = some u) ∧ Ones us ∧ All2 (RelD I) us cs) ∧ es = []
  | .abs R, es => R.rel I (ρ l) es
  | .gone, es => es = []

theorem RelO.mono {I J : Imm} {ρ : Nat → Value} {l : Nat} {o : Obj} {es : List Ent} (h : RelO I ρ l o es) (hle : I.le J) : RelO J ρ l o es := by
  cases o with
  | row e sz xs => obtain ⟨A, c, us, h1, h2, h3, h4⟩ := h; exact ⟨A, c, us, h1, h2, h3.imp (fun _ _ h => h.mono hle), h4⟩
  | vec t cs => obtain ⟨b, us, h1, h2, h3⟩ := h; exact ⟨b, us, h1, h2.imp (fun _ _ h => h.mono hle), h3⟩
  | arr t cs => obtain ⟨b, us, h1, h2, h3⟩ := h; exact ⟨b, us, h1, h2.imp (fun _ _ h => h.mono hle), h3⟩
  | froz xs => exact ⟨h.1.mono hle, h.2⟩
  | fzn cs => obtain ⟨⟨b, us, h1, h2, h5, h3⟩, h4⟩ := h; exact ⟨⟨b, us, h1, fun j u hj => hle.cell (h2 j u hj), h5, h3.imp (fun _ _ h => h.mono hle)⟩, h4⟩
  | abs R => exact R.mono h hle
  | gone => exact h

theorem RelO.ren {I : Imm} {ρ ρ' : Nat → Value} {l : Nat} {o : Obj} {es : List Ent} (h : RelO I ρ l o es) (he : ∀ l, ρ l ≠ .nilFunc → ρ' l = ρ l) : RelO I ρ' l o es := by
  cases o with
  | row e sz xs => obtain ⟨A, c, us, h1, h2, h3, h4⟩ := h; exact ⟨A, c, us, (he l (by rw [h1]; exact fun e => by cases e)).trans h1, h2, h3, h4⟩
  | vec t cs => obtain ⟨b, us, h1, h2, h3⟩ := h; exact ⟨b, us, (he l (by rw [h1]; exact fun e => by cases e)).trans h1, h2.imp (fun _ _ h => h.ren he), h3⟩
  | arr t cs => obtain ⟨b, us, h1, h2, h3⟩ := h; exact ⟨b, us, (he l (by rw [h1]; exact fun e => by cases e)).trans h1, h2, h3⟩
  | froz xs =>
    obtain ⟨h1, h2⟩ := h
    refine ⟨?_, h2⟩
    rw [he l (by intro e; rw [e] at h1; cases h1)]; exact h1
  | fzn cs => obtain ⟨⟨b, us, h1, h2⟩, h4⟩ := h; exact ⟨⟨b, us, (he l (by rw [h1]; exact fun e => by cases e)).trans h1, h2⟩, h4⟩
  | abs R =>
    have h1 : R.rel I (ρ l) es := h
    show R.rel I (ρ' l) es
    rw [he l (R.ne h1)]; exact h1
  | gone => exact h

/-! ## States -/
structure St where
  fr : List (Nat × AV)
  hp : List (Nat × Obj)
  nx : Nat

def lookA : List (Nat × AV) → Nat → AV
  | [], _ => .undef
  | (k, v) :: l, t => bif Nat.beq k t then v else lookA l t

def lookO : List (Nat × Obj) → Nat → Obj
  | [], _ => .gone
  | (k, o) :: l, t => bif Nat.beq k t then o else lookO l t

def setO : List (Nat × Obj) → Nat → Obj → List (Nat × Obj)
  | [], _, _ => []
  | (k, o) :: l, t, o' => bif Nat.beq k t then (k, o') :: l else (k, o) :: setO l t o'

theorem beq_eq {k t : Nat} : Nat.beq k t = decide (k = t) := by
  cases h : Nat.beq k t with
  | true => have := Nat.eq_of_beq_eq_true h; simp [this]
  | false => have : k ≠ t := by { rintro rfl; simp at h }; simp [this]

theorem lookA_cons (k : Nat) (v : AV) (l : List (Nat × AV)) (t : Nat) : lookA ((k, v) :: l) t = if k = t then v else lookA l t := by
  show (bif Nat.beq k t then v else lookA l t) = _
  rw [beq_eq]; by_cases h : k = t <;> simp [h]

/-- What is known of package-level variables. -/
def globV : List (Nat × (Array Value → Prop)) := []
def Glob (I : Imm) : Prop := ∀ x ∈ globV, ∃ cs t fz, I.mem x.1 = some (.cells cs t fz) ∧ x.2 cs
theorem Glob.mono {I J : Imm} (h : Glob I) (hle : I.le J) : Glob J := fun x hx => by
  obtain ⟨cs, t, fz, h1, h2⟩ := h x hx
  exact ⟨cs, t, fz, hle.1 _ _ h1, h2⟩

/-- How a list of objects lies in memory. -/
inductive RelH (I : Imm) (ρ : Nat → Value) : List (Nat × Obj) → List Ent → Prop where
  | nil (g : Glob I) : RelH I ρ [] []
  | cons {l : Nat} {o : Obj} {h : List (Nat × Obj)} {es L : List Ent} (ho : RelO I ρ l o es) (k : RelH I ρ h L) : RelH I ρ ((l, o) :: h) (es ++ L)

theorem RelH.mono {I J : Imm} {ρ : Nat → Value} {h : List (Nat × Obj)} {L : List Ent} (k : RelH I ρ h L) (hle : I.le J) : RelH J ρ h L := by
  induction k with
  | nil g => exact .nil (g.mono hle)
  | cons ho _ ih => exact .cons (ho.mono hle) ih
theorem RelH.glob {I : Imm} {ρ : Nat → Value} {h : List (Nat × Obj)} {L : List Ent} (k : RelH I ρ h L) : Glob I := by
  induction k with
  | nil g => exact g
  | cons _ _ ih => exact ih
theorem RelH.ren {I : Imm} {ρ ρ' : Nat → Value} {h : List (Nat × Obj)} {L : List Ent} (k : RelH I ρ h L) (he : ∀ l, ρ l ≠ .nilFunc → ρ' l = ρ l) : RelH I ρ' h L := by
  induction k with
  | nil g => exact .nil g
  | cons ho _ ih => exact .cons (ho.ren he) ih

/-- One object, the others around it. -/
theorem RelH.at {I : Imm} {ρ : Nat → Value} {h : List (Nat × Obj)} {L : List Ent} (k : RelH I ρ h L) {l : Nat} {o : Obj} (hl : lookO h l = o) (hg : o ≠ .gone) :
    ∃ M es R, L = M ++ es ++ R ∧ RelO I ρ l o es ∧ ∀ o' es' (J : Imm) (ρ' : Nat → Value), (Glob I → Glob J) → (∀ l o es, RelO I ρ l o es → RelO J ρ' l o es) → RelO J ρ' l o' es' → RelH J ρ' (setO h l o') (M ++ es' ++ R) := by
  induction k with
  | nil g => exact absurd hl.symm hg
  | @cons l' o1 h es L ho k ih =>
    simp only [lookO] at hl
    rw [beq_eq] at hl
    by_cases e : l' = l
    · subst e
      simp at hl; subst hl
      refine ⟨[], es, L, by simp, ho, fun o' es' J ρ' hgl hm ho' => ?_⟩
      have hk : RelH J ρ' h L := by
        clear ih ho hg ho'
        induction k with
        | nil g => exact .nil (hgl g)
        | cons ho _ ih => exact .cons (hm _ _ _ ho) ih
      simp only [setO, beq_eq]
      simpa using RelH.cons ho' hk
    · simp [e] at hl
      obtain ⟨M, es2, R, rfl, h1, h2⟩ := ih hl
      refine ⟨es ++ M, es2, R, by simp, h1, fun o' es' J ρ' hgl hm ho' => ?_⟩
      simp only [setO, beq_eq, e]
      have := RelH.cons (hm _ _ _ ho) (h2 o' es' J ρ' hgl hm ho')
      simpa using this

theorem Upd.mid : ∀ {M : List Ent} {e e' : Ent} {R : List Ent}, Upd (M ++ e :: R) e e' (M ++ e' :: R)
  | [], _, _, _ => .head
  | _ :: _, _, _, _ => .tail Upd.mid

def FrR (I : Imm) (ρ : Nat → Value) (vs : List (Nat × AV)) (fr : Frm) : Prop := ∀ t, lookA vs t = .undef ∨ ∃ v, Eng.look fr t = some v ∧ RelA I ρ v (lookA vs t)

/-- A state, and what is known of memory. -/
structure SR (I : Imm) (ρ : Nat → Value) (F : List Ent) (st : St) (fr : Frm) (L : List Ent) : Prop where
  frr : FrR I ρ st.fr fr
  hpr : ∃ L', RelH I ρ st.hp L' ∧ L = L' ++ F
  new : ∀ l, st.nx ≤ l → ρ l = .nilFunc

theorem FrR.put {I : Imm} {ρ : Nat → Value} {vs : List (Nat × AV)} {fr : Frm} (h : FrR I ρ vs fr) (d : Nat) {v : Value} {a : AV} (ha : RelA I ρ v a) : FrR I ρ ((d, a) :: vs) ((d, v) :: fr) := by
  intro t
  rw [lookA_cons, look_cons]
  by_cases e : d = t
  · rw [if_pos e, if_pos e]; exact .inr ⟨v, rfl, ha⟩
  · rw [if_neg e, if_neg e]; exact h t
theorem FrR.hide {I : Imm} {ρ : Nat → Value} {vs : List (Nat × AV)} {fr : Frm} (h : FrR I ρ vs fr) (d : Nat) (v : Value) : FrR I ρ ((d, .undef) :: vs) ((d, v) :: fr) := by
  intro t
  rw [lookA_cons, look_cons]
  by_cases e : d = t
  · rw [if_pos e]; exact .inl rfl
  · rw [if_neg e, if_neg e]; exact h t
theorem FrR.mono {I J : Imm} {ρ : Nat → Value} {vs : List (Nat × AV)} {fr : Frm} (h : FrR I ρ vs fr) (hle : I.le J) : FrR J ρ vs fr := fun t => (h t).imp id (fun ⟨v, h1, h2⟩ => ⟨v, h1, h2.mono hle⟩)
theorem FrR.ren {I : Imm} {ρ ρ' : Nat → Value} {vs : List (Nat × AV)} {fr : Frm} (h : FrR I ρ vs fr) (he : ∀ l, ρ l ≠ .nilFunc → ρ' l = ρ l) : FrR I ρ' vs fr := fun t => (h t).imp id (fun ⟨v, h1, h2⟩ => ⟨v, h1, h2.ren he⟩)

/-- A new label. -/
def bind (ρ : Nat → Value) (l : Nat) (v : Value) : Nat → Value := fun k => if k = l then v else ρ k
theorem bind_agree {ρ : Nat → Value} {l : Nat} {v : Value} (h : ρ l = .nilFunc) : ∀ k, ρ k ≠ .nilFunc → bind ρ l v k = ρ k := by
  intro k hk
  unfold bind
  rw [if_neg (by rintro rfl; exact hk h)]
theorem bind_self {ρ : Nat → Value} {l : Nat} {v : Value} : bind ρ l v l = v := by simp [bind]
end Go.V

/- The second floor, part B: operands, types, operations that only tell a value. No function of the program is proved here. -/
namespace Go.V
open Go.Eng

/-! ## Types -/
inductive TD where
  | int (k : IntKind) | bool | string | pointer (e : TypeId) | slice (e : TypeId) | array (n : Nat) (e : TypeId) | struct (fs : List (TypeId × Nat)) | map (k e : TypeId) | func | iface | other

def tdOf : TypeDesc → TD
  | .int k => .int k
  | .bool => .bool
  | .string => .string
  | .pointer e => .pointer e
  | .slice e => .slice e
  | .array n e => .array n e
  | .struct fs => .struct (fs.toList.map fun f => (f.type, f.offset))
  | .map k e => .map k e
  | .func _ _ _ => .func
  | .interface _ => .iface
  | _ => .other

structure TI where
  td : TD
  size : Nat
  bytes : Nat
  zero : AV

def TD.one : TD → Bool
  | .struct _ | .array _ _ => false
  | _ => true

/-- A constant, as what it tells. -/
def constD : Value → Option D
  | .int k n => bif (decide (loK k ≤ n) && decide (n ≤ hiK k)) then some (.int k n) else none
  | .bool b => some (.bool b)
  | .string s => bif Nat.ble s.data.toList.length 1000000 then some (.str s.data.toList) else none
  | .pointer none => some .nilp
  | .slice none 0 0 => some .nils
  | _ => none
def constDs : List Value → Option (List D)
  | [] => some []
  | v :: vs => match constD v, constDs vs with
    | some x, some xs => some (x :: xs)
    | _, _ => none
def constA : Value → AV
  | .nilFunc => .nilf
  | .map none => .nilm
  | .nilIface => .ifc true
  | .agg cs => match constDs cs.toList with
    | some xs => .d (.agg xs)
    | none => .undef
  | v => match constD v with
    | some x => .d x
    | none => .undef

theorem constD_ok {I : Imm} {v : Value} {x : D} (h : constD v = some x) : RelD I v x := by
  unfold constD at h
  split at h
  · rename_i k n
    cases hb : (decide (loK k ≤ n) && decide (n ≤ hiK k)) with
    | false => rw [hb] at h; cases h
    | true =>
      rw [hb] at h; simp at h; subst h
      simp only [Bool.and_eq_true, decide_eq_true_eq] at hb
      exact .int hb
  · simp at h; subst h; exact .bool
  · rename_i s
    cases hb : Nat.ble s.data.toList.length 1000000 with
    | false => rw [hb] at h; cases h
    | true =>
      rw [hb] at h; simp at h; subst h
      have := Nat.le_of_ble_eq_true hb
      have h2 := RelD.str (I := I) (s := s.data.toList) (by omega)
      rw [← strOf_eq] at h2; exact h2
  · simp at h; subst h; exact .nilp
  · simp at h; subst h; exact .nils
  · cases h
theorem constD_one {v : Value} {x : D} (h : constD v = some x) : v.oneCell' = true := by
  cases v <;> first | rfl | (simp [constD] at h)
theorem constDs_ones : ∀ {vs : List Value} {xs : List D}, constDs vs = some xs → Ones vs
  | [], _, _ => .nil
  | v :: vs, xs, h => by
    unfold constDs at h
    split at h
    · rename_i x xs' h1 h2
      intro u hu
      rcases List.mem_cons.1 hu with rfl | hu
      · exact constD_one h1
      · exact constDs_ones h2 u hu
    · cases h
theorem constDs_ok {I : Imm} : ∀ {vs : List Value} {xs : List D}, constDs vs = some xs → All2 (RelD I) vs xs
  | [], xs, h => by simp [constDs] at h; subst h; exact .nil
  | v :: vs, xs, h => by
    unfold constDs at h
    split at h
    · rename_i x xs' h1 h2
      simp at h; subst h
      exact .cons (constD_ok h1) (constDs_ok h2)
    · cases h
theorem constA_ok {I : Imm} {ρ : Nat → Value} {v : Value} (h : constA v ≠ .undef) : RelA I ρ v (constA v) := by
  have dflt : ∀ {o : Option D} {u : Value}, constD u = o → (match o with | some x => AV.d x | none => .undef) ≠ .undef → RelA I ρ u (match o with | some x => AV.d x | none => .undef) := by
    intro o u ho hu
    cases o with
    | none => exact absurd rfl hu
    | some x => exact .d (constD_ok ho)
  cases v with
  | nilFunc => exact .nilf
  | agg cs =>
    simp only [constA] at h ⊢
    cases hx : constDs cs.toList with
    | none => rw [hx] at h; exact absurd rfl h
    | some xs =>
      have := constDs_ok (I := I) hx
      have h2 : RelD I (.agg cs.toList.toArray) (.agg xs) := .agg this.1 (constDs_ones hx) this.2
      exact .d (by simpa using h2)
  | nilIface => exact .ifc rfl
  | map r => cases r with
    | none => exact .nilm
    | some r => exact dflt rfl h
  | _ => exact dflt rfl h

/-- A table of types says what is so. -/
structure TOk (P : Program) (T : TypeId → Option TI) : Prop where
  ok : ∀ t i, T t = some i → ∃ desc info zv, P.underlying t = some desc ∧ tdOf desc = i.td ∧ P.info? t = some info ∧ info.zero = some zv ∧ info.size = i.size ∧ info.bytes = i.bytes ∧ zv.cells.size = i.size ∧ constA zv = i.zero ∧ i.zero ≠ .undef
  mix : P.follows .mixedOrders = true

section
variable {P : Program} {T : TypeId → Option TI}
theorem run_ti {t : TypeId} {info : TypeInfo} (h : P.info? t = some info) (w : World) : (typeInfo t).run P w = .ok info w := by simp [typeInfo, h]
theorem run_zv {t : TypeId} {info : TypeInfo} {zv : Value} (h : P.info? t = some info) (hz : info.zero = some zv) (w : World) : (zeroValue t).run P w = .ok zv w := by simp [zeroValue, typeInfo, h, hz]

theorem td_slice {d : TypeDesc} {e : TypeId} (h : tdOf d = .slice e) : d = .slice e := by cases d <;> simp [tdOf] at h; rw [h]
theorem td_int {d : TypeDesc} {k : IntKind} (h : tdOf d = .int k) : d = .int k := by cases d <;> simp [tdOf] at h; rw [h]
theorem td_string {d : TypeDesc} (h : tdOf d = .string) : d = .string := by cases d <;> simp [tdOf] at h; rfl
theorem td_bool {d : TypeDesc} (h : tdOf d = .bool) : d = .bool := by cases d <;> simp [tdOf] at h; rfl
theorem td_pointer {d : TypeDesc} {e : TypeId} (h : tdOf d = .pointer e) : d = .pointer e := by cases d <;> simp [tdOf] at h; rw [h]
theorem td_array {d : TypeDesc} {n e : Nat} (h : tdOf d = .array n e) : d = .array n e := by cases d <;> simp [tdOf] at h; rw [h.1, h.2]
theorem td_struct {d : TypeDesc} {fs : List (TypeId × Nat)} (h : tdOf d = .struct fs) : ∃ gs : Array Field, d = .struct gs ∧ gs.toList.map (fun f => (f.type, f.offset)) = fs := by cases d <;> simp [tdOf] at h; exact ⟨_, rfl, h⟩
theorem td_one {d : TypeDesc} : oneB d = (tdOf d).one := by cases d <;> rfl
end

/-! ## Operands -/
def normA (hp : List (Nat × Obj)) : AV → AV
  | .sl l => match lookO hp l with
    | .froz xs => .d (.ro xs)
    | _ => .sl l
  | .ptr l o => match lookO hp l with
    | .fzn cs => .rp cs o
    | _ => .ptr l o
  | a => a

def ev (st : St) : Operand → AV
  | .tmp t => normA st.hp (lookA st.fr t)
  | .const v => constA v
  | .func f => .fn f [] []
  | .global _ => .undef

def isU : AV → Bool
  | .undef => true
  | _ => false

/-- A value, reckoned out. -/
def frc : AV → Option AV
  | .d x => some (.d x)
  | .sl l => some (.sl l)
  | .ptr l o => some (.ptr l o)
  | .rp cs f => some (.rp cs f)
  | .ep l sz i f => some (.ep l sz i f)
  | .av l sz o n => some (.av l sz o n)
  | .agg cs => some (.agg cs)
  | .tup vs => some (.tup vs)
  | .fn f fs cs => some (.fn f fs cs)
  | .nilf => some .nilf
  | .map l => some (.map l)
  | .nilm => some .nilm
  | .ifc b => some (.ifc b)
  | .undef => none
theorem frc_ok {a b : AV} (h : frc a = some b) : a = b ∧ a ≠ .undef := by
  cases a <;> simp [frc] at h <;> subst h <;> exact ⟨rfl, by simp⟩

def evs (st : St) : List Operand → Option (List AV)
  | [] => some []
  | x :: xs => match frc (ev st x), evs st xs with
    | some a, some l => some (a :: l)
    | _, _ => none

section
variable {P : Program} {N : Nat} {T : TypeId → Option TI} {I : Imm} {ρ : Nat → Value} {F : List Ent} {st : St} {fr : Frm} {L : List Ent}

theorem RelH.get {h : List (Nat × Obj)} {L : List Ent} (k : RelH I ρ h L) (l : Nat) : ∃ es, RelO I ρ l (lookO h l) es ∧ ∀ e ∈ es, e ∈ L := by
  induction k with
  | nil => exact ⟨[], rfl, fun _ h => by cases h⟩
  | @cons l' o h es L ho k ih =>
    simp only [lookO, beq_eq]
    by_cases e : l' = l
    · subst e; exact ⟨es, by simpa using ho, fun x hx => List.mem_append_left _ hx⟩
    · obtain ⟨es2, h1, h2⟩ := ih
      exact ⟨es2, by simpa [e] using h1, fun x hx => List.mem_append_right _ (h2 x hx)⟩

theorem SR.obj (h : SR I ρ F st fr L) (l : Nat) : ∃ es, RelO I ρ l (lookO st.hp l) es ∧ ∀ e ∈ es, e ∈ L := by
  obtain ⟨L', hh, rfl⟩ := h.hpr
  obtain ⟨es, h1, h2⟩ := hh.get l
  exact ⟨es, h1, fun e he => List.mem_append_left _ (h2 e he)⟩

theorem normA_ok (h : SR I ρ F st fr L) {v : Value} {a : AV} (ha : RelA I ρ v a) : RelA I ρ v (normA st.hp a) := by
  cases ha with
  | @sl l A n c hl =>
    obtain ⟨es, h1, _⟩ := h.obj l
    simp only [normA]
    split
    · rename_i xs hx; rw [hx] at h1; exact .d (hl ▸ h1.1)
    · exact .sl hl
  | @ptr l o b hl =>
    obtain ⟨es, h1, _⟩ := h.obj l
    simp only [normA]
    split
    · rename_i cs hx
      rw [hx] at h1
      obtain ⟨⟨b', us, e1, e2, e4, e3⟩, _⟩ := h1
      rw [hl] at e1
      simp only [Value.pointer.injEq, Option.some.injEq, Addr.mk.injEq, and_true] at e1
      subst e1
      have := RelA.rp (I := I) (ρ := ρ) (a := ⟨b, 0, none⟩) (us := us) (cs := cs) (f := o) (fun j u hj => by rw [add_blk, Nat.zero_add]; exact e2 j u hj) e4 e3
      rw [add_blk, Nat.zero_add] at this; exact this
    · exact .ptr hl
  | _ => first | exact .d (by assumption) | exact .nilf | exact .nilm | exact .ifc (by assumption) | exact .rp (by assumption) (by assumption) (by assumption) | exact .ep (by assumption) | exact .av (by assumption) (by assumption) (by assumption) | exact .agg (by assumption) (by assumption) (by assumption) | exact .tup (by assumption) (by assumption) | exact .fn (by assumption) (by assumption) (by assumption) (by assumption) | exact .map (by assumption)

theorem ev_ok (h : SR I ρ F st fr L) {x : Operand} {a : AV} (he : ev st x = a) (hu : a ≠ .undef) : ∃ v, evF fr x = some v ∧ RelA I ρ v a := by
  subst he
  cases x with
  | tmp t =>
    rcases h.frr t with h1 | ⟨v, h1, h2⟩
    · simp only [ev, h1, normA] at hu; exact absurd rfl hu
    · exact ⟨v, h1, normA_ok h h2⟩
  | const v => exact ⟨v, rfl, constA_ok hu⟩
  | func f => exact ⟨_, rfl, .fn (us := []) (ws := []) rfl (fun j u y hj => by simp at hj) rfl (fun j u y hj => by simp at hj)⟩
  | global g => exact absurd rfl hu

theorem evs_ok (h : SR I ρ F st fr L) : ∀ {xs : List Operand} {as : List AV}, evs st xs = some as → ∃ vs, evL fr xs = some vs ∧ All2 (RelA I ρ) vs as
  | [], as, he => by simp [evs] at he; subst he; exact ⟨[], rfl, .nil⟩
  | x :: xs, as, he => by
    unfold evs at he
    split at he
    · rename_i a l ha hl
      simp at he; subst he
      obtain ⟨e1, e2⟩ := frc_ok ha
      obtain ⟨vs, h1, h2⟩ := evs_ok h hl
      obtain ⟨v, h3, h4⟩ := ev_ok h e1 (x := x) (by rw [← e1]; exact e2)
      exact ⟨v :: vs, by simp [evL, h3, h1], .cons h4 h2⟩
    · cases he

/-! ## Operations: what is to be shown -/
/-- What a result tells; nothing, where nothing is known. -/
def RelU (I : Imm) (ρ : Nat → Value) (v : Value) (a : AV) : Prop := a = .undef ∨ RelA I ρ v a
def OpS (P : Program) (N : Nat) (o : Oper) (st : St) (K : AV → St → Prop) : Prop :=
  ∀ I ρ F fr L, SR I ρ F st fr L → Acts P N fr I L o (fun v I' L' => I.le I' ∧ ∃ ρ' a st', RelU I' ρ' v a ∧ SR I' ρ' F st' fr L' ∧ (∀ l, ρ l ≠ .nilFunc → ρ' l = ρ l) ∧ K a st')

theorem OpS.val {o : Oper} {K : AV → St → Prop} (a : AV) (h : ∀ I ρ F fr L, SR I ρ F st fr L → ∃ v, RunsTo P fr I L o v ∧ RelA I ρ v a) (k : K a st) : OpS P N o st K := by
  intro I ρ F fr L hs
  obtain ⟨v, h1, h2⟩ := h I ρ F fr L hs
  intro act w next Q ha hw hk
  exact h1.acts act w next Q ha hw (fun v' I' L' w' hw' hi => hk v' I' L' w' hw' (by
    obtain ⟨rfl, rfl, rfl⟩ := hi
    exact ⟨Imm.le_refl _, ρ, a, st, .inr h2, hs, fun _ _ => rfl, k⟩))
end

/-! ## Numbers -/
def arithW (k : IntKind) (r : Int) (K : AV → Prop) : Prop :=
  match k with
  | .i64 => (-9223372036854775808 ≤ r ∧ r ≤ 9223372036854775807) ∧ K (.d (.int .i64 r))
  | .i32 => (-2147483648 ≤ r ∧ r ≤ 2147483647) ∧ K (.d (.int .i32 r))
  | k => bif uns k then K (.d (.int k (wr k r))) else False

def kEq : IntKind → IntKind → Bool
  | .i8, .i8 | .i16, .i16 | .i32, .i32 | .i64, .i64 | .u8, .u8 | .u16, .u16 | .u32, .u32 | .u64, .u64 => true
  | _, _ => false
theorem kEq_eq {a b : IntKind} (h : kEq a b = true) : a = b := by cases a <;> cases b <;> first | rfl | cases h

def bitsW (k : IntKind) (a b : Int) (r : Nat) (K : AV → Prop) : Prop := bif uns k then K (.d (.int k r)) else (0 ≤ a ∧ 0 ≤ b) ∧ K (.d (.int k r))
def shW (k : IntKind) (b : Int) (K : Prop) : Prop := bif uns k then K else 0 ≤ b ∧ K

def intW (op : BinOp) (k k' : IntKind) (a b : Int) (K : AV → Prop) : Prop :=
  match op with
  | .add => arithW k (a + b) K
  | .sub => arithW k (a - b) K
  | .mul => arithW k (a * b) K
  | .lss => K (.d (.bool (decide (a < b))))
  | .leq => K (.d (.bool (decide (a ≤ b))))
  | .gtr => K (.d (.bool (decide (b < a))))
  | .geq => K (.d (.bool (decide (b ≤ a))))
  | .eql => K (.d (.bool (decide (a = b))))
  | .neq => K (.d (.bool (decide (a ≠ b))))
  | .rem => bif uns k then b ≠ 0 ∧ K (.d (.int k (a % b))) else (0 ≤ a ∧ b ≠ 0) ∧ K (.d (.int k (a % b)))
  | .quo => bif uns k then 0 < b ∧ K (.d (.int k (a / b))) else (0 ≤ a ∧ 0 < b) ∧ K (.d (.int k (a / b)))
  | .and => bitsW k a b (a.toNat &&& b.toNat) K
  | .or => bitsW k a b (a.toNat ||| b.toNat) K
  | .xor => bitsW k a b (a.toNat ^^^ b.toNat) K
  | .andNot => bif uns k then K (.d (.int k ((a.toNat &&& (hiK k - b).toNat : Nat) : Int))) else False
  | .shl => shW k' b (arithW k (a * 2 ^ (min b.toNat k.bits)) K)
  | .shr => shW k' b (K (.d (.int k (a / 2 ^ (min b.toNat k.bits)))))

/-- Are two things one, cell by cell? -/
def eqD : D → D → Option Bool
  | .int k a, .int k' b => bif kEq k k' then some (decide (a = b)) else none
  | .bool a, .bool b => some (a == b)
  | .str a, .str b => some (decide (a = b))
  | _, _ => none

section
variable {P : Program} {N : Nat} {I : Imm} {ρ : Nat → Value} {F : List Ent} {st : St} {fr : Frm} {L : List Ent}
variable {ty : TypeId} {pos : String} {aft : Array Edge} {gd : Option (Nat × Bool)} {d : Option Tmp} {x y : Operand}

theorem rd_int {v : Value} {k : IntKind} {n : Int} (h : RelD I v (.int k n)) : v = .int k n ∧ InR k n := by cases h with | int h => exact ⟨rfl, h⟩
theorem ra_int {v : Value} {k : IntKind} {n : Int} (h : RelA I ρ v (.d (.int k n))) : v = .int k n ∧ InR k n := by cases h with | d h => exact rd_int h
theorem ra_bool {v : Value} {b : Bool} (h : RelA I ρ v (.d (.bool b))) : v = .bool b := by cases h with | d h => cases h with | bool => rfl
theorem ra_str {v : Value} {s : List UInt8} (h : RelA I ρ v (.d (.str s))) : v = .string (strOf s) ∧ s.length ≤ 9223372036854775807 := by cases h with | d h => cases h with | str h => exact ⟨rfl, h⟩
theorem rel_int {k : IntKind} {n : Int} (h : InR k n) : RelA I ρ (.int k n) (.d (.int k n)) := .d (.int h)
theorem rel_bool {b : Bool} : RelA I ρ (.bool b) (.d (.bool b)) := .d .bool

theorem uns_lo {k : IntKind} (h : uns k = true) : loK k = 0 := by cases k <;> first | rfl | cases h
theorem lo_le0 (k : IntKind) : loK k ≤ 0 := by cases k <;> decide
theorem inr_nat {k : IntKind} {n : Nat} (h : (n : Int) ≤ hiK k) : InR k n := ⟨by have := lo_le0 k; omega, h⟩

theorem arith_ok {k : IntKind} {r : Int} {o : Oper} {K : AV → Prop}
    (h1 : ∀ I ρ F fr L, SR I ρ F st fr L → InR k r → RunsTo P fr I L o (.int k r)) (h2 : ∀ I ρ F fr L, SR I ρ F st fr L → RunsTo P fr I L o (.int k (wr k r)))
    {K' : AV → St → Prop} (hK : ∀ a, K a → K' a st) (h : arithW k r K) : OpS P N o st K' := by
  unfold arithW at h
  split at h
  · exact OpS.val _ (fun I ρ F fr L hs => ⟨_, h1 I ρ F fr L hs h.1, rel_int h.1⟩) (hK _ h.2)
  · exact OpS.val _ (fun I ρ F fr L hs => ⟨_, h1 I ρ F fr L hs h.1, rel_int h.1⟩) (hK _ h.2)
  · cases hu : uns k with
    | false => rw [hu] at h; exact h.elim
    | true =>
      rw [hu] at h
      exact OpS.val _ (fun I ρ F fr L hs => ⟨_, h2 I ρ F fr L hs, rel_int (wr_inR hu _)⟩) (hK _ h)

theorem pow_le_hi (k : IntKind) {a b n : Nat} (ha : (a : Int) ≤ hiK k) (hb : (b : Int) ≤ hiK k) (hn : ∀ m, a < 2 ^ m → b < 2 ^ m → n < 2 ^ m) : (n : Int) ≤ hiK k := by
  obtain ⟨m, hm, _⟩ := hi_pow k
  have h2 := Nat.two_pow_pos m
  have := hn m (by omega) (by omega)
  omega

theorem R.andNot {t u : TypeId} {k : IntKind} {a b : Int} (hu : uns k = true) (hx : evF fr x = some (.int k a)) (hy : evF fr y = some (.int k b)) (ha : 0 ≤ a ∧ a ≤ hiK k) (hb : 0 ≤ b ∧ b ≤ hiK k) :
    RunsTo P fr I L ⟨d, .binOp .andNot t x y u, ty, pos, aft, gd⟩ (.int k ((a.toNat &&& (hiK k - b).toNat : Nat) : Int)) :=
  R.bin hx hy (fun w => by
    have e1 := ofInt_toNat ha.1 (hi_lt k ha.2); have e2 := ofInt_toNat hb.1 (hi_lt k hb.2)
    have e3 : ((a.toNat &&& (hiK k - b).toNat : Nat) : Int) ≤ hiK k := nat_le_hi k ha.1 ha.2 Nat.and_le_left
    have e4 := wrap_nat k e3
    have e5 : (2 ^ k.bits - 1 - b.toNat : Nat) = (hiK k - b).toNat := by
      have : hiK k = ((2 ^ k.bits - 1 : Nat) : Int) := by cases k <;> first | (simp [uns] at hu; done) | rfl
      rw [this]; omega
    simp only [binOp, Op.intBits]
    simp [BitVec.toNat_and, BitVec.toNat_not, e1, e2, e5, e4])
theorem emod_le {a b : Int} (ha : 0 ≤ a) (hb : b ≠ 0) : a % b ≤ a := by
  have key : ∀ c : Int, 0 < c → a % c ≤ a := fun c hc => by
    have h1 := Int.emod_add_mul_ediv a c
    have h2 := Int.mul_nonneg (show 0 ≤ c by omega) (Int.ediv_nonneg ha (show 0 ≤ c by omega))
    omega
  by_cases h : 0 < b
  · exact key b h
  · rw [← Int.emod_neg]; exact key (-b) (by omega)
theorem intW_ok {op : BinOp} {t u : TypeId} {k k' : IntKind} {a b : Int} {K : AV → St → Prop} (hk : (op = .shl ∨ op = .shr) ∨ k = k') (hx : ev st x = .d (.int k a)) (hy : ev st y = .d (.int k' b)) (h : intW op k k' a b (fun a => K a st)) :
    OpS P N ⟨d, .binOp op t x y u, ty, pos, aft, gd⟩ st K := by
  have key : ∀ I ρ F fr L, SR I ρ F st fr L → (evF fr x = some (.int k a) ∧ InR k a) ∧ (evF fr y = some (.int k' b) ∧ InR k' b) := by
    intro I ρ F fr L hs
    obtain ⟨v, h1, h2⟩ := ev_ok hs hx (by simp)
    obtain ⟨u, h3, h4⟩ := ev_ok hs hy (by simp)
    obtain ⟨rfl, h5⟩ := ra_int h2
    obtain ⟨rfl, h6⟩ := ra_int h4
    exact ⟨⟨h1, h5⟩, h3, h6⟩
  by_cases hsh : op = .shl ∨ op = .shr
  · have hb0 : ∀ I ρ F fr L, SR I ρ F st fr L → uns k' = true → 0 ≤ b := fun I ρ F fr L hs hu => by
      have := (key I ρ F fr L hs).2.2.1; rw [uns_lo hu] at this; exact this
    have shp : ∀ {Q : Prop}, shW k' b Q → Q ∧ (uns k' = true ∨ 0 ≤ b) := by
      intro Q h; unfold shW at h
      cases hu : uns k' with
      | true => rw [hu] at h; exact ⟨h, .inl rfl⟩
      | false => rw [hu] at h; exact ⟨h.2, .inr h.1⟩
    rcases hsh with rfl | rfl
    · obtain ⟨h, hb⟩ := shp h
      have hb' : ∀ I ρ F fr L, SR I ρ F st fr L → 0 ≤ b := fun I ρ F fr L hs => hb.elim (hb0 I ρ F fr L hs) id
      refine arith_ok (fun I ρ F fr L hs hr => ?_) (fun I ρ F fr L hs => R.shl (key I ρ F fr L hs).1.1 (key I ρ F fr L hs).2.1 (hb' I ρ F fr L hs)) (fun a ha => ha) h
      have := R.shl (P := P) (I := I) (L := L) (t := t) (u := u) (ty := ty) (pos := pos) (aft := aft) (gd := gd) (d := d) (key I ρ F fr L hs).1.1 (key I ρ F fr L hs).2.1 (hb' I ρ F fr L hs)
      rw [← wrap_wr, wrap_in hr] at this; exact this
    · obtain ⟨h, hb⟩ := shp h
      have hb' : ∀ I ρ F fr L, SR I ρ F st fr L → 0 ≤ b := fun I ρ F fr L hs => hb.elim (hb0 I ρ F fr L hs) id
      refine OpS.val _ (fun I ρ F fr L hs => ⟨_, R.shr (key I ρ F fr L hs).1.1 (key I ρ F fr L hs).2.1 (hb' I ρ F fr L hs), rel_int ?_⟩) h
      have hr := (key I ρ F fr L hs).1.2
      have h1 : (1 : Int) ≤ 2 ^ (min b.toNat k.bits) := by
        have := Nat.two_pow_pos (min b.toNat k.bits)
        have e : ((2 ^ (min b.toNat k.bits) : Nat) : Int) = 2 ^ (min b.toNat k.bits) := by simp
        rw [← e]; omega
      refine ⟨?_, ?_⟩
      · by_cases ha : 0 ≤ a
        · exact Int.le_trans (lo_le0 k) (Int.ediv_nonneg ha (by omega))
        · have : a ≤ a / 2 ^ (min b.toNat k.bits) := by
            rw [Int.le_ediv_iff_mul_le (by omega)]
            have := Int.mul_le_mul_of_nonpos_left (show a ≤ 0 by omega) h1
            rw [Int.mul_one] at this; exact this
          exact Int.le_trans hr.1 this
      · by_cases ha : 0 ≤ a
        · exact Int.le_trans (Int.ediv_le_self _ ha) hr.2
        · have : a / 2 ^ (min b.toNat k.bits) < 0 := Int.ediv_neg_of_neg_of_pos (by omega) (by omega)
          have h3 : 0 ≤ hiK k := by cases k <;> decide
          omega
  · obtain rfl : k = k' := hk.resolve_left hsh
    have lo : ∀ I ρ F fr L, SR I ρ F st fr L → uns k = true → 0 ≤ a ∧ 0 ≤ b := fun I ρ F fr L hs hu => by
      have h1 := (key I ρ F fr L hs).1.2.1; have h2 := (key I ρ F fr L hs).2.2.1
      rw [uns_lo hu] at h1 h2; exact ⟨h1, h2⟩
    have bits : ∀ {r : Nat}, bitsW k a b r (fun a => K a st) → K (.d (.int k r)) st ∧ (uns k = true ∨ (0 ≤ a ∧ 0 ≤ b)) := by
      intro r h; unfold bitsW at h
      cases hu : uns k with
      | true => rw [hu] at h; exact ⟨h, .inl rfl⟩
      | false => rw [hu] at h; exact ⟨h.2, .inr h.1⟩
    have nn : ∀ {c : Prop}, (uns k = true ∨ (0 ≤ a ∧ 0 ≤ b)) → ∀ I ρ F fr L, SR I ρ F st fr L → 0 ≤ a ∧ 0 ≤ b := fun {_} hc I ρ F fr L hs => hc.elim (lo I ρ F fr L hs) id
    have cmp : ∀ {p : Bool}, (∀ I ρ F fr L, SR I ρ F st fr L → RunsTo P fr I L ⟨d, .binOp op t x y u, ty, pos, aft, gd⟩ (.bool p)) → K (.d (.bool p)) st → OpS P N ⟨d, .binOp op t x y u, ty, pos, aft, gd⟩ st K :=
      fun hr hk => OpS.val _ (fun I ρ F fr L hs => ⟨_, hr I ρ F fr L hs, rel_bool⟩) hk
    cases op with
    | add => exact arith_ok (fun I ρ F fr L hs hr => R.add (key I ρ F fr L hs).1.1 (key I ρ F fr L hs).2.1 hr) (fun I ρ F fr L hs => R.addW (key I ρ F fr L hs).1.1 (key I ρ F fr L hs).2.1) (fun a ha => ha) h
    | sub => exact arith_ok (fun I ρ F fr L hs hr => R.sub (key I ρ F fr L hs).1.1 (key I ρ F fr L hs).2.1 hr) (fun I ρ F fr L hs => R.subW (key I ρ F fr L hs).1.1 (key I ρ F fr L hs).2.1) (fun a ha => ha) h
    | mul => exact arith_ok (fun I ρ F fr L hs hr => R.mul (key I ρ F fr L hs).1.1 (key I ρ F fr L hs).2.1 hr) (fun I ρ F fr L hs => R.mulW (key I ρ F fr L hs).1.1 (key I ρ F fr L hs).2.1) (fun a ha => ha) h
    | lss => exact cmp (fun I ρ F fr L hs => R.lss (key I ρ F fr L hs).1.1 (key I ρ F fr L hs).2.1) h
    | leq => exact cmp (fun I ρ F fr L hs => R.leq (key I ρ F fr L hs).1.1 (key I ρ F fr L hs).2.1) h
    | gtr => exact cmp (fun I ρ F fr L hs => R.gtr (key I ρ F fr L hs).1.1 (key I ρ F fr L hs).2.1) h
    | geq => exact cmp (fun I ρ F fr L hs => R.geq (key I ρ F fr L hs).1.1 (key I ρ F fr L hs).2.1) h
    | eql => exact cmp (fun I ρ F fr L hs => R.eql (key I ρ F fr L hs).1.1 (key I ρ F fr L hs).2.1) h
    | neq => exact cmp (fun I ρ F fr L hs => R.neq (key I ρ F fr L hs).1.1 (key I ρ F fr L hs).2.1) h
    | rem =>
      have h' : b ≠ 0 ∧ K (.d (.int k (a % b))) st ∧ (uns k = true ∨ 0 ≤ a) := by
        unfold intW at h
        cases hu : uns k with
        | true => rw [hu] at h; exact ⟨h.1, h.2, .inl rfl⟩
        | false => rw [hu] at h; exact ⟨h.1.2, h.2, .inr h.1.1⟩
      have ha : ∀ I ρ F fr L, SR I ρ F st fr L → 0 ≤ a := fun I ρ F fr L hs => h'.2.2.elim (fun hu => (lo I ρ F fr L hs hu).1) id
      refine OpS.val _ (fun I ρ F fr L hs => ⟨_, R.rem (key I ρ F fr L hs).1.1 (key I ρ F fr L hs).2.1 (ha I ρ F fr L hs) h'.1, rel_int ?_⟩) h'.2.1
      have h1 : 0 ≤ a % b := Int.emod_nonneg a h'.1
      have h2 : a % b ≤ a := emod_le (ha I ρ F fr L hs) h'.1
      exact ⟨Int.le_trans (lo_le0 k) h1, Int.le_trans h2 (key I ρ F fr L hs).1.2.2⟩
    | quo =>
      have h' : 0 < b ∧ K (.d (.int k (a / b))) st ∧ (uns k = true ∨ 0 ≤ a) := by
        unfold intW at h
        cases hu : uns k with
        | true => rw [hu] at h; exact ⟨h.1, h.2, .inl rfl⟩
        | false => rw [hu] at h; exact ⟨h.1.2, h.2, .inr h.1.1⟩
      have ha : ∀ I ρ F fr L, SR I ρ F st fr L → 0 ≤ a := fun I ρ F fr L hs => h'.2.2.elim (fun hu => (lo I ρ F fr L hs hu).1) id
      refine OpS.val _ (fun I ρ F fr L hs => ⟨_, R.quo (key I ρ F fr L hs).1.1 (key I ρ F fr L hs).2.1 (ha I ρ F fr L hs) h'.1 (key I ρ F fr L hs).1.2, rel_int ?_⟩) h'.2.1
      have h1 := ha I ρ F fr L hs
      exact ⟨Int.le_trans (lo_le0 k) (Int.ediv_nonneg h1 (by omega)), Int.le_trans (Int.ediv_le_self _ h1) (key I ρ F fr L hs).1.2.2⟩
    | and =>
      obtain ⟨h1, h2⟩ := bits h
      refine OpS.val _ (fun I ρ F fr L hs => ?_) h1
      obtain ⟨ha, hb⟩ := nn (c := True) h2 I ρ F fr L hs
      have ra := (key I ρ F fr L hs).1.2.2; have rb := (key I ρ F fr L hs).2.2.2
      exact ⟨_, R.and (key I ρ F fr L hs).1.1 (key I ρ F fr L hs).2.1 ⟨ha, ra⟩ ⟨hb, rb⟩, rel_int (inr_nat (pow_le_hi k (a := a.toNat) (b := b.toNat) (by omega) (by omega) (fun m h1 _ => Nat.lt_of_le_of_lt Nat.and_le_left h1)))⟩
    | or =>
      obtain ⟨h1, h2⟩ := bits h
      refine OpS.val _ (fun I ρ F fr L hs => ?_) h1
      obtain ⟨ha, hb⟩ := nn (c := True) h2 I ρ F fr L hs
      have ra := (key I ρ F fr L hs).1.2.2; have rb := (key I ρ F fr L hs).2.2.2
      exact ⟨_, R.or (key I ρ F fr L hs).1.1 (key I ρ F fr L hs).2.1 ⟨ha, ra⟩ ⟨hb, rb⟩, rel_int (inr_nat (pow_le_hi k (a := a.toNat) (b := b.toNat) (by omega) (by omega) (fun m h1 h2 => Nat.or_lt_two_pow h1 h2)))⟩
    | xor =>
      obtain ⟨h1, h2⟩ := bits h
      refine OpS.val _ (fun I ρ F fr L hs => ?_) h1
      obtain ⟨ha, hb⟩ := nn (c := True) h2 I ρ F fr L hs
      have ra := (key I ρ F fr L hs).1.2.2; have rb := (key I ρ F fr L hs).2.2.2
      exact ⟨_, R.xor (key I ρ F fr L hs).1.1 (key I ρ F fr L hs).2.1 ⟨ha, ra⟩ ⟨hb, rb⟩, rel_int (inr_nat (pow_le_hi k (a := a.toNat) (b := b.toNat) (by omega) (by omega) (fun m h1 h2 => Nat.xor_lt_two_pow h1 h2)))⟩
    | andNot =>
      unfold intW at h
      cases hu : uns k with
      | false => simp only [hu] at h; exact h.elim
      | true =>
        simp only [hu] at h
        refine OpS.val _ (fun I ρ F fr L hs => ?_) h
        obtain ⟨ha, hb⟩ := lo I ρ F fr L hs hu
        have ra := (key I ρ F fr L hs).1.2.2; have rb := (key I ρ F fr L hs).2.2.2
        exact ⟨_, R.andNot hu (key I ρ F fr L hs).1.1 (key I ρ F fr L hs).2.1 ⟨ha, ra⟩ ⟨hb, rb⟩, rel_int (inr_nat (nat_le_hi k ha ra Nat.and_le_left))⟩
    | shl => exact absurd (.inl rfl) hsh
    | shr => exact absurd (.inr rfl) hsh
end
end Go.V
