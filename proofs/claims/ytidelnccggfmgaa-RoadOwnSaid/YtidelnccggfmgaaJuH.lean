/- The second floor, part L: where a law begins: the given arguments as data. No function of the program is proved here. -/
import Derived.Test.YtidelnccggfmgaaJuF
import Derived.Test.YtidelnccggfmgaaJuA
import Derived.OpenShut
set_option linter.unusedVariables false
set_option linter.unusedSimpArgs false
set_option linter.unnecessarySimpa false
set_option linter.unusedSectionVars false
set_option linter.all false
/- The second floor, part L: where a law begins: the given arguments as data. No function of the program is proved here. -/
namespace Go.V
open Go.Eng Go.RowKit

/-- What a type's data come to. -/
def FitsD {α : Type} (P : Program) (t : TypeId) (sz : Nat) (mk : α → D) (Ok : α → Prop) : Prop :=
  ∀ {H : Type} (enc : TypeId × Value → H) (W : World) (fuel : Nat) (cs : List Value) (x : DataW H × List MemPlace),
    DataW.trod enc P W 0 (fun _ => true) true fuel t cs = some x → (x.1.weights P t).all (· ≤ reachBytes) = true → ∃ a, (mk a).cells.length = sz ∧ All2 (RelD (immOf W)) cs (mk a).cells ∧ Ones cs ∧ Ok a

theorem FitsD.int {P : Program} {t : TypeId} {k : IntKind} (ht : P.underlying t = some (.int k)) : FitsD P t 1 (fun n => .int k n) (fun n => InR k n) := by
  intro H enc W fuel cs x h _
  obtain ⟨n, rfl, rfl, hw⟩ := DataW.trod_int ht h
  exact ⟨n, rfl, .one (.int (InR_of_wf hw)), .one rfl, InR_of_wf hw⟩
theorem FitsD.bool {P : Program} {t : TypeId} (ht : P.underlying t = some .bool) : FitsD P t 1 (fun b => .bool b) (fun _ => True) := by
  intro H enc W fuel cs x h _
  obtain ⟨b, rfl, rfl⟩ := DataW.trod_bool ht h
  exact ⟨b, rfl, .one .bool, .one rfl, trivial⟩
theorem FitsD.str {P : Program} {t : TypeId} (ht : P.underlying t = some .string) : FitsD P t 1 (fun s => .str s) (fun s => s.length ≤ 140737488351232) := by
  intro H enc W fuel cs x h hw
  obtain ⟨s, hs, hok⟩ := Fits.str ht enc W fuel cs x h hw
  obtain rfl : cs = [.string s] := hs
  have hl : s.data.toList.length ≤ 140737488351232 := by rw [Array.length_toList]; exact hok
  refine ⟨s.data.toList, rfl, .one ?_, .one rfl, hl⟩
  have := RelD.str (I := immOf W) (s := s.data.toList) (by omega)
  rw [← strOf_eq] at this; exact this

theorem ones_flat {l : List (List Value)} (h : ∀ cs ∈ l, Ones cs) : Ones l.flatten := fun u hu => by
  obtain ⟨cs, h1, h2⟩ := List.mem_flatten.1 hu
  exact h cs h1 u h2
theorem All2.flat {I : Imm} : ∀ {l : List (List Value)} {xs : List D}, l.length = xs.length → (∀ (i : Nat) (cs : List Value) (x : D), l[i]? = some cs → xs[i]? = some x → All2 (RelD I) cs x.cells) → All2 (RelD I) l.flatten (cellsOf xs)
  | [], [], _, _ => .nil
  | cs :: l, x :: xs, hl, h => by
    rw [List.flatten_cons]
    show All2 _ _ (x.cells ++ cellsOf xs)
    exact All2.app (h 0 cs x rfl rfl) (All2.flat (by simpa using hl) (fun i c y hc hy => h (i + 1) c y (by simpa using hc) (by simpa using hy)))
  | [], _ :: _, hl, _ => by simp at hl
  | _ :: _, [], hl, _ => by simp at hl
theorem flat_get {sz : Nat} : ∀ {l : List (List Value)} (_ : ∀ cs ∈ l, cs.length = sz) {j : Nat} {u : Value} (_ : l.flatten[j]? = some u), ∃ i k cs, l[i]? = some cs ∧ cs[k]? = some u ∧ j = i * sz + k
  | [], _, j, u, h => by simp at h
  | cs :: l, hs, j, u, h => by
    rw [List.flatten_cons, List.getElem?_append] at h
    have hc := hs cs List.mem_cons_self
    split at h
    · exact ⟨0, j, cs, rfl, h, by omega⟩
    · obtain ⟨i, k, c, h1, h2, h3⟩ := flat_get (fun c hc => hs c (List.mem_cons_of_mem _ hc)) h
      exact ⟨i + 1, k, c, by simpa using h1, h2, by rw [Nat.add_mul]; omega⟩

theorem FitsD.slice {α : Type} {P : Program} {t e : TypeId} {sz : Nat} {mk : α → D} {Ok : α → Prop} (by' : Nat) (ht : P.underlying t = some (.slice e)) (hc : P.cellsOf e = sz) (hb : P.bytesOf e = by') (he : FitsD P e sz mk Ok) :
    FitsD P t 1 (fun xs : List α => .ro (xs.map mk)) (fun xs => xs.length * by' ≤ 140737488351232 ∧ ∀ x ∈ xs, Ok x) := by
  subst hb
  intro H enc W fuel cs x h hw
  rcases Deep.open_slice ht h with ⟨rfl, rfl⟩ | ⟨a, len, cap, m, n, D, Pl, rfl, hb0, hl, hm, hmm, rfl, hx⟩
  · exact ⟨[], rfl, .one relD_ro_nil, .one rfl, by simp, fun x hx => by cases hx⟩
  · simp only [DataW.weights, ht, List.all_cons, List.all_append, Bool.and_eq_true, List.length_map, List.length_range, decide_eq_true_eq] at hw
    obtain ⟨hw1, hw2, _⟩ := hw
    have hlm : len ≤ m := by rw [hmm]; split <;> omega
    obtain ⟨l, hlen, hl2⟩ := list_choose (R := fun i (y : List Value × α) => W.cells? 0 (a.add (i * P.cellsOf e)) (P.cellsOf e) = some y.1 ∧ (mk y.2).cells.length = sz ∧ All2 (RelD (immOf W)) y.1 (mk y.2).cells ∧ Ones y.1 ∧ Ok y.2) len (fun i hi => by
      obtain ⟨cs', h1, h2⟩ := hx i (by omega)
      obtain ⟨y, hy0, hy, hy1, hok⟩ := he enc W n cs' _ h2 (weightsAll_each hw2 (D i) (List.mem_map.2 ⟨i, by simpa using hi, rfl⟩))
      exact ⟨(cs', y), h1, hy0, hy, hy1, hok⟩)
    have each : ∀ y ∈ l, ∃ i, W.cells? 0 (a.add (i * P.cellsOf e)) (P.cellsOf e) = some y.1 ∧ (mk y.2).cells.length = sz ∧ All2 (RelD (immOf W)) y.1 (mk y.2).cells ∧ Ones y.1 ∧ Ok y.2 := fun y hy => by
      obtain ⟨i, hi⟩ := List.getElem?_of_mem hy
      exact ⟨i, hl2 i y hi⟩
    have hall : All2 (RelD (immOf W)) (l.map (·.1)).flatten (cellsOf ((l.map (·.2)).map mk)) := All2.flat (by simp) (fun i cs x h1 h2 => by
      rw [List.getElem?_map] at h1 h2
      rw [List.getElem?_map] at h2
      cases hi : l[i]? with
      | none => rw [hi] at h1; cases h1
      | some y => rw [hi] at h1 h2; simp at h1 h2; subst h1; subst h2; exact (hl2 i y hi).2.2.1)
    refine ⟨l.map (·.2), rfl, .one ?_, .one rfl, ?_, ?_⟩
    · refine .ro (sz := sz) (us := (l.map (·.1)).flatten) (by simp [hlen]) hl (Nat.le_trans hl hm) (fun x hx => ?_) (fun j u hj => ?_) hall.1 (ones_flat fun c hc => ?_) hall.2
      · obtain ⟨z, hz, rfl⟩ := List.mem_map.1 hx
        obtain ⟨y, hy, rfl⟩ := List.mem_map.1 hz
        obtain ⟨_, _, h2, _⟩ := each y hy
        exact h2
      · obtain ⟨i, k, c, h1, h2, h3⟩ := flat_get (sz := sz) (fun c hc => by
          obtain ⟨y, hy, rfl⟩ := List.mem_map.1 hc
          obtain ⟨_, h0, h2, h3, _⟩ := each y hy
          rw [h3.1, h2]) hj
        rw [List.getElem?_map] at h1
        cases hi : l[i]? with
        | none => rw [hi] at h1; cases h1
        | some y =>
          rw [hi] at h1; simp at h1; subst h1
          have h4 := (cells_each (hl2 i y hi).1).2 k u h2
          refine ⟨a, rfl, immOf_cell ?_⟩
          rw [h3, ← add_add, ← hc]; exact h4
      · obtain ⟨y, hy, rfl⟩ := List.mem_map.1 hc
        obtain ⟨_, _, _, _, h3, _⟩ := each y hy
        exact h3
    · rw [List.length_map, hlen]
      have : len * P.bytesOf e ≤ (len + (m - len)) * P.bytesOf e := Nat.mul_le_mul_right _ (by omega)
      have : reachBytes = 140737488351232 := rfl
      omega
    · intro y hy
      obtain ⟨z, hz, rfl⟩ := List.mem_map.1 hy
      obtain ⟨_, _, _, _, _, h⟩ := each z hz
      exact h

/-- An array whose elements are single cells. -/
theorem FitsD.array {α : Type} {P : Program} {t e : TypeId} {n : Nat} {mk : α → D} {Ok : α → Prop} (ht : P.underlying t = some (.array n e)) (hc : P.cellsOf e = 1) (hct : P.cellsOf t = n) (hmk : ∀ a, (mk a).cells = [mk a]) (he : FitsD P e 1 mk Ok) :
    FitsD P t n (fun xs : List α => .agg (xs.map mk)) (fun xs => xs.length = n ∧ ∀ x ∈ xs, Ok x) := by
  intro H enc W fuel cs x hx hw
  obtain ⟨xs, m, rfl, rfl, hl, hlen, hi⟩ := DataW.trod_array ht hx
  simp only [DataW.weights, ht] at hw
  rw [hct] at hl
  rw [hc] at hi
  obtain ⟨l, hll, hlr⟩ := list_choose (R := fun i (a : α) => All2 (RelD (immOf W)) ((cs.drop i).take 1) [mk a] ∧ Ones ((cs.drop i).take 1) ∧ Ok a) n (fun i h => by
    have h1 := hi i h
    rw [List.getElem?_eq_getElem (by omega), Nat.mul_one] at h1
    obtain ⟨a, _, h2, h3, h4⟩ := he enc W m _ _ h1 (weightsAll_each hw _ (List.mem_map_of_mem (List.getElem_mem (by omega))))
    rw [hmk] at h2
    exact ⟨a, h2, h3, h4⟩)
  have each : ∀ (j : Nat) (u : Value), cs[j]? = some u → ∃ a, l[j]? = some a ∧ RelD (immOf W) u (mk a) ∧ Ones [u] ∧ Ok a := fun j u hu => by
    have hj : j < cs.length := (List.getElem?_eq_some_iff.1 hu).1
    have ha : l[j]? = some l[j] := List.getElem?_eq_getElem (by omega)
    have h1 := hlr j _ ha
    have e1 : (cs.drop j).take 1 = [u] := by
      rw [List.drop_eq_getElem_cons hj, List.take_succ_cons, List.take_zero]
      rw [List.getElem?_eq_getElem hj] at hu
      simpa using hu
    rw [e1] at h1
    exact ⟨_, ha, h1.1.2 0 u _ rfl rfl, h1.2.1, h1.2.2⟩
  refine ⟨l, by simp [D.cells, hll], ⟨by simp [D.cells, hll, hl], fun j u a hu ha => ?_⟩, fun u hu => ?_, hll, fun y hy => ?_⟩
  · obtain ⟨b, hb, hr, _⟩ := each j u hu
    have ha' : (l.map mk)[j]? = some a := ha
    rw [List.getElem?_map, hb] at ha'
    simp at ha'
    rw [← ha']; exact hr
  · obtain ⟨j, hj⟩ := List.getElem?_of_mem hu
    obtain ⟨_, _, _, ho, _⟩ := each j u hj
    exact ho u List.mem_cons_self
  · obtain ⟨j, hj⟩ := List.getElem?_of_mem hy
    exact (hlr j y hj).2.2

/-- What a struct's fields come to, from a place on. -/
def FitsDL {α : Type} (P : Program) (fs : List Field) (off sz : Nat) (mk : α → List D) (Ok : α → Prop) : Prop :=
  ∀ {H : Type} (enc : TypeId × Value → H) (W : World) (fuel : Nat) (cs : List Value) (xs : List (DataW H × List MemPlace)),
    (fs.mapM fun f => DataW.trod enc P W 0 (fun _ => true) true fuel f.type ((cs.drop f.offset).take (P.cellsOf f.type))) = some xs → (DataW.weightsEach P (fs.map (·.type)) (xs.map (·.1))).all (· ≤ reachBytes) = true →
    ∃ a, (mk a).length = sz ∧ All2 (RelD (immOf W)) ((cs.drop off).take sz) (mk a) ∧ Ones ((cs.drop off).take sz) ∧ Ok a
theorem FitsDL.nil {P : Program} {off : Nat} {l : List Field} (hl : l = []) : FitsDL P l off 0 (fun _ : Unit => []) (fun _ => True) := by
  subst hl
  exact fun _ _ _ _ _ _ _ => ⟨(), rfl, by simpa using All2.nil, by simpa using Ones.nil, trivial⟩
theorem FitsDL.cons {α β : Type} {P : Program} {f : Field} {fs l : List Field} {off s1 s2 : Nat} {mk : α → D} {mk2 : β → List D} {Ok : α → Prop} {Ok' : β → Prop} (hfl : l = f :: fs) (ho : f.offset = off) (hc : P.cellsOf f.type = s1)
    (h1 : FitsD P f.type s1 mk Ok) (h2 : FitsDL P fs (off + s1) s2 mk2 Ok') : FitsDL P l off (s1 + s2) (fun x : α × β => (mk x.1).cells ++ mk2 x.2) (fun x => Ok x.1 ∧ Ok' x.2) := by
  subst hfl
  intro H enc W fuel cs xs h hw
  rw [List.mapM_cons] at h
  cases ha : DataW.trod enc P W 0 (fun _ => true) true fuel f.type ((cs.drop f.offset).take (P.cellsOf f.type)) with
  | none => simp [ha] at h
  | some y =>
    cases hm : (fs.mapM fun f => DataW.trod enc P W 0 (fun _ => true) true fuel f.type ((cs.drop f.offset).take (P.cellsOf f.type))) with
    | none => simp [ha, hm] at h
    | some ys =>
      simp [ha, hm] at h
      subst h
      simp only [List.map_cons, DataW.weightsEach, List.all_append, Bool.and_eq_true] at hw
      obtain ⟨a, hl1, hra, hoa1, hoa⟩ := h1 enc W fuel _ _ ha hw.1
      obtain ⟨b, hl2, hrb, hob1, hob⟩ := h2 enc W fuel _ _ hm hw.2
      have e : List.take (s1 + s2) (List.drop off cs) = (cs.drop f.offset).take (P.cellsOf f.type) ++ (cs.drop (off + s1)).take s2 := by
        rw [ho, hc, List.take_add, List.drop_drop]
      refine ⟨(a, b), by simp [hl1, hl2], ?_, ?_, hoa, hob⟩
      · rw [e]; exact All2.app hra hrb
      · rw [e]; exact Ones.app hoa1 hob1
theorem FitsD.struct {α : Type} {P : Program} {t : TypeId} {fs : Array Field} {sz : Nat} {mk : α → List D} {Ok : α → Prop} (ht : P.underlying t = some (.struct fs)) (hc : P.cellsOf t = sz) (h : FitsDL P fs.toList 0 sz mk Ok) : FitsD P t sz (fun a => .agg (mk a)) Ok := by
  intro H enc W fuel cs x hx hw
  cases fuel with
  | zero => simp [DataW.trod] at hx
  | succ n =>
    unfold DataW.trod at hx
    rw [ht] at hx
    simp only at hx
    split at hx
    · next hl =>
      cases hm : (fs.toList.mapM fun f => DataW.trod enc P W 0 (fun _ => true) true n f.type ((cs.drop f.offset).take (P.cellsOf f.type))) with
      | none => simp [hm] at hx
      | some xs =>
        simp [hm] at hx
        subst hx
        simp only [DataW.weights, ht] at hw
        obtain ⟨a, h0, ha, h1, hok⟩ := h enc W n cs xs hm hw
        rw [List.drop_zero, List.take_of_length_le (by omega)] at ha h1
        exact ⟨a, h0, ha, h1, hok⟩
    · cases hx

theorem okWide_array {P : Program} {w : World} {r : Reach} {base : Nat} {t e : TypeId} {n : Nat} {v : Value} (ht : P.underlying t = some (.array n e)) (h : Value.okWide P w r base t v) : ∃ cs, v = .agg cs ∧ cs.size = P.cellsOf t := by
  simp only [Value.okWide, ht] at h
  obtain ⟨cs, h1, h2, _⟩ := h
  exact ⟨cs, h1, h2⟩
/-- An argument. -/
theorem FitsD.arg {α H : Type} {P : Program} {t : TypeId} {sz : Nat} {mk : α → D} {Ok : α → Prop} (h : FitsD P t sz mk Ok) {enc : TypeId × Value → H} {W : World} {v : Value} {d : DataW H} {ps : List MemPlace} (hv : v.cells = #[v])
    (hd : DataW.Trod enc P W 0 (fun _ => true) true t v d ps) {ts : List TypeId} {ds : List (DataW H)} (hw : (DataW.weightsEach P ts ds).all (· ≤ reachBytes) = true) {j : Nat} (hj : ts[j]? = some t) (hdj : ds[j]? = some d) (hmk : ∀ a, (mk a).cells = [mk a]) :
    ∃ a, RelD (immOf W) v (mk a) ∧ Ok a := by
  obtain ⟨fuel, hf⟩ := hd
  rw [hv] at hf
  rw [List.all_eq_true] at hw
  obtain ⟨a, _, h1, _, h2⟩ := h enc W fuel [v] _ hf (by rw [List.all_eq_true]; exact fun x hx => hw x (DataW.weights_mem_each hj hdj x hx))
  rw [hmk a] at h1
  exact ⟨a, h1.2 0 v _ rfl rfl, h2⟩
theorem FitsD.argS {α H : Type} {P : Program} {t : TypeId} {sz : Nat} {mk : α → List D} {Ok : α → Prop} (h : FitsD P t sz (fun a => .agg (mk a)) Ok) {enc : TypeId × Value → H} {W : World} {us : Array Value} {d : DataW H} {ps : List MemPlace}
    (hd : DataW.Trod enc P W 0 (fun _ => true) true t (.agg us) d ps) {ts : List TypeId} {ds : List (DataW H)} (hw : (DataW.weightsEach P ts ds).all (· ≤ reachBytes) = true) {j : Nat} (hj : ts[j]? = some t) (hdj : ds[j]? = some d) :
    ∃ a, RelD (immOf W) (.agg us) (.agg (mk a)) ∧ Ok a := by
  obtain ⟨fuel, hf⟩ := hd
  rw [List.all_eq_true] at hw
  obtain ⟨a, _, h1, h3, h2⟩ := h enc W fuel us.toList _ hf (by rw [List.all_eq_true]; exact fun x hx => hw x (DataW.weights_mem_each hj hdj x hx))
  have := RelD.agg (I := immOf W) h1.1 h3 h1.2
  exact ⟨a, by simpa [D.cells] using this, h2⟩

theorem Ct.lawG {P : Program} {f : FuncId} {us : List Value} {ds : List D} {W : World} (hg : Glob (immOf W)) (h : Ct P f (ds.map .d) [] (Is2 (.d (.bool true)) [])) (hus : All2 (RelD (immOf W)) us ds) :
    Calls P f us.toArray W fun e w' => e = .returned (.bool true) ∧ Below W.heap.size W w' := by
  refine Meets.law ((h.run (immOf W) (fun _ => .nilFunc) us [] ⟨by simpa using hus.1, fun j u a hu ha => ?_⟩ (.nil hg) (fun _ _ => rfl)).mono ?_)
  · rw [List.getElem?_map] at ha
    cases hj : ds[j]? with
    | none => rw [hj] at ha; cases ha
    | some x => rw [hj] at ha; simp at ha; subst ha; exact .d (hus.2 j u x hu hj)
  · rintro v I' L' _ ⟨ρ', r, os', q1, q2, _, _, _, rfl, rfl⟩
    cases q1 with
    | d q1 =>
      cases q1
      cases q2
      exact ⟨rfl, rfl⟩
theorem Ct.law {P : Program} {f : FuncId} {us : List Value} {ds : List D} {W : World} (h : Ct P f (ds.map .d) [] (Is2 (.d (.bool true)) [])) (hus : All2 (RelD (immOf W)) us ds) (hv : globV = [] := by rfl) :
    Calls P f us.toArray W fun e w' => e = .returned (.bool true) ∧ Below W.heap.size W w' :=
  Ct.lawG (fun x hx => by rw [hv] at hx; cases hx) h hus
end Go.V
