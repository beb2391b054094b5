/- The engine, part L: where a law begins: memory at the start, the given arguments as typed things. No function of the program is proved here. -/
import Derived.Test.YtdecipfdbkpigaaEngI
import Derived.Deep.Slices
import Derived.Below
import Derived.SizedLaws
import Derived.RowKit
import Derived.WideShapes
namespace Go.Eng
open Go.RowKit

def immOf (W : World) : Imm := ⟨fun b => W.heap[b]?, W.os, W.tape, W.output⟩
theorem HS.start (W : World) : HS (immOf W) [] W := ⟨fun _ _ h => h, fun _ h => (by cases h), List.Pairwise.nil, fun _ h => (by cases h), rfl, rfl, rfl⟩

theorem Meets.law {P : Program} {f : FuncId} {args : Array Value} {W : World} (h : Meets P f args (immOf W) [] (fun v _ L' => .bool true = v ∧ [] = L')) :
    Calls P f args W fun e w' => e = .returned (.bool true) ∧ Below W.heap.size W w' := by
  refine (h W [] (HS.start W)).mono ?_
  rintro e w' ⟨v, I', L', rfl, hle, ⟨rfl, rfl⟩, hs⟩
  have hb : ∀ b, b < W.heap.size → w'.heap[b]? = W.heap[b]? := fun b hb => by
    have h1 : W.heap[b]? = some W.heap[b] := Array.getElem?_eq_getElem hb
    rw [h1]
    exact hs.sat b _ (hle.1 b _ h1)
  refine ⟨rfl, ⟨hs.os.trans hle.2.1, hs.tape.trans hle.2.2.1, hs.output.trans hle.2.2.2, ?_, hb⟩⟩
  rcases Nat.lt_or_ge w'.heap.size W.heap.size with h2 | h2
  · have := hb _ h2
    rw [Array.getElem?_eq_none (Nat.le_refl _), Array.getElem?_eq_getElem h2] at this
    cases this
  · exact h2

theorem immOf_cell {W : World} {a : Addr} {v : Value} (h : W.cell? a = some v) : (immOf W).cell a = some v := by
  unfold World.cell? at h
  unfold Imm.cell
  simp only [immOf]
  cases hb : W.heap[a.block]? with
  | none => rw [hb] at h; cases h
  | some o => rw [hb] at h; exact h

theorem cells_each {w : World} {base : Nat} {a : Addr} {n : Nat} {cs : List Value} (h : w.cells? base a n = some cs) : cs.length = n ∧ ∀ (j : Nat) (u : Value), cs[j]? = some u → w.cell? (a.add j) = some u := by
  unfold World.cells? at h
  split at h
  · have key : ∀ (l : List Nat) (cs : List Value), l.mapM (fun i => w.cell? (a.add i)) = some cs → cs.length = l.length ∧ ∀ (j : Nat) (u : Value), cs[j]? = some u → ∃ i, l[j]? = some i ∧ w.cell? (a.add i) = some u := by
      intro l
      induction l with
      | nil => intro cs h; simp at h; subst h; exact ⟨rfl, fun j u hj => by simp at hj⟩
      | cons i l ih =>
        intro cs h
        rw [List.mapM_cons] at h
        cases hc : w.cell? (a.add i) with
        | none => simp [hc] at h
        | some v =>
          cases hm : l.mapM (fun i => w.cell? (a.add i)) with
          | none => simp [hc, hm] at h
          | some vs =>
            simp [hc, hm] at h
            subst h
            obtain ⟨h1, h2⟩ := ih vs hm
            refine ⟨by simp [h1], fun j u hj => ?_⟩
            cases j with
            | zero => simp at hj; subst hj; exact ⟨i, rfl, hc⟩
            | succ j => simpa using h2 j u (by simpa using hj)
    obtain ⟨h1, h2⟩ := key _ _ h
    refine ⟨by simpa using h1, fun j u hj => ?_⟩
    obtain ⟨i, hi, hc⟩ := h2 j u hj
    have : i = j := by
      rw [List.getElem?_range (by have := (List.getElem?_eq_some_iff.1 hj).1; simp at h1; omega)] at hi
      exact (Option.some.inj hi).symm
    subst this; exact hc
  · cases h

theorem InR_of_wf {k : IntKind} {n : Int} (h : (Lit.int k n).wf = true) : InR k n := by
  cases k <;> simp [Lit.wf, IntKind.min, IntKind.max, IntKind.signed, IntKind.bits] at h <;> exact ⟨by simp only [loK]; omega, by simp only [hiK]; omega⟩

/-- What a type's data come to: a typed thing, and what is known of its size. -/
def Fits {α : Type} (P : Program) (t : TypeId) (E : Enc α) (Ok : α → Prop) : Prop :=
  ∀ {H : Type} (enc : TypeId × Value → H) (W : World) (fuel : Nat) (cs : List Value) (x : DataW H × List MemPlace),
    DataW.trod enc P W 0 (fun _ => true) true fuel t cs = some x → (x.1.weights P t).all (· ≤ reachBytes) = true → ∃ a, E.rep (immOf W) a cs ∧ Ok a

theorem Fits.int {P : Program} {t : TypeId} {k : IntKind} (ht : P.underlying t = some (.int k)) : Fits P t (eInt k) (fun n => InR k n) := by
  intro H enc W fuel cs x h _
  obtain ⟨n, rfl, rfl, hw⟩ := DataW.trod_int ht h
  exact ⟨n, ⟨rfl, InR_of_wf hw⟩, InR_of_wf hw⟩
theorem Fits.byte {P : Program} {t : TypeId} (ht : P.underlying t = some (.int .u8)) : Fits P t eByte (fun _ => True) := by
  intro H enc W fuel cs x h _
  obtain ⟨n, rfl, rfl, hw⟩ := DataW.trod_int ht h
  obtain ⟨h0, h1⟩ := InR_of_wf hw
  simp only [loK, hiK] at h0 h1
  refine ⟨UInt8.ofNat n.toNat, ?_, trivial⟩
  have : ((UInt8.ofNat n.toNat).toNat : Int) = n := by rw [UInt8.toNat_ofNat_of_lt' (by show _ < 256; omega)]; omega
  simp only [eByte, this]
theorem Fits.u32 {P : Program} {t : TypeId} (ht : P.underlying t = some (.int .u32)) : Fits P t eU32 (fun _ => True) := by
  intro H enc W fuel cs x h _
  obtain ⟨n, rfl, rfl, hw⟩ := DataW.trod_int ht h
  obtain ⟨h0, h1⟩ := InR_of_wf hw
  simp only [loK, hiK] at h0 h1
  refine ⟨UInt32.ofNat n.toNat, ?_, trivial⟩
  have : ((UInt32.ofNat n.toNat).toNat : Int) = n := by rw [UInt32.toNat_ofNat_of_lt' (by show _ < 4294967296; omega)]; omega
  simp only [eU32, this]
theorem Fits.bool {P : Program} {t : TypeId} (ht : P.underlying t = some .bool) : Fits P t eBool (fun _ => True) := by
  intro H enc W fuel cs x h _
  obtain ⟨b, rfl, rfl⟩ := DataW.trod_bool ht h
  exact ⟨b, rfl, trivial⟩
theorem Fits.str {P : Program} {t : TypeId} (ht : P.underlying t = some .string) : Fits P t eStr (fun s => s.size ≤ 140737488351232) := by
  intro H enc W fuel cs x h hw
  cases fuel with
  | zero => simp [DataW.trod] at h
  | succ n =>
    unfold DataW.trod at h
    rw [ht] at h
    split at h <;> simp_all
    obtain ⟨hs, rfl⟩ := h
    simp only [DataW.weights] at hw
    refine ⟨_, rfl, ?_⟩
    have h2 := hw _ List.mem_cons_self
    rw [Array.length_toList] at h2
    exact h2

theorem weightsAll_each {H : Type} {P : Program} {e : TypeId} {p : Nat → Bool} : ∀ {l : List (DataW H)}, (DataW.weightsAll P e l).all p = true → ∀ d ∈ l, (d.weights P e).all p = true
  | [], _, _, h => by cases h
  | d :: l, h, x, hx => by
    simp only [DataW.weightsAll, List.all_append, Bool.and_eq_true] at h
    rcases List.mem_cons.1 hx with rfl | hx
    · exact h.1
    · exact weightsAll_each h.2 x hx

theorem list_choose {α : Type} {R : Nat → α → Prop} : ∀ n, (∀ i, i < n → ∃ a, R i a) → ∃ l : List α, l.length = n ∧ ∀ i a, l[i]? = some a → R i a
  | 0, _ => ⟨[], rfl, fun i a h => by simp at h⟩
  | n + 1, h => by
    obtain ⟨l, hl, hr⟩ := list_choose n (fun i hi => h i (by omega))
    obtain ⟨a, ha⟩ := h n (by omega)
    refine ⟨l ++ [a], by simp [hl], fun i b hb => ?_⟩
    rw [List.getElem?_append] at hb
    split at hb
    · exact hr i b hb
    · have : i = n := by
        have := (List.getElem?_eq_some_iff.1 hb).1
        simp at this; omega
      subst this
      simp [hl] at hb
      subst hb; exact ha

theorem Fits.slice {α : Type} {P : Program} {t e : TypeId} {E : Enc α} {Ok : α → Prop} (by' : Nat) (ht : P.underlying t = some (.slice e)) (hc : P.cellsOf e = E.sz) (hb : P.bytesOf e = by') (he : Fits P e E Ok) :
    Fits P t (eSl E) (fun xs => xs.length * by' ≤ 140737488351232 ∧ ∀ x ∈ xs, Ok x) := by
  subst hb
  intro H enc W fuel cs x h hw
  rcases Deep.open_slice ht h with ⟨rfl, rfl⟩ | ⟨a, len, cap, m, n, D, Pl, rfl, hb0, hl, hm, hmm, rfl, hx⟩
  · exact ⟨[], ⟨none, 0, rfl, Nat.le_refl _, Rd.nil⟩, by simp, fun x hx => by cases hx⟩
  · simp only [DataW.weights, ht, List.all_cons, List.all_append, Bool.and_eq_true, List.length_map, List.length_range, decide_eq_true_eq] at hw
    obtain ⟨hw1, hw2, _⟩ := hw
    have hlm : len ≤ m := by rw [hmm]; split <;> omega
    obtain ⟨l, hlen, hl2⟩ := list_choose (R := fun i y => (∃ cs', W.cells? 0 (a.add (i * P.cellsOf e)) (P.cellsOf e) = some cs' ∧ E.rep (immOf W) y cs') ∧ Ok y) len (fun i hi => by
      obtain ⟨cs', h1, h2⟩ := hx i (by omega)
      obtain ⟨y, hy, hok⟩ := he enc W n cs' _ h2 (weightsAll_each hw2 (D i) (List.mem_map.2 ⟨i, by simpa using hi, rfl⟩))
      exact ⟨y, ⟨cs', h1, hy⟩, hok⟩)
    refine ⟨l, ⟨some a, cap, by rw [hlen], by omega, ?_⟩, ?_, ?_⟩
    · intro i y hi
      obtain ⟨⟨cs', h1, h2⟩, _⟩ := hl2 i y hi
      refine ⟨cs', h2, fun j u hj => ⟨a, rfl, immOf_cell ?_⟩⟩
      have := (cells_each h1).2 j u hj
      rw [← add_add, ← hc]; exact this
    · rw [hlen]
      have : len * P.bytesOf e ≤ (len + (m - len)) * P.bytesOf e := Nat.mul_le_mul_right _ (by omega)
      have : reachBytes = 140737488351232 := rfl
      omega
    · intro y hy
      obtain ⟨i, hi⟩ := List.getElem?_of_mem hy
      exact (hl2 i y hi).2

def eUnit : Enc Unit where
  sz := 0
  rep _ _ cs := cs = []
  len h := by rw [h]; rfl
  mono _ h := h
  one h u hu := by rw [h] at hu; cases hu

/-- What a struct's fields come to, from a place on. -/
def FitsL {α : Type} (P : Program) (fs : List Field) (off : Nat) (E : Enc α) (Ok : α → Prop) : Prop :=
  ∀ {H : Type} (enc : TypeId × Value → H) (W : World) (fuel : Nat) (cs : List Value) (xs : List (DataW H × List MemPlace)),
    (fs.mapM fun f => DataW.trod enc P W 0 (fun _ => true) true fuel f.type ((cs.drop f.offset).take (P.cellsOf f.type))) = some xs → (DataW.weightsEach P (fs.map (·.type)) (xs.map (·.1))).all (· ≤ reachBytes) = true →
    ∃ a, E.rep (immOf W) a ((cs.drop off).take E.sz) ∧ Ok a

theorem FitsL.nil {P : Program} {off : Nat} : FitsL P [] off eUnit (fun _ => True) := fun _ _ _ _ _ _ _ => ⟨(), by simp [eUnit], trivial⟩
theorem FitsL.cons {α β : Type} {P : Program} {f : Field} {fs : List Field} {off : Nat} {E : Enc α} {G : Enc β} {Ok : α → Prop} {Ok' : β → Prop} (ho : f.offset = off) (hc : P.cellsOf f.type = E.sz)
    (h1 : Fits P f.type E Ok) (h2 : FitsL P fs (off + E.sz) G Ok') : FitsL P (f :: fs) off (ePair E G) (fun x => Ok x.1 ∧ Ok' x.2) := by
  intro H enc W fuel cs xs h hw
  rw [List.mapM_cons] at h
  cases ha : DataW.trod enc P W 0 (fun _ => true) true fuel f.type ((cs.drop f.offset).take (P.cellsOf f.type)) with
  | none => simp [ha] at h
  | some y =>
    cases hm : (fs.mapM fun f => DataW.trod enc P W 0 (fun _ => true) true fuel f.type ((cs.drop f.offset).take (P.cellsOf f.type))) with
    | none => simp [ha, hm] at h
    | some ys =>
      simp [ha, hm] at h
      subst h
      simp only [List.map_cons, DataW.weightsEach, List.all_append, Bool.and_eq_true] at hw
      obtain ⟨a, hra, hoa⟩ := h1 enc W fuel _ _ ha hw.1
      obtain ⟨b, hrb, hob⟩ := h2 enc W fuel _ _ hm hw.2
      refine ⟨(a, b), ⟨_, _, ?_, hra, hrb⟩, hoa, hob⟩
      rw [ho, hc]
      show List.take (E.sz + G.sz) (List.drop off cs) = _
      rw [List.take_add, List.drop_drop]

theorem Fits.struct {α : Type} {P : Program} {t : TypeId} {fs : Array Field} {E : Enc α} {Ok : α → Prop} (ht : P.underlying t = some (.struct fs)) (hc : P.cellsOf t = E.sz) (h : FitsL P fs.toList 0 E Ok) : Fits P t E Ok := by
  intro H enc W fuel cs x hx hw
  cases fuel with
  | zero => simp [DataW.trod] at hx
  | succ n =>
    unfold DataW.trod at hx
    rw [ht] at hx
    simp only at hx
    split at hx
    · next hl =>
      cases hm : (fs.toList.mapM fun f => DataW.trod enc P W 0 (fun _ => true) true n f.type ((cs.drop f.offset).take (P.cellsOf f.type))) with
      | none => simp [hm] at hx
      | some xs =>
        simp [hm] at hx
        subst hx
        simp only [DataW.weights, ht] at hw
        obtain ⟨a, ha, hok⟩ := h enc W n cs xs hm hw
        refine ⟨a, ?_, hok⟩
        rwa [List.drop_zero, List.take_of_length_le (by omega)] at ha
    · cases hx

/-- An argument of one cell. -/
theorem Fits.arg {α H : Type} {P : Program} {t : TypeId} {E : Enc α} {Ok : α → Prop} (h : Fits P t E Ok) {enc : TypeId × Value → H} {W : World} {v : Value} {d : DataW H} {ps : List MemPlace} (hv : v.cells = #[v])
    (hd : DataW.Trod enc P W 0 (fun _ => true) true t v d ps) {ts : List TypeId} {ds : List (DataW H)} (hw : (DataW.weightsEach P ts ds).all (· ≤ reachBytes) = true) {j : Nat} (hj : ts[j]? = some t) (hdj : ds[j]? = some d) :
    ∃ a, E.rep (immOf W) a [v] ∧ Ok a := by
  obtain ⟨fuel, hf⟩ := hd
  rw [hv] at hf
  refine h enc W fuel [v] _ hf ?_
  rw [List.all_eq_true] at hw ⊢
  exact fun x hx => hw x (DataW.weights_mem_each hj hdj x hx)
end Go.Eng
