/- The engine, part E: how data lie in memory that stays. No function of the program is proved here. -/
import Derived.Test.YtdecipfdbkpigaaEngD
namespace Go.Eng

theorem add_add (a : Addr) (m k : Nat) : (a.add m).add k = a.add (m + k) := by
  unfold Addr.add
  by_cases h : m = 0
  · subst h; simp
  · by_cases h2 : k = 0
    · subst h2; simp
    · simp [h, h2, Nat.add_assoc]

theorem add_blk (b o k : Nat) : (⟨b, o, none⟩ : Addr).add k = ⟨b, o + k, none⟩ := by unfold Addr.add; split <;> simp_all

/-- How a thing lies in cells. -/
structure Enc (α : Type) where
  sz : Nat
  rep : Imm → α → List Value → Prop
  len : ∀ {I : Imm} {x : α} {cs : List Value}, rep I x cs → cs.length = sz
  mono : ∀ {I J : Imm} {x : α} {cs : List Value}, I.le J → rep I x cs → rep J x cs
  one : ∀ {I : Imm} {x : α} {cs : List Value}, rep I x cs → ∀ u ∈ cs, u.oneCell' = true

/-- Things, one behind the other, from an address on. -/
def Rd {α : Type} (E : Enc α) (I : Imm) (A : Option Addr) (xs : List α) : Prop :=
  ∀ i x, xs[i]? = some x → ∃ cs, E.rep I x cs ∧ ∀ j u, cs[j]? = some u → ∃ a, A = some a ∧ I.cell (a.add (i * E.sz + j)) = some u

theorem Rd.mono {α : Type} {E : Enc α} {I J : Imm} {A : Option Addr} {xs : List α} (h : Rd E I A xs) (hle : I.le J) : Rd E J A xs := by
  intro i x hx
  obtain ⟨cs, h1, h2⟩ := h i x hx
  exact ⟨cs, E.mono hle h1, fun j u hj => by obtain ⟨a, ha, hc⟩ := h2 j u hj; exact ⟨a, ha, hle.cell hc⟩⟩

theorem Rd.nil {α : Type} {E : Enc α} {I : Imm} {A : Option Addr} : Rd E I A ([] : List α) := fun i x hx => by simp at hx

def eInt (k : IntKind) : Enc Int where
  sz := 1
  rep _ n cs := cs = [.int k n] ∧ InR k n
  len h := by rw [h.1]; rfl
  mono _ h := h
  one h u hu := by rw [h.1] at hu; simp at hu; subst hu; rfl

def eByte : Enc UInt8 where
  sz := 1
  rep _ b cs := cs = [.int .u8 b.toNat]
  len h := by rw [h]; rfl
  mono _ h := h
  one h u hu := by rw [h] at hu; simp at hu; subst hu; rfl

def eU32 : Enc UInt32 where
  sz := 1
  rep _ b cs := cs = [.int .u32 b.toNat]
  len h := by rw [h]; rfl
  mono _ h := h
  one h u hu := by rw [h] at hu; simp at hu; subst hu; rfl

def eBool : Enc Bool where
  sz := 1
  rep _ b cs := cs = [.bool b]
  len h := by rw [h]; rfl
  mono _ h := h
  one h u hu := by rw [h] at hu; simp at hu; subst hu; rfl

def eStr : Enc ByteArray where
  sz := 1
  rep _ b cs := cs = [.string b]
  len h := by rw [h]; rfl
  mono _ h := h
  one h u hu := by rw [h] at hu; simp at hu; subst hu; rfl

/-- A slice: its things lie elsewhere. -/
def eSl {α : Type} (E : Enc α) : Enc (List α) where
  sz := 1
  rep I xs cs := ∃ A c, cs = [.slice A xs.length c] ∧ xs.length ≤ c ∧ Rd E I A xs
  len h := by obtain ⟨A, c, rfl, _⟩ := h; rfl
  mono hle h := by obtain ⟨A, c, h1, h2, h3⟩ := h; exact ⟨A, c, h1, h2, h3.mono hle⟩
  one h u hu := by obtain ⟨A, c, rfl, _⟩ := h; simp at hu; subst hu; rfl

/-- One thing, and another one behind it. -/
def ePair {α β : Type} (E : Enc α) (G : Enc β) : Enc (α × β) where
  sz := E.sz + G.sz
  rep I x cs := ∃ c1 c2, cs = c1 ++ c2 ∧ E.rep I x.1 c1 ∧ G.rep I x.2 c2
  len h := by obtain ⟨c1, c2, rfl, h1, h2⟩ := h; rw [List.length_append, E.len h1, G.len h2]
  mono hle h := by obtain ⟨c1, c2, h0, h1, h2⟩ := h; exact ⟨c1, c2, h0, E.mono hle h1, G.mono hle h2⟩
  one h u hu := by
    obtain ⟨c1, c2, rfl, h1, h2⟩ := h
    rcases List.mem_append.1 hu with hu | hu
    · exact E.one h1 u hu
    · exact G.one h2 u hu

/-- The same cells, told as another thing. -/
def eIso {α β : Type} (E : Enc α) (f : β → α) : Enc β where
  sz := E.sz
  rep I x cs := E.rep I (f x) cs
  len h := E.len h
  mono hle h := E.mono hle h
  one h := E.one h

section
variable {P : Program} {N : Nat} {all : Array Oper} {o : Oper} {rest : List Oper} {fr : Frm} {I : Imm} {L : List Ent}
variable {ty : TypeId} {pos : String} {aft : Array Edge} {gd : Option (Nat × Bool)} {d : Option Tmp} {x y z : Operand} {v vx vy : Value} {K : Frm → Imm → List Ent → Prop}

/-- The address of what there is. -/
theorem Rd.addr {α : Type} {E : Enc α} {A : Option Addr} {xs : List α} (h : Rd E I A xs) (hz : 0 < E.sz) (hn : 0 < xs.length) : ∃ a, A = some a := by
  obtain ⟨cs, h1, h2⟩ := h 0 xs[0] (by simp)
  have hl := E.len h1
  obtain ⟨a, ha, _⟩ := h2 0 cs[0] (by simp)
  exact ⟨a, ha⟩

theorem rdBytes {A : Option Addr} {bs : List UInt8} (h : Rd eByte I A bs) : ∀ w, HS I L w → ∀ (j : Nat) (b : UInt8), bs[j]? = some b → ∃ a, A = some a ∧ w.cell? (a.add j) = some (.int .u8 b.toNat) := by
  intro w hs j b hj
  obtain ⟨cs, h1, h2⟩ := h j b hj
  simp only [eByte] at h1
  subst h1
  obtain ⟨a, ha, hc⟩ := h2 0 _ rfl
  exact ⟨a, ha, hs.cell (by simpa [eByte] using hc)⟩

/-- The bytes of a row of our own. -/
theorem rowBytes {A : Option Addr} {n c : Nat} {e : TypeId} {bs : List UInt8} (hm : Ent.row (.slice A n c) e 1 n (bs.map fun b => .int .u8 b.toNat) ∈ L) :
    ∀ w, HS I L w → ∀ (j : Nat) (b : UInt8), bs[j]? = some b → ∃ a, A = some a ∧ w.cell? (a.add j) = some (.int .u8 b.toNat) := by
  intro w hs j b hj
  have h := hs.ents _ hm
  simp only [Ent.ok] at h
  have hj' : j < bs.length := (List.getElem?_eq_some_iff.1 hj).1
  have hl := h.1
  simp only [List.length_map, Nat.mul_one] at hl
  obtain ⟨g, hg⟩ := row_some h (by omega)
  subst hg
  exact ⟨_, rfl, h.cells (g := g) rfl j _ (by simp [hj])⟩

theorem byteAt {A : Option Addr} {bs : List UInt8} {a : Addr} (h : Rd eByte I A bs) (hA : A = some a) {i : Nat} {b : UInt8} (hi : bs[i]? = some b) : I.cell (a.add (i * 1)) = some (.int .u8 b.toNat) := by
  obtain ⟨cs, h1, h2⟩ := h i b hi
  simp only [eByte] at h1
  subst h1
  obtain ⟨a', ha, hc⟩ := h2 0 _ rfl
  rw [hA] at ha; simp only [Option.some.injEq] at ha; subst ha
  simpa [eByte] using hc

theorem u32At {A : Option Addr} {bs : List UInt32} {a : Addr} (h : Rd eU32 I A bs) (hA : A = some a) {i : Nat} {b : UInt32} (hi : bs[i]? = some b) : I.cell (a.add (i * 1)) = some (.int .u32 b.toNat) := by
  obtain ⟨cs, h1, h2⟩ := h i b hi
  simp only [eU32] at h1
  subst h1
  obtain ⟨a', ha, hc⟩ := h2 0 _ rfl
  rw [hA] at ha; simp only [Option.some.injEq] at ha; subst ha
  simpa [eU32] using hc

theorem intAt {k : IntKind} {A : Option Addr} {ns : List Int} {a : Addr} (h : Rd (eInt k) I A ns) (hA : A = some a) {i : Nat} {n : Int} (hi : ns[i]? = some n) : I.cell (a.add (i * 1)) = some (.int k n) ∧ InR k n := by
  obtain ⟨cs, h1, h2⟩ := h i n hi
  simp only [eInt] at h1
  obtain ⟨rfl, hr⟩ := h1
  obtain ⟨a', ha, hc⟩ := h2 0 _ rfl
  rw [hA] at ha; simp only [Option.some.injEq] at ha; subst ha
  exact ⟨by simpa [eInt] using hc, hr⟩

/-- Bytes as a string. -/
theorem R.bytesStr {s t e : TypeId} {A : Option Addr} {n c : Nat} {bs : List UInt8} (hx : evF fr x = some (.slice A n c)) (hs : P.underlying s = some (.slice e)) (he : P.underlying e = some (.int .u8)) (ht : P.underlying t = some .string)
    (hn : bs.length = n) (hb : ∀ w, HS I L w → ∀ (j : Nat) (b : UInt8), bs[j]? = some b → ∃ a, A = some a ∧ w.cell? (a.add j) = some (.int .u8 b.toNat)) : RunsTo P fr I L ⟨d, .convert s t x, ty, pos, aft, gd⟩ (.string ⟨bs.toArray⟩) := fun ρ w hρ hs' => by
  have hc : (convert s t (.slice A n c)).run P w = .ok (.string ⟨bs.toArray⟩) w := by
    subst hn
    cases A with
    | none =>
      have : bs = [] := by
        cases bs with
        | nil => rfl
        | cons b l => obtain ⟨a, ha, _⟩ := hb w hs' 0 b rfl; cases ha
      subst this
      unfold convert
      rw [Sem.run_bind, run_und hs, Result.andThen_ok, Sem.run_bind, run_und ht, Result.andThen_ok]
      simp [run_und he, Conv.bytesToString]
      rfl
    | some ad =>
      refine run_convert_bytes_back w s t e ad c bs hs he ht (fun j hj => ?_)
      obtain ⟨a, ha, hc⟩ := hb w hs' j bs[j] (by simp [hj])
      simp only [Option.some.injEq] at ha; subst ha
      exact hc
  simp only [execOp, hρ x _ hx]
  rw [Sem.run_bind, hc]; rfl

/-- A string as bytes: they stay. -/
theorem W.strBytes {s t e : TypeId} {td : TypeDesc} {q : ByteArray} (hx : evF fr x = some (.string q)) (hs : P.underlying s = some td) (ht : P.underlying t = some (.slice e)) (he : P.underlying e = some (.int .u8)) :
    Acts P N fr I L ⟨d, .convert s t x, ty, pos, aft, gd⟩ (fun v I' L' => ∃ A c, v = .slice A q.data.toList.length c ∧ I.le I' ∧ Rd eByte I' A q.data.toList ∧ q.data.toList.length ≤ c ∧ L = L') := by
  intro a w next Q ha hw hk
  have hr : (execOp a.eval ⟨d, .convert s t x, ty, pos, aft, gd⟩).run P w = .ok (.value (.slice (some ⟨w.heap.size, 0, none⟩) q.size (grownCap w q.size 0 e))) (Lib.bytesWorld w e q) := by
    simp only [execOp, ha.ev hx]
    rw [Sem.run_bind, Lib.run_convert_string_bytes w s t e q hs ht he]; rfl
  unfold Oper.wp
  rw [hr, Oper.upon_value]
  have hnone : I.mem w.heap.size = none := by
    cases hm : I.mem w.heap.size with
    | none => rfl
    | some o => have := hw.lt hm; omega
  have h1 : HS I (.obj w.heap.size (.cells (Lib.bytesCells w e q) e ((Lib.bytesCells w e q).size, (Lib.bytesCells w e q).size + 1)) :: L) (Lib.bytesWorld w e q) :=
    hw.add (fun b hb => Lib.bytesWorld_at_old w e q b hb) (Lib.bytesWorld_at_new w e q) (fun b hb => by simp only [Ent.own, Option.some.injEq] at hb; omega) rfl rfl rfl
  have h2 := h1.freeze (b := w.heap.size) rfl (Lib.bytesWorld_at_new w e q)
  have hlen : q.data.toList.length = q.size := by rw [Array.length_toList]; rfl
  refine hk _ _ L _ h2 ⟨some ⟨w.heap.size, 0, none⟩, grownCap w q.size 0 e, by rw [hlen], Imm.with_le _ hnone, ?_, by rw [hlen]; exact grownCap_ge _ _ _ _, rfl⟩
  intro i b hi
  refine ⟨[.int .u8 b.toNat], rfl, fun j u hj => ⟨_, rfl, ?_⟩⟩
  have hj0 : j = 0 := by
    have := (List.getElem?_eq_some_iff.1 hj).1
    simpa using this
  subst hj0
  simp only [List.getElem?_cons_zero, Option.some.injEq] at hj
  subst hj
  have hi' : i < q.size := by rw [← hlen]; exact (List.getElem?_eq_some_iff.1 hi).1
  rw [add_blk]
  have hc := Lib.bytesWorld_cell w e q i hi'
  have hg : q.data.toList.getD i 0 = b := by rw [List.getD_eq_getElem?_getD, hi]; rfl
  rw [hg] at hc
  have hcell : (I.with w.heap.size (.cells (Lib.bytesCells w e q) e ((Lib.bytesCells w e q).size, (Lib.bytesCells w e q).size + 1))).cell ⟨w.heap.size, i, none⟩ = (Lib.bytesWorld w e q).cell? ⟨w.heap.size, i, none⟩ := by
    simp only [Imm.cell, Imm.with, World.cell?, Lib.bytesWorld_at_new]
    simp
  simp only [eByte, Nat.mul_one, Nat.zero_add, Nat.add_zero]
  rw [hcell]; exact hc

/-- A row of our own stays as it is from now on. -/
theorem Opz.freeze {A : Option Addr} {n c sz : Nat} {e : TypeId} {xs : List Value} {L' : List Ent} {ops : List Oper} (hr : Rem L (.row (.slice A n c) e sz n xs) L')
    (k : ∀ I', I.le I' → (∀ j u, xs[j]? = some u → ∃ a, A = some a ∧ I'.cell (a.add j) = some u) → xs.length = n * sz → n ≤ c → Opz P N all ops fr I' L' K) : Opz P N all ops fr I L K := by
  intro a w Q0 ha hs hk
  have hs' := hs.perm hr.perm
  have h := hs'.ents _ List.mem_cons_self
  simp only [Ent.ok] at h
  obtain ⟨hl, ⟨h1, h0⟩ | ⟨g, cap, cur, h1, _, hg, hnc, hcm, hcs, htake⟩⟩ := h
  · simp only [Value.slice.injEq] at h1
    obtain ⟨rfl, rfl, rfl⟩ := h1
    have hx : xs = [] := by simpa using hl
    subst hx
    exact k I I.le_refl (fun j u hj => by simp at hj) (by simp) (Nat.le_refl _) a w Q0 ha (hs'.sublist (List.sublist_cons_self _ _)) hk
  · simp only [Value.slice.injEq] at h1
    obtain ⟨rfl, _, rfl⟩ := h1
    have hI := hs'.imm _ List.mem_cons_self g rfl
    refine k _ (Imm.with_le _ hI) (fun j u hj => ⟨_, rfl, ?_⟩) hl hnc a w Q0 ha (hs'.freeze (b := g) rfl hg) hk
    rw [add_blk, Nat.zero_add]
    simp only [Imm.cell, Imm.with, if_true]
    have hjx : j < xs.length := (List.getElem?_eq_some_iff.1 hj).1
    rw [← htake] at hj
    rw [List.getElem?_take_of_lt (by rw [← hl]; exact hjx)] at hj
    simpa using hj

theorem Rd.ofBytes {J : Imm} {A : Option Addr} {bs : List UInt8} (h : ∀ j u, (bs.map fun b => Value.int .u8 b.toNat)[j]? = some u → ∃ a, A = some a ∧ J.cell (a.add j) = some u) : Rd eByte J A bs := by
  intro i b hi
  refine ⟨[.int .u8 b.toNat], rfl, fun j u hj => ?_⟩
  have hj0 : j = 0 := by
    have := (List.getElem?_eq_some_iff.1 hj).1
    simpa using this
  subst hj0
  simp only [List.getElem?_cons_zero, Option.some.injEq] at hj
  subst hj
  obtain ⟨a, ha, hc⟩ := h i (.int .u8 b.toNat) (by simp [hi])
  exact ⟨a, ha, by simpa [eByte] using hc⟩
end
end Go.Eng
