/- The engine, part G: cells that can be read, of our own or of what stays; rows and blocks turned into each other. No function of the program is proved here. -/
import Derived.Test.YtdecipfdbkpigaaEngF
namespace Go.Eng
section
variable {P : Program} {N : Nat} {all : Array Oper} {o : Oper} {rest : List Oper} {fr : Frm} {I : Imm} {L : List Ent}
variable {ty : TypeId} {pos : String} {aft : Array Edge} {gd : Option (Nat × Bool)} {d : Option Tmp} {x y z : Operand} {v vx vy : Value} {K : Frm → Imm → List Ent → Prop}

/-- Cells that can be read from an address on. -/
def RdC (I : Imm) (L : List Ent) (A : Option Addr) (cs : List Value) : Prop :=
  ∀ w, HS I L w → ∀ j u, cs[j]? = some u → ∃ a, A = some a ∧ w.cell? (a.add j) = some u

theorem RdC.row {A : Option Addr} {n c sz : Nat} {e : TypeId} {cs : List Value} : RdC I [.row (.slice A n c) e sz n cs] A cs := newsRow List.mem_cons_self
theorem RdC.mem {A : Option Addr} {n c sz : Nat} {e : TypeId} {cs : List Value} (hm : Ent.row (.slice A n c) e sz n cs ∈ L) : RdC I L A cs := newsRow hm
theorem RdC.blk {b : Nat} {t : TypeId} {cs : List Value} {k : Nat} (hm : Ent.blk b t cs ∈ L) : RdC I L (some ⟨b, 0, none⟩) (cs.take k) := by
  intro w hs j u hj
  refine ⟨_, rfl, ?_⟩
  rw [add_blk, Nat.zero_add]
  refine cellL hm ?_ w hs
  rw [List.getElem?_take] at hj
  split at hj
  · exact hj
  · cases hj

theorem RdC.imm {A : Option Addr} {cs : List Value} (h : ∀ (j : Nat) (u : Value), cs[j]? = some u → ∃ a, A = some a ∧ I.cell (a.add j) = some u) : RdC I L A cs :=
  fun _ hs j u hj => by obtain ⟨a, ha, hc⟩ := h j u hj; exact ⟨a, ha, hs.cell hc⟩

def bytesV (bs : List UInt8) : List Value := bs.map fun b => .int .u8 b.toNat
theorem bytesV_app (a b : List UInt8) : bytesV (a ++ b) = bytesV a ++ bytesV b := by simp [bytesV]
theorem bytesV_len (a : List UInt8) : (bytesV a).length = a.length := by simp [bytesV]
theorem bytesV_get (a : List UInt8) (i : Nat) : (bytesV a)[i]? = (a[i]?).map fun b => .int .u8 b.toNat := by simp [bytesV]
theorem bytesV_one (a : List UInt8) : ∀ u ∈ bytesV a, u.oneCell' = true := by
  intro u hu
  obtain ⟨b, _, rfl⟩ := List.mem_map.1 hu
  rfl

theorem Rd.cells {A : Option Addr} {bs : List UInt8} (h : Rd eByte I A bs) : RdC I L A (bytesV bs) := by
  intro w hs j u hj
  rw [bytesV_get] at hj
  cases hb : bs[j]? with
  | none => rw [hb] at hj; cases hj
  | some b => rw [hb] at hj; simp only [Option.map_some, Option.some.injEq] at hj; subst hj; exact rdBytes h w hs j b hb

theorem RdC.bytes {A : Option Addr} {bs : List UInt8} (h : RdC I L A (bytesV bs)) : ∀ w, HS I L w → ∀ (j : Nat) (b : UInt8), bs[j]? = some b → ∃ a, A = some a ∧ w.cell? (a.add j) = some (.int .u8 b.toNat) :=
  fun w hs j b hj => h w hs j _ (by rw [bytesV_get, hj]; rfl)

theorem RdC.app {A : Option Addr} {cs : List Value} (h : RdC I L A cs) (F : List Ent) : RdC I (L ++ F) A cs := fun w hs => h w (hs.sublist (List.sublist_append_left _ _))
theorem RdC.cons {A : Option Addr} {cs : List Value} (h : RdC I L A cs) (e : Ent) : RdC I (e :: L) A cs := fun w hs => h w (hs.sublist (List.sublist_cons_self _ _))
theorem RdC.some {A : Option Addr} {cs : List Value} (h : RdC I L A cs) (hn : 0 < cs.length) {w : World} (hs : HS I L w) : ∃ a, A = some a := by
  obtain ⟨a, ha, _⟩ := h w hs 0 cs[0] (by simp)
  exact ⟨a, ha⟩

theorem RdC.at {A : Option Addr} {cs : List Value} {a : Addr} {j : Nat} {u : Value} (h : RdC I L A cs) (hA : A = Option.some a) (hj : cs[j]? = Option.some u) : ∀ w, HS I L w → w.cell? (a.add (j * 1)) = Option.some u := by
  intro w hs
  obtain ⟨a', ha, hc⟩ := h w hs j u hj
  rw [hA] at ha; simp only [Option.some.injEq] at ha; subst ha
  rw [Nat.mul_one]; exact hc

theorem RdC.take {A : Option Addr} {cs : List Value} (h : RdC I L A cs) (n : Nat) : RdC I L A (cs.take n) := by
  intro w hs j u hj
  rw [List.getElem?_take] at hj
  split at hj
  · exact h w hs j u hj
  · cases hj

theorem RdC.drop {A : Option Addr} {cs : List Value} {c : Nat} (h : RdC I L A cs) (n sz : Nat) (hc : cs.length ≤ c * sz) : RdC I L (if c = n then A else A.map (·.add (n * sz))) (cs.drop (n * sz)) := by
  intro w hs j u hj
  rw [List.getElem?_drop] at hj
  have hlt := (List.getElem?_eq_some_iff.1 hj).1
  obtain ⟨a, rfl, hcell⟩ := h w hs _ u hj
  rw [if_neg (by rintro rfl; omega)]
  exact ⟨a.add (n * sz), rfl, by rw [add_add]; exact hcell⟩

theorem bytesV_take (a : List UInt8) (n : Nat) : (bytesV a).take n = bytesV (a.take n) := by simp [bytesV]
theorem bytesV_drop (a : List UInt8) (n : Nat) : (bytesV a).drop n = bytesV (a.drop n) := by simp [bytesV]

theorem Opz.rdSome {A : Option Addr} {cs : List Value} {ops : List Oper} (h : RdC I L A cs) (hn : 0 < cs.length) (k : ∀ a, A = some a → Opz P N all ops fr I L K) : Opz P N all ops fr I L K := by
  intro a w Q0 ha hs hk
  obtain ⟨ad, hA⟩ := h.some hn hs
  exact k ad hA a w Q0 ha hs hk

theorem Cd.rdSome {A : Option Addr} {cs : List Value} {c : Code} {Q : Post} (h : RdC I L A cs) (hn : 0 < cs.length) (k : ∀ a, A = some a → Cd P N c fr I L Q) : Cd P N c fr I L Q := by
  intro a w ha hs
  obtain ⟨ad, hA⟩ := h.some hn hs
  exact k ad hA a w ha hs

theorem Cd.rdNone {A : Option Addr} {cs : List Value} {c : Code} {Q : Post} (h : RdC I L A cs) (hA : A = none) (k : cs = [] → Cd P N c fr I L Q) : Cd P N c fr I L Q := by
  intro a w ha hs
  refine k ?_ a w ha hs
  cases cs with
  | nil => rfl
  | cons u l => obtain ⟨ad, h1⟩ := h.some (by simp) hs; rw [hA] at h1; cases h1

theorem Cd.rowLen {A : Option Addr} {n c sz : Nat} {e : TypeId} {xs : List Value} {cd : Code} {Q : Post} (hm : Ent.row (.slice A n c) e sz n xs ∈ L)
    (k : xs.length = n * sz → n ≤ c → Cd P N cd fr I L Q) : Cd P N cd fr I L Q := by
  intro a w ha hs
  have h := hs.ents _ hm
  refine k h.1 ?_ a w ha hs
  obtain ⟨_, ⟨h1, h0⟩ | ⟨g, cap, cur, h1, _, _, h2, _⟩⟩ := h
  · simp only [Value.slice.injEq] at h1; omega
  · simp only [Value.slice.injEq] at h1; omega

/-- Nothing is a row of our own. -/
theorem HS.addNil {w : World} (h : HS I L w) (e : TypeId) (sz : Nat) : HS I (.row (.slice none 0 0) e sz 0 [] :: L) w :=
  h.add (fun _ _ => rfl) ⟨by simp, .inl ⟨rfl, rfl⟩⟩ (fun b hb => by simp [Ent.own, Value.ownBlock] at hb) rfl rfl rfl
theorem Cd.addNil {c : Code} {Q : Post} (e : TypeId) (sz : Nat) (k : Cd P N c fr I (.row (.slice none 0 0) e sz 0 [] :: L) Q) : Cd P N c fr I L Q := fun a w ha hs => k a w ha (hs.addNil e sz)
theorem Opz.addNil {ops : List Oper} (e : TypeId) (sz : Nat) (k : Opz P N all ops fr I (.row (.slice .none 0 0) e sz 0 [] :: L) K) : Opz P N all ops fr I L K := fun a w Q0 ha hs hk => k a w Q0 ha (hs.addNil e sz) hk

/-- A row as a block. -/
theorem HS.rowBlk {w : World} {A : Option Addr} {n c sz : Nat} {e : TypeId} {xs : List Value} (h : HS I (.row (.slice A n c) e sz n xs :: L) w) (hn : 0 < n) :
    ∃ g spare, A = some ⟨g, 0, none⟩ ∧ HS I (.blk g e (xs ++ spare) :: L) w := by
  obtain ⟨hl, ⟨h1, h0⟩ | ⟨g, cap, cur, h1, _, hg, hnc, hcm, hcs, htake⟩⟩ := h.ents _ List.mem_cons_self
  · omega
  · simp only [Value.slice.injEq] at h1
    obtain ⟨rfl, _, rfl⟩ := h1
    refine ⟨g, cur.toList.drop (n * sz), rfl, ?_⟩
    have : (xs ++ cur.toList.drop (n * sz)).toArray = cur := by rw [← htake, List.take_append_drop]
    refine h.swap (fun _ _ _ => rfl) ?_ (fun b hb => .inl (by simpa [Ent.own, Value.ownBlock] using hb)) rfl rfl rfl
    simp only [Ent.ok, this]; exact hg

theorem Opz.rowBlk {A : Option Addr} {n c sz : Nat} {e : TypeId} {xs : List Value} {L' : List Ent} {ops : List Oper} (hr : Rem L (.row (.slice A n c) e sz n xs) L') (hn : 0 < n)
    (k : ∀ g spare, A = some ⟨g, 0, .none⟩ → Opz P N all ops fr I (.blk g e (xs ++ spare) :: L') K) : Opz P N all ops fr I L K := by
  intro a w Q0 ha hs hk
  obtain ⟨g, spare, hA, hs'⟩ := (hs.perm hr.perm).rowBlk hn
  exact k g spare hA a w Q0 ha hs' hk
theorem Cd.rowBlk {A : Option Addr} {n c sz : Nat} {e : TypeId} {xs : List Value} {L' : List Ent} {cd : Code} {Q : Post} (hr : Rem L (.row (.slice A n c) e sz n xs) L') (hn : 0 < n)
    (k : ∀ g spare, A = some ⟨g, 0, none⟩ → Cd P N cd fr I (.blk g e (xs ++ spare) :: L') Q) : Cd P N cd fr I L Q := by
  intro a w ha hs
  obtain ⟨g, spare, hA, hs'⟩ := (hs.perm hr.perm).rowBlk hn
  exact k g spare hA a w ha hs'

/-- A block stays as it is from now on. -/
theorem HS.freezeBlk {w : World} {b : Nat} {t : TypeId} {cs : List Value} (h : HS I (.blk b t cs :: L) w) :
    ∃ I', I.le I' ∧ (∀ j, I'.cell ⟨b, j, none⟩ = cs[j]?) ∧ HS I' L w := by
  have hb := h.ents _ List.mem_cons_self
  refine ⟨_, Imm.with_le _ (h.imm _ List.mem_cons_self b rfl), fun j => ?_, h.freeze (b := b) rfl hb⟩
  simp [Imm.cell, Imm.with]
theorem Opz.freezeBlk {b : Nat} {t : TypeId} {cs : List Value} {L' : List Ent} {ops : List Oper} (hr : Rem L (.blk b t cs) L')
    (k : ∀ I', I.le I' → (∀ j, I'.cell ⟨b, j, .none⟩ = cs[j]?) → Opz P N all ops fr I' L' K) : Opz P N all ops fr I L K := by
  intro a w Q0 ha hs hk
  obtain ⟨I', hle, hc, hs'⟩ := (hs.perm hr.perm).freezeBlk
  exact k I' hle hc a w Q0 ha hs' hk
theorem Cd.freezeBlk {b : Nat} {t : TypeId} {cs : List Value} {L' : List Ent} {cd : Code} {Q : Post} (hr : Rem L (.blk b t cs) L')
    (k : ∀ I', I.le I' → (∀ j, I'.cell ⟨b, j, none⟩ = cs[j]?) → Cd P N cd fr I' L' Q) : Cd P N cd fr I L Q := by
  intro a w ha hs
  obtain ⟨I', hle, hc, hs'⟩ := (hs.perm hr.perm).freezeBlk
  exact k I' hle hc a w ha hs'
theorem Cd.freeze {A : Option Addr} {n c sz : Nat} {e : TypeId} {xs : List Value} {L' : List Ent} {cd : Code} {Q : Post} (hr : Rem L (.row (.slice A n c) e sz n xs) L')
    (k : ∀ I', I.le I' → (∀ j u, xs[j]? = some u → ∃ a, A = some a ∧ I'.cell (a.add j) = some u) → xs.length = n * sz → n ≤ c → Cd P N cd fr I' L' Q) : Cd P N cd fr I L Q := by
  intro a w ha hs
  have hs' := hs.perm hr.perm
  have h := hs'.ents _ List.mem_cons_self
  simp only [Ent.ok] at h
  by_cases hn : 0 < n
  · obtain ⟨g, spare, rfl, h2⟩ := hs'.rowBlk hn
    obtain ⟨I', hle, hc, h3⟩ := h2.freezeBlk
    refine k I' hle (fun j u hj => ⟨_, rfl, ?_⟩) h.1 ?_ a w ha h3
    · rw [add_blk, Nat.zero_add, hc, List.getElem?_append_left (List.getElem?_eq_some_iff.1 hj).1]; exact hj
    · obtain ⟨_, ⟨h1, h0⟩ | ⟨g, cap, cur, h1, _, _, h2, _⟩⟩ := h
      · simp only [Value.slice.injEq] at h1; omega
      · simp only [Value.slice.injEq] at h1; omega
  · have hn0 : n = 0 := by omega
    subst hn0
    have hx : xs = [] := by simpa using h.1
    subst hx
    exact k I I.le_refl (fun j u hj => by simp at hj) (by simp) (Nat.zero_le _) a w ha (hs'.sublist (List.sublist_cons_self _ _))

/-- Parts are laid into cells. -/
inductive FillTo (place : Nat → Option (Nat × Nat)) : List Value → List (Nat × Value) → List Value → Prop where
  | nil {cs : List Value} : FillTo place cs [] cs
  | one {cs cs1 cs2 : List Value} {i off : Nat} {v : Value} {l : List (Nat × Value)} (hp : place i = some (off, 1)) (hv : v.cells = #[v]) (hs : SetAt cs off v cs1) (k : FillTo place cs1 l cs2) : FillTo place cs ((i, v) :: l) cs2
  | agg {cs cs2 vs : List Value} {i off n : Nat} {v : Value} {l : List (Nat × Value)} (hp : place i = some (off, n)) (hv : v.cells.toList = vs) (hn : vs.length = n) (hb : off + n ≤ cs.length) (k : FillTo place (cs.take off ++ vs ++ cs.drop (off + n)) l cs2) : FillTo place cs ((i, v) :: l) cs2

theorem fold_set : ∀ (l : List Value) (c : Array Value) (o j : Nat), o + j + l.length ≤ c.size →
    (l.zipIdx j).foldl (fun cs (p : Value × Nat) => cs.setIfInBounds (o + p.2) p.1) c = (c.toList.take (o + j) ++ l ++ c.toList.drop (o + j + l.length)).toArray := by
  intro l
  induction l with
  | nil => intro c o j _; simp
  | cons x l ih2 =>
    intro c o j hl
    rw [List.zipIdx_cons, List.foldl_cons, ih2 _ o (j + 1) (by simpa [Nat.add_assoc, Nat.add_comm 1] using hl)]
    simp only [List.length_cons] at hl
    apply Array.ext'
    apply List.ext_getElem?
    intro q
    simp only [Array.toList_setIfInBounds, List.getElem?_append, List.length_append, List.length_take, List.length_set, List.length_cons, Array.length_toList]
    simp only [List.getElem?_take, List.getElem?_drop, List.getElem?_set]
    by_cases h1 : q < o + j
    · rw [if_pos (by omega), if_pos (by omega), if_pos (by omega), if_neg (by omega), if_pos (by omega), if_pos (by omega), if_pos (by omega)]
    · by_cases h2 : q = o + j
      · subst h2
        rw [if_pos (by omega), if_pos (by omega), if_pos (by omega), if_pos rfl, if_pos (by rw [Array.length_toList]; omega), if_pos (by omega), if_neg (by omega)]
        have : o + j - min (o + j) c.size = 0 := by omega
        rw [this]; rfl
      · by_cases h3 : q < o + j + (l.length + 1)
        · rw [if_pos (by omega), if_neg (by omega), if_pos (by omega), if_neg (by omega)]
          have e1 : q - min (o + (j + 1)) c.size + 1 = q - min (o + j) c.size := by omega
          rw [← e1, List.getElem?_cons_succ]
        · rw [if_neg (by omega), if_neg (by omega), if_neg (by omega)]
          congr 1; omega

theorem FillTo.fill {place : Nat → Option (Nat × Nat)} {cs cs2 : List Value} {l : List (Nat × Value)} (h : FillTo place cs l cs2) : Instr.fill place cs.toArray l = some cs2.toArray := by
  induction h with
  | nil => rfl
  | @one cs cs1 cs2 i off v l hp hv hs _ ih =>
    obtain ⟨hlt, rfl⟩ := hs.spec
    unfold Instr.fill
    simp only [hp, hv]
    rw [if_neg (by simp; omega)]
    simpa using ih
  | @agg cs cs2 vs i off n v l hp hv hn hb _ ih =>
    unfold Instr.fill
    simp only [hp]
    have hsz : v.cells.size = n := by rw [← Array.length_toList, hv, hn]
    rw [if_neg (by simp [hsz]; omega)]
    have := fold_set v.cells.toList cs.toArray off 0 (by rw [hv, hn]; simpa using hb)
    rw [Nat.add_zero, hv, hn] at this
    rw [← Array.foldl_toList, Array.toList_zipIdx, hv, this]
    exact ih

/-- A struct's value, out of its fields'. -/
theorem R.build {t : TypeId} {parts : Array (Nat × Operand)} {fs : Array Field} {zv : Value} {zs vals cs : List Value} (places : Array (Nat × Nat)) (ht : P.underlying t = some (.struct fs)) (hz : ∀ w, (zeroValue t).run P w = .ok zv w) (hzc : zv.cells.toList = zs)
    (hpl : ∀ w, (fs.mapM fun (f : Field) => do pure (f.offset, ← sizeOf f.type)).run P w = .ok places w) (hvs : evL fr (parts.toList.map (·.2)) = some vals) (hf : FillTo (places[·]?) zs ((parts.toList.map (·.1)).zip vals) cs) :
    RunsTo P fr I L ⟨d, .build t parts, ty, pos, aft, gd⟩ (.agg cs.toArray) := fun ρ w hρ _ => by
  have hp : (parts.map (fun (i, x) => (i, ρ x))).toList = (parts.toList.map (·.1)).zip vals := by
    have := evL_spec hρ _ vals hvs
    rw [← this]
    simp [List.zip_map', List.map_map]
  have hr : (Instr.build t (parts.map fun (i, x) => (i, ρ x))).run P w = .ok (.agg cs.toArray) w := by
    unfold Instr.build
    rw [Sem.run_bind, hz, Result.andThen_ok, Sem.run_bind, run_und ht, Result.andThen_ok]
    simp only
    rw [Sem.run_bind, hpl, Result.andThen_ok]
    have e : zv.cells = zs.toArray := by rw [← hzc]
    rw [hp, e, hf.fill]
    rfl
  simp only [execOp]
  rw [Sem.run_bind, hr]; rfl

/-- A literal of nothing. -/
theorem W.buildNone {t e : TypeId} {sz : Nat} {info : TypeInfo} (ht : P.underlying t = some (.slice e)) (hi : ∀ w, (typeInfo e).run P w = .ok info w) (hsz : info.size = sz) {ps : Array (Nat × Operand)} (hp : ps = #[]) :
    Acts P N fr I L ⟨d, .buildSlice t 0 ps, ty, pos, aft, gd⟩ (fun v' I' L' => ∃ b, v' = .slice (some ⟨b, 0, .none⟩) 0 0 ∧ I = I' ∧ L' = .row (.slice (some ⟨b, 0, .none⟩) 0 0) e sz 0 [] :: L) := by
  intro a w next Q ha hs hk
  subst hsz
  subst hp
  have hr : (execOp a.eval ⟨d, .buildSlice t 0 #[], ty, pos, aft, gd⟩).run P w = .ok (.value (.slice (some ⟨w.heap.size, 0, .none⟩) 0 0)) (w.alloc (.cells ([] : List Value).toArray e)) := by
    simp [execOp, Instr.buildSlice, run_und ht, sizeOf, hi, Instr.fill, newRow]
    simp [show Array.range 0 = #[] from by simp [Array.range]]
  unfold Oper.wp
  rw [hr, Oper.upon_value]
  have := hs.alloc_row [] e info.size 0 0 (by simp) (Nat.le_refl _) (Nat.zero_le _)
  rw [List.take_nil] at this
  exact hk _ I _ _ this ⟨_, rfl, rfl, rfl⟩

/-- A literal of things of one cell each. -/
theorem W.build1 {t e : TypeId} {n : Nat} {parts : Array (Nat × Operand)} {vs : List Value} {info : TypeInfo} {zv : Value} (ht : P.underlying t = some (.slice e)) (hi : ∀ w, (typeInfo e).run P w = .ok info w) (hsz : info.size = 1)
    (hz : ∀ w, (zeroValue e).run P w = .ok zv w) (hvs : evL fr (parts.toList.map (·.2)) = some vs) (hix : parts.toList.map (·.1) = List.range' 0 n) (hn : vs.length = n) (hbig : n ≤ 65536) (hpos : 0 < n)
    (hv : ∀ v ∈ vs, v.cells = #[v]) :
    Acts P N fr I L ⟨d, .buildSlice t n parts, ty, pos, aft, gd⟩ (fun v' I' L' => ∃ b, v' = .slice (some ⟨b, 0, .none⟩) n n ∧ I = I' ∧ L' = .row (.slice (some ⟨b, 0, .none⟩) n n) e 1 n vs :: L) := by
  have hf : ∀ l : List Value, (∀ v ∈ l, v.cells = #[v]) → l.flatMap (fun v => v.cells.toList) = l := by
    intro l
    induction l with
    | nil => intro _; rfl
    | cons x l ih => intro h; rw [List.flatMap_cons, h x List.mem_cons_self, ih (fun v hv => h v (List.mem_cons_of_mem _ hv))]; rfl
  have := W.buildSlice (P := P) (N := N) (fr := fr) (I := I) (L := L) (d := d) (ty := ty) (pos := pos) (aft := aft) (gd := gd) ht hi hsz hz hvs hix hn (by omega) (by omega) (fun v h => by rw [hv v h]; rfl)
  rw [hf vs hv] at this
  exact this

/-- A store into a block of our own, at a place that is reckoned. -/
theorem W.storeAt {b off : Nat} {t tb : TypeId} {cs : List Value} {L' : List Ent} {info : TypeInfo} {ad : Addr} (hx : evF fr x = some (.pointer (some ad))) (had : ad = ⟨b, off, .none⟩) (hy : evF fr y = some v)
    (hv : v.cells = #[v]) (h2 : v.oneCell' = true) (hi : ∀ w, (typeInfo t).run P w = .ok info w) (h1 : info.size = 1)
    (hu : Upd L (.blk b tb cs) (.blk b tb (cs.set off v)) L') (hlt : off < cs.length) : Acts P N fr I L ⟨d, .store t x y, ty, pos, aft, gd⟩ (Is undef I L') := by
  subst had
  intro a w next Q ha hs hk
  have hb : w.heap[b]? = some (.cells cs.toArray tb (0, 0)) := hs.ents _ hu.mem
  have hcell : w.cell? ⟨b, off, .none⟩ = some cs[off] := by simp [World.cell?, hb, hlt]
  have hfr : w.frozen? ⟨b, off, .none⟩ = false := by simp [World.frozen?, hb]
  have hr : (execOp a.eval ⟨d, .store t x y, ty, pos, aft, gd⟩).run P w = .ok .skip (w.setCell ⟨b, off, .none⟩ v) := by
    simp [execOp, ha.ev hx, ha.ev hy, Instr.storeAt, Instr.sureAddr, run_storeVar_one hi h1 hv h2 hcell hfr]
  unfold Oper.wp
  rw [hr, Oper.upon_skip]
  refine hk undef I L' _ ?_ ⟨rfl, rfl, rfl⟩
  exact hs.upd hu (fun c _ hne => setCell_far (fun e => hne (by simp [Ent.own, e])) off v) (setCell_blk hb off v) (fun c hc => .inl hc) rfl rfl rfl
end
end Go.Eng
