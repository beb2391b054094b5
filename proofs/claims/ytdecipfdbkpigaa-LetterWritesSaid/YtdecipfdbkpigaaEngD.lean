/- The engine, part D: operations that turn memory, calls, rows of the call's own. No function of the program is proved here. -/
import Derived.Test.YtdecipfdbkpigaaEngC
import Derived.Laws.AppendOwn
import Derived.Laws.AppendOwnNone
import Derived.Laws.MakeOwn
import Derived.Lib.ConvBytes
namespace Go.Eng

inductive SetAt : List Value → Nat → Value → List Value → Prop where
  | zero {x v : Value} {l : List Value} : SetAt (x :: l) 0 v (v :: l)
  | succ {x v : Value} {l l' : List Value} {n : Nat} (h : SetAt l n v l') : SetAt (x :: l) (n + 1) v (x :: l')

theorem SetAt.spec {l l' : List Value} {n : Nat} {v : Value} (h : SetAt l n v l') : n < l.length ∧ l' = l.set n v := by
  induction h with
  | zero => simp
  | succ _ ih => obtain ⟨h1, h2⟩ := ih; exact ⟨by simpa using h1, by simp [h2]⟩

def evL (fr : Frm) : List Operand → Option (List Value)
  | [] => some []
  | x :: xs => match evF fr x, evL fr xs with
    | some v, some vs => some (v :: vs)
    | _, _ => none

theorem evL_spec {fr : Frm} {ρ : Operand → Value} (hρ : Agree fr ρ) : ∀ (xs : List Operand) (vs : List Value), evL fr xs = some vs → xs.map ρ = vs := by
  intro xs
  induction xs with
  | nil => intro vs h; simp [evL] at h; simp [← h]
  | cons x xs ih =>
    intro vs h
    unfold evL at h
    split at h
    · rename_i v vs' h1 h2
      simp at h; subst h
      simp [hρ x v h1, ih vs' h2]
    · cases h

section
variable {P : Program} {N : Nat} {all : Array Oper} {o : Oper} {rest : List Oper} {fr : Frm} {I : Imm} {L : List Ent}
variable {ty : TypeId} {pos : String} {aft : Array Edge} {gd : Option (Nat × Bool)} {d : Option Tmp} {x y z : Operand} {v vx vy : Value} {K : Frm → Imm → List Ent → Prop}

theorem HS.upd {L' : List Ent} {e e' : Ent} {w w' : World} (h : HS I L w) (hu : Upd L e e' L')
    (hs : ∀ b, b < w.heap.size → e.own ≠ some b → w'.heap[b]? = w.heap[b]?) (hok : e'.ok w')
    (hown : ∀ b, e'.own = some b → e.own = some b ∨ w.heap.size ≤ b)
    (ho : w'.os = w.os) (ht : w'.tape = w.tape) (hu' : w'.output = w.output) : HS I L' w' := by
  obtain ⟨R, h1, h2⟩ := hu.split
  exact ((h.perm h1).swap hs hok hown ho ht hu').perm h2

theorem Upd.mem {L' : List Ent} {e e' : Ent} (hu : Upd L e e' L') : e ∈ L := by
  obtain ⟨R, h1, _⟩ := hu.split
  exact h1.mem_iff.2 List.mem_cons_self

theorem setCell_blk {w : World} {b : Nat} {t : TypeId} {cs : List Value} (hb : w.heap[b]? = some (.cells cs.toArray t (0, 0))) (off : Nat) (v : Value) :
    (w.setCell ⟨b, off, .none⟩ v).heap[b]? = some (.cells (cs.set off v).toArray t (0, 0)) := by
  have hlt := (Array.getElem?_eq_some_iff.1 hb).1
  simp only [World.setCell]
  rw [Array.getElem?_modify, if_pos rfl, hb]
  simp

theorem setCell_far {w : World} {b c : Nat} (h : c ≠ b) (off : Nat) (v : Value) : (w.setCell ⟨b, off, .none⟩ v).heap[c]? = w.heap[c]? := by
  simp only [World.setCell]
  rw [Array.getElem?_modify, if_neg (Ne.symm h)]

theorem run_storeVar_one {t : TypeId} {info : TypeInfo} {w : World} {ad : Addr} {u : Value} (hi : ∀ w, (typeInfo t).run P w = .ok info w) (h1 : info.size = 1) (hv : v.cells = #[v]) (h2 : v.oneCell' = true)
    (hc : w.cell? ad = some u) (hf : w.frozen? ad = false) : (storeVar t ad v).run P w = .ok () (w.setCell ad v) := by
  have e0 : ad.add 0 = ad := by simp [Addr.add]
  simp [storeVar, sizeOf, hi, h1, hv, storeCells, e0, run_store _ _ _ _ _ h2, hc, hf]

/-- A store into a block of our own. -/
theorem W.store {b off : Nat} {t tb : TypeId} {cs cs' : List Value} {L' : List Ent} {info : TypeInfo} (hx : evF fr x = some (.pointer (some ⟨b, off, .none⟩))) (hy : evF fr y = some v)
    (hv : v.cells = #[v]) (h2 : v.oneCell' = true) (hi : ∀ w, (typeInfo t).run P w = .ok info w) (h1 : info.size = 1)
    (hu : Upd L (.blk b tb cs) (.blk b tb cs') L') (hc : SetAt cs off v cs') : Acts P N fr I L ⟨d, .store t x y, ty, pos, aft, gd⟩ (Is undef I L') := by
  intro a w next Q ha hs hk
  obtain ⟨hlt, rfl⟩ := hc.spec
  have hb : w.heap[b]? = some (.cells cs.toArray tb (0, 0)) := hs.ents _ hu.mem
  have hcell : w.cell? ⟨b, off, .none⟩ = some cs[off] := by simp [World.cell?, hb, hlt]
  have hfr : w.frozen? ⟨b, off, .none⟩ = false := by simp [World.frozen?, hb]
  have hr : (execOp a.eval ⟨d, .store t x y, ty, pos, aft, gd⟩).run P w = .ok .skip (w.setCell ⟨b, off, .none⟩ v) := by
    simp [execOp, ha.ev hx, ha.ev hy, Instr.storeAt, Instr.sureAddr, run_storeVar_one hi h1 hv h2 hcell hfr]
  unfold Oper.wp
  rw [hr, Oper.upon_skip]
  refine hk undef I L' _ ?_ ⟨rfl, rfl, rfl⟩
  exact hs.upd hu (fun c _ hne => setCell_far (fun e => hne (by simp [Ent.own, e])) off v) (setCell_blk hb off v) (fun c hc => .inl hc) rfl rfl rfl

/-- A new variable that holds a value. -/
theorem W.box {e : TypeId} {cs : List Value} (hx : evF fr x = some v) (hc : v.cells.toList = cs) :
    Acts P N fr I L ⟨d, .box e x, ty, pos, aft, gd⟩ (fun v' I' L' => ∃ b, v' = .pointer (some ⟨b, 0, .none⟩) ∧ I = I' ∧ L' = .blk b e cs :: L) := by
  intro a w next Q ha hs hk
  subst hc
  have hr : (execOp a.eval ⟨d, .box e x, ty, pos, aft, gd⟩).run P w = .ok (.value (.pointer (some ⟨w.heap.size, 0, .none⟩))) (w.alloc (.cells v.cells.toList.toArray e)) := by
    simp [execOp, ha.ev hx, Instr.box, newVar, newRow]
  unfold Oper.wp
  rw [hr, Oper.upon_value]
  exact hk _ I _ _ (hs.alloc_blk _ _) ⟨_, rfl, rfl, rfl⟩

theorem W.alloc {e : TypeId} {cs : List Value} {zv : Value} (hz : ∀ w, (zeroValue e).run P w = .ok zv w) (hc : zv.cells.toList = cs) :
    Acts P N fr I L ⟨d, .alloc e, ty, pos, aft, gd⟩ (fun v' I' L' => ∃ b, v' = .pointer (some ⟨b, 0, .none⟩) ∧ I = I' ∧ L' = .blk b e cs :: L) := by
  intro a w next Q ha hs hk
  subst hc
  have hr : (execOp a.eval ⟨d, .alloc e, ty, pos, aft, gd⟩).run P w = .ok (.value (.pointer (some ⟨w.heap.size, 0, .none⟩))) (w.alloc (.cells zv.cells.toList.toArray e)) := by
    simp [execOp, Instr.alloc, hz, newVar, newRow]
  unfold Oper.wp
  rw [hr, Oper.upon_value]
  exact hk _ I _ _ (hs.alloc_blk _ _) ⟨_, rfl, rfl, rfl⟩

theorem HS.alloc_row {w : World} (h : HS I L w) (cs : List Value) (e : TypeId) (sz n c : Nat) (hc : cs.length = c * sz) (hn : n ≤ c) (hm : c ≤ maxLen) :
    HS I (.row (.slice (some ⟨w.heap.size, 0, .none⟩) n c) e sz n (cs.take (n * sz)) :: L) (w.alloc (.cells cs.toArray e)) := by
  refine h.add (fun b hb => alloc_old hb) ⟨?_, .inr ⟨w.heap.size, c, cs.toArray, rfl, Nat.zero_le _, alloc_new w _, hn, hm, by simpa using hc, by simp⟩⟩ (fun b hb => by simp only [Ent.own, Value.ownBlock, Option.some.injEq] at hb; omega) rfl rfl rfl
  rw [List.length_take, hc, Nat.min_eq_left (Nat.mul_le_mul_right _ hn)]

/-- Parts that fill a row, one behind the other. -/
theorem fill_row {sz : Nat} : ∀ (vs : List Value) (k : Nat) (cells : Array Value), (∀ v ∈ vs, v.cells.size = sz) → (k + vs.length) * sz ≤ cells.size →
    Instr.fill (fun i => some (i * sz, sz)) cells ((List.range' k vs.length).zip vs) = some (cells.toList.take (k * sz) ++ vs.flatMap (fun v => v.cells.toList) ++ cells.toList.drop ((k + vs.length) * sz)).toArray := by
  intro vs
  induction vs with
  | nil => intro k cells _ _; simp [Instr.fill]
  | cons v vs ih =>
    intro k cells hv hs
    have h0 : v.cells.size = sz := hv v List.mem_cons_self
    have hk : k * sz + sz ≤ cells.size := by
      have : (k + 1) * sz ≤ (k + (v :: vs).length) * sz := Nat.mul_le_mul_right _ (by simp)
      rw [Nat.add_mul, Nat.one_mul] at this; omega
    have hfold : ∀ (l : List Value) (c : Array Value) (o j : Nat), o + j + l.length ≤ c.size →
        (l.zipIdx j).foldl (fun cs (p : Value × Nat) => cs.setIfInBounds (o + p.2) p.1) c = (c.toList.take (o + j) ++ l ++ c.toList.drop (o + j + l.length)).toArray := by
      intro l
      induction l with
      | nil => intro c o j _; simp
      | cons x l ih2 =>
        intro c o j hl
        rw [List.zipIdx_cons, List.foldl_cons, ih2 _ o (j + 1) (by simpa [Nat.add_assoc, Nat.add_comm 1] using hl)]
        simp only [List.length_cons] at hl
        apply Array.ext'
        apply List.ext_getElem?
        intro q
        simp only [Array.toList_setIfInBounds, List.getElem?_append, List.length_append, List.length_take, List.length_set, List.length_cons, Array.length_toList]
        simp only [List.getElem?_take, List.getElem?_drop, List.getElem?_set]
        by_cases h1 : q < o + j
        · rw [if_pos (by omega), if_pos (by omega), if_pos (by omega), if_neg (by omega), if_pos (by omega), if_pos (by omega), if_pos (by omega)]
        · by_cases h2 : q = o + j
          · subst h2
            rw [if_pos (by omega), if_pos (by omega), if_pos (by omega), if_pos rfl, if_pos (by rw [Array.length_toList]; omega), if_pos (by omega), if_neg (by omega)]
            have : o + j - min (o + j) c.size = 0 := by omega
            rw [this]; rfl
          · by_cases h3 : q < o + j + (l.length + 1)
            · rw [if_pos (by omega), if_neg (by omega), if_pos (by omega), if_neg (by omega)]
              have e1 : q - min (o + (j + 1)) c.size + 1 = q - min (o + j) c.size := by omega
              rw [← e1, List.getElem?_cons_succ]
            · rw [if_neg (by omega), if_neg (by omega), if_neg (by omega)]
              congr 1; omega
    have hstep : (v.cells.zipIdx.foldl (fun cs (p : Value × Nat) => cs.setIfInBounds (k * sz + p.2) p.1) cells) = (cells.toList.take (k * sz) ++ v.cells.toList ++ cells.toList.drop (k * sz + sz)).toArray := by
      have := hfold v.cells.toList cells (k * sz) 0 (by rw [Array.length_toList, h0]; omega)
      rw [Nat.add_zero, Array.length_toList, h0] at this
      rw [← this, ← Array.foldl_toList, Array.toList_zipIdx]
    rw [List.length_cons, List.range'_succ, List.zip_cons_cons, Instr.fill]
    simp only
    rw [if_neg (by simp [h0]; omega), hstep, ih (k + 1) _ (fun u hu => hv u (List.mem_cons_of_mem _ hu))]
    · congr 1
      apply congrArg List.toArray
      have e1 : (k + 1) * sz = k * sz + sz := by rw [Nat.add_mul, Nat.one_mul]
      have e2 : (k + 1 + vs.length) * sz = k * sz + sz + vs.length * sz := by rw [Nat.add_mul, e1]
      have e3 : (k + (vs.length + 1)) * sz = k * sz + sz + vs.length * sz := by rw [show k + (vs.length + 1) = k + 1 + vs.length from by omega, e2]
      rw [e1, e2, e3, List.flatMap_cons]
      have hl1 : (cells.toList.take (k * sz)).length = k * sz := by rw [List.length_take, Array.length_toList]; omega
      have hl2 : (cells.toList.take (k * sz) ++ v.cells.toList).length = k * sz + sz := by rw [List.length_append, hl1, Array.length_toList, h0]
      simp only
      rw [List.take_append_of_le_length (by rw [hl2]; exact Nat.le_refl _), List.take_of_length_le (by rw [hl2]; exact Nat.le_refl _)]
      rw [List.drop_append, hl2, List.drop_of_length_le (by rw [hl2]; omega), List.nil_append, List.drop_drop]
      rw [show k * sz + sz + (k * sz + sz + vs.length * sz - (k * sz + sz)) = k * sz + sz + vs.length * sz from by omega]
      simp only [List.append_assoc]
    · have e2 : (k + 1 + vs.length) * sz = (k + (v :: vs).length) * sz := by rw [List.length_cons]; congr 1; omega
      rw [e2]
      simp only [List.size_toArray, List.length_append, List.length_take, List.length_drop, Array.length_toList, h0]
      omega

/-- A slice's literal. -/
theorem W.buildSlice {t e : TypeId} {n sz : Nat} {parts : Array (Nat × Operand)} {vs : List Value} {info : TypeInfo} {zv : Value} (ht : P.underlying t = some (.slice e)) (hi : ∀ w, (typeInfo e).run P w = .ok info w) (hsz : info.size = sz)
    (hz : ∀ w, (zeroValue e).run P w = .ok zv w) (hvs : evL fr (parts.toList.map (·.2)) = some vs) (hix : parts.toList.map (·.1) = List.range' 0 n) (hn : vs.length = n) (hb' : n * sz ≤ 65536) (hp : 0 < n * sz)
    (hv : ∀ v ∈ vs, v.cells.size = sz) :
    Acts P N fr I L ⟨d, .buildSlice t n parts, ty, pos, aft, gd⟩ (fun v' I' L' => ∃ b, v' = .slice (some ⟨b, 0, .none⟩) n n ∧ I = I' ∧ L' = .row (.slice (some ⟨b, 0, .none⟩) n n) e sz n (vs.flatMap (fun v => v.cells.toList)) :: L) := by
  intro a w next Q ha hs hk
  subst hsz
  have hparts : (parts.map (fun (i, x) => (i, a.eval x))).toList = (List.range' 0 vs.length).zip vs := by
    have := evL_spec ha.agree _ vs hvs
    rw [hn, ← hix, ← this]
    simp [List.zip_map', List.map_map]
  have hsz' : ((Array.range (n * info.size)).map (zv.cells[· % zv.cells.size]!)).size = n * info.size := by simp
  have hfill := fill_row (sz := info.size) vs 0 ((Array.range (n * info.size)).map (zv.cells[· % zv.cells.size]!)) hv (by rw [hsz', hn, Nat.zero_add]; exact Nat.le_refl _)
  have hdrop : ((Array.range (n * info.size)).map (zv.cells[· % zv.cells.size]!)).toList.drop ((0 + vs.length) * info.size) = [] := by
    apply List.drop_of_length_le
    rw [Array.length_toList, hsz', hn, Nat.zero_add]; exact Nat.le_refl _
  rw [hdrop, Nat.zero_mul, List.take_zero, List.nil_append, List.append_nil] at hfill
  have hl : (vs.flatMap (fun v => v.cells.toList)).length = n * info.size := by
    have : ∀ l : List Value, (∀ v ∈ l, v.cells.size = info.size) → (l.flatMap (fun v => v.cells.toList)).length = l.length * info.size := by
      intro l
      induction l with
      | nil => intro _; simp
      | cons x l ih => intro h; rw [List.flatMap_cons, List.length_append, ih (fun v hv => h v (List.mem_cons_of_mem _ hv)), Array.length_toList, h x List.mem_cons_self, List.length_cons, Nat.add_mul, Nat.one_mul, Nat.add_comm]
    rw [this vs hv, hn]
  have hr : (execOp a.eval ⟨d, .buildSlice t n parts, ty, pos, aft, gd⟩).run P w = .ok (.value (.slice (some ⟨w.heap.size, 0, .none⟩) n n)) (w.alloc (.cells (vs.flatMap (fun v => v.cells.toList)).toArray e)) := by
    simp only [execOp]
    rw [Sem.run_bind]
    have : (Instr.buildSlice t n (parts.map fun (i, x) => (i, a.eval x))).run P w = .ok (.slice (some ⟨w.heap.size, 0, .none⟩) n n) (w.alloc (.cells (vs.flatMap (fun v => v.cells.toList)).toArray e)) := by
      unfold Instr.buildSlice
      rw [Sem.run_bind, run_und ht, Result.andThen_ok]
      simp only [sizeOf, Sem.run_bind, hi, Result.andThen_ok, Sem.run_pure]
      rw [if_neg (by omega), if_neg (by omega)]
      simp only [Sem.run_bind, hz, Result.andThen_ok, Sem.run_pure, hparts, hfill]
      simp [newRow]
    rw [this]; rfl
  unfold Oper.wp
  rw [hr, Oper.upon_value]
  have hn' : n ≤ maxLen := by
    have : 0 < info.size := Nat.pos_of_ne_zero (by rintro h0; rw [h0] at hp; simp at hp)
    have := Nat.le_mul_of_pos_right n this
    simp only [maxLen]; omega
  have := hs.alloc_row (vs.flatMap (fun v => v.cells.toList)) e info.size n n hl (Nat.le_refl _) hn'
  rw [← hl, List.take_length] at this
  exact hk _ I _ _ this ⟨_, rfl, rfl, rfl⟩

/-! ### Calls -/
theorem W.call {f : Operand} {args : Array Operand} {ts : Array TypeId} {k : FuncId} {fs cs : Array Value} {vs as : List Value} {Lp F : List Ent} {post : Value → Imm → List Ent → Prop}
    (hf : evF fr f = some (.func (.func k) fs cs)) (ha : evL fr args.toList = some vs) (hc : ∀ as w, (callFunc k as).run P w = .ok (.enter k as) w)
    (hs : Meets P k as.toArray I Lp post) (hag : fs.toList ++ vs ++ cs.toList = as) (ht : Take L Lp F) :
    Acts P N fr I L ⟨d, .call ⟨.value f, args, ts⟩, ty, pos, aft, gd⟩ (fun v I' L' => I.le I' ∧ ∃ M, post v I' M ∧ L' = M ++ F) := by
  intro a w next Q haF hw hk
  have hargs : args.map a.eval = vs.toArray := by
    have := evL_spec haF.agree _ _ ha
    apply Array.ext'
    rw [Array.toList_map, this]
  have hr : (execOp a.eval ⟨d, .call ⟨.value f, args, ts⟩, ty, pos, aft, gd⟩).run P w = .ok (.enter k (fs ++ vs.toArray ++ cs)) w := by
    simp [execOp, resolve, haF.ev hf, Deferred.ofValue, invoke, hc, hargs]
  unfold Oper.wp
  rw [hr, Oper.upon_enter]
  have e : as.toArray = fs ++ vs.toArray ++ cs := by
    rw [← hag]
    apply Array.ext'; simp
  rw [← e]
  refine (hs w F (hw.perm ht.perm)).mono ?_
  rintro e' w' ⟨v', I', L', rfl, hle, hp, hs'⟩
  exact hk v' I' _ w' hs' ⟨hle, L', hp, rfl⟩

/-! ### Rows -/
/-- What a row of our own holds, cell by cell. -/
theorem cellRow {A : Option Addr} {n c sz : Nat} {e : TypeId} {xs : List Value} {g j : Nat} {u : Value} (hm : Ent.row (.slice A n c) e sz n xs ∈ L) (hA : A = some ⟨g, 0, .none⟩) (hj : xs[j]? = some u) : ∀ w, HS I L w → w.cell? ⟨g, j, .none⟩ = some u := by
  intro w hs
  have h := hs.ents _ hm
  simp only [Ent.ok] at h
  have := h.cells (g := g) (by rw [hA]; rfl) j u hj
  have e1 : (⟨g, 0, .none⟩ : Addr).add j = ⟨g, j, .none⟩ := by unfold Addr.add; split <;> simp_all
  rwa [e1] at this

theorem row_some {A : Option Addr} {n c sz m : Nat} {e : TypeId} {xs : List Value} {w : World} (h : w.ownsRow 0 e sz (.slice A m c) n xs) (hn : 0 < n) : ∃ g, A = some ⟨g, 0, .none⟩ := by
  obtain ⟨_, ⟨_, h0⟩ | ⟨g, cap, cur, h1, _⟩⟩ := h
  · omega
  · simp only [Value.slice.injEq] at h1; exact ⟨g, h1.1⟩

theorem Opz.rowSome {A : Option Addr} {n c sz : Nat} {e : TypeId} {xs : List Value} {ops : List Oper} (hm : Ent.row (.slice A n c) e sz n xs ∈ L) (hn : 0 < n)
    (k : ∀ g, A = some ⟨g, 0, .none⟩ → Opz P N all ops fr I L K) : Opz P N all ops fr I L K := by
  intro a w Q0 ha hs hk
  obtain ⟨g, hg⟩ := row_some (hs.ents _ hm) hn
  exact k g hg a w Q0 ha hs hk

/-- What is known of a row's length. -/
theorem Opz.rowLen {A : Option Addr} {n c sz : Nat} {e : TypeId} {xs : List Value} {ops : List Oper} (hm : Ent.row (.slice A n c) e sz n xs ∈ L)
    (k : xs.length = n * sz → n ≤ c → Opz P N all ops fr I L K) : Opz P N all ops fr I L K := by
  intro a w Q0 ha hs hk
  have h := hs.ents _ hm
  refine k h.1 ?_ a w Q0 ha hs hk
  obtain ⟨_, ⟨h1, h0⟩ | ⟨g, cap, cur, h1, _, _, h2, _⟩⟩ := h
  · simp only [Value.slice.injEq] at h1; omega
  · simp only [Value.slice.injEq] at h1; omega

/-- What the library's law on append says, and besides: where the row lies then. -/
theorem run_append_own2 {w : World} (t ty e : TypeId) (i : TypeInfo) (z : Value) (size bytes : Nat) (ht : P.underlying t = some (.slice e)) (hi : P.info? e = some i) (hz : i.zero = some z)
    (hsize : i.size = size) (hby : i.bytes = bytes) (hzs : z.cells.size = size) (hsz : 0 < size)
    (v : Value) (n : Nat) (xs : List Value) (hown : w.ownsRow 0 e size v n xs)
    (a : Addr) (m c : Nat) (news : List Value) (hl : news.length = m * size) (hnews : ∀ j u, news[j]? = some u → w.cell? (a.add j) = some u) (h1 : ∀ u ∈ news, u.oneCell' = true)
    (h63 : n + m ≤ maxLen) (hbytes : (n + m) * bytes ≤ 140737488355328) :
    ∃ v' w', (Builtin.append_ #[t, t] ty #[v, .slice (some a) m c]).run P w = .ok v' w' ∧ w'.ownsRow 0 e size v' (n + m) (xs ++ news) ∧ w.grownBy w' v.ownBlock ∧
      (∀ b, v'.ownBlock = some b → v.ownBlock = some b ∨ w.heap.size ≤ b) := by
  rcases hown.2 with ⟨rfl, rfl⟩ | ⟨g, cap, cur, rfl, hbg, hg, hnc, hcm, hcs, htake⟩
  · have hx : xs = [] := List.eq_nil_of_length_eq_zero (by simpa using hown.1)
    subst hx
    obtain ⟨v', w', hrun, hown', hgr, _⟩ := run_append_own (P := P) (w := w) w.heap.size t ty e i z size bytes ht hi hz hsize hby hzs hsz (.slice none 0 0) 0 [] (World.ownsRow_nil w _ e size) a m c news hl hnews h1 h63 hbytes (Nat.le_refl _)
    refine ⟨v', w', hrun, ⟨hown'.1, ?_⟩, hgr, fun b hb => .inr ((hown'.lt b hb).1)⟩
    rcases hown'.2 with h | ⟨g, cap, cur, h2, _, h3⟩
    · exact .inl h
    · exact .inr ⟨g, cap, cur, h2, Nat.zero_le _, h3⟩
  · by_cases hroom : n + m ≤ cap
    · have hfit : n * i.size + news.length ≤ cur.size := by rw [hl, hcs, hsize, ← Nat.add_mul]; exact Nat.mul_le_mul_right _ hroom
      have hr := run_append_room (P := P) w t ty e i ht hi g n cap cur hg a m c news (by rw [hl, hsize]) hnews h1 hroom hfit
      obtain ⟨v', w', hrun, hown', hgr, _⟩ := run_append_own (P := P) (w := w) 0 t ty e i z size bytes ht hi hz hsize hby hzs hsz _ n xs hown a m c news hl hnews h1 h63 hbytes (Nat.zero_le _)
      rw [hr] at hrun
      simp only [Result.ok.injEq] at hrun
      obtain ⟨rfl, rfl⟩ := hrun
      exact ⟨_, _, hr, hown', hgr, fun b hb => .inl (by simpa [Value.ownBlock] using hb)⟩
    · have holds : ∀ j u, xs[j]? = some u → w.cell? ((⟨g, 0, none⟩ : Addr).add j) = some u := hown.cells (g := g) rfl
      have hsmall : n + m ≤ 9223372036854775807 := by simp only [maxLen] at h63; omega
      have hr := run_append_grow (P := P) w t ty e i z ht hi hz ⟨g, 0, none⟩ n cap xs (by rw [hown.1, hsize]) holds a m c news (by rw [hl, hsize]) hnews (by omega) (by omega) (growslice_fits (by omega) (by rw [hby]; exact hbytes))
      obtain ⟨v', w', hrun, hown', hgr, _⟩ := run_append_own (P := P) (w := w) 0 t ty e i z size bytes ht hi hz hsize hby hzs hsz _ n xs hown a m c news hl hnews h1 h63 hbytes (Nat.zero_le _)
      rw [hr] at hrun
      simp only [Result.ok.injEq] at hrun
      obtain ⟨rfl, rfl⟩ := hrun
      exact ⟨_, _, hr, hown', hgr, fun b hb => .inr (by simp [Value.ownBlock] at hb; omega)⟩

/-- What is appended is a row of our own. -/
theorem newsRow {A : Option Addr} {m c sz : Nat} {e : TypeId} {xs : List Value} (hm : Ent.row (.slice A m c) e sz m xs ∈ L) :
    ∀ w, HS I L w → ∀ j u, xs[j]? = some u → ∃ a, A = some a ∧ w.cell? (a.add j) = some u := by
  intro w hs j u hj
  have h := hs.ents _ hm
  simp only [Ent.ok] at h
  have hj' : j < xs.length := (List.getElem?_eq_some_iff.1 hj).1
  have hl := h.1
  obtain ⟨g, hg⟩ := row_some h (Nat.pos_of_ne_zero (by rintro rfl; rw [Nat.zero_mul] at hl; omega))
  subst hg
  exact ⟨_, rfl, h.cells (g := g) rfl j u hj⟩

/-- append of a slice to a row of our own. -/
theorem W.append {t e : TypeId} {ad : Option Addr} {n c m c' sz by' : Nat} {A : Option Addr} {xs news : List Value} {L' : List Ent} {info : TypeInfo} {zv : Value} (hx : evF fr x = some (.slice A n c)) (hy : evF fr y = some (.slice ad m c'))
    (ht : P.underlying t = some (.slice e)) (hi : P.info? e = some info) (hz : info.zero = some zv) (hsz : info.size = sz) (hby : info.bytes = by') (hzs : zv.cells.size = sz) (hpos : Nat.blt 0 sz = true)
    (hr : Rem L (.row (.slice A n c) e sz n xs) L') (hl : news.length = m * sz) (hnews : ∀ w, HS I L w → ∀ j u, news[j]? = some u → ∃ a, ad = some a ∧ w.cell? (a.add j) = some u) (h1 : ∀ u ∈ news, u.oneCell' = true)
    (hb : (n + m) * by' ≤ 140737488355328) (hby0 : Nat.blt 0 by' = true) :
    Acts P N fr I L ⟨d, .call ⟨.builtin .append, #[x, y], #[t, t]⟩, ty, pos, aft, gd⟩ (fun v I' L2 => ∃ A' cp, v = .slice A' (n + m) cp ∧ I = I' ∧ L2 = .row (.slice A' (n + m) cp) e sz (n + m) (xs ++ news) :: L') := by
  intro a w next Q ha hs hk
  have hp : 0 < sz := by simpa [Nat.blt_eq] using hpos
  have hbp : 0 < by' := by simpa [Nat.blt_eq] using hby0
  have hown : w.ownsRow 0 e sz (.slice A n c) n xs := hs.ents _ (hr.perm.mem_iff.2 List.mem_cons_self)
  have hnm : n + m ≤ maxLen := by
    have : n + m ≤ (n + m) * by' := Nat.le_mul_of_pos_right _ hbp
    simp only [maxLen]; omega
  have key : ∃ v' w', (Builtin.append_ #[t, t] ty #[.slice A n c, .slice ad m c']).run P w = .ok v' w' ∧ w'.ownsRow 0 e sz v' (n + m) (xs ++ news) ∧ w.grownBy w' (Value.ownBlock (.slice A n c)) ∧ (∀ b, v'.ownBlock = some b → Value.ownBlock (.slice A n c) = some b ∨ w.heap.size ≤ b) := by
    cases ad with
    | some ad =>
      obtain ⟨v', w', hrun, hown', hg, hbk⟩ := run_append_own2 (P := P) (w := w) t ty e info zv sz by' ht hi hz hsz hby hzs hp (.slice A n c) n xs hown ad m c' news hl (fun j u hj => by obtain ⟨a, ha, hc⟩ := hnews w hs j u hj; simp only [Option.some.injEq] at ha; subst ha; exact hc) h1 hnm hb
      exact ⟨v', w', hrun, hown', hg, hbk⟩
    | none =>
      have hn0 : news = [] := by
        cases news with
        | nil => rfl
        | cons u l => obtain ⟨a, ha, _⟩ := hnews w hs 0 u rfl; cases ha
      subst hn0
      have hm0 : m = 0 := by
        simp only [List.length_nil] at hl
        rcases Nat.mul_eq_zero.1 hl.symm with h | h
        · exact h
        · omega
      subst hm0
      have hnc : n ≤ c := by
        obtain ⟨_, ⟨h1, h0⟩ | ⟨g, cap, cur, h1, _, _, h2, _⟩⟩ := hown
        · simp only [Value.slice.injEq] at h1; omega
        · simp only [Value.slice.injEq] at h1; omega
      refine ⟨.slice A n c, w, ?_, by simpa using hown, ⟨rfl, rfl, rfl, Nat.le_refl _, fun _ _ _ => rfl⟩, fun b hb => .inl hb⟩
      cases A <;> simp [Builtin.append_, run_und ht, sizeOf, typeInfo, hi, Builtin.lenOf, Builtin.firstCells, hnc, storeCells]
  obtain ⟨v', w', hrun, hown', hg, hbk⟩ := key
  have hr' : (execOp a.eval ⟨d, .call ⟨.builtin .append, #[x, y], #[t, t]⟩, ty, pos, aft, gd⟩).run P w = .ok (.value v') w' := by
    simp [execOp, resolve, invoke, builtin, ha.ev hx, ha.ev hy, hrun]
  unfold Oper.wp
  rw [hr', Oper.upon_value]
  have hv' : ∃ A' cp, v' = .slice A' (n + m) cp := by
    obtain ⟨_, ⟨h1, h0⟩ | ⟨g, cap, cur, h1, _⟩⟩ := hown'
    · exact ⟨.none, 0, by rw [h1, h0]⟩
    · exact ⟨_, _, h1⟩
  obtain ⟨A', cp, rfl⟩ := hv'
  refine hk _ I _ w' ?_ ⟨A', cp, rfl, rfl, rfl⟩
  exact (hs.perm hr.perm).swap (fun b hb hne => hg.block b hb (fun e => hne e.symm)) hown' hbk hg.os hg.tape hg.output
end
end Go.Eng
