/- The engine, part H: results, whole structs, strings as lists of bytes. No function of the program is proved here. -/
import Derived.Test.YtdecipfdbkpigaaEngG
import Derived.Lib.PathFns
import Derived.Lib.IndexBytes
namespace Go.Eng
section
variable {P : Program} {N : Nat} {all : Array Oper} {o : Oper} {rest : List Oper} {fr : Frm} {I : Imm} {L : List Ent} {Q : Post} {c : Code}
variable {ty : TypeId} {pos : String} {aft : Array Edge} {gd : Option (Nat × Bool)} {d : Option Tmp} {x y z : Operand} {v vx vy : Value} {K : Frm → Imm → List Ent → Prop}

/-- A function's results, where it ends. -/
inductive ResOK (P : Program) (fr : Frm) (L : List Ent) : List ResultVar → List Value → Prop where
  | nil : ResOK P fr L [] []
  | tmp {t : Nat} {v : Value} {rs : List ResultVar} {vs : List Value} (h : look fr t = some v) (k : ResOK P fr L rs vs) : ResOK P fr L (.tmp t :: rs) (v :: vs)
  | agg {a b : Nat} {ty tb : TypeId} {td : TypeDesc} {info : TypeInfo} {cs : List Value} {rs : List ResultVar} {vs : List Value} (h : look fr a = some (.pointer (some ⟨b, 0, none⟩))) (hm : Ent.blk b tb cs ∈ L)
      (hu : P.underlying ty = some td) (h1 : oneB td = false) (hi : ∀ w, (typeInfo ty).run P w = .ok info w) (hn : info.size = cs.length) (k : ResOK P fr L rs vs) : ResOK P fr L (.cell a ty :: rs) (.agg cs.toArray :: vs)
  | one {a b : Nat} {ty tb : TypeId} {td : TypeDesc} {v : Value} {cs : List Value} {rs : List ResultVar} {vs : List Value} (h : look fr a = some (.pointer (some ⟨b, 0, none⟩))) (hm : Ent.blk b tb cs ∈ L)
      (hu : P.underlying ty = some td) (h1 : oneB td = true) (hc : cs[0]? = some v) (k : ResOK P fr L rs vs) : ResOK P fr L (.cell a ty :: rs) (v :: vs)

def tupV : List Value → Value
  | [v] => v
  | vs => .tuple vs.toArray

def resOne (a : Act) : ResultVar → Sem Value
  | .tmp t => pure (a.tmps.getD t undef)
  | .cell p t => do loadVar t (← asAddr (a.tmps.getD p undef))

theorem resOne_tmp {a : Act} {t : Nat} {v : Value} {w : World} (h : a.tmps.getD t undef = v) : (resOne a (.tmp t)).run P w = .ok v w := by
  subst h; rfl
theorem resOne_cell {a : Act} {t : Nat} {ty : TypeId} {ad : Addr} {v : Value} {w : World} (h : a.tmps.getD t undef = .pointer (some ad)) (hl : (loadVar ty ad).run P w = .ok v w) : (resOne a (.cell t ty)).run P w = .ok v w := by
  show (do loadVar ty (← asAddr (a.tmps.getD t undef)) : Sem Value).run P w = _
  rw [h, Sem.run_bind]
  exact hl

theorem ResOK.mapM {rs : List ResultVar} {vs : List Value} (h : ResOK P fr L rs vs) {a : Act} {w : World} (ha : Fr N fr a) (hs : HS I L w) :
    (rs.mapM (resOne a)).run P w = .ok vs w := by
  induction h with
  | nil => simp
  | tmp h _ ih =>
    rw [List.mapM_cons, Sem.run_bind, resOne_tmp (ha.vals _ _ h), Result.andThen_ok, Sem.run_bind, ih]; rfl
  | agg h hm hu h1 hi hn _ ih =>
    rw [List.mapM_cons, Sem.run_bind, resOne_cell (ha.vals _ _ h) (run_loadVar_agg hu h1 hi hn (cellsL hm w hs)), Result.andThen_ok, Sem.run_bind, ih]; rfl
  | one h hm hu h1 hc _ ih =>
    rw [List.mapM_cons, Sem.run_bind, resOne_cell (ha.vals _ _ h) (run_loadVar_one hu h1 (cellL hm hc w hs)), Result.andThen_ok, Sem.run_bind, ih]; rfl

theorem ResOK.run {fn : Func} {rs : List ResultVar} {vs : List Value} (h : ResOK P fr L rs vs) (hr : fn.results = rs.toArray) {a : Act} {w : World} (ha : Fr N fr a) (hs : HS I L w) : (results fn a.tmps).run P w = .ok (tupV vs) w := by
  have e : results fn a.tmps = (do
      let vs ← fn.results.mapM (resOne a)
      pure (if h : vs.size = 1 then vs[0] else .tuple vs)) := rfl
  rw [e, hr, List.mapM_toArray, Sem.run_bind, Sem.run_map, h.mapM ha hs, Result.andThen_ok, Result.andThen_ok, Sem.run_pure]
  congr 1
  by_cases h1 : vs.length = 1
  · obtain ⟨u, rfl⟩ := List.length_eq_one_iff.1 h1
    rfl
  · rw [dif_neg (by simpa using h1)]
    unfold tupV
    split
    · simp at h1
    · rfl

/-- What is asked at a function's end. -/
def finQ (P : Program) (I0 : Imm) (F : List Ent) (rs : List ResultVar) (post : Value → Imm → List Ent → Prop) : Post
  | .normal, fr, I, L | .ret, fr, I, L => ∃ vs L', ResOK P fr L rs vs ∧ I0.le I ∧ post (tupV vs) I L' ∧ Have L (L' ++ F)
  | _, _, _, _ => False

theorem Meets.intro {f : FuncId} {fn : Func} {rs : List ResultVar} {args : List Value} {post : Value → Imm → List Ent → Prop}
    (hf : P.funcs[f]? = some fn) (hb : fn.body = some c) (hN : fn.ntmps = N) (hr : fn.results = rs.toArray) (hn : Nat.ble args.length N = true)
    (h : ∀ F, Cd P N c (argF 0 args) I (L ++ F) (finQ P I F rs post)) : Meets P f args.toArray I L post := by
  intro w F hw
  have hn' : args.length ≤ N := Nat.le_of_ble_eq_true hn
  refine calls_of_wp hf hb ?_
  refine wp_mono (h F { tmps := args.toArray ++ Array.replicate (fn.ntmps - args.toArray.size) undef, defers := [] } w ⟨rfl, ?_, ?_⟩ hw) ?_
  · simp [hN]; omega
  · intro t v hl
    obtain ⟨_, h2⟩ := argF_look args 0 t v hl
    have hlt : t < args.length := by
      have := (List.getElem?_eq_some_iff.1 h2).1
      simpa using this
    rw [Array.getD_eq_getD_getElem?, Array.getElem?_append_left (by simpa using hlt)]
    have h3 : args[t]? = some v := by simpa using h2
    simp [h3]
  · rintro e a' w' ⟨fr', I', L', ha', hw', hq⟩
    have fin : (∃ vs L'', ResOK P fr' L' rs vs ∧ I.le I' ∧ post (tupV vs) I' L'' ∧ Have L' (L'' ++ F)) → a'.defers = [] ∧ ∃ v, (results fn a'.tmps).run P w' = .ok v w' ∧ ∃ v' I' L', Ending.returned v = .returned v' ∧ I.le I' ∧ post v' I' L' ∧ HS I' (L' ++ F) w' := by
      rintro ⟨vs, L'', hv, hle, hp, hd⟩
      refine ⟨ha'.defers, tupV vs, hv.run hr ha' hw', tupV vs, I', L'', rfl, hle, hp, ?_⟩
      exact hw'.keep hd
    cases e with
    | normal => exact fin hq
    | ret => exact fin hq
    | exit _ => exact hq.elim
    | goto _ => exact hq.elim
    | panic _ => exact hq.elim
    | outgrown => exact hq.elim

theorem fin.ret {I0 : Imm} {F : List Ent} {rs : List ResultVar} {post : Value → Imm → List Ent → Prop} {vs : List Value} {L' : List Ent} (hv : ResOK P fr L rs vs) (hle : I0.le I) (hh : Have L (L' ++ F)) (hp : post (tupV vs) I L') : finQ P I0 F rs post .ret fr I L := ⟨vs, L', hv, hle, hp, hh⟩
theorem fin.normal {I0 : Imm} {F : List Ent} {rs : List ResultVar} {post : Value → Imm → List Ent → Prop} {vs : List Value} {L' : List Ent} (hv : ResOK P fr L rs vs) (hle : I0.le I) (hh : Have L (L' ++ F)) (hp : post (tupV vs) I L') : finQ P I0 F rs post .normal fr I L := ⟨vs, L', hv, hle, hp, hh⟩

/-! ### Whole structs in variables -/
theorem W.box1 {e : TypeId} (hx : evF fr x = some v) (hc : v.cells = #[v]) :
    Acts P N fr I L ⟨d, .box e x, ty, pos, aft, gd⟩ (fun v' I' L' => ∃ b, v' = .pointer (some ⟨b, 0, .none⟩) ∧ I = I' ∧ L' = .blk b e [v] :: L) := W.box hx (by rw [hc])
theorem W.boxA {e : TypeId} {cs : List Value} (hx : evF fr x = some (.agg cs.toArray)) :
    Acts P N fr I L ⟨d, .box e x, ty, pos, aft, gd⟩ (fun v' I' L' => ∃ b, v' = .pointer (some ⟨b, 0, .none⟩) ∧ I = I' ∧ L' = .blk b e cs :: L) := W.box hx rfl
theorem W.alloc1 {e : TypeId} (hz : ∀ w, (zeroValue e).run P w = .ok v w) (hc : v.cells = #[v]) :
    Acts P N fr I L ⟨d, .alloc e, ty, pos, aft, gd⟩ (fun v' I' L' => ∃ b, v' = .pointer (some ⟨b, 0, .none⟩) ∧ I = I' ∧ L' = .blk b e [v] :: L) := W.alloc hz (by rw [hc])
theorem W.allocA {e : TypeId} {cs : List Value} (hz : ∀ w, (zeroValue e).run P w = .ok (.agg cs.toArray) w) :
    Acts P N fr I L ⟨d, .alloc e, ty, pos, aft, gd⟩ (fun v' I' L' => ∃ b, v' = .pointer (some ⟨b, 0, .none⟩) ∧ I = I' ∧ L' = .blk b e cs :: L) := W.alloc hz rfl

theorem run_storeCells : ∀ (vs : List Value) (i : Nat) (w : World) (b : Nat) (t : TypeId) (cs : List Value), w.heap[b]? = some (.cells cs.toArray t (0, 0)) → i + vs.length ≤ cs.length → (∀ v ∈ vs, v.oneCell' = true) →
    ∃ w', (storeCells ⟨b, 0, none⟩ vs i).run P w = .ok () w' ∧ w'.heap[b]? = some (.cells (cs.take i ++ vs ++ cs.drop (i + vs.length)).toArray t (0, 0)) ∧ (∀ c, c ≠ b → w'.heap[c]? = w.heap[c]?) ∧ w'.heap.size = w.heap.size ∧ w'.os = w.os ∧ w'.tape = w.tape ∧ w'.output = w.output := by
  intro vs
  induction vs with
  | nil => intro i w b t cs hb _ _; exact ⟨w, by simp [storeCells], by simpa using hb, fun _ _ => rfl, rfl, rfl, rfl, rfl⟩
  | cons v vs ih =>
    intro i w b t cs hb hl h1
    simp only [List.length_cons] at hl
    have hlt : i < cs.length := by omega
    have hcell : w.cell? ⟨b, i, none⟩ = some cs[i] := by simp [World.cell?, hb, hlt]
    have hfr : w.frozen? ⟨b, i, none⟩ = false := by simp [World.frozen?, hb]
    have hst : (store ((⟨b, 0, none⟩ : Addr).add i) v).run P w = .ok () (w.setCell ⟨b, i, none⟩ v) := by
      rw [add_blk, Nat.zero_add, run_store _ _ _ _ _ (h1 v List.mem_cons_self), hcell]
      simp [hfr]
    obtain ⟨w', hr, hh, hfar, hsz, ho, ht, hu⟩ := ih (i + 1) (w.setCell ⟨b, i, none⟩ v) b t (cs.set i v) (setCell_blk hb i v) (by rw [List.length_set]; omega) (fun u hu => h1 u (List.mem_cons_of_mem _ hu))
    refine ⟨w', ?_, ?_, fun c hc => (hfar c hc).trans (setCell_far hc i v), by rw [hsz]; simp, ho, ht, hu⟩
    · simp only [storeCells, Sem.run_bind, hst, Result.andThen_ok, hr]
    · rw [hh]
      congr 3
      apply List.ext_getElem?
      intro q
      simp only [List.getElem?_append, List.length_append, List.length_take, List.length_set, List.length_cons, List.getElem?_take, List.getElem?_drop, List.getElem?_set]
      by_cases q1 : q < i
      · rw [if_pos (by omega), if_pos (by omega), if_pos (by omega), if_neg (by omega), if_pos (by omega), if_pos (by omega), if_pos (by omega)]
      · by_cases q2 : q = i
        · subst q2
          rw [if_pos (by omega), if_pos (by omega), if_pos (by omega), if_pos rfl, if_pos (by omega), if_pos (by omega), if_neg (by omega)]
          have : q - min q cs.length = 0 := by omega
          rw [this]; rfl
        · by_cases q3 : q < i + (vs.length + 1)
          · rw [if_pos (by omega), if_neg (by omega), if_pos (by omega), if_neg (by omega)]
            have e1 : q - min (i + 1) cs.length + 1 = q - min i cs.length := by omega
            rw [← e1, List.getElem?_cons_succ]
          · rw [if_neg (by omega), if_neg (by omega), if_neg (by omega)]
            congr 1; omega

/-- A struct is stored whole into its variable. -/
theorem W.storeAll {b : Nat} {t tb : TypeId} {cs vs : List Value} {L' : List Ent} {info : TypeInfo} (hx : evF fr x = some (.pointer (some ⟨b, 0, .none⟩))) (hy : evF fr y = some (.agg vs.toArray))
    (hi : ∀ w, (typeInfo t).run P w = .ok info w) (h1 : info.size = vs.length) (hu : Upd L (.blk b tb cs) (.blk b tb vs) L') (hl : cs.length = vs.length) (hone : ∀ v ∈ vs, v.oneCell' = true) :
    Acts P N fr I L ⟨d, .store t x y, ty, pos, aft, gd⟩ (Is undef I L') := by
  intro a w next Q ha hs hk
  have hb : w.heap[b]? = some (.cells cs.toArray tb (0, 0)) := hs.ents _ hu.mem
  obtain ⟨w', hr, hh, hfar, hsz, ho, ht, hou⟩ := run_storeCells (P := P) vs 0 w b tb cs hb (by omega) hone
  have hr' : (execOp a.eval ⟨d, .store t x y, ty, pos, aft, gd⟩).run P w = .ok .skip w' := by
    have hc : (Value.agg vs.toArray).cells.size = info.size := by simp [Value.cells, h1]
    have hst : (storeVar t ⟨b, 0, none⟩ (.agg vs.toArray)).run P w = .ok () w' := by
      unfold storeVar
      simp only [sizeOf, Sem.run_bind, hi, Result.andThen_ok, Sem.run_pure]
      rw [if_neg (by simp [hc])]
      simpa [Value.cells] using hr
    simp [execOp, ha.ev hx, ha.ev hy, Instr.storeAt, Instr.sureAddr, hst]
  unfold Oper.wp
  rw [hr', Oper.upon_skip]
  refine hk undef I L' w' ?_ ⟨rfl, rfl, rfl⟩
  refine hs.upd hu (fun c _ hne => hfar c (fun e => hne (by simp [Ent.own, e]))) ?_ (fun c hc => .inl hc) ho ht hou
  simp only [Ent.ok]
  rw [hh]
  simp [hl]

/-! ### Strings -/
def strOf (l : List UInt8) : ByteArray := ⟨l.toArray⟩
theorem strOf_data (l : List UInt8) : (strOf l).data.toList = l := rfl
theorem strOf_size (l : List UInt8) : (strOf l).size = l.length := by simp [strOf, ByteArray.size]
theorem strOf_eq (s : ByteArray) : s = strOf s.data.toList := rfl
theorem strOf_inj {a b : List UInt8} (h : strOf a = strOf b) : a = b := by
  have := congrArg (fun s : ByteArray => s.data.toList) h
  exact this
theorem bytes_ext {a b : ByteArray} (h : a.data.toList = b.data.toList) : a = b := by
  cases a; cases b
  simp only at h
  exact congrArg ByteArray.mk (Array.ext' h)

theorem extract_upto (s : ByteArray) (k : Nat) : (s.extract 0 k).data.toList = s.data.toList.take k := by
  simp [ByteArray.data_extract]

theorem R.lenT {ts : Array TypeId} {t : TypeId} {l : List UInt8} (hx : evF fr x = some (.string (strOf l))) (ht : ts[0]? = some t) (h : P.underlying t = some .string) :
    RunsTo P fr I L ⟨d, .call ⟨.builtin .len, #[x], ts⟩, ty, pos, aft, gd⟩ (.int .i64 l.length) := by
  have := R.lenS (I := I) (L := L) (d := d) (ty := ty) (pos := pos) (aft := aft) (gd := gd) hx ht h
  rwa [strOf_size] at this
theorem R.catT {t u : TypeId} {a b : List UInt8} (hx : evF fr x = some (.string (strOf a))) (hy : evF fr y = some (.string (strOf b))) (h : a.length + b.length ≤ 9223372036854775807) : RunsTo P fr I L ⟨d, .binOp .add t x y u, ty, pos, aft, gd⟩ (.string (strOf (a ++ b))) := by
  have := R.cat (I := I) (L := L) (t := t) (u := u) (d := d) (ty := ty) (pos := pos) (aft := aft) (gd := gd) (P := P) hx hy (by rw [strOf_size, strOf_size]; exact h)
  have e : strOf a ++ strOf b = strOf (a ++ b) := bytes_ext (by rw [strOf_data]; simp [strOf, ByteArray.data_append])
  rwa [e] at this
theorem R.stHT {t : TypeId} {l : List UInt8} {k : IntKind} {i : Int} (hx : evF fr x = some (.string (strOf l))) (hy : evF fr y = some (.int k i)) (ht : P.underlying t = some .string) (h : 0 ≤ i ∧ i ≤ l.length) :
    RunsTo P fr I L ⟨d, .slice t x .none (some y) .none, ty, pos, aft, gd⟩ (.string (strOf (l.take i.toNat))) := by
  have := R.stH (I := I) (L := L) (d := d) (ty := ty) (pos := pos) (aft := aft) (gd := gd) hx hy ht (by rw [strOf_size]; exact h)
  have e : (strOf l).extract 0 i.toNat = strOf (l.take i.toNat) := bytes_ext (by rw [strOf_data, extract_upto, strOf_data])
  rwa [e] at this
theorem R.stLT {t : TypeId} {l : List UInt8} {k : IntKind} {i : Int} (hx : evF fr x = some (.string (strOf l))) (hy : evF fr y = some (.int k i)) (ht : P.underlying t = some .string) (h : 0 ≤ i ∧ i ≤ l.length) :
    RunsTo P fr I L ⟨d, .slice t x (some y) .none .none, ty, pos, aft, gd⟩ (.string (strOf (l.drop i.toNat))) := by
  have := R.stL (I := I) (L := L) (d := d) (ty := ty) (pos := pos) (aft := aft) (gd := gd) hx hy ht (by rw [strOf_size]; exact h)
  have e : (strOf l).extract i.toNat (strOf l).size = strOf (l.drop i.toNat) := bytes_ext (by rw [strOf_data, Lib.extract_to_end, strOf_data])
  rwa [e] at this
theorem R.ixT {t : TypeId} {l : List UInt8} {k : IntKind} {i : Int} {c : UInt8} (hx : evF fr x = some (.string (strOf l))) (hy : evF fr y = some (.int k i)) (ht : P.underlying t = some .string)
    (h0 : 0 ≤ i) (h : l[i.toNat]? = some c) : RunsTo P fr I L ⟨d, .index t x y, ty, pos, aft, gd⟩ (.int .u8 c.toNat) :=
  R.ixS hx hy ht h0 (by simpa [strOf] using h)
theorem R.eqT {t u : TypeId} {a b : List UInt8} (hx : evF fr x = some (.string (strOf a))) (hy : evF fr y = some (.string (strOf b))) : RunsTo P fr I L ⟨d, .binOp .eql t x y u, ty, pos, aft, gd⟩ (.bool (decide (a = b))) := R.eqStr hx hy
theorem R.neT {t u : TypeId} {a b : List UInt8} (hx : evF fr x = some (.string (strOf a))) (hy : evF fr y = some (.string (strOf b))) : RunsTo P fr I L ⟨d, .binOp .neq t x y u, ty, pos, aft, gd⟩ (.bool (decide (a ≠ b))) := R.neStr hx hy
theorem R.bytesT {s t e : TypeId} {A : Option Addr} {n c : Nat} {bs : List UInt8} (hx : evF fr x = some (.slice A n c)) (hs : P.underlying s = some (.slice e)) (he : P.underlying e = some (.int .u8)) (ht : P.underlying t = some .string)
    (hn : bs.length = n) (hb : RdC I L A (bytesV bs)) : RunsTo P fr I L ⟨d, .convert s t x, ty, pos, aft, gd⟩ (.string (strOf bs)) := R.bytesStr hx hs he ht hn hb.bytes
end
end Go.Eng
