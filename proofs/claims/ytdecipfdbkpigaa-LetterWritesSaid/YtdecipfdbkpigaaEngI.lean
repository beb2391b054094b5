/- The engine, part I: bytes of a constant string, whole struct variables, more rules. No function of the program is proved here. -/
import Derived.Test.YtdecipfdbkpigaaEngH
import Derived.Lib.SlBytesConst
namespace Go.Eng
section
variable {P : Program} {N : Nat} {all : Array Oper} {o : Oper} {rest : List Oper} {fr : Frm} {I : Imm} {L : List Ent} {Q : Post} {c : Code}
variable {ty : TypeId} {pos : String} {aft : Array Edge} {gd : Option (Nat × Bool)} {d : Option Tmp} {x y z : Operand} {v vx vy : Value} {K : Frm → Imm → List Ent → Prop}

/-- The bytes of a constant string: a row that was just laid is marked, and stays from now on. -/
theorem W.mark {t e e' : TypeId} {A : Option Addr} {n c : Nat} {xs : List Value} {L' : List Ent} (hx : evF fr x = some (.slice A n c)) (ht : P.underlying t = some (.slice e)) (he : P.underlying e = some (.int .u8))
    (hr : Rem L (.row (.slice A n c) e' 1 n xs) L') (hn : 0 < n) :
    Acts P N fr I L ⟨d, .convert t t x, ty, pos, aft, gd⟩ (fun v' J M => v' = .slice A n c ∧ I.le J ∧ (∀ j u, xs[j]? = some u → ∃ a, A = some a ∧ J.cell (a.add j) = some u) ∧ M = L') := by
  intro a w next Q ha hs hk
  have hs1 := hs.perm hr.perm
  have hlen : xs.length = n * 1 := (hs1.ents _ List.mem_cons_self).1
  obtain ⟨g, spare, rfl, h2⟩ := hs1.rowBlk hn
  have hb : w.heap[g]? = some (.cells (xs ++ spare).toArray e' (0, 0)) := h2.ents _ List.mem_cons_self
  have hsh : w.shape? g = some (e', (xs ++ spare).toArray.size) := by unfold World.shape?; rw [hb]
  have hrun : (convert t t (.slice (some ⟨g, 0, none⟩) n c)).run P w = .ok (.slice (some ⟨g, 0, none⟩) n c) (w.freeze ⟨g, (xs ++ spare).toArray.size, none⟩ 1) := by
    simp [convert, run_underlying ht, run_underlying he, markStringish, hsh]
  have hr' : (execOp a.eval ⟨d, .convert t t x, ty, pos, aft, gd⟩).run P w = .ok (.value (.slice (some ⟨g, 0, none⟩) n c)) (w.freeze ⟨g, (xs ++ spare).toArray.size, none⟩ 1) := by
    simp only [execOp, ha.ev hx]
    rw [Sem.run_bind, hrun]; rfl
  unfold Oper.wp
  rw [hr', Oper.upon_value]
  have hnew : (w.freeze ⟨g, (xs ++ spare).toArray.size, none⟩ 1).heap[g]? = some (.cells (xs ++ spare).toArray e' ((xs ++ spare).toArray.size, (xs ++ spare).toArray.size + 1)) := by
    unfold World.freeze
    rw [if_neg (by decide)]
    simp only [Array.getElem?_modify, if_true, hb, Option.map_some]
    rfl
  have hold : ∀ b, b ≠ g → (w.freeze ⟨g, (xs ++ spare).toArray.size, none⟩ 1).heap[b]? = w.heap[b]? := by
    intro b hne
    unfold World.freeze
    rw [if_neg (by decide)]
    simp only [Array.getElem?_modify, if_neg (Ne.symm hne)]
  have h3 : HS I (.obj g (.cells (xs ++ spare).toArray e' ((xs ++ spare).toArray.size, (xs ++ spare).toArray.size + 1)) :: L') (w.freeze ⟨g, (xs ++ spare).toArray.size, none⟩ 1) := by
    refine h2.swap (fun b _ hne => hold b (fun e => hne (by simp [Ent.own, e]))) hnew (fun b hb => .inl hb) ?_ ?_ ?_ <;> (unfold World.freeze; rw [if_neg (by decide)])
  have h4 := h3.freeze (b := g) rfl hnew
  refine hk _ _ L' _ h4 ⟨rfl, Imm.with_le _ (h2.imm _ List.mem_cons_self g rfl), ?_, rfl⟩
  intro j u hj
  refine ⟨_, rfl, ?_⟩
  rw [add_blk, Nat.zero_add]
  have hj' := (List.getElem?_eq_some_iff.1 hj).1
  have : (xs ++ spare).toArray[j]? = some u := by simp [List.getElem?_append_left hj', hj]
  simpa [Imm.cell, Imm.with] using this
theorem HS.le {J : Imm} {w : World} (h : HS J L w) (hle : I.le J) : HS I L w := by
  refine ⟨fun b o hb => h.sat b o (hle.1 b o hb), h.ents, h.dis, fun e he b hb => ?_, h.os.trans hle.2.1, h.tape.trans hle.2.2.1, h.output.trans hle.2.2.2⟩
  cases hm : I.mem b with
  | none => rfl
  | some o => have := hle.1 b o hm; rw [h.imm e he b hb] at this; cases this
theorem Rd.take {α : Type} {E : Enc α} {A : Option Addr} {xs : List α} (h : Rd E I A xs) (n : Nat) : Rd E I A (xs.take n) := fun i x hx => by
  rw [List.getElem?_take] at hx
  split at hx
  · exact h i x hx
  · cases hx
theorem RdC.blkApp {b : Nat} {t : TypeId} {cs sp : List Value} (hm : Ent.blk b t (cs ++ sp) ∈ L) : RdC I L (Option.some ⟨b, 0, Option.none⟩) cs := by
  have h := RdC.blk (I := I) (k := cs.length) hm
  rwa [List.take_left] at h
/-- A pointer and itself. -/
theorem in_PS {t e : TypeId} {ad : Addr} {w : World} {info : TypeInfo} (ht : P.underlying t = some (.pointer e)) (hi : ∀ w, (typeInfo e).run P w = .ok info w) (n : Nat) : (Op.equalIn (n + 1) t (.pointer (some ad)) (.pointer (some ad))).run P w = .ok true w := by
  simp [Op.equalIn, run_und ht, sizeOf, hi, sameAddr]
theorem R.eqPS {t u e : TypeId} {ad : Addr} {info : TypeInfo} (hx : evF fr x = some (.pointer (some ad))) (hy : evF fr y = some (.pointer (some ad))) (ht : P.underlying t = some (.pointer e)) (hi : ∀ w, (typeInfo e).run P w = .ok info w) : RunsTo P fr I L ⟨d, .binOp .eql t x y u, ty, pos, aft, gd⟩ (.bool true) :=
  R.bin' hx hy (fun w => by simp [eqGuard]) (fun w => eql_run rfl (in_PS ht hi))
theorem R.nePS {t u e : TypeId} {ad : Addr} {info : TypeInfo} (hx : evF fr x = some (.pointer (some ad))) (hy : evF fr y = some (.pointer (some ad))) (ht : P.underlying t = some (.pointer e)) (hi : ∀ w, (typeInfo e).run P w = .ok info w) : RunsTo P fr I L ⟨d, .binOp .neq t x y u, ty, pos, aft, gd⟩ (.bool false) :=
  R.bin' hx hy (fun w => by simp [eqGuard]) (fun w => neq_run rfl (in_PS ht hi))
/-- The cells of a thing in a row that stays. -/
theorem cellsOfRd {A : Option Addr} {ad : Addr} {cs : List Value} {i sz : Nat} (hA : A = Option.some ad) (h2 : ∀ (j : Nat) (u : Value), cs[j]? = Option.some u → ∃ a, A = Option.some a ∧ I.cell (a.add (i * sz + j)) = Option.some u) :
    ∀ w, HS I L w → CellsAt w (ad.add (i * sz)) cs := by
  refine cellsI fun j hj => ?_
  obtain ⟨a, ha, hc⟩ := h2 j cs[j] (List.getElem?_eq_getElem hj)
  rw [hA] at ha
  cases ha
  rw [add_add, hc, List.getElem?_eq_getElem hj]
theorem Rd.some {α : Type} {E : Enc α} {A : Option Addr} {xs : List α} {i : Nat} {x : α} (h : Rd E I A xs) (hz : 0 < E.sz) (hx : xs[i]? = Option.some x) : ∃ a, A = Option.some a := by
  obtain ⟨cs, h1, h2⟩ := h i x hx
  have hl := E.len h1
  obtain ⟨a, ha, _⟩ := h2 0 (cs[0]'(by omega)) (List.getElem?_eq_getElem _)
  exact ⟨a, ha⟩
/-- What is left of a slice whose things lie in one cell each. -/
theorem Rd.drop {A : Option Addr} {xs : List UInt8} (h : Rd eByte I A xs) (n c : Nat) (hc : xs.length ≤ c) : Rd eByte I (if c = n then A else A.map (·.add n)) (xs.drop n) := fun i x hx => by
  rw [List.getElem?_drop] at hx
  have hlt := (List.getElem?_eq_some_iff.1 hx).1
  obtain ⟨cs, h1, h2⟩ := h _ x hx
  refine ⟨cs, h1, fun j u hj => ?_⟩
  obtain ⟨a, rfl, hcell⟩ := h2 j u hj
  rw [if_neg (by omega)]
  refine ⟨a.add n, rfl, ?_⟩
  rw [add_add]
  have e : (n + i) * eByte.sz + j = n + (i * eByte.sz + j) := by simp only [eByte]; omega
  rw [← e]; exact hcell
theorem RdC.mono {J : Imm} {A : Option Addr} {cs : List Value} (h : RdC I L A cs) (hle : I.le J) : RdC J L A cs := fun w hs => h w (hs.le hle)
end
end Go.Eng
