/- The engine, part M: append of so many zeros to a row of our own. No function of the program is proved here. -/
import Derived.Test.YtidelnccggfmgaaJuA
import Derived.Laws.IdiomCopy
import Derived.Laws.CopyRow
set_option linter.unusedVariables false
set_option linter.unusedSimpArgs false
set_option linter.unnecessarySimpa false
set_option linter.unusedSectionVars false
set_option linter.all false
/- The engine, part M: append of so many zeros to a row of our own. No function of the program is proved here. -/
namespace Go.Eng
section
variable {P : Program} {N : Nat} {fr : Frm} {I : Imm} {L : List Ent} {d : Option Tmp} {x y : Operand} {ty : TypeId} {pos : String} {aft : Array Edge} {gd : Option (Nat × Bool)}
theorem zeroCells_zero (z : Array Value) : Builtin.zeroCells z 0 = #[] := by simp [Builtin.zeroCells]
theorem wrap_small {m : Int} (h : 0 ≤ m ∧ m ≤ 9223372036854775807) : IntKind.i64.wrap m = m := by
  simp only [IntKind.wrap, IntKind.signed, IntKind.bits]; simp; omega
theorem zeroCells_ones {z : Value} (h : ∀ u ∈ z.cells.toList, u.oneCell' = true) (hp : 0 < z.cells.size) (n : Nat) : ∀ u ∈ (Builtin.zeroCells z.cells n).toList, u.oneCell' = true := by
  intro u hu
  unfold Builtin.zeroCells at hu
  rw [Array.toList_map, List.mem_map] at hu
  obtain ⟨i, _, rfl⟩ := hu
  have hlt : i % z.cells.size < z.cells.size := Nat.mod_lt _ hp
  rw [getElem!_pos z.cells _ hlt]
  exact h _ (by simp)
theorem run_append_mk (w : World) (t t' ty e : TypeId) (i : TypeInfo) (z : Value) (ht : P.underlying t = some (.slice e)) (ht' : P.underlying t' = some (.int .i64)) (hi : P.info? e = some i) (hz : i.zero = some z)
    (hzs : z.cells.size = i.size) (hp : 0 < i.size) (hbp : 0 < i.bytes) (h1 : ∀ u ∈ z.cells.toList, u.oneCell' = true) (v : Value) (n : Nat) (xs : List Value) (hown : Row w e i.size v n xs) (m : Int) (h0 : 0 ≤ m) (hb : (n + m.toNat) * i.bytes ≤ 140737488355328) :
    ∃ v' w', (Builtin.append_ #[t, t'] ty #[v, .int .i64 m]).run P w = .ok v' w' ∧ Row w' e i.size v' (n + m.toNat) (xs ++ (Builtin.zeroCells z.cells m.toNat).toList) ∧ w.grownBy w' v.ownBlock ∧ (∀ b, v'.ownBlock = some b → v.ownBlock = some b ∨ w.heap.size ≤ b) := by
  have hle : n + m.toNat ≤ (n + m.toNat) * i.bytes := Nat.le_mul_of_pos_right _ hbp
  have hml : maxLen = 9223372036854775807 := rfl
  have hw : IntKind.i64.wrap m = m := wrap_small (by omega)
  have hneg : ¬ m < 0 := by omega
  have hmb : ¬ (281474976710656 < m * (i.bytes : Int)) := by
    have : m * (i.bytes : Int) = ((m.toNat * i.bytes : Nat) : Int) := by rw [Int.natCast_mul]; congr 1; omega
    rw [this]
    have : m.toNat * i.bytes ≤ (n + m.toNat) * i.bytes := Nat.mul_le_mul_right _ (by omega)
    omega
  obtain ⟨k, hk⟩ : ∃ k : Nat, m = k := ⟨m.toNat, by omega⟩
  subst hk
  rw [Int.toNat_natCast] at *
  have hzl : (Builtin.zeroCells z.cells k).toList.length = k * i.size := by rw [Array.length_toList, size_zeroCells, hzs]
  rcases Nat.eq_zero_or_pos k with rfl | hk0
  · rw [zeroCells_zero]
    have hw0 : IntKind.i64.wrap 0 = 0 := wrap_small (by omega)
    simp only [List.append_nil, Nat.add_zero]
    refine ⟨v, w, ?_, hown, ⟨rfl, rfl, rfl, Nat.le_refl _, fun _ _ _ => rfl⟩, fun b hb => .inl hb⟩
    rcases hown.2 with ⟨rfl, rfl⟩ | ⟨g, cap, cur, rfl, hbg, hg, hnc, hcm, hcs, htake⟩
    · simp [Builtin.append_, run_underlying ht, run_underlying ht', sizeOf, typeInfo, hi, hw0, asInt, asIntOf]
    · simp [Builtin.append_, run_underlying ht, run_underlying ht', sizeOf, typeInfo, hi, hw0, asInt, asIntOf, hnc, storeCells]
  have hks : k * i.size ≠ 0 := by have := Nat.mul_pos hk0 hp; omega
  have hlen : (xs ++ (Builtin.zeroCells z.cells k).toList).length = (n + k) * i.size := by rw [List.length_append, hown.1, hzl, Nat.add_mul]
  have grown : ∀ (old : Nat), old < n + k → ∀ (row : Option Nat),
      Row (w.drew.alloc (.cells (xs.toArray ++ Builtin.zeroCells z.cells k ++ Builtin.zeroCells z.cells (grownCap w (n + k) old e - (n + k))) e)) e i.size
        (.slice (some ⟨w.heap.size, 0, none⟩) (n + k) (grownCap w (n + k) old e)) (n + k) (xs ++ (Builtin.zeroCells z.cells k).toList) ∧
      w.grownBy (w.drew.alloc (.cells (xs.toArray ++ Builtin.zeroCells z.cells k ++ Builtin.zeroCells z.cells (grownCap w (n + k) old e - (n + k))) e)) row := by
    intro old ho row
    have hge := grownCap_ge w (n + k) old e
    have hcm : grownCap w (n + k) old e ≤ maxLen := grownCap_le_maxLen w (n + k) old e (by omega)
    refine ⟨⟨hlen, .inr ⟨w.heap.size, _, _, rfl, Nat.zero_le _, alloc_new w.drew _, hge, hcm, ?_, ?_⟩⟩, ⟨rfl, rfl, rfl, by simp, fun k hk _ => alloc_old (w := w.drew) hk⟩⟩
    · simp only [Array.size_append, List.size_toArray, size_zeroCells, hzs, hown.1, ← Nat.add_mul]
      refine Nat.le_of_eq ?_
      congr 1
      omega
    · simp only [Array.toList_append, List.append_assoc]
      rw [← List.append_assoc, ← hlen]
      exact List.take_left
  have h63 : ¬ (9223372036854775807 < ((n : Int) + (k : Int))) := by omega
  rcases hown.2 with ⟨rfl, rfl⟩ | ⟨g, cap, cur, rfl, hbg, hg, hnc, hcm, hcs, htake⟩
  · have hx : xs = [] := List.eq_nil_of_length_eq_zero (by simpa using hown.1)
    subst hx
    have hgr := grown 0 (by omega) (Value.ownBlock (.slice none 0 0))
    have h48' : ¬ (281474976710656 < Builtin.nextslicecap k 0 * i.bytes) := by rw [nextslicecap_zero hk0]; rw [Nat.zero_add] at hb; omega
    have hk9 : ¬ (9223372036854775807 < (k : Int)) := by omega
    have hkn : k ≠ 0 := by omega
    simp only [Nat.zero_add, List.nil_append, Array.empty_append] at hgr ⊢
    refine ⟨_, _, ?_, hgr.1, hgr.2, fun b hb => .inr (by simp [Value.ownBlock] at hb; omega)⟩
    simp [Builtin.append_, run_underlying ht, run_underlying ht', sizeOf, typeInfo, zeroValue, hi, hz, hw, asInt, asIntOf, hneg, hmb, hkn, hks, hk9, h48', Question.forced, run_firstCells_none, newRow, grownCap]
  · by_cases hroom : n + k ≤ cap
    · have hfit : n * i.size + (Builtin.zeroCells z.cells k).toList.length ≤ cur.size := by rw [hzl, ← Nat.add_mul]; exact Nat.le_trans (Nat.mul_le_mul_right _ hroom) hcs
      have hst := run_storeCells_at P g (n * i.size) e (Builtin.zeroCells z.cells k).toList 0 cur w hg (by simpa using hfit) (zeroCells_ones h1 (by omega) k)
      simp only [Nat.add_zero] at hst
      refine ⟨.slice (some ⟨g, 0, none⟩) (n + k) cap, w.setRow g (cur.toList.take (n * i.size) ++ (Builtin.zeroCells z.cells k).toList ++ cur.toList.drop (n * i.size + (Builtin.zeroCells z.cells k).toList.length)).toArray, ?_, ⟨hlen, .inr ⟨g, cap, _, rfl, hbg, setRow_heap w g cur _ e _ hg, hroom, hcm, ?_, ?_⟩⟩, ⟨rfl, rfl, rfl, by simp, fun k hk hne => setRow_other w g k _ (fun e => hne (by simp [Value.ownBlock, e]))⟩, fun b hb => .inl hb⟩
      · simp [Builtin.append_, run_underlying ht, run_underlying ht', sizeOf, typeInfo, zeroValue, hi, hz, hw, asInt, asIntOf, hneg, hmb, hks, hroom, Addr.add_lit, hst]
      · simp only [List.size_toArray, List.length_append, List.length_take, List.length_drop, Array.length_toList]
        rw [Array.length_toList] at hfit
        omega
      · rw [htake, ← hlen]
        exact List.take_left
    · have holds : ∀ j u, xs[j]? = some u → w.cell? ((⟨g, 0, none⟩ : Addr).add j) = some u := hown.cells (g := g) rfl
      have hgr := grown cap (by omega) (Value.ownBlock (.slice (some ⟨g, 0, none⟩) n cap))
      have hfit : ¬ (281474976710656 < Builtin.nextslicecap (n + k) cap * i.bytes) := by have := growslice_fits (bytes := i.bytes) (show cap < n + k by omega) hb; omega
      have hf := run_firstCells_some (P := P) w.drew i.size n ⟨g, 0, none⟩ n cap xs hown.1 (by simpa using holds)
      refine ⟨_, _, ?_, hgr.1, hgr.2, fun b hb => .inr (by simp [Value.ownBlock] at hb; omega)⟩
      simp [Builtin.append_, run_underlying ht, run_underlying ht', sizeOf, typeInfo, zeroValue, hi, hz, hw, asInt, asIntOf, hneg, hmb, hks, hroom, h63, hfit, Question.forced, hf, newRow, grownCap]

/-- append of so many zeros to a row of our own. -/
theorem W.appendMk {t t' e : TypeId} {n c sz by' : Nat} {A : Option Addr} {xs : List Value} {L' : List Ent} {info : TypeInfo} {zv : Value} {m : Int} (hx : evF fr x = some (.slice A n c)) (hy : evF fr y = some (.int .i64 m))
    (ht : P.underlying t = some (.slice e)) (ht' : P.underlying t' = some (.int .i64)) (hi : P.info? e = some info) (hz : info.zero = some zv) (hsz : info.size = sz) (hby : info.bytes = by') (hzs : zv.cells.size = sz) (hpos : Nat.blt 0 sz = true) (hz1 : ∀ u ∈ zv.cells.toList, u.oneCell' = true)
    (hr : Rem L (.row (.slice A n c) e sz n xs) L') (h0 : 0 ≤ m) (hb : (n + m.toNat) * by' ≤ 140737488355328) (hby0 : Nat.blt 0 by' = true) :
    Acts P N fr I L ⟨d, .call ⟨.builtin .append, #[x, y], #[t, t']⟩, ty, pos, aft, gd⟩ (fun v I' L2 => ∃ A' cp, v = .slice A' (n + m.toNat) cp ∧ I = I' ∧ L2 = .row (.slice A' (n + m.toNat) cp) e sz (n + m.toNat) (xs ++ (Builtin.zeroCells zv.cells m.toNat).toList) :: L') := by
  intro a w next Q ha hs hk
  subst hsz hby
  have hp : 0 < info.size := by simpa [Nat.blt_eq] using hpos
  have hbp : 0 < info.bytes := by simpa [Nat.blt_eq] using hby0
  have hown : Row w e info.size (.slice A n c) n xs := hs.ents _ (hr.perm.mem_iff.2 List.mem_cons_self)
  obtain ⟨v', w', hrun, hown', hg, hbk⟩ := run_append_mk (P := P) w t t' ty e info zv ht ht' hi hz hzs hp hbp hz1 _ n xs hown m h0 hb
  have hr' : (execOp a.eval ⟨d, .call ⟨.builtin .append, #[x, y], #[t, t']⟩, ty, pos, aft, gd⟩).run P w = .ok (.value v') w' := by
    simp [execOp, resolve, invoke, builtin, ha.ev hx, ha.ev hy, hrun]
  unfold Oper.wp
  rw [hr', Oper.upon_value]
  have hv' : ∃ A' cp, v' = .slice A' (n + m.toNat) cp := by
    obtain ⟨_, ⟨h1, h0⟩ | ⟨g, cap, cur, h1, _⟩⟩ := hown'
    · exact ⟨.none, 0, by rw [h1, h0]⟩
    · exact ⟨_, _, h1⟩
  obtain ⟨A', cp, rfl⟩ := hv'
  refine hk _ I _ w' ?_ ⟨A', cp, rfl, rfl, rfl⟩
  exact (hs.perm hr.perm).swap (fun b hb hne => hg.block b hb (fun e => hne e.symm)) hown' hbk hg.os hg.tape hg.output
/-- append of no zeros to anything leaves it as it is. -/
theorem W.appendMk0 {t t' e : TypeId} {n c : Nat} {A : Option Addr} {info : TypeInfo} (hx : evF fr x = some (.slice A n c)) (hy : evF fr y = some (.int .i64 0)) (hnc : n ≤ c)
    (ht : P.underlying t = some (.slice e)) (ht' : P.underlying t' = some (.int .i64)) (hi : P.info? e = some info) :
    Acts P N fr I L ⟨d, .call ⟨.builtin .append, #[x, y], #[t, t']⟩, ty, pos, aft, gd⟩ (fun v I' L2 => v = .slice A n c ∧ I = I' ∧ L2 = L) := by
  intro a w next Q ha hs hk
  have hw0 : IntKind.i64.wrap 0 = 0 := wrap_small (by omega)
  have hr' : (execOp a.eval ⟨d, .call ⟨.builtin .append, #[x, y], #[t, t']⟩, ty, pos, aft, gd⟩).run P w = .ok (.value (.slice A n c)) w := by
    cases A <;> simp [execOp, resolve, invoke, builtin, ha.ev hx, ha.ev hy, Builtin.append_, run_underlying ht, run_underlying ht', sizeOf, typeInfo, hi, hw0, asInt, asIntOf, hnc, storeCells]
  unfold Oper.wp
  rw [hr', Oper.upon_value]
  exact hk _ I L w hs ⟨rfl, rfl, rfl⟩
/-- copy into a piece of a variable of our own. -/
theorem W.copyBlk {t t' e tb : TypeId} {b o n c m c' : Nat} {A : Option Addr} {cs ws : List Value} {L' : List Ent} {info : TypeInfo} (hx : evF fr x = some (.slice (some ⟨b, o, .none⟩) n c)) (hy : evF fr y = some (.slice A m c'))
    (ht : P.underlying t = some (.slice e)) (hi : P.info? e = some info) (h1 : info.size = 1) (hu : Upd L (.blk b tb cs) (.blk b tb (cs.take o ++ ws ++ cs.drop (o + ws.length))) L')
    (hl : ws.length = Nat.min m n) (hnews : ∀ w, HS I L w → ∀ j u, ws[j]? = some u → ∃ a, A = some a ∧ w.cell? (a.add j) = some u) (hfit : o + ws.length ≤ cs.length) (hone : ∀ u ∈ ws, u.oneCell' = true) :
    Acts P N fr I L ⟨d, .call ⟨.builtin .copy, #[x, y], #[t, t']⟩, ty, pos, aft, gd⟩ (Is (.int .i64 ws.length) I L') := by
  intro a w next Q ha hs hk
  have hb : w.heap[b]? = some (.cells cs.toArray tb (0, 0)) := hs.ents _ hu.mem
  have hsz : (P.info? e).map (·.size) = some 1 := by rw [hi]; simp [h1]
  have key : ∃ w', (Builtin.copy_ #[t, t'] ty #[.slice (some ⟨b, o, .none⟩) n c, .slice A m c']).run P w = .ok (.int .i64 ws.length) w' ∧ w'.heap[b]? = some (.cells (cs.take o ++ ws ++ cs.drop (o + ws.length)).toArray tb (0, 0)) ∧ (∀ k, k ≠ b → w'.heap[k]? = w.heap[k]?) ∧ w'.os = w.os ∧ w'.tape = w.tape ∧ w'.output = w.output := by
    cases A with
    | some ad =>
      have hr := run_copy_row (P := P) w t t' ty e b o n c ad m c' cs.toArray tb ws ht hsz hb hl (fun j u hj => by obtain ⟨a, ha, hc⟩ := hnews w hs j u hj; cases ha; exact hc) (by simpa using hfit) hone
      exact ⟨_, hr, by rw [setRow_heap w b cs.toArray _ tb _ hb], fun k hk => setRow_other w b k _ hk, rfl, rfl, rfl⟩
    | none =>
      have h0 : ws = [] := by
        cases ws with
        | nil => rfl
        | cons u l => obtain ⟨a, ha, _⟩ := hnews w hs 0 u rfl; cases ha
      subst h0
      have hr := run_copy_none (P := P) w t t' ty e (some ⟨b, o, .none⟩) none n c m c' ht hsz hl.symm
      exact ⟨w, hr, by simpa using hb, fun _ _ => rfl, rfl, rfl, rfl⟩
  obtain ⟨w', hrun, g1, g2, g3, g4, g5⟩ := key
  have hr' : (execOp a.eval ⟨d, .call ⟨.builtin .copy, #[x, y], #[t, t']⟩, ty, pos, aft, gd⟩).run P w = .ok (.value (.int .i64 ws.length)) w' := by
    simp [execOp, resolve, invoke, builtin, ha.ev hx, ha.ev hy, hrun]
  unfold Oper.wp
  rw [hr', Oper.upon_value]
  refine hk _ I L' _ ?_ ⟨rfl, rfl, rfl⟩
  exact hs.upd hu (fun k _ hne => g2 k (fun e => hne (by simp [Ent.own, e]))) g1 (fun c hc => .inl hc) g3 g4 g5
end
end Go.Eng
