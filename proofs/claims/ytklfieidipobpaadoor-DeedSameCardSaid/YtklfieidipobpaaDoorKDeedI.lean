/- Texts: what a row's list of variables tells the engine. -/
import Derived.Test.YtklfieidipobpaaDoorKDeedH
import Derived.Test.YtklfieidipobpaaDoorRows
import Derived.Lib.LaidTab
import Derived.Deep.DeepHandedRow
set_option linter.unusedVariables false
set_option linter.unusedSimpArgs false
set_option linter.unnecessarySimpa false
set_option linter.unusedSectionVars false
set_option linter.all false
/- Texts: what a row's list of variables tells the engine. -/
namespace Go.Proofs.YtklfieidipobpaaDoor.Txt
open Go.V Go.Num Go.RowKit
open Go.Eng (wr HS Imm Ent)
set_option maxRecDepth 100000
set_option maxHeartbeats 4000000
theorem laid_mem {P : Program} {w : World} : ∀ {l : List (String × DataW Unit)} {ps : List MemPlace}, DataW.LaidVars P w l ps → ∀ x ∈ l, ∃ g t cs fuel p, P.globalNamed x.1 = some g ∧ (P.globals[g]?).map (·.type) = some t ∧ w.var? P x.1 = some cs ∧ DataW.trod (fun _ => ()) P w 0 (fun _ => true) false fuel t cs.toList = some (x.2, p)
  | [], _, _, x, hx => by cases hx
  | (n, d) :: r, ps, ⟨g, t, cs, fuel, p, q, h1, h2, h3, h4, h5, _⟩, x, hx => by
    rcases List.mem_cons.1 hx with rfl | hx
    · exact ⟨g, t, cs, fuel, p, h1, h2, h3, h4⟩
    · exact laid_mem h5 x hx
theorem iface_of {P : Program} {w : World} {fuel : Nat} {t : TypeId} {i : _} (ht : P.underlying t = some (.interface i)) {cs : List Value} {n : String} {d : DataW Unit} {p : List MemPlace} (h : DataW.trod (fun _ => ()) P w 0 (fun _ => true) false fuel t cs = some (.iface n d, p)) : ∃ u v, cs = [.iface u v] := by
  cases fuel with
  | zero => simp [DataW.trod] at h
  | succ fuel =>
    simp only [DataW.trod, ht] at h
    split at h
    all_goals first
      | (exact ⟨_, _, rfl⟩)
      | simp_all
theorem var_heap {P : Program} {w : World} {n : String} {g : Nat} {cs : Array Value} (hg : P.globalNamed n = some g) (h : w.var? P n = some cs) : ∃ t fz, w.heap[g]? = some (.cells cs t fz) := by
  unfold World.var? at h
  rw [hg] at h
  simp only [Option.bind_some] at h
  cases ho : w.heap[g]? with
  | none => rw [ho] at h; cases h
  | some o =>
    rw [ho] at h
    cases o <;> simp at h
    subst h
    exact ⟨_, _, rfl⟩
theorem max_len {W : World} (h : W.ShapedOpen Tryd.prog) : ∃ (m : Int) (t : TypeId) (fz : Nat × Nat), W.heap[2]? = some (.cells #[.int .i64 m] t fz) := by
  have h0 : ((((begin Tryd.prog (fun _ _ => 0) default).world).heap[2]?).bind Obj.row?) = some (#[.int .i64 0], 3) := by kernel_rfl
  obtain ⟨cs, h1, h2, h3⟩ := h.1 2 _ _ (of_decide_eq_true (by kernel_rfl)) h0
  obtain ⟨ts, e1, _, e3⟩ := h3 (by kernel_rfl)
  have e4 : Tryd.prog.cellTypes Tryd.prog.depth 3 = some [3] := by kernel_rfl
  obtain rfl := Option.some.inj (e4.symm.trans e1)
  obtain ⟨v, rfl⟩ : ∃ v, cs = #[v] := by
    obtain ⟨l⟩ := cs
    match l, h2 with
    | [v], _ => exact ⟨v, rfl⟩
  obtain ⟨u, hu, hok⟩ := e3 0 v rfl
  obtain rfl : u = 3 := by simpa using hu.symm
  obtain ⟨m, rfl⟩ : ∃ m, v = .int .i64 m := by
    unfold Cell.ok at hok
    rw [Tryd.underlying3] at hok
    cases v <;> simp at hok
    obtain ⟨rfl, _⟩ := hok
    exact ⟨_, rfl⟩
  exact ⟨m, _, _, h1⟩
theorem glob_laid {W : World} {l : List (String × DataW Unit)} (h : laidMet Tryd.prog l W) (hs : W.ShapedOpen Tryd.prog) (m1 : ("strconv.ErrSyntax", Rows.laid_strconv_ErrSyntax) ∈ l) (m2 : ("strconv.ErrRange", Rows.laid_strconv_ErrRange) ∈ l) (m3 : ("internal/strconv.uint64pow10", Rows.laid_internal_strconv_uint64pow10) ∈ l) : Glob (immOf W) := by
  obtain ⟨ps, hl, _⟩ := h
  have g1 : Tryd.prog.globalNamed "strconv.ErrSyntax" = some 0 := by kernel_rfl
  have g2 : Tryd.prog.globalNamed "strconv.ErrRange" = some 1 := by kernel_rfl
  have g3 : Tryd.prog.globalNamed "internal/strconv.uint64pow10" = some 3 := by kernel_rfl
  have t1 : (Tryd.prog.globals[0]?).map (·.type) = some 60 := by kernel_rfl
  have t2 : (Tryd.prog.globals[1]?).map (·.type) = some 60 := by kernel_rfl
  have t3 : (Tryd.prog.globals[3]?).map (·.type) = some 127 := by kernel_rfl
  obtain ⟨i, hi⟩ : ∃ i, Tryd.prog.underlying 60 = some (.interface i) := ⟨_, Tryd.underlying60⟩
  have key : ∀ (n : String) (g : Nat) (d : DataW Unit), Tryd.prog.globalNamed n = some g → (Tryd.prog.globals[g]?).map (·.type) = some 60 → (∃ s e, d = .iface s e) → (n, d) ∈ l → ∃ cs t fz, W.heap[g]? = some (.cells cs t fz) ∧ ∃ u v, cs = #[.iface u v] := by
    rintro n g d hg ht ⟨s, e, rfl⟩ hm
    obtain ⟨g', t', cs, fuel, p, q1, q2, q3, q4⟩ := laid_mem hl _ hm
    obtain rfl := Option.some.inj (hg.symm.trans q1)
    obtain rfl := Option.some.inj (ht.symm.trans q2)
    obtain ⟨t, fz, hh⟩ := var_heap q1 q3
    obtain ⟨u, v, e1⟩ := iface_of hi q4
    exact ⟨cs, t, fz, hh, u, v, by obtain ⟨c⟩ := cs; cases e1; rfl⟩
  obtain ⟨g', t', cs3, fuel, p, q1, q2, q3, q4⟩ := laid_mem hl _ m3
  obtain rfl := Option.some.inj (g3.symm.trans q1)
  obtain rfl := Option.some.inj (t3.symm.trans q2)
  obtain ⟨ty3, fz3, hh3⟩ := var_heap q1 q3
  have e3 := Lib.cells_of_tab (zs := Lib.pow10Tab) (k := .u64) Tryd.underlying127 (by kernel_rfl) (by kernel_rfl) (by kernel_rfl) q4
  obtain ⟨m, tm, fm, hm⟩ := max_len hs
  intro x hx
  simp only [globV, List.mem_cons, List.not_mem_nil, or_false] at hx
  rcases hx with rfl | rfl | rfl | rfl
  · exact key _ 0 _ g1 t1 ⟨_, _, rfl⟩ m1
  · exact key _ 1 _ g2 t2 ⟨_, _, rfl⟩ m2
  · exact ⟨_, tm, fm, hm, m, rfl⟩
  · refine ⟨cs3, ty3, fz3, hh3, ?_⟩
    obtain ⟨c⟩ := cs3
    have e4 : c = Lib.pow10Tab.map fun z => Value.int .u64 z := e3
    rw [e4]
    simp [Lib.pow10Tab, List.map_map]
end Go.Proofs.YtklfieidipobpaaDoor.Txt
