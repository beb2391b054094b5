/- Texts: the library's contracts at this dump, in the engine's words. -/
import Derived.Test.YtklfieidipobpaaDoorJuG
import Derived.Test.YtklfieidipobpaaDoorKDeedA
import Derived.Below
import Derived.Lib.ItoaLen
set_option linter.unusedVariables false
set_option linter.unusedSimpArgs false
set_option linter.unnecessarySimpa false
set_option linter.unusedSectionVars false
set_option linter.all false
/- Texts: the library's contracts at this dump, in the engine's words. -/
namespace Go.V
open Go.Eng
theorem _root_.Go.Eng.HS.below {I : Imm} {L : List Ent} {w w' : World} (h : HS I L w) (hb : RowKit.Below w.heap.size w w') : HS I L w' := by
  have hs : ∀ e ∈ L, ∀ b, e.own = some b → w'.heap[b]? = w.heap[b]? := fun e he b hbe => hb.block b ((h.ents e he).lt hbe)
  exact ⟨fun b o ho => (hb.block b (h.lt ho)).trans (h.sat b o ho), fun e he => (h.ents e he).same (hs e he), h.dis, h.imm, hb.os.trans h.os, hb.tape.trans h.tape, hb.output.trans h.output⟩
/-- A contract of the library over data. -/
theorem Ct.ofD {P : Program} {f : FuncId} {ds : List D} {r : AV} (hc : ∀ xs w, (callFunc f xs).run P w = .ok (.enter f xs) w)
    (h : ∀ (I : Imm) (us : List Value) (F : List Ent) (w : World), All2 (RelD I) us ds → Glob I → HS I F w → Calls P f us.toArray w fun e w' => ∃ v I', e = .returned v ∧ I.le I' ∧ RelA I' (fun _ => .nilFunc) v r ∧ HS I' F w') : Ct P f (ds.map .d) [] (Is2 r []) := by
  refine ⟨hc, fun I ρ us L a b c w F hw => ?_⟩
  have hρ : ρ = fun _ => .nilFunc := funext fun k => c k (Nat.zero_le _)
  subst hρ
  cases b with
  | nil g =>
    exact (h I us F w (all_d a) g (by simpa using hw)).mono fun e w' ⟨v, I', he, hle, hr, hs⟩ =>
      ⟨v, I', [], he, hle, ⟨fun _ => .nilFunc, r, [], hr, .nil (g.mono hle), c, Nat.le_refl _, fun _ _ => rfl, rfl, rfl⟩, by simpa using hs⟩
theorem Glob.cells {I : Imm} {L : List Ent} {w : World} (g : Glob I) (h : HS I L w) {n : Nat} {p : Array Value → Prop} (hm : (n, p) ∈ globV) : ∃ cs t fz, w.heap[n]? = some (.cells cs t fz) ∧ p cs := by
  obtain ⟨cs, t, fz, h1, h2⟩ := g _ hm
  exact ⟨cs, t, fz, h.sat _ _ h1, h2⟩
end Go.V
namespace Go.Proofs.YtklfieidipobpaaDoor.Txt
open Go.V Go.Num
open Go.Eng (wr HS Imm Ent strOf strOf_size strOf_data)
set_option maxRecDepth 100000
set_option maxHeartbeats 4000000
abbrev i64 (n : Int) : AV := .d (.int .i64 n)
abbrev S (s : List UInt8) : AV := .d (.str s)
theorem tab_is {I : Imm} {L : List Ent} {w : World} (g : Glob I) (h : HS I L w) : Lib.TabIs Tryd.prog w "internal/strconv.uint64pow10" .u64 Lib.pow10Tab := by
  obtain ⟨cs, t, fz, h1, h2⟩ := g.cells h (n := 3) (p := fun cs => cs = ((List.range 20).map fun (i : Nat) => Value.int .u64 (((10 ^ i : Nat) : Int))).toArray) (by simp [globV])
  have hn : Tryd.prog.globalNamed "internal/strconv.uint64pow10" = some 3 := by kernel_rfl
  unfold Lib.TabIs World.var?
  rw [hn]
  show (match w.heap[3]? with | some (.cells cs _ _) => some cs | _ => none) = _
  rw [h1]
  show some cs = _
  rw [h2]; rfl
theorem err_is {I : Imm} {L : List Ent} {w : World} (g : Glob I) (h : HS I L w) : (∃ t p, w.var? Tryd.prog "strconv.ErrSyntax" = some #[.iface t p]) ∧ ∃ t p, w.var? Tryd.prog "strconv.ErrRange" = some #[.iface t p] := by
  have key : ∀ (n : Nat) (nm : String), Tryd.prog.globalNamed nm = some n → (∃ cs t fz, w.heap[n]? = some (.cells cs t fz) ∧ ∃ t p, cs = #[.iface t p]) → ∃ t p, w.var? Tryd.prog nm = some #[.iface t p] := fun n nm hn ⟨cs, t, fz, h1, t2, p, h2⟩ => by
    refine ⟨t2, p, ?_⟩
    unfold World.var?
    rw [hn]
    show (match w.heap[n]? with | some (.cells cs _ _) => some cs | _ => none) = _
    rw [h1, ← h2]
  exact ⟨key 0 _ (by kernel_rfl) (g.cells h (n := 0) (p := fun cs => ∃ t p, cs = #[.iface t p]) (by simp [globV])), key 1 _ (by kernel_rfl) (g.cells h (n := 1) (p := fun cs => ∃ t p, cs = #[.iface t p]) (by simp [globV]))⟩
theorem one_arg {I : Imm} {us : List Value} {x : D} (h : All2 (RelD I) us [x]) : ∃ u, us = [u] ∧ RelD I u x := by
  obtain ⟨u, us', rfl, h1, h2⟩ := h.uncons
  obtain rfl := h2.unnil
  exact ⟨u, rfl, h1⟩
theorem two_arg {I : Imm} {us : List Value} {x y : D} (h : All2 (RelD I) us [x, y]) : ∃ u v, us = [u, v] ∧ RelD I u x ∧ RelD I v y := by
  obtain ⟨u, us', rfl, h1, h2⟩ := h.uncons
  obtain ⟨v, rfl, h3⟩ := one_arg h2
  exact ⟨u, v, rfl, h1, h3⟩
theorem below_grow (w : World) (k : Nat) (os : Array _root_.Go.Obj) : RowKit.Below w.heap.size w (Sort.grow (w.drewN k) os) :=
  ⟨rfl, rfl, rfl, by show w.heap.size ≤ (w.heap ++ os).size; rw [Array.size_append]; omega, fun i hi => by show (w.heap ++ os)[i]? = _; rw [Array.getElem?_append_left hi]⟩
theorem str_of {I : Imm} {s : List UInt8} {v : Value} (h : RelD I v (.str s)) : v = .string (strOf s) ∧ s.length ≤ 9223372036854775807 := by cases h with | str h => exact ⟨rfl, h⟩
theorem Itoa_ct (n : Int) : Ct Tryd.prog 31 [i64 n] [] (Is2 (S (Lib.itoa n)) []) := by
  refine Ct.ofD (ds := [.int .i64 n]) Tryd.call31 (fun I us F w hu g hw => ?_)
  obtain ⟨u, rfl, h1⟩ := one_arg hu
  obtain ⟨rfl, h2⟩ := rd_int h1
  refine (Tryd.strconv_Itoa n h2.1 h2.2 w (tab_is g hw)).mono fun e w' ⟨he, k, os, hb⟩ => ?_
  subst hb
  have hl := Lib.itoa_length_le n h2.1 h2.2
  exact ⟨_, I, he, Imm.le_refl _, .d (.str (by omega)), hw.below (below_grow w k os)⟩
theorem trim_le (s p : List UInt8) : (Lib.trimSuffix s p).length ≤ s.length := by
  unfold Lib.trimSuffix
  split
  · rw [List.length_take]; omega
  · exact Nat.le_refl _
theorem Trim_ct (s p : List UInt8) : Ct Tryd.prog 29 [S s, S p] [] (Is2 (S (Lib.trimSuffix s p)) []) := by
  refine Ct.ofD (ds := [.str s, .str p]) Tryd.call29 (fun I us F w hu g hw => ?_)
  obtain ⟨u, v, rfl, h1, h2⟩ := two_arg hu
  obtain ⟨rfl, h3⟩ := str_of h1
  obtain ⟨rfl, h4⟩ := str_of h2
  refine (Tryd.strings_TrimSuffix (strOf s) (strOf p) w (by rw [strOf_size]; exact h3)).mono fun e w' ⟨he, hb⟩ => ?_
  subst hb
  rw [strOf_data, strOf_data] at he
  exact ⟨_, I, he, Imm.le_refl _, .d (.str (Nat.le_trans (trim_le s p) h3)), hw⟩
/-- What Atoi gives beside its error. -/
def atoiV (s : List UInt8) : Int := match Lib.atoiAll s with
  | .ok v => v
  | Lib.NumEnd.syntax => 0
  | .range => Lib.atoiSat s
def atoiB (s : List UInt8) : Bool := match Lib.atoiAll s with
  | .ok _ => true
  | _ => false
theorem Atoi_ct (s : List UInt8) (hs : s.length ≤ 281474976710656) : Ct Tryd.prog 26 [S s] [] (Is2 (.tup [i64 (atoiV s), .ifc (atoiB s)]) []) := by
  refine Ct.ofD (ds := [.str s]) Tryd.call26 (fun I us F w hu g hw => ?_)
  obtain ⟨u, rfl, h1⟩ := one_arg hu
  obtain ⟨rfl, h3⟩ := str_of h1
  have hd := strOf_data s
  have fin : ∀ (v : Int) (x : Value) (b : Bool) (w' : World), Eng.InR .i64 v → isIfc x = some b → RowKit.Below w.heap.size w w' → ∃ v' I', Ending.returned (.tuple #[.int .i64 v, x]) = .returned v' ∧ Imm.le I I' ∧ RelA I' (fun _ => .nilFunc) v' (.tup [i64 v, .ifc b]) ∧ HS I' F w' := fun v x b w' hv hx hb => by
    refine ⟨_, I, rfl, Imm.le_refl _, .tup (us := [.int .i64 v, x]) rfl (fun j u y hu hy => ?_), hw.below hb⟩
    match j, hu, hy with
    | 0, hu, hy => simp at hu hy; subst hu; subst hy; exact .d (.int hv)
    | 1, hu, hy => simp at hu hy; subst hu; subst hy; exact .ifc hx
    | j + 2, hu, _ => simp at hu
  match ha : Lib.atoiAll s with
  | .ok v =>
    refine (Tryd.strconv_Atoi_ok (strOf s) (by rw [strOf_size]; omega) v (by rw [hd]; exact ha) w).mono fun e w' ⟨he, hb⟩ => ?_
    have e1 : atoiV s = v := by unfold atoiV; rw [ha]
    have e2 : atoiB s = true := by unfold atoiB; rw [ha]
    rw [e1, e2, he]
    refine fin v .nilIface true w' (Lib.atoiAll_bounds ha) rfl ?_
    rcases hb with rfl | ⟨t, rfl⟩
    · exact RowKit.Below.refl _ _
    · exact Lib.bytesWorld_below _ _ _
  | Lib.NumEnd.syntax =>
    obtain ⟨tp, p, hv⟩ := (err_is g hw).1
    refine (Tryd.strconv_Atoi_syntax_var (strOf s) (by rw [strOf_size]; omega) (by rw [hd]; exact ha) tp p w hv).mono fun e w' ⟨N, he, _, _, hb⟩ => ?_
    have e1 : atoiV s = 0 := by unfold atoiV; rw [ha]
    have e2 : atoiB s = false := by unfold atoiB; rw [ha]
    rw [e1, e2, he]
    exact fin 0 _ false w' ⟨by decide, by decide⟩ rfl hb
  | .range =>
    obtain ⟨tp, p, hv⟩ := (err_is g hw).2
    refine (Tryd.strconv_Atoi_range_var (strOf s) (by rw [strOf_size]; omega) (by rw [hd]; exact ha) tp p w hv).mono fun e w' ⟨N, he, _, _, hb⟩ => ?_
    have e1 : atoiV s = Lib.atoiSat s := by unfold atoiV; rw [ha]
    have e2 : atoiB s = false := by unfold atoiB; rw [ha]
    rw [hd] at he
    rw [e1, e2, he]
    exact fin _ _ false w' (Lib.atoiSat_bounds s) rfl hb
/-! ## Split -/
theorem splitK_le (sep : List UInt8) : ∀ (k : Nat) (s : List UInt8), ∀ x ∈ Lib.splitK sep 0 k s, x.length ≤ s.length
  | 0, s, x, h => by
    rw [List.mem_singleton.1 (show x ∈ [s] from h)]; exact Nat.le_refl _
  | k + 1, s, x, h => by
    unfold Lib.splitK at h
    split at h
    · rw [List.mem_singleton.1 h]; exact Nat.le_refl _
    · rcases List.mem_cons.1 h with rfl | h
      · rw [List.length_take]; omega
      · have := splitK_le sep k _ x h
        rw [List.length_drop] at this; omega
abbrev spS (s : List UInt8) : List (List UInt8) := Lib.split s [32]
theorem SplitO_ct (s : List UInt8) (hs : s.length < 4294967281) : Ct Tryd.prog 25 [S s, S [32]] [] (Is2 (.sl 0) [.row 9 1 ((spS s).map D.str)]) := by
  refine ⟨Tryd.call25, fun I ρ us L a b c w F hw => ?_⟩
  have hρ : ρ = fun _ => .nilFunc := funext fun k => c k (Nat.zero_le _)
  subst hρ
  cases b with
  | nil g =>
    obtain ⟨u, v, rfl, h1, h2⟩ := two_arg (all_d (xs := [.str s, .str [32]]) a)
    obtain ⟨rfl, h3⟩ := str_of h1
    obtain ⟨rfl, h4⟩ := str_of h2
    obtain ⟨cs, t, fz, k1, m, k2⟩ := g.cells hw (n := 2) (p := fun cs => ∃ m : Int, cs = #[.int .i64 m]) (by simp [globV])
    have hm : w.cell? ⟨2, 0, none⟩ = some (.int .i64 m) := by unfold World.cell?; simp only; rw [k1, k2]; rfl
    refine (Tryd.strings_Split (strOf s) (strOf [32]) m w (by rw [strOf_size]; exact hs) hm (by decide)).mono fun e w' ⟨he, hb⟩ => ?_
    subst hb
    have hsp : (Lib.splitB (strOf [32]) 0 (Lib.countB (strOf s) (strOf [32])) (strOf s)).map (·.data.toList) = spS s := Lib.splitB_data _ _ _ _
    obtain ⟨B, hB⟩ : ∃ B, B = Lib.splitB (strOf [32]) 0 (Lib.countB (strOf s) (strOf [32])) (strOf s) := ⟨_, rfl⟩
    have hlen : B.length = Lib.countB (strOf s) (strOf [32]) + 1 := by rw [hB]; exact Lib.splitB_all _ (by decide) 0 _ _ rfl
    have hcle := Lib.countB_le (strOf [32]) (by decide) _ (strOf s) (Nat.le_refl _)
    rw [strOf_size] at hcle
    rw [← hB] at hsp ⊢
    have hmx : maxLen = 9223372036854775807 := rfl
    rw [← hlen] at he
    have hl2 : ((spS s).map D.str).length = B.length := by rw [List.length_map, ← hsp, List.length_map]
    have hal := hw.alloc_row (B.map Value.string) 9 1 B.length B.length (by simp) (Nat.le_refl _) (by omega)
    rw [List.take_of_length_le (by simp)] at hal
    have hvs : B.map Value.string = (spS s).map fun x => Value.string (strOf x) := by
      rw [← hsp, List.map_map]; rfl
    have hcl : ∀ x ∈ (spS s).map D.str, x.cells.length = 1 := fun x hx => by
      obtain ⟨y, _, rfl⟩ := List.mem_map.1 hx; rfl
    have hco : cellsOf ((spS s).map D.str) = (spS s).map D.str := by
      unfold V.cellsOf
      rw [List.flatMap_map]
      have : ∀ l : List (List UInt8), (l.flatMap fun x => (D.str x).cells) = l.map D.str := fun l => by
        induction l with
        | nil => rfl
        | cons x l ih => rw [List.flatMap_cons, List.map_cons, ih]; rfl
      exact this _
    refine ⟨_, I, [Ent.row (.slice (some ⟨w.heap.size, 0, none⟩) B.length B.length) 9 1 B.length (B.map Value.string)], he, Imm.le_refl _, ⟨fun k => if k = 0 then .slice (some ⟨w.heap.size, 0, none⟩) B.length B.length else .nilFunc, .sl 0, [.row 9 1 ((spS s).map D.str)], .sl rfl, ?_, fun k hk => ?_, Nat.zero_le _, fun l hl => absurd rfl hl, rfl, rfl⟩, by simpa using hal⟩
    · refine RelH.cons (es := [_]) ⟨some ⟨w.heap.size, 0, none⟩, B.length, B.map Value.string, by rw [hl2]; rfl, hcl, ?_, ?_, by rw [hl2]⟩ (.nil g)
      · rw [hco, hvs]
        refine ⟨by simp, fun j u y hu hy => ?_⟩
        rw [List.getElem?_map] at hu hy
        cases hj : (spS s)[j]? with
        | none => rw [hj] at hu; cases hu
        | some x =>
          rw [hj] at hu hy
          simp at hu hy
          subst hu; subst hy
          exact .str (Nat.le_trans (splitK_le _ _ _ x (List.mem_of_getElem? hj)) h3)
      · intro u hu
        obtain ⟨x, _, rfl⟩ := List.mem_map.1 hu; rfl
    · show (if k = 0 then _ else _) = _
      have hk' : 1 ≤ k := hk
      rw [if_neg (by omega)]
theorem Split_ct (s : List UInt8) (hs : s.length < 4294967281) : Ct Tryd.prog 25 [S s, S [32]] [] (Is2 (.d (.ro ((spS s).map D.str))) []) := (SplitO_ct s hs).frz
end Go.Proofs.YtklfieidipobpaaDoor.Txt
