/- Texts: a builder. -/
import Derived.Test.YtklfieidipobpaaDoorKDeedB
import Derived.Lib.Builder
import Derived.WalkKit
import Derived.Laws.Externs
set_option linter.unusedVariables false
set_option linter.unusedSimpArgs false
set_option linter.unnecessarySimpa false
set_option linter.unusedSectionVars false
set_option linter.all false
/- Texts: a builder. -/
namespace Go.Proofs.YtklfieidipobpaaDoor.Txt
open Go.V Go.Num
open Go.Eng (wr HS Imm Ent strOf strOf_size strOf_data)
open Go.RowKit
set_option maxRecDepth 100000
set_option maxHeartbeats 4000000
theorem copy_used (b : Nat) (w : World) (h0 : w.cell? ⟨b, 0, none⟩ = some (.pointer (some ⟨b, 0, none⟩))) :
    Calls Tryd.prog 51 #[.pointer (some ⟨b, 0, none⟩)] w fun e w' => e = .returned (.tuple #[]) ∧ w' = w := by
  go_enter Tryd.func51, Tryd.ntmps51
  go_wp2
  rw [Lib.run_neq_ptr_same w _ Tryd.underlying82 Tryd.type85]
  go_wp2
  go_end0
  exact ⟨rfl, rfl⟩
theorem copy_fresh (b : Nat) (w : World) (h0 : w.cell? ⟨b, 0, none⟩ = some (.pointer none)) (hsh : w.shape? b = some (85, 2)) (hfz : w.frozen? ⟨b, 0, none⟩ = false) :
    Calls Tryd.prog 51 #[.pointer (some ⟨b, 0, none⟩)] w fun e w' => e = .returned (.tuple #[]) ∧ w' = w.setCell ⟨b, 0, none⟩ (.pointer (some ⟨b, 0, none⟩)) := by
  go_enter Tryd.func51, Tryd.ntmps51
  go_wp2
  rw [Lib.run_to_unsafe w ⟨b, 0, none⟩ Tryd.underlying82 Tryd.underlying103 Tryd.type85 (by decide) hsh (Nat.zero_lt_succ 1)]
  simp only [Result.andThen]
  rw [Oper.upon_value]
  go_wp2
  rw [run_callFunc_extern Tryd.func64 (by kernel_rfl) (by kernel_rfl) (by kernel_rfl) (e := Extern.AbiNoEscape.same) (by kernel_rfl)]
  rw [Lib.run_noEscape]
  simp only [Result.andThen]
  rw [Oper.upon_value]
  go_wp2
  rw [Lib.run_from_unsafe w ⟨b, 0, none⟩ Tryd.underlying103 Tryd.underlying82 Tryd.type85 hsh (by kernel_rfl)]
  simp only [Result.andThen]
  rw [Oper.upon_value]
  go_wp2
  go_end0
  exact ⟨rfl, rfl⟩
theorem tup0 {I : Imm} {ρ : Nat → Value} : RelA I ρ (.tuple #[]) (.tup []) := .tup (us := []) rfl (fun j u y hj => by simp at hj)
theorem vec_open {I : Imm} {ρ : Nat → Value} {t : TypeId} {cs : List AV} {os : List V.Obj} {L : List Ent} {us : List Value} (a : All2 (RelA I ρ) us [.ptr 0 0]) (b : RelH I ρ (numb 0 (.vec t cs :: os)) L) :
    ∃ bk vs L', us = [.pointer (some ⟨bk, 0, none⟩)] ∧ ρ 0 = .pointer (some ⟨bk, 0, none⟩) ∧ All2 (RelA I ρ) vs cs ∧ Ones vs ∧ L = .blk bk t vs :: L' ∧ RelH I ρ (numb 1 os) L' := by
  obtain ⟨u, us', rfl, h1, h2⟩ := a.uncons
  obtain rfl := h2.unnil
  cases b with
  | cons ho hk =>
    obtain ⟨bk, vs, r1, r2, r3, rfl⟩ := ho
    cases h1 with
    | ptr h1 =>
      rw [r1] at h1
      simp only [Value.pointer.injEq, Option.some.injEq, Addr.mk.injEq, and_true] at h1
      subst h1
      exact ⟨bk, vs, _, rfl, r1, r2, r3, rfl, hk⟩
theorem copyUsed_ct (x : AV) (os : List V.Obj) : Ct Tryd.prog 51 [.ptr 0 0] (.vec 85 [.ptr 0 0, x] :: os) (Is2 (.tup []) (.vec 85 [.ptr 0 0, x] :: os)) := by
  refine ⟨Tryd.call51, fun I ρ us L a b c w F hw => ?_⟩
  have b' := b
  obtain ⟨bk, vs, L', rfl, r1, r2, r3, rfl, hk⟩ := vec_open a b
  have hb : w.heap[bk]? = some (.cells vs.toArray 85 (0, 0)) := hw.ents _ (List.mem_append_left _ List.mem_cons_self)
  obtain ⟨u, us', rfl, h1, _⟩ := r2.uncons
  have hc : w.cell? ⟨bk, 0, none⟩ = some u := by unfold World.cell?; simp only; rw [hb]; rfl
  cases h1 with
  | ptr h1 =>
    rw [r1] at h1
    simp only [Value.pointer.injEq, Option.some.injEq, Addr.mk.injEq, and_true] at h1
    subst h1
    refine (copy_used bk w hc).mono fun e w' ⟨he, hb⟩ => ?_
    subst hb
    exact ⟨_, I, _, he, Imm.le_refl _, ⟨ρ, _, _, tup0, b', c, Nat.le_refl _, fun _ _ => rfl, rfl, rfl⟩, hw⟩
theorem copyFresh_ct : Ct Tryd.prog 51 [.ptr 0 0] [.vec 85 [.d .nilp, .d .nils]] (Is2 (.tup []) [.vec 85 [.ptr 0 0, .d .nils]]) := by
  refine ⟨Tryd.call51, fun I ρ us L a b c w F hw => ?_⟩
  obtain ⟨bk, vs, L', rfl, r1, r2, r3, rfl, hk⟩ := vec_open a b
  have hb : w.heap[bk]? = some (.cells vs.toArray 85 (0, 0)) := hw.ents _ (List.mem_append_left _ List.mem_cons_self)
  obtain ⟨u, us', rfl, h1, h2⟩ := r2.uncons
  obtain ⟨u2, us2, rfl, h3, h4⟩ := h2.uncons
  obtain rfl := h4.unnil
  cases hk with
  | nil g =>
  cases h1 with
  | d h1 => cases h1 with
    | nilp =>
      have hc : w.cell? ⟨bk, 0, none⟩ = some (.pointer none) := by unfold World.cell?; simp only; rw [hb]; rfl
      have hs : w.shape? bk = some (85, 2) := by unfold World.shape?; rw [hb]; rfl
      have hf : w.frozen? ⟨bk, 0, none⟩ = false := by unfold World.frozen?; simp only; rw [hb]; rfl
      refine (copy_fresh bk w hc hs hf).mono fun e w' ⟨he, hb2⟩ => ?_
      subst hb2
      refine ⟨_, I, [.blk bk 85 [.pointer (some ⟨bk, 0, none⟩), u2]], he, Imm.le_refl _, ⟨ρ, .tup [], [.vec 85 [.ptr 0 0, .d .nils]], tup0, .cons (es := [_]) ⟨bk, _, r1, .cons (.ptr r1) (.one h3), ?_, rfl⟩ (.nil g), c, Nat.le_refl _, fun _ _ => rfl, rfl, rfl⟩, ?_⟩
      · exact Ones.app (us := [_]) (Ones.one rfl) (fun x hx => r3 x (List.mem_cons_of_mem _ hx))
      · exact HS.swap (e := .blk bk 85 [.pointer none, u2]) (by simpa using hw) (fun c _ hne => Eng.setCell_far (fun e => hne (by simp [Ent.own, e])) 0 _) (Eng.setCell_blk hb 0 _) (fun c hc => .inl hc) rfl rfl rfl
abbrev bld (bs : List UInt8) : List V.Obj := [.vec 85 [.ptr 0 0, .sl 1], .row 5 1 (bytesD bs)]
abbrev bldG (bs : List UInt8) : List V.Obj := [.vec 85 [.ptr 0 0, .sl 2], .gone, .row 5 1 (bytesD bs)]
theorem bytesD_app (a b : List UInt8) : bytesD (a ++ b) = bytesD a ++ bytesD b := List.map_append
theorem WriteF_ct (s : List UInt8) (hs : s.length ≤ 1000000000) : Ct Tryd.prog 39 [.ptr 0 0, S s] [.vec 85 [.d .nilp, .d .nils]] (Is2 (.tup [i64 s.length, .ifc true]) (bld s)) := by
  refine Ct.introF (E := E 19 1 [.tmp 4, .tmp 5] [] [] [(1000001, [.ownF 0 1 5 1])]) tab_ok Tryd.call39 Tryd.func39 rfl rfl rfl rfl rfl (fun hin => ?_)
  (conv => whnf); refine (copyFresh_ct).use ?_
  (conv => whnf); refine And.intro (by dsimp only [List.length]; omega) ?_
  exact Is2.mk rfl
theorem Write_ct (bs s : List UInt8) (hs : bs.length + s.length ≤ 1000000000) : Ct Tryd.prog 39 [.ptr 0 0, S s] (bld bs) (Is2 (.tup [i64 s.length, .ifc true]) (bldG (bs ++ s))) := by
  show Ct _ _ _ (bld bs) (Is2 _ [.vec 85 [.ptr 0 0, .sl 2], .gone, .row 5 1 (bytesD (bs ++ s))])
  rw [bytesD_app]
  refine Ct.introF (E := E 19 2 [.tmp 4, .tmp 5] [] [] []) tab_ok Tryd.call39 Tryd.func39 rfl rfl rfl rfl rfl (fun hin => ?_)
  have hb : (bytesD bs).length = bs.length := by simp [bytesD]
  (conv => whnf); refine (copyUsed_ct _ _).use ?_
  (conv => whnf); refine And.intro (by rw [hb]; omega) ?_
  exact Is2.mk rfl
theorem Len_ct (bs : List UInt8) : Ct Tryd.prog 40 [.ptr 0 0] (bld bs) (Is2 (i64 bs.length) (bld bs)) := by
  refine Ct.introF (E := E 8 2 [.tmp 2] [] [] []) tab_ok Tryd.call40 Tryd.func40 rfl rfl rfl rfl rfl (fun hin => ?_)
  have hb : (bytesD bs).length = bs.length := by simp [bytesD]
  refine Is2.mk ?_
  rw [hb]
theorem LenF_ct : Ct Tryd.prog 40 [.ptr 0 0] [.vec 85 [.d .nilp, .d .nils]] (Is2 (i64 0) [.vec 85 [.d .nilp, .d .nils]]) := by
  refine Ct.introF (E := E 8 1 [.tmp 2] [] [] []) tab_ok Tryd.call40 Tryd.func40 rfl rfl rfl rfl rfl (fun hin => ?_)
  exact Is2.mk rfl
theorem str_row (b g cap : Nat) (p : Value) (cur : Array Value) (l : List UInt8) (h0 : l ≠ []) (w : World) (hbk : w.heap[b]? = some (.cells #[p, .slice (some ⟨g, 0, none⟩) l.length cap] 85 (0, 0))) (hg : w.heap[g]? = some (.cells cur 5 (0, 0))) (hnc : l.length ≤ cap) (hcm : cap ≤ maxLen)
    (hcs : cap ≤ cur.size) (htake : cur.toList.take l.length = Lib.byteCells l) :
    Calls Tryd.prog 41 #[.pointer (some ⟨b, 0, none⟩)] w fun e w' => e = .returned (.string ⟨l.toArray⟩) ∧ ∃ n, w' = (w.drewN n).freeze ⟨g, 0, none⟩ l.length := by
  have hl0 : l.length ≠ 0 := by simpa using h0
  have c1 : w.drew.cell? ⟨b, 1, none⟩ = some (.slice (some ⟨g, 0, none⟩) l.length cap) := by
    have : w.drew.heap[b]? = some (.cells #[p, .slice (some ⟨g, 0, none⟩) l.length cap] 85 (0, 0)) := hbk
    rw [Lib.cell_of_heap this]; rfl
  have hSD : (Builtin.unsafeSliceData_ #[83] 92 #[.slice (some ⟨g, 0, none⟩) l.length cap]).run Tryd.prog w.drew = .ok (.pointer (some ⟨g, 0, none⟩)) w.drew :=
    Lib.run_unsafeSliceData_row _ _ _ _ _ _ (by omega)
  have hUS : (Builtin.unsafeString_ #[92, 3] 9 #[.pointer (some ⟨g, 0, none⟩), .int .i64 l.length]).run Tryd.prog w.drew = .ok (.string ⟨l.toArray⟩) (w.drew.freeze ⟨g, 0, none⟩ l.length) := by
    refine Lib.run_unsafeString_row w.drew 92 3 9 5 Tryd.underlying92 (by kernel_rfl) g cur.size (by have hg' : w.drew.heap[g]? = some (.cells cur 5 (0, 0)) := hg; simp [World.shape?, hg']) l h0 (by omega) (by unfold maxLen at hcm; omega) ?_
    intro j x hx
    have hj : (cur.toList.take l.length)[j]? = some (.int .u8 x.toNat) := by rw [htake]; simp [Lib.byteCells, hx]
    rw [List.getElem?_take] at hj
    split at hj
    · have hg' : w.drew.heap[g]? = some (.cells cur 5 (0, 0)) := hg
      have ha : (⟨g, 0, none⟩ : Addr).add j = ⟨g, j, none⟩ := by rw [Eng.add_blk, Nat.zero_add]
      unfold World.cell?
      simp only [ha]
      rw [hg']
      simpa using hj
    · cases hj
  have mixed : Tryd.prog.follows .mixedOrders = true := by kernel_rfl
  go_enter Tryd.func41, Tryd.ntmps41
  go_wp2
  go_region_o
  all_goals (go_wp2; go_ret; exact ⟨rfl, 1, rfl⟩)
theorem str_nil (b : Nat) (w : World) (hbk : w.heap[b]? = some (.cells #[.pointer none, .slice none 0 0] 85 (0, 0))) :
    Calls Tryd.prog 41 #[.pointer (some ⟨b, 0, none⟩)] w fun e w' => e = .returned (.string ⟨#[]⟩) ∧ ∃ n, w' = w.drewN n := by
  have hUS : ∀ (W : World) (q : Option Addr), (Builtin.unsafeString_ #[92, 3] 9 #[.pointer q, .int .i64 0]).run Tryd.prog W = .ok (.string .empty) W := fun W q => Lib.run_unsafeString_none W _ _ _ q
  have c1 : w.drew.cell? ⟨b, 1, none⟩ = some (.slice none 0 0) := by
    have : w.drew.heap[b]? = some (.cells #[.pointer none, .slice none 0 0] 85 (0, 0)) := hbk
    rw [Lib.cell_of_heap this]; rfl
  have hSD : (Builtin.unsafeSliceData_ #[83] 92 #[.slice none 0 0]).run Tryd.prog w.drew = .ok (.pointer none) w.drew := rfl
  have mixed : Tryd.prog.follows .mixedOrders = true := by kernel_rfl
  go_enter Tryd.func41, Tryd.ntmps41
  go_wp2
  go_region_o
  all_goals (go_wp2; go_ret; exact ⟨rfl, 1, rfl⟩)
theorem freeze_far (w : World) (g n k : Nat) (h : k ≠ g) : (w.freeze ⟨g, 0, none⟩ n).heap[k]? = w.heap[k]? := by
  unfold World.freeze
  split
  · rfl
  · simp only [Array.getElem?_modify]
    rw [if_neg (by omega)]
theorem freeze_rest (w : World) (g n : Nat) : (w.freeze ⟨g, 0, none⟩ n).os = w.os ∧ (w.freeze ⟨g, 0, none⟩ n).tape = w.tape ∧ (w.freeze ⟨g, 0, none⟩ n).output = w.output := by
  unfold World.freeze
  split
  · exact ⟨rfl, rfl, rfl⟩
  · exact ⟨rfl, rfl, rfl⟩
/-- An entry goes; its block may have changed. -/
theorem _root_.Go.Eng.HS.drop {I : Imm} {e : Ent} {L : List Ent} {w w' : World} (h : HS I (e :: L) w) (hs : ∀ b, b < w.heap.size → e.own ≠ some b → w'.heap[b]? = w.heap[b]?) (ho : w'.os = w.os) (ht : w'.tape = w.tape) (hu : w'.output = w.output) : HS I L w' := by
  have hne : ∀ x ∈ L, ∀ b, x.own = some b → e.own ≠ some b := fun x hx b hb hb' => (List.pairwise_cons.1 h.dis).1 x hx b hb' hb
  refine ⟨fun b o hb => ?_, fun x hx => ?_, (List.pairwise_cons.1 h.dis).2, fun x hx b hb => h.imm x (List.mem_cons_of_mem _ hx) b hb, ho.trans h.os, ht.trans h.tape, hu.trans h.output⟩
  · rw [hs b (h.lt hb) (fun hc => by have := h.imm e (List.mem_cons_self) b hc; rw [this] at hb; cases hb)]
    exact h.sat b o hb
  · have hx' := h.ents x (List.mem_cons_of_mem _ hx)
    exact hx'.same (fun b hb => hs b (hx'.lt hb) (hne x hx b hb))
theorem bytes_vals {I : Imm} {us : List Value} {l : List UInt8} (h : All2 (RelD I) us (cellsOf (bytesD l))) : us = Lib.byteCells l := by
  rw [bytesD_cells] at h
  apply List.ext_getElem?
  intro i
  have hl : us.length = l.length := by rw [h.1]; simp [bytesD]
  unfold Lib.byteCells
  rw [List.getElem?_map]
  cases hi : l[i]? with
  | none =>
    rw [List.getElem?_eq_none (by rw [hl]; exact List.getElem?_eq_none_iff.1 hi)]; rfl
  | some b =>
    obtain ⟨u, h1, h2⟩ := h.get (j := i) (y := .int .u8 b.toNat) (by unfold bytesD; rw [List.getElem?_map, hi]; rfl)
    rw [h1]
    obtain ⟨rfl, _⟩ := rd_int h2; rfl
theorem String_ct (bs : List UInt8) (h0 : bs ≠ []) : Ct Tryd.prog 41 [.ptr 0 0] (bld bs) (Is2 (S bs) [.gone, .gone]) := by
  refine ⟨Tryd.call41, fun I ρ us L a b c w F hw => ?_⟩
  obtain ⟨bk, vs, L', rfl, r1, r2, r3, rfl, hk⟩ := vec_open a b
  have hb : w.heap[bk]? = some (.cells vs.toArray 85 (0, 0)) := hw.ents _ (List.mem_append_left _ List.mem_cons_self)
  obtain ⟨u, us', rfl, h1, h2⟩ := r2.uncons
  obtain ⟨u2, us2, rfl, h3, h4⟩ := h2.uncons
  obtain rfl := h4.unnil
  cases hk with
  | cons ho hk2 =>
    cases hk2 with
    | nil g =>
      obtain ⟨A, cp, ws, q1, q2, q3, ro1, rfl⟩ := ho
      have hbl : (bytesD bs).length = bs.length := by simp [bytesD]
      rw [hbl] at q1
      cases h3 with
      | sl h3 =>
        rw [q1] at h3
        simp only [Value.slice.injEq] at h3
        obtain ⟨rfl, rfl, rfl⟩ := h3
        have hws := bytes_vals q3
        subst hws
        rw [hbl] at hw
        have hrow : Eng.Row w 5 1 (.slice A bs.length cp) bs.length (Lib.byteCells bs) := hw.ents (.row _ _ _ _ _) (by simp)
        rcases hrow.2 with ⟨_, h5⟩ | ⟨gg, cap, cur, h5, _, h6, h7, h8, h9, h10⟩
        · exact absurd (List.length_eq_zero_iff.1 h5) h0
        · simp only [Value.slice.injEq] at h5
          obtain ⟨rfl, _, rfl⟩ := h5
          refine (str_row bk gg cp u cur bs h0 w hb h6 h7 h8 (by omega) (by simpa using h10)).mono fun e w' ⟨he, n, hw'⟩ => ?_
          subst hw'
          obtain ⟨f1, f2, f3⟩ := freeze_rest (w.drewN n) gg bs.length
          have hw2 : HS I (.blk bk 85 [u, .slice (some ⟨gg, 0, none⟩) bs.length cp] :: .row (.slice (some ⟨gg, 0, none⟩) bs.length cp) 5 1 bs.length (Lib.byteCells bs) :: F) w := by simpa using hw
          have hw3 := (hw2.sublist (List.sublist_cons_self _ _)).drop (w' := (w.drewN n).freeze ⟨gg, 0, none⟩ bs.length) (fun k _ hne => freeze_far (w.drewN n) gg bs.length k (fun e => hne (by simp [Ent.own, Value.ownBlock, e]))) f1 f2 f3
          exact ⟨_, I, [], he, Imm.le_refl _, ⟨ρ, S bs, [.gone, .gone], .d (.str (by have : cp ≤ 9223372036854775807 := h8; omega)), .cons (es := []) rfl (.cons (es := []) rfl (.nil g)), c, Nat.le_refl _, fun _ _ => rfl, rfl, rfl⟩, by simpa using hw3⟩
theorem StringF_ct : Ct Tryd.prog 41 [.ptr 0 0] [.vec 85 [.d .nilp, .d .nils]] (Is2 (S []) [.gone]) := by
  refine ⟨Tryd.call41, fun I ρ us L a b c w F hw => ?_⟩
  obtain ⟨bk, vs, L', rfl, r1, r2, r3, rfl, hk⟩ := vec_open a b
  have hb : w.heap[bk]? = some (.cells vs.toArray 85 (0, 0)) := hw.ents _ (List.mem_append_left _ List.mem_cons_self)
  obtain ⟨u, us', rfl, h1, h2⟩ := r2.uncons
  obtain ⟨u2, us2, rfl, h3, h4⟩ := h2.uncons
  obtain rfl := h4.unnil
  cases hk with
  | nil g =>
    obtain rfl : u = .pointer none := by
      cases h1 with
      | d h1 => cases h1; rfl
    obtain rfl : u2 = .slice none 0 0 := by
      cases h3 with
      | d h3 => cases h3; rfl
    refine (str_nil bk w hb).mono fun e w' ⟨he, n, hw'⟩ => ?_
    subst hw'
    have hw3 := Eng.HS.congr (w' := w.drewN n) (hw.sublist (List.sublist_cons_self _ _)) rfl rfl rfl rfl
    exact ⟨_, I, [], he, Imm.le_refl _, ⟨ρ, S [], [.gone], .d (.str (by decide)), .cons (es := []) rfl (.nil g), c, Nat.le_refl _, fun _ _ => rfl, rfl, rfl⟩, by simpa using hw3⟩
end Go.Proofs.YtklfieidipobpaaDoor.Txt

/- Texts: forms, lines. -/
namespace Go.Proofs.YtklfieidipobpaaDoor.Txt
open Go.V Go.Num
open Go.Eng (wr HS Imm Ent strOf strOf_size strOf_data)
set_option maxRecDepth 100000
set_option maxHeartbeats 4000000
def fWord (k : Int) : List UInt8 :=
  if k = 1 then [115, 116, 97, 114, 116] else if k = 2 then [98, 114, 105, 110, 103] else if k = 3 then [108, 111, 115, 101] else if k = 4 then [116, 119, 105, 110] else if k = 5 then [98, 101, 110, 100] else if k = 6 then [116, 105, 99, 107] else if k = 7 then [102, 97, 108, 108] else []
def fSize (k : Int) : Nat := if k = 5 then 2 else if 2 ≤ k ∧ k ≤ 7 then 1 else 0
def fOk (k : Int) : Bool := decide (1 ≤ k ∧ k ≤ 7)
abbrev formD (k : Int) : D := .agg [.str (fWord k), .int .i64 (fSize k)]
theorem forms_ct (k : Int) : Ct Tryd.prog 22 [i64 k] [] (Is2 (.tup [.d (formD k), .d (.bool (fOk k))]) []) := by
  by_cases h : 1 ≤ k ∧ k ≤ 7
  · have h7 : k = 1 ∨ k = 2 ∨ k = 3 ∨ k = 4 ∨ k = 5 ∨ k = 6 ∨ k = 7 := by omega
    rcases h7 with rfl | rfl | rfl | rfl | rfl | rfl | rfl
    all_goals
      refine Ct.introF (E := E 27 0 [.cell 2 51, .tmp 3] [] [] []) tab_ok Tryd.call22 Tryd.func22 rfl rfl rfl rfl rfl (fun hin => ?_)
      exact Is2.mk rfl
  · have e1 : fWord k = [] := by
      unfold fWord
      rw [if_neg (by omega), if_neg (by omega), if_neg (by omega), if_neg (by omega), if_neg (by omega), if_neg (by omega), if_neg (by omega)]
    have e2 : fSize k = 0 := by unfold fSize; rw [if_neg (by omega), if_neg (by omega)]
    have e3 : fOk k = false := by unfold fOk; exact decide_eq_false h
    unfold formD; rw [e1, e2, e3]
    refine Ct.introF (E := E 27 0 [.cell 2 51, .tmp 3] [] [] []) tab_ok Tryd.call22 Tryd.func22 rfl rfl rfl rfl rfl (fun hin => ?_)
    (conv => whnf); refine cond_n (by omega) ?_
    (conv => whnf); refine cond_n (by omega) ?_
    (conv => whnf); refine cond_n (by omega) ?_
    (conv => whnf); refine cond_n (by omega) ?_
    (conv => whnf); refine cond_n (by omega) ?_
    (conv => whnf); refine cond_n (by omega) ?_
    (conv => whnf); refine cond_n (by omega) ?_
    exact Is2.mk rfl
/-- A word, and numbers behind it. -/
def lineN (w : List UInt8) (l : List Int) : List UInt8 := w ++ l.flatMap fun n => 32 :: Lib.itoa n
theorem lineN_snoc (w : List UInt8) (l : List Int) (n : Int) : lineN w (l ++ [n]) = lineN w l ++ (32 :: Lib.itoa n) := by
  unfold lineN; rw [List.flatMap_append, List.append_assoc]; simp
theorem write_ct (w : List UInt8) (sz : Nat) (a b : Int) (hw : w ≠ []) (hl : w.length ≤ 100) (hs : sz ≤ 2) (ha : -9223372036854775808 ≤ a ∧ a ≤ 9223372036854775807) (hb : -9223372036854775808 ≤ b ∧ b ≤ 9223372036854775807) :
    Ct Tryd.prog 23 [.d (.agg [.str w, .int .i64 sz]), .d (.agg [.int .i64 a, .int .i64 b])] [] (Is2 (S (lineN w ([a, b].take sz))) []) := by
  have hln : ∀ i, i ≤ 2 → (lineN w ([a, b].take i)).length ≤ 200 := fun i hi => by
    have h1 := Lib.itoa_length_le a ha.1 ha.2
    have h2 := Lib.itoa_length_le b hb.1 hb.2
    unfold lineN
    rcases i with _ | _ | _ | i
    · simp; omega
    · simp; omega
    · simp; omega
    · omega
  have hne : ∀ i, lineN w ([a, b].take i) ≠ [] := fun i h => by
    unfold lineN at h
    exact hw (List.append_eq_nil_iff.1 h).1
  refine Ct.introF (E := E 25 0 [.tmp 4] [] [(4, [5, 13, 14, 15])] []) tab_ok Tryd.call23 Tryd.func23 rfl rfl rfl rfl rfl (fun hin => ?_)
  (conv => whnf); refine (WriteF_ct w (by omega)).use ?_
  (conv => whnf); refine And.intro ⟨by omega, show (sz : Int) ≤ ((2 : Nat) : Int) by omega⟩ ?_
  (conv => whnf); refine And.intro (by decide) ?_
  (conv => whnf); refine LoopI.mk (fun q ws os => ∃ i : Nat, ws = [.ptr 0 0, .av 1 1 0 sz, i64 sz, i64 i] ∧ os = [.vec 85 [.ptr 0 0, .sl 2], .arr 54 [.int .i64 a, .int .i64 b], .row 5 1 (bytesD (lineN w ([a, b].take i)))] ∧ i ≤ sz ∧ q = sz - i) sz ⟨0, rfl, ?_, Nat.zero_le _, rfl⟩ ?_
  · rw [show lineN w ([a, b].take 0) = w from by simp [lineN]]; rfl
  rintro q _ _ ⟨i, rfl, rfl, h1, rfl⟩
  (conv => whnf); refine cond_d (fun h2 => ?_) (fun h2 => ?_)
  · have hi : i < 2 := by omega
    obtain ⟨x, hx⟩ : ∃ x, x = [a, b].getD i 0 := ⟨_, rfl⟩
    have hxr : -9223372036854775808 ≤ x ∧ x ≤ 9223372036854775807 := by
      rcases i with _ | _ | i
      · rw [hx]; exact ha
      · rw [hx]; exact hb
      · omega
    have hg : ([D.int .i64 a, D.int .i64 b])[0 + (i : Int).toNat]? = some (.int .i64 x) := by
      rw [show 0 + (i : Int).toNat = i by omega, hx]
      rcases i with _ | _ | i
      · rfl
      · rfl
      · omega
    have hl0 := hln i (by omega)
    have hil := Lib.itoa_length_le x hxr.1 hxr.2
    have hst : lineN w ([a, b].take (i + 1)) = lineN w ([a, b].take i) ++ (32 :: Lib.itoa x) := by
      rw [← lineN_snoc]
      congr 1
      rw [hx]
      rcases i with _ | _ | i
      · rfl
      · rfl
      · omega
    (conv => whnf); refine And.intro (by first | omega | (dsimp only [List.length, cond]; omega) | (show (-9223372036854775808 : Int) ≤ _ ∧ _ ≤ (9223372036854775807 : Int); omega) | decide) ?_
    (conv => whnf); refine Idx.mk _ hg ?_
    (conv => whnf); refine (Itoa_ct x).use ?_
    (conv => whnf); refine And.intro (show 1 + (Lib.itoa x).length ≤ _ by omega) ?_
    (conv => whnf); refine (Write_ct (lineN w ([a, b].take i)) (32 :: Lib.itoa x) (by rw [List.length_cons]; omega)).use ?_
    (conv => whnf); refine And.intro (by first | omega | (dsimp only [List.length, cond]; omega) | (show (-9223372036854775808 : Int) ≤ _ ∧ _ ≤ (9223372036854775807 : Int); omega) | decide) ?_
    (conv => whnf)
    refine ⟨sz - (i + 1), by omega, i + 1, rfl, ?_, by omega, rfl⟩
    rw [hst]; rfl
  · obtain rfl : sz = i := by omega
    (conv => whnf); refine (String_ct (lineN w ([a, b].take sz)) (hne sz)).use ?_
    exact Is2.mk rfl
end Go.Proofs.YtklfieidipobpaaDoor.Txt

/- Texts: a step's line. -/
namespace Go.Proofs.YtklfieidipobpaaDoor.Txt
open Go.V Go.Num
open Go.Eng (wr HS Imm Ent strOf strOf_size strOf_data)
set_option maxRecDepth 100000
set_option maxHeartbeats 4000000
abbrev stepD (k a b : Int) : D := .agg [.int .i64 k, .int .i64 a, .int .i64 b]
def okA (k a b : Int) : Nat → Bool
  | 0 => fOk k
  | i + 1 => okA k a b i && (decide ((i : Int) < fSize k) || decide ([a, b].getD i 0 = 0))
abbrev okL (k a b : Int) : Bool := okA k a b 2
theorem fWord_ne {k : Int} (h : fOk k = true) : fWord k ≠ [] ∧ (fWord k).length ≤ 100 := by
  have h : 1 ≤ k ∧ k ≤ 7 := of_decide_eq_true h
  have h7 : k = 1 ∨ k = 2 ∨ k = 3 ∨ k = 4 ∨ k = 5 ∨ k = 6 ∨ k = 7 := by omega
  rcases h7 with rfl | rfl | rfl | rfl | rfl | rfl | rfl <;> decide
theorem fSize_le (k : Int) : fSize k ≤ 2 := by
  unfold fSize
  split
  · omega
  · split <;> omega
theorem okA_down {k a b : Int} : ∀ {i : Nat}, okA k a b i = true → fOk k = true
  | 0, h => h
  | i + 1, h => by
    have h : (okA k a b i && (decide ((i : Int) < fSize k) || decide ([a, b].getD i 0 = 0))) = true := h
    rw [Bool.and_eq_true] at h
    exact okA_down h.1
theorem Line_ct (k a b : Int) : Ct Tryd.prog 10 [.d (stepD k a b)] [] (Is2 (.tup [S (if okL k a b = true then lineN (fWord k) ([a, b].take (fSize k)) else []), i64 (if okL k a b = true then 0 else 1)]) []) := by
  refine Ct.introF (E := E 42 0 [.tmp 2, .tmp 3] [] [(4, [4, 5, 6, 20, 21])] []) tab_ok Tryd.call10 Tryd.func10 rfl rfl rfl rfl rfl (fun hin => ?_)
  obtain ⟨hin, _⟩ := hin
  have ha : -9223372036854775808 ≤ a ∧ a ≤ 9223372036854775807 := hin _ (.tail _ (.head _))
  have hb : -9223372036854775808 ≤ b ∧ b ≤ 9223372036854775807 := hin _ (.tail _ (.tail _ (.head _)))
  (conv => whnf); refine (forms_ct k).use ?_
  (conv => whnf); refine And.intro ⟨rfl, rfl⟩ ?_
  (conv => whnf); refine And.intro rfl ?_
  (conv => whnf); refine LoopI.mk (fun q ws os => ∃ i : Nat, ws = [.ptr 0 0, .d (.bool (okA k a b i)), .ptr 1 0, .d (.agg [.int .i64 a, .int .i64 b]), i64 i] ∧ os = [.vec 51 [S (fWord k), i64 (fSize k)], .arr 54 [.int .i64 a, .int .i64 b]] ∧ i ≤ 2 ∧ q = 2 - i) 2 ⟨0, rfl, rfl, by decide, rfl⟩ ?_
  rintro q _ _ ⟨i, rfl, rfl, h1, rfl⟩
  (conv => whnf); refine cond_d (fun h2 => ?_) (fun h2 => ?_)
  · obtain ⟨x, hx⟩ : ∃ x, x = [a, b].getD i 0 := ⟨_, rfl⟩
    have hg : ([D.int .i64 a, D.int .i64 b])[(i : Int).toNat * 1]? = some (.int .i64 x) := by
      rw [show (i : Int).toNat * 1 = i by omega, hx]
      rcases i with _ | _ | i
      · rfl
      · rfl
      · omega
    have hs : okA k a b (i + 1) = (okA k a b i && (decide ((i : Int) < fSize k) || decide (x = 0))) := by rw [hx]; rfl
    obtain ⟨c, hc⟩ : ∃ c, c = okA k a b i := ⟨_, rfl⟩
    rw [← hc] at hs ⊢
    cases c with
    | false =>
      (conv => whnf); refine And.intro (by first | omega | (dsimp only [List.length, cond]; omega) | (show (-9223372036854775808 : Int) ≤ _ ∧ _ ≤ (9223372036854775807 : Int); omega) | decide) ?_
      (conv => whnf); refine Idx.mk _ hg ?_
      (conv => whnf); refine And.intro (by first | omega | (dsimp only [List.length, cond]; omega) | (show (-9223372036854775808 : Int) ≤ _ ∧ _ ≤ (9223372036854775807 : Int); omega) | decide) ?_
      (conv => whnf)
      refine ⟨2 - (i + 1), by omega, i + 1, ?_, rfl, by omega, rfl⟩
      rw [hs]; rfl
    | true =>
      (conv => whnf); refine And.intro (by first | omega | (dsimp only [List.length, cond]; omega) | (show (-9223372036854775808 : Int) ≤ _ ∧ _ ≤ (9223372036854775807 : Int); omega) | decide) ?_
      (conv => whnf); refine Idx.mk _ hg ?_
      (conv => whnf); refine cond_d (fun h3 => ?_) (fun h3 => ?_)
      · (conv => whnf); refine And.intro (by first | omega | (dsimp only [List.length, cond]; omega) | (show (-9223372036854775808 : Int) ≤ _ ∧ _ ≤ (9223372036854775807 : Int); omega) | decide) ?_
        (conv => whnf)
        refine ⟨2 - (i + 1), by omega, i + 1, ?_, rfl, by omega, rfl⟩
        rw [hs, decide_eq_true h3]; rfl
      · (conv => whnf); refine And.intro (by first | omega | (dsimp only [List.length, cond]; omega) | (show (-9223372036854775808 : Int) ≤ _ ∧ _ ≤ (9223372036854775807 : Int); omega) | decide) ?_
        (conv => whnf)
        refine ⟨2 - (i + 1), by omega, i + 1, ?_, rfl, by omega, rfl⟩
        rw [hs, decide_eq_false h3]; rfl
  · obtain rfl : i = 2 := by omega
    obtain ⟨c, hc⟩ : ∃ c, c = okA k a b 2 := ⟨_, rfl⟩
    rw [← hc] at ⊢
    cases c with
    | false =>
      refine Is2.mk ?_
      have hn : ¬ okL k a b = true := by show ¬ okA k a b 2 = true; rw [← hc]; simp
      rw [if_neg hn, if_neg hn]
    | true =>
      obtain ⟨hw, hl⟩ := fWord_ne (okA_down hc.symm)
      (conv => whnf); refine And.intro rfl ?_
      (conv => whnf); refine (write_ct (fWord k) (fSize k) a b hw hl (fSize_le k) ha hb).use ?_
      refine Is2.mk ?_
      rw [if_pos hc.symm, if_pos hc.symm]
/-! ## The law's own digits -/
theorem dec_big {u : Nat} (h : ¬ u < 10) : Lib.decDigits u = Lib.decDigits (u / 10) ++ [UInt8.ofNat (48 + u % 10)] := by
  rw [Lib.decDigits, dif_neg h]
theorem dec_small {u : Nat} (h : u < 10) : Lib.decDigits u = [UInt8.ofNat (48 + u)] := Lib.decDigits_one h
theorem digits_ct (n : Int) : Ct Tryd.prog 24 [i64 n] [] (Is2 (S (Lib.itoa n)) []) := by
  refine Ct.introF (E := E 28 0 [.tmp 2] [(5, [0, 3, 4])] [(5, [0, 3, 4])] []) tab_ok Tryd.call24 Tryd.func24 rfl rfl rfl rfl rfl (fun hin => ?_)
  have hn : -9223372036854775808 ≤ n ∧ n ≤ 9223372036854775807 := hin.1
  (conv => whnf); refine JoinI.mk (fun ws os => ws = [i64 n, S [], .d (.int .u64 (n.natAbs : Nat))] ∧ os = []) ?_ ?_
  · (conv => whnf); refine cond_d (fun h1 => ?_) (fun h1 => ?_)
    · (conv => whnf)
      refine ⟨?_, rfl⟩
      rw [show wr .u64 (0 - wr .u64 n) = (n.natAbs : Int) by simp only [wr]; omega]
    · (conv => whnf)
      refine ⟨?_, rfl⟩
      rw [show wr .u64 n = (n.natAbs : Int) by simp only [wr]; omega]
  rintro _ _ ⟨rfl, rfl⟩
  (conv => whnf); refine LoopI.mk (fun q ws os => ∃ (r : Nat) (out : List UInt8), ws = [i64 n, S out, .d (.int .u64 r)] ∧ os = [] ∧ Lib.decDigits n.natAbs = Lib.decDigits r ++ out ∧ out.length * 2 + r ≤ 9223372036854775808 ∧ q = r) n.natAbs ⟨n.natAbs, [], rfl, rfl, by simp, by simp; omega, rfl⟩ ?_
  rintro q _ _ ⟨r, out, rfl, rfl, h1, h2, rfl⟩
  have hd : wr .u8 (wr .u64 (48 + (q : Int) % 10)) = ((UInt8.ofNat (48 + q % 10)).toNat : Int) := by
    rw [UInt8.toNat_ofNat']; simp only [wr]; omega
  (conv => whnf); refine And.intro (by decide) ?_
  (conv => whnf)
  refine ⟨[UInt8.ofNat (48 + q % 10)], ?_, ?_⟩
  · show [D.int .u8 (wr .u8 (wr .u64 (48 + (q : Int) % 10)))] = _
    rw [hd]; rfl
  (conv => whnf); refine And.intro (show 1 + out.length ≤ _ by omega) ?_
  (conv => whnf); refine And.intro (by decide) ?_
  (conv => whnf); refine cond_d (fun h3 => ?_) (fun h3 => ?_)
  · have h4 : q < 10 := by omega
    have h5 : Lib.decDigits n.natAbs = UInt8.ofNat (48 + q % 10) :: out := by
      rw [h1, dec_small h4, Nat.mod_eq_of_lt h4]; rfl
    (conv => whnf); refine cond_d (fun h6 => ?_) (fun h6 => ?_)
    · (conv => whnf); refine And.intro (by show 1 + ([UInt8.ofNat (48 + q % 10)] ++ out).length ≤ 9223372036854775807; rw [List.length_append]; show 1 + (1 + out.length) ≤ _; omega) ?_
      refine Is2.mk ?_
      unfold Lib.itoa; rw [if_pos h6, h5]; rfl
    · refine Is2.mk ?_
      unfold Lib.itoa; rw [if_neg h6, show n.toNat = n.natAbs by omega, h5]; rfl
  · have h4 : ¬ q < 10 := by omega
    (conv => whnf)
    refine ⟨q / 10, by omega, q / 10, UInt8.ofNat (48 + q % 10) :: out, rfl, rfl, ?_, by rw [List.length_cons]; omega, rfl⟩
    rw [h1, dec_big h4, List.append_assoc]; rfl
end Go.Proofs.YtklfieidipobpaaDoor.Txt

/- Texts: the law's own line. -/
namespace Go.Proofs.YtklfieidipobpaaDoor.Txt
open Go.V Go.Num
open Go.Eng (wr HS Imm Ent strOf strOf_size strOf_data)
set_option maxRecDepth 100000
set_option maxHeartbeats 4000000
theorem line1_ct (a b : Int) : Ct Tryd.prog 11 [.d (stepD 1 a b)] [] (Is2 (.tup [S (fWord 1), .d (.bool (decide (a = 0) && decide (b = 0)))]) []) := by
  refine Ct.introF (E := E 57 0 [.tmp 2, .tmp 3] [] [] []) tab_ok Tryd.call11 Tryd.func11 rfl rfl rfl rfl rfl (fun hin => ?_)
  (conv => whnf); refine And.intro (by decide) ?_
  (conv => whnf); refine Idx.mk _ rfl ?_
  (conv => whnf); refine Idx.mk _ rfl ?_
  (conv => whnf); refine DrawI.mkF 20 [[5], [1], [39], [40], [41], [1, 42], [42, 43], [42, 44], [42, 45], [46], [1, 47], [47, 48], [47, 49], [47, 50], [1, 51], [51, 52], [51, 53], [47, 51, 54], [47, 55], [38]] (by decide +kernel) ?_
  repeat (first | refine DrawO.mkF _ (And.intro rfl rfl) ?_ | refine DrawO.mkF _ (Idx.mk _ rfl (And.intro rfl rfl)) ?_)
  (conv => whnf); refine cond_d (fun h1 => ?_) (fun h1 => ?_)
  · repeat (first | refine DrawO.mkF _ (And.intro rfl rfl) ?_ | refine DrawO.mkF _ (Idx.mk _ rfl (And.intro rfl rfl)) ?_)
    refine Is2.mk ?_
    rw [decide_eq_true h1]; rfl
  · repeat (first | refine DrawO.mkF _ (And.intro rfl rfl) ?_ | refine DrawO.mkF _ (Idx.mk _ rfl (And.intro rfl rfl)) ?_)
    refine Is2.mk ?_
    rw [decide_eq_false h1]; rfl
theorem line5_ct (a b : Int) : Ct Tryd.prog 11 [.d (stepD 5 a b)] [] (Is2 (.tup [S (lineN (fWord 5) [a, b]), .d (.bool true)]) []) := by
  refine Ct.introF (E := E 57 0 [.tmp 2, .tmp 3] [] [] []) tab_ok Tryd.call11 Tryd.func11 rfl rfl rfl rfl rfl (fun hin => ?_)
  obtain ⟨hin, _⟩ := hin
  have ha : -9223372036854775808 ≤ a ∧ a ≤ 9223372036854775807 := hin _ (.tail _ (.head _))
  have hb : -9223372036854775808 ≤ b ∧ b ≤ 9223372036854775807 := hin _ (.tail _ (.tail _ (.head _)))
  have h1 := Lib.itoa_length_le a ha.1 ha.2
  have h2 := Lib.itoa_length_le b hb.1 hb.2
  (conv => whnf); refine And.intro (by decide) ?_
  (conv => whnf); refine Idx.mk _ rfl ?_
  (conv => whnf); refine Idx.mk _ rfl ?_
  (conv => whnf); refine (digits_ct a).use ?_
  (conv => whnf); refine And.intro (show 1 + _ ≤ _ by omega) ?_
  (conv => whnf); refine And.intro (by show 4 + ([32] ++ Lib.itoa a).length ≤ 9223372036854775807; rw [List.length_append]; show 4 + (1 + _) ≤ _; omega) ?_
  (conv => whnf); refine (digits_ct b).use ?_
  (conv => whnf); refine And.intro (show 1 + _ ≤ _ by omega) ?_
  (conv => whnf); refine And.intro (by show ([98, 101, 110, 100] ++ ([32] ++ Lib.itoa a)).length + ([32] ++ Lib.itoa b).length ≤ 9223372036854775807; rw [List.length_append, List.length_append, List.length_append]; show 4 + (1 + _) + (1 + _) ≤ _; omega) ?_
  (conv => whnf); refine DrawI.mkF 20 [[5], [1], [39], [40], [41], [1, 42], [42, 43], [42, 44], [42, 45], [46], [1, 47], [47, 48], [47, 49], [47, 50], [1, 51], [51, 52], [51, 53], [47, 51, 54], [47, 55], [38]] (by decide +kernel) ?_
  repeat (first | refine DrawO.mkF _ (And.intro rfl rfl) ?_ | refine DrawO.mkF _ (Idx.mk _ rfl (And.intro rfl rfl)) ?_)
  refine Is2.mk ?_
  have e : lineN (fWord 5) [a, b] = [98, 101, 110, 100] ++ ([32] ++ Lib.itoa a) ++ ([32] ++ Lib.itoa b) := by
    unfold lineN; simp [fWord]
  rw [e]
theorem lineM_ct (k a b : Int) (hk : k = 2 ∨ k = 3 ∨ k = 4 ∨ k = 6 ∨ k = 7) : Ct Tryd.prog 11 [.d (stepD k a b)] [] (Is2 (.tup [S (lineN (fWord k) [a]), .d (.bool (decide (b = 0)))]) []) := by
  have e : lineN (fWord k) [a] = fWord k ++ ([32] ++ Lib.itoa a) := by unfold lineN; simp
  rw [e]
  rcases hk with rfl | rfl | rfl | rfl | rfl
  all_goals
    refine Ct.introF (E := E 57 0 [.tmp 2, .tmp 3] [] [] []) tab_ok Tryd.call11 Tryd.func11 rfl rfl rfl rfl rfl (fun hin => ?_)
    obtain ⟨hin, _⟩ := hin
    have ha : -9223372036854775808 ≤ a ∧ a ≤ 9223372036854775807 := hin _ (.tail _ (.head _))
    have h1 := Lib.itoa_length_le a ha.1 ha.2
    (conv => whnf); refine And.intro (by decide) ?_
    (conv => whnf); refine Idx.mk _ rfl ?_
    (conv => whnf); refine Idx.mk _ rfl ?_
    (conv => whnf); refine (digits_ct a).use ?_
    (conv => whnf); refine And.intro (show 1 + _ ≤ _ by omega) ?_
    (conv => whnf); refine And.intro (by show _ + ([32] ++ Lib.itoa a).length ≤ 9223372036854775807; rw [List.length_append]; first | (show 5 + (1 + _) ≤ _; omega) | (show 4 + (1 + _) ≤ _; omega)) ?_
    (conv => whnf); refine DrawI.mkF 20 [[5], [1], [39], [40], [41], [1, 42], [42, 43], [42, 44], [42, 45], [46], [1, 47], [47, 48], [47, 49], [47, 50], [1, 51], [51, 52], [51, 53], [47, 51, 54], [47, 55], [38]] (by decide +kernel) ?_
    repeat (first | refine DrawO.mkF _ (And.intro rfl rfl) ?_ | refine DrawO.mkF _ (Idx.mk _ rfl (And.intro rfl rfl)) ?_)
    exact Is2.mk rfl
theorem line0_ct (k a b : Int) (hk : ¬ (1 ≤ k ∧ k ≤ 7)) : Ct Tryd.prog 11 [.d (stepD k a b)] [] (Is2 (.tup [S [], .d (.bool false)]) []) := by
  refine Ct.introF (E := E 57 0 [.tmp 2, .tmp 3] [] [] []) tab_ok Tryd.call11 Tryd.func11 rfl rfl rfl rfl rfl (fun hin => ?_)
  (conv => whnf); refine cond_d (fun h1 => ?_) (fun h1 => ?_)
  · exact Is2.mk rfl
  · (conv => whnf); refine cond_y (by omega) ?_
    exact Is2.mk rfl
theorem line_ct (k a b : Int) : Ct Tryd.prog 11 [.d (stepD k a b)] [] (Is2 (.tup [S (if fOk k = true then lineN (fWord k) ([a, b].take (fSize k)) else []), .d (.bool (okL k a b))]) []) := by
  by_cases h : 1 ≤ k ∧ k ≤ 7
  · have hf : fOk k = true := decide_eq_true h
    rw [if_pos hf]
    by_cases h1 : k = 1
    · subst h1
      have e : okL 1 a b = (decide (a = 0) && decide (b = 0)) := by
        show (true && (false || decide (a = 0)) && (false || decide (b = 0))) = _
        rfl
      have e2 : lineN (fWord 1) ([a, b].take (fSize 1)) = fWord 1 := by
        show lineN (fWord 1) [] = _
        unfold lineN; simp
      rw [e, e2]; exact line1_ct a b
    · by_cases h5 : k = 5
      · subst h5
        have e : okL 5 a b = true := by
          show (true && (true || decide (a = 0)) && (true || decide (b = 0))) = _
          rfl
        rw [e]; exact line5_ct a b
      · have hs : fSize k = 1 := by unfold fSize; rw [if_neg h5, if_pos (by omega)]
        have e : okL k a b = decide (b = 0) := by
          show (fOk k && (decide ((0 : Int) < fSize k) || decide (a = 0)) && (decide ((1 : Int) < fSize k) || decide (b = 0))) = _
          rw [hf, hs]; rfl
        rw [e, hs]; exact lineM_ct k a b (by omega)
  · have hf : fOk k = false := decide_eq_false h
    have e : okL k a b = false := by
      show (fOk k && (decide ((0 : Int) < fSize k) || decide (a = 0)) && (decide ((1 : Int) < fSize k) || decide (b = 0))) = _
      rw [hf]; rfl
    rw [e, if_neg (by rw [hf]; simp)]; exact line0_ct k a b h
end Go.Proofs.YtklfieidipobpaaDoor.Txt
