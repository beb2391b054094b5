/- Texts: the lines of a text, as the library's iterator gives them. -/
import Derived.Test.YtklfieidipobpaaDoorKDeedF
import Derived.Lib.IndexLaws
set_option linter.unusedVariables false
set_option linter.unusedSimpArgs false
set_option linter.unnecessarySimpa false
set_option linter.unusedSectionVars false
set_option linter.all false
/- Texts: the lines of a text, as the library's iterator gives them. -/
namespace Go.Proofs.YtklfieidipobpaaDoor.Txt
open Go.RowKit Go.Shelf Go.V
open Go.Eng (strOf strOf_size strOf_data)
attribute [local go_sem] Oper.semAt_some
set_option maxRecDepth 100000
set_option maxHeartbeats 4000000
/-- The lines of a text, each with its end. -/
def lns : List UInt8 → List (List UInt8)
  | [] => []
  | c :: s => if c = 10 then [10] :: lns s else match lns s with
    | [] => [[c]]
    | x :: xs => (c :: x) :: xs
theorem lns_cons (c : UInt8) (s : List UInt8) : lns (c :: s) = if c = 10 then [10] :: lns s else match lns s with
    | [] => [[c]]
    | x :: xs => (c :: x) :: xs := rfl
theorem ib_cons (c : UInt8) (s : List UInt8) (h : ¬ c = 10) : Lib.indexByte (c :: s) 10 = if Lib.indexByte s 10 = -1 then -1 else Lib.indexByte s 10 + 1 := by
  rw [Lib.indexByte, if_neg (by simpa using h)]
  by_cases e : Lib.indexByte s 10 = -1
  · rw [if_pos e, if_pos (by simpa using e)]
  · rw [if_neg e, if_neg (by simpa using e)]
theorem lns_some : ∀ (s : List UInt8) (i : Nat), Lib.indexByte s 10 = i → lns s = s.take (i + 1) :: lns (s.drop (i + 1))
  | [], i, h => by exfalso; have := (Lib.indexByte_some h).1; simp at this
  | c :: s, i, h => by
    obtain ⟨h1, h2⟩ := Lib.indexByte_some h
    rw [lns_cons]
    by_cases hc : c = 10
    · have hi : i = 0 := by
        rcases i with _ | i
        · rfl
        · exact absurd (by rw [hc]; rfl) (h2 0 (by omega))
      rw [if_pos hc, hi, hc]; rfl
    · rw [if_neg hc]
      rcases i with _ | i
      · simp at h1; exact absurd h1 hc
      · have hs : Lib.indexByte s 10 = i := by
          rw [ib_cons c s hc] at h
          split at h <;> omega
        rw [lns_some s i hs]; rfl
theorem lns_none : ∀ (s : List UInt8), s ≠ [] → Lib.indexByte s 10 = -1 → lns s = [s]
  | [], h, _ => absurd rfl h
  | c :: s, _, h => by
    have hn := Lib.indexByte_none h
    have hc : ¬ c = 10 := fun e => hn 0 (by rw [e]; rfl)
    rw [lns_cons, if_neg hc]
    rcases s with _ | ⟨d, s⟩
    · rfl
    · rw [lns_none (d :: s) (by simp) (by
        have hge := Lib.indexByte_ge (d :: s) 10
        rw [ib_cons c _ hc] at h
        split at h <;> omega)]
theorem lns_len : ∀ s : List UInt8, (lns s).length ≤ s.length
  | [] => Nat.le_refl _
  | c :: s => by
    have ih := lns_len s
    rw [lns_cons]
    by_cases hc : c = 10
    · rw [if_pos hc, List.length_cons, List.length_cons]; omega
    · rw [if_neg hc]
      generalize hl : lns s = l at ih
      cases l with
      | nil => simp
      | cons x xs => simp only [List.length_cons] at ih ⊢; omega
abbrev LnT := { x : List UInt8 // x.length ≤ 1000000 }
def leftC (Bs : Nat) (w : World) : Nat := match w.cell? ⟨Bs, 0, none⟩ with
  | some (.string s) => s.size
  | _ => 0
theorem leftC_eq {Bs : Nat} {w : World} {s : List UInt8} (h : w.cell? ⟨Bs, 0, none⟩ = some (.string (strOf s))) : leftC Bs w = s.length := by unfold leftC; rw [h]; exact strOf_size s
theorem strOf_take (r : List UInt8) (j : Nat) : (strOf r).extract 0 j = strOf (r.take j) := by
  apply ByteArray.ext
  simp [strOf]
theorem strOf_drop (r : List UInt8) (j : Nat) : (strOf r).extract j r.length = strOf (r.drop j) := by
  apply ByteArray.ext
  simp [strOf]
  exact List.take_of_length_le (by rw [List.length_drop]; omega)
theorem lines_box (n : Nat) (hn : 1 ≤ n) (Bs : Nat) (s : List UInt8) (hs : s.length ≤ 1000000) (w : World) (hb : Boxed w Bs 9 (.string (strOf s))) :
    SeqBox Fence.wide n Tryd.prog 45 #[.pointer (some ⟨Bs, 0, none⟩)] (fun x : LnT => #[Value.string (strOf x.1)]) Bs 9 (fun ys => ys.map (·.1) = lns s) (fun pre => pre.map (·.1) <+: lns s) s.length w := by
  intro l J Jx W hW hJ hY h0
  have hbW : Boxed W Bs 9 (.string (strOf s)) := (hW.block _ hb.lt).trans hb
  refine callsIn_of_wp Tryd.func45 rfl trivial ?_ rfl
  simp only [Tryd.ntmps45, List.size_toArray, List.length_cons, List.length_nil, Nat.reduceAdd, Nat.reduceSub, Array.replicate_succ, Array.replicate_zero, List.push_toArray, List.append_toArray, List.nil_append, List.cons_append]
  gi_wp2
  gi_loopw [] (fun wr => ∃ (pre : List LnT) (r : List UInt8), pre.map (·.1) ++ lns r = lns s ∧ r.length ≤ s.length ∧ Boxed wr Bs 9 (.string (strOf r)) ∧ J pre wr) (fun wr => leftC Bs wr)
  case atStart => exact ⟨[], s, rfl, Nat.le_refl _, hbW, h0⟩
  case round =>
    obtain ⟨pre, r, hpre, hrl, hbr, hJs⟩ := hrel
    have hcr := hbr.cell
    have hfr := hbr.frozen
    have hsz := strOf_size r
    by_cases hr0 : r = []
    · subst hr0
      gi_wp2
      go_end0
      exact ⟨⟨_, rfl⟩, .inl ⟨pre, by simpa [lns] using hpre, hJs⟩⟩
    · have hpos : 0 < (strOf r).size := by
        rw [hsz]
        exact List.length_pos_iff.2 hr0
      obtain ⟨i, hi⟩ : ∃ i, Lib.indexByte r 10 = i := ⟨_, rfl⟩
      have hIB : Calls Tryd.prog 46 #[.string (strOf r), .int .u8 10] wr fun e w' => e = .returned (.int .i64 i) ∧ w' = wr := by
        refine (Tryd.strings_IndexByte (strOf r) 10 wr).mono ?_
        rintro e w' ⟨h1, h2⟩
        rw [strOf_data] at h1
        exact ⟨by rw [h1, ← hi]; rfl, h2⟩
      have hlen : pre.length < s.length ∨ lns r = [] := by
        by_cases e : lns r = []
        · exact .inr e
        · have h1 := lns_len s
          have h2 : (pre.map (·.1) ++ lns r).length = (lns s).length := by rw [hpre]
          rw [List.length_append, List.length_map] at h2
          have h3 := List.length_pos_iff.2 e
          exact .inl (by omega)
      have hge := Lib.indexByte_ge r 10
      rw [hi] at hge
      by_cases hi0 : 0 ≤ i
      · obtain ⟨j, rfl⟩ : ∃ j : Nat, i = j := ⟨i.toNat, by omega⟩
        have hj : j < r.length := (List.getElem?_eq_some_iff.1 (Lib.indexByte_some hi).1).1
        gi_wp2_with (refine ⟨trivial, ?_⟩; gi_at_call 46; refine (callsIn_wide.2 hIB).mono ?_; rintro e w' ⟨rfl, rfl⟩)
        gi_region
        rw [strOf_take, strOf_drop]
        obtain ⟨u, hu⟩ : ∃ u, u = w'.setCell ⟨Bs, 0, none⟩ (.string (strOf (r.drop (j + 1)))) := ⟨_, rfl⟩
        have hset := hbr.set (.string (strOf (r.drop (j + 1))))
        have hJ1 : J pre u := by rw [hu]; exact hJ.put _ _ _ hJs
        have hJu : J pre u.drew := hJ.grow pre u u.drew hJ1 ⟨rfl, rfl, rfl, Nat.le_refl _, fun _ _ _ => rfl⟩
        rw [← hu] at hset ⊢
        clear hu
        have hset2 : Boxed u.drew Bs 9 (.string (strOf (r.drop (j + 1)))) := hset
        have hl := lns_some r j hi
        have htl : (r.take (j + 1)).length ≤ 1000000 := by rw [List.length_take]; omega
        obtain ⟨fn, tmps, assign, body, hy, hR⟩ := hY pre ⟨r.take (j + 1), htl⟩ u.drew hJu (hlen.resolve_right (by rw [hl]; simp))
        dsimp only at hy
        gi_wp2
        refine hR.mono ?_
        rintro e W3 (⟨rfl, hJ3, hk3⟩ | ⟨rfl, hJx3⟩)
        · gi_wp2
          go_roundw
          case rel => exact ⟨pre ++ [⟨r.take (j + 1), htl⟩], r.drop (j + 1), by rw [← hpre, hl]; simp, by rw [List.length_drop]; omega, hk3 _ hset2, hJ3⟩
          case measure =>
            rw [leftC_eq (hk3 _ hset2).cell, leftC_eq hcr, List.length_drop]
            omega
        · gi_wp2
          refine bodyPost_ret (results_none rfl _ _ _) rfl ?_
          exact ⟨⟨_, rfl⟩, .inr ⟨pre ++ [⟨r.take (j + 1), htl⟩], by rw [← hpre, hl]; simp, hJx3⟩⟩
      · obtain rfl : i = -1 := by omega
        have hset := hbr.set (.string ⟨#[]⟩)
        obtain ⟨fn, tmps, assign, body, hy, hR⟩ := hY pre ⟨r, by omega⟩ (wr.setCell ⟨Bs, 0, none⟩ (.string ⟨#[]⟩)) (hJ.put _ _ _ hJs) (hlen.resolve_right (by rw [lns_none r hr0 hi]; simp))
        dsimp only at hy
        have hl := lns_none r hr0 hi
        gi_wp2_with (refine ⟨trivial, ?_⟩; gi_at_call 46; refine (callsIn_wide.2 hIB).mono ?_; rintro e w' ⟨rfl, rfl⟩)
        refine hR.mono ?_
        rintro e W3 (⟨rfl, hJ3, hk3⟩ | ⟨rfl, hJx3⟩)
        · gi_wp2
          go_roundw
          case rel => exact ⟨pre ++ [⟨r, by omega⟩], [], by rw [← hpre, hl]; simp [lns], Nat.zero_le _, hk3 _ hset, hJ3⟩
          case measure =>
            rw [leftC_eq (s := []) (hk3 _ hset).cell, leftC_eq hcr]
            exact List.length_pos_iff.2 hr0
        · gi_wp2
          refine bodyPost_ret (results_none rfl _ _ _) rfl ?_
          exact ⟨⟨_, rfl⟩, .inr ⟨pre ++ [⟨r, by omega⟩], by rw [← hpre, hl]; simp, hJx3⟩⟩
end Go.Proofs.YtklfieidipobpaaDoor.Txt
