/- Roads: slices.Delete of one letter. -/
import Derived.Test.YtidelnccggfmgaaKRoadA
import Derived.Shelf.RegionOpenPlain
import Derived.WalkKit
import Derived.Deep.LoopGhost
import Derived.Deep.RegionLaw
import Derived.Lib.Walk
import Derived.Sort.WalkB12
import Derived.Lib.SliceRun
import Derived.Test.YtidelnccggfmgaaJuG
set_option linter.unusedVariables false
set_option linter.unusedSimpArgs false
set_option linter.unnecessarySimpa false
set_option linter.unusedSectionVars false
set_option linter.all false
/- Roads: slices.Delete of one letter. -/
namespace Go.Proofs.Ytidelnccggfmgaa.Rod
open Go.V Go.Num Go.Shelf Go.RowKit Go.Lib Go.Sort
open Go.Eng (wr HS Imm Ent bytesV setCell_blk setCell_far)
set_option maxRecDepth 1000000
set_option maxHeartbeats 4000000
def setL : List Value → Nat → List Value → List Value
  | cs, _, [] => cs
  | cs, o, v :: vs => setL (cs.set o v) (o + 1) vs
theorem setL_len : ∀ (vs : List Value) (cs : List Value) (o : Nat), (setL cs o vs).length = cs.length
  | [], _, _ => rfl
  | v :: vs, cs, o => by
    unfold setL
    rw [setL_len vs, List.length_set]
theorem setL_get : ∀ (vs : List Value) (cs : List Value) (o j : Nat), o + vs.length ≤ cs.length → (setL cs o vs)[j]? = if o ≤ j ∧ j < o + vs.length then vs[j - o]? else cs[j]?
  | [], cs, o, j, _ => by
    rw [if_neg (by simp)]; rfl
  | v :: vs, cs, o, j, h => by
    rw [List.length_cons] at h ⊢
    unfold setL
    rw [setL_get vs _ _ _ (by rw [List.length_set]; omega)]
    by_cases h1 : j = o
    · subst h1
      rw [if_neg (by omega), if_pos (by omega), List.getElem?_set_self (by omega), Nat.sub_self]; rfl
    · by_cases h2 : o + 1 ≤ j ∧ j < o + 1 + vs.length
      · rw [if_pos h2, if_pos (by omega), show j - o = (j - (o + 1)) + 1 by omega, List.getElem?_cons_succ]
      · rw [if_neg h2, if_neg (by omega), List.getElem?_set_ne (by omega)]
theorem setCells_at {b : Nat} {t : TypeId} : ∀ (vs : List Value) (o : Nat) {w : World} {cs : List Value}, w.heap[b]? = some (.cells cs.toArray t (0, 0)) → (w.setCells b o vs).heap[b]? = some (.cells (setL cs o vs).toArray t (0, 0)) ∧ (∀ c, c ≠ b → (w.setCells b o vs).heap[c]? = w.heap[c]?) ∧ (w.setCells b o vs).os = w.os ∧ (w.setCells b o vs).tape = w.tape ∧ (w.setCells b o vs).output = w.output
  | [], o, w, cs, h => ⟨h, fun _ _ => rfl, rfl, rfl, rfl⟩
  | v :: vs, o, w, cs, h => by
    obtain ⟨h1, h2, h3, h4, h5⟩ := setCells_at vs (o + 1) (setCell_blk h o v)
    exact ⟨h1, fun c hc => (h2 c hc).trans (setCell_far hc o v), h3, h4, h5⟩
theorem cell_at {w : World} {b : Nat} {t : TypeId} {cs : List Value} (h : w.heap[b]? = some (.cells cs.toArray t (0, 0))) (j : Nat) : w.cell? ⟨b, j, none⟩ = cs[j]? := by
  unfold World.cell?
  simp only
  rw [h]
  simp
theorem froz_at {w : World} {b : Nat} {t : TypeId} {cs : List Value} (h : w.heap[b]? = some (.cells cs.toArray t (0, 0))) (j : Nat) : w.frozen? ⟨b, j, none⟩ = false := by
  unfold World.frozen?
  simp only
  rw [h]
  simp
/-- 'clear(s)', s a slice of n > 0 letters. -/
theorem run_clear4 (w : World) (b o n c : Nat) (hn : 0 < n) (hc : ∀ j, j < n * 4 → (w.cell? ⟨b, o + j, none⟩).isSome = true) (hf : ∀ j, j < n * 4 → w.frozen? ⟨b, o + j, none⟩ = false) :
    ∃ zs : List Value, zs.length = n * 4 ∧ ∀ ty, (Builtin.clear_ #[26] ty #[.slice (some ⟨b, o, none⟩) n c]).run Try.prog w = .ok (.tuple #[]) (w.setCells b o zs) := by
  obtain ⟨desc, info, zv, hu, htd, hinf, hz, hsz, hby, hzs, hzc, hzu⟩ := tab_ok.ok 29 _ rfl
  have hrel : RelA ⟨fun _ => none, w.os, w.tape, w.output⟩ (fun _ => .nilFunc) zv _ := hzc ▸ constA_ok (by rw [hzc]; exact hzu)
  have hones : Ones zv.cells.toList := by
    cases hrel with | d h => exact h.ones
  have h4 : zv.cells.size = 4 := hzs
  refine ⟨(Builtin.zeroCells zv.cells n).toList, by simp [Builtin.zeroCells, h4], fun ty => ?_⟩
  have hl : (Builtin.zeroCells zv.cells n).toList.length = n * 4 := by simp [Builtin.zeroCells, h4]
  have hst := run_storeCells_cells (P := Try.prog) b o (Builtin.zeroCells zv.cells n).toList 0 w (by rw [hl]; simpa using hc) (by rw [hl]; simpa using hf) (by
    intro v hv
    simp only [Builtin.zeroCells, Array.toList_map, List.mem_map] at hv
    obtain ⟨k, _, rfl⟩ := hv
    rw [getElem!_pos zv.cells _ (Nat.mod_lt _ (by omega))]
    exact hones _ (by simp))
  simp only [Nat.add_zero] at hst
  obtain ⟨m, rfl⟩ : ∃ m, n = m + 1 := ⟨n - 1, by omega⟩
  have hzv := run_zv hinf hz
  simp [Builtin.clear_, run_underlying Try.underlying26, hzv, hst]
theorem Delete_run (N cap g n j : Nat) (hj : j = n + 1) (cs : List Value) (w : World) (hb : w.heap[g]? = some (.cells cs.toArray 29 (0, 0))) (hNc : N ≤ cap) (hm : cap ≤ maxLen) (hcs : cap * 4 ≤ cs.length) (hn : n < N) (hone : ∀ u ∈ cs.take (N * 4), u.oneCell' = true) :
    Calls Try.prog 72 #[.slice (some ⟨g, 0, none⟩) N cap, .int .i64 n, .int .i64 j] w fun e w' => e = .returned (.slice (some ⟨g, 0, none⟩) (N - 1) cap) ∧ ∃ cs2 : List Value, w'.heap[g]? = some (.cells cs2.toArray 29 (0, 0)) ∧ cs2.length = cs.length ∧
      cs2.take ((N - 1) * 4) = cs.take (n * 4) ++ (cs.take (N * 4)).drop (j * 4) ∧ (∀ b, b ≠ g → w'.heap[b]? = w.heap[b]?) ∧ w'.os = w.os ∧ w'.tape = w.tape ∧ w'.output = w.output := by
  have hmx : maxLen = 9223372036854775807 := rfl
  have hmx : maxLen = 9223372036854775807 := rfl
  obtain ⟨news, hnews⟩ : ∃ news, news = (cs.take (N * 4)).drop (j * 4) := ⟨_, rfl⟩
  have hlen : news.length = (N - j) * 4 := by rw [hnews, List.length_drop, List.length_take]; omega
  have hget : ∀ t u, news[t]? = some u → cs[j * 4 + t]? = some u := by
    intro t u hu
    have ht := (List.getElem?_eq_some_iff.1 hu).1
    rw [hnews, List.getElem?_drop, List.getElem?_take, if_pos (by omega)] at hu
    exact hu
  have hbd : w.drew.heap[g]? = some (.cells cs.toArray 29 (0, 0)) := hb
  obtain ⟨A, hA, hsrc⟩ : ∃ A : Addr, (if cap = j then some (⟨g, 0, none⟩ : Addr) else some ⟨g, j * 4, none⟩) = some A ∧ Hid (∀ t u, news[t]? = some u → w.drew.cell? (A.add t) = some u) := by
    by_cases h : cap = j
    · refine ⟨⟨g, 0, none⟩, by simp [h], fun t u hu => ?_⟩
      have h0 : news.length = 0 := by rw [hlen]; omega
      rw [List.length_eq_zero_iff.1 h0] at hu
      simp at hu
    · refine ⟨⟨g, j * 4, none⟩, by simp [h], fun t u hu => ?_⟩
      have e : (⟨g, j * 4, none⟩ : Addr).add t = ⟨g, j * 4 + t, none⟩ := by unfold Addr.add; split <;> simp_all
      rw [e, cell_at hbd]
      exact hget t u hu
  have s1 : Hid (news.length = (N - j) * 4) := hlen
  have s2 : Hid (∀ u ∈ news, u.oneCell' = true) := by
    intro u hu
    rw [hnews] at hu
    exact hone u (List.mem_of_mem_drop hu)
  have s3 : Hid (∀ t, t < news.length → (w.drew.cell? ⟨g, 0 + n * 4 + t, none⟩).isSome = true ∧ w.drew.frozen? ⟨g, 0 + n * 4 + t, none⟩ = false) := by
    intro t ht
    rw [hlen] at ht
    rw [cell_at hbd, froz_at hbd, List.getElem?_eq_getElem (by omega)]
    exact ⟨rfl, rfl⟩
  obtain ⟨W1, hW1⟩ : ∃ W1, W1 = w.drew.setCells g (0 + n * 4) news := ⟨_, rfl⟩
  obtain ⟨z1, z2, z3, z4, z5⟩ := setCells_at news (0 + n * 4) hbd
  rw [← hW1] at z1 z2 z3 z4 z5
  have hl1 := setL_len news cs (0 + n * 4)
  obtain ⟨zs, hzl, hcl⟩ := run_clear4 W1 g ((n + (N - j)) * 4) (N - (n + (N - j))) (cap - (n + (N - j))) (by omega) (fun j hj => by
    rw [cell_at z1, List.getElem?_eq_getElem (by rw [hl1]; omega)]; rfl) (fun j hj => froz_at z1 _)
  have hW : Hid (W1 = w.drew.setCells g (0 + n * 4) news) := hW1
  have hic : n ≤ cap := by omega
  have hjN : j ≤ N := by omega
  have hlt : n < j := by omega
  have hjc : j ≤ cap := by omega
  have X : Aside (W1.heap[g]? = some (.cells (setL cs (0 + n * 4) news).toArray 29 (0, 0)) ∧ (∀ c, c ≠ g → W1.heap[c]? = w.drew.heap[c]?) ∧ W1.os = w.drew.os ∧ W1.tape = w.drew.tape ∧ W1.output = w.drew.output) := ⟨z1, z2, z3, z4, z5⟩
  have Y : Aside (zs.length = (N - (n + (N - j))) * 4 ∧ news = (cs.take (N * 4)).drop (j * 4)) := ⟨hzl, hnews⟩
  have hj' : Hid (j = n + 1) := hj
  have mixed : Try.prog.follows .mixedOrders = true := tab_ok.mix
  clear hW1 z1 z2 z3 z4 z5 hbd hget hlen hl1 hnews hzl hj
  go_enter Try.func72, Try.ntmps72
  go_wp2_with fail
  go_region_law_o (refine step_append_room rfl (.tmp 22) (.tmp 25) 26 rfl 29 _ 4 Try.underlying26 Try.type29 rfl g 0 n cap (by simp [Act.eval, Act.put]) A (N - j) (cap - j) news (by simp [Act.eval, Act.put]) s1.out hsrc.out s2.out (by omega) s3.out ?_; rw [← hW.out])
  go_wp2
  go_ret
  have hj := hj'.out
  obtain ⟨z1, z2, z3, z4, z5⟩ := X.out
  obtain ⟨hzl, hnews⟩ := Y.out
  have hlen : news.length = (N - j) * 4 := s1.out
  obtain ⟨y1, y2, y3, y4, y5⟩ := setCells_at zs ((n + (N - j)) * 4) z1
  have hl1 := setL_len news cs (0 + n * 4)
  refine ⟨by rw [show n + (N - j) = N - 1 by omega]; rfl, setL (setL cs (0 + n * 4) news) ((n + (N - j)) * 4) zs, y1, by rw [setL_len, setL_len], ?_, fun b hb => (y2 b hb).trans (z2 b hb), y3.trans z3, y4.trans z4, y5.trans z5⟩
  rw [← hnews]
  apply List.ext_getElem?
  intro t
  rw [List.getElem?_take]
  have hct : (cs.take (n * 4)).length = n * 4 := by rw [List.length_take]; omega
  by_cases h1 : t < (N - 1) * 4
  · rw [if_pos h1, setL_get _ _ _ _ (by rw [hl1]; omega), if_neg (by omega), setL_get _ _ _ _ (by omega)]
    by_cases h2 : t < n * 4
    · rw [if_neg (by omega), List.getElem?_append_left (by omega), List.getElem?_take, if_pos h2]
    · rw [if_pos (by omega), List.getElem?_append_right (by omega), hct, Nat.zero_add]
  · rw [if_neg h1, List.getElem?_eq_none (by rw [List.length_append, hct, hlen]; omega)]
theorem ltV_len (p : Lt × Value) : (ltV p).length = 4 := rfl
theorem fl_take : ∀ (ps : List (Lt × Value)) (n : Nat), (ps.flatMap ltV).take (n * 4) = (ps.take n).flatMap ltV
  | [], n => by simp
  | p :: ps, 0 => by simp
  | p :: ps, n + 1 => by
    rw [List.flatMap_cons, List.take_succ_cons, List.flatMap_cons, show (n + 1) * 4 = (ltV p).length + n * 4 by rw [ltV_len]; omega, List.take_length_add_append, fl_take ps n]
theorem fl_drop : ∀ (ps : List (Lt × Value)) (n : Nat), (ps.flatMap ltV).drop (n * 4) = (ps.drop n).flatMap ltV
  | [], n => by simp
  | p :: ps, 0 => by simp
  | p :: ps, n + 1 => by
    rw [List.flatMap_cons, List.drop_succ_cons, show (n + 1) * 4 = (ltV p).length + n * 4 by rw [ltV_len]; omega, List.drop_length_add_append, fl_drop ps n]
theorem fl_len : ∀ (ps : List (Lt × Value)), (ps.flatMap ltV).length = ps.length * 4
  | [] => rfl
  | p :: ps => by rw [List.flatMap_cons, List.length_append, fl_len ps, ltV_len, List.length_cons]; omega
theorem enc_each {I : Imm} : ∀ {ps : List (Lt × Value)}, All2 (RelD I) (ps.flatMap ltV) (cellsOf (encP ps)) → ∀ p ∈ ps, All2 (RelD I) (ltV p) [.int .i64 p.1.d, .bool p.1.bk, .bool p.1.bt, .opq p.2]
  | [], _, p, hp => by cases hp
  | q :: ps, h, p, hp => by
    have h' : All2 (RelD I) (Value.int .i64 q.1.d :: Value.bool q.1.bk :: Value.bool q.1.bt :: q.2 :: ps.flatMap ltV) (D.int .i64 q.1.d :: D.bool q.1.bk :: D.bool q.1.bt :: D.opq q.2 :: cellsOf (encP ps)) := h
    have t0 := h'.2
    have t4 : All2 (RelD I) (ps.flatMap ltV) (cellsOf (encP ps)) := ⟨by have := h'.1; simp only [List.length_cons] at this; omega, fun j u y hu hy => t0 (j + 4) u y hu hy⟩
    rcases List.mem_cons.1 hp with rfl | hp
    · exact .cons (t0 0 _ _ rfl rfl) (.cons (t0 1 _ _ rfl rfl) (.cons (t0 2 _ _ rfl rfl) (.cons (t0 3 _ _ rfl rfl) .nil)))
    · exact enc_each t4 p hp
theorem enc_all {I : Imm} : ∀ {ps : List (Lt × Value)}, (∀ p ∈ ps, All2 (RelD I) (ltV p) [.int .i64 p.1.d, .bool p.1.bk, .bool p.1.bt, .opq p.2]) → All2 (RelD I) (ps.flatMap ltV) (cellsOf (encP ps))
  | [], _ => .nil
  | p :: ps, h => All2.app (h p (List.mem_cons_self ..)) (enc_all (fun q hq => h q (List.mem_cons_of_mem _ hq)))
theorem enc_sub {I : Imm} {ps qs : List (Lt × Value)} (h : All2 (RelD I) (ps.flatMap ltV) (cellsOf (encP ps))) (ho : Ones (ps.flatMap ltV)) (hs : ∀ q ∈ qs, q ∈ ps) : All2 (RelD I) (qs.flatMap ltV) (cellsOf (encP qs)) ∧ Ones (qs.flatMap ltV) :=
  ⟨enc_all (fun q hq => enc_each h q (hs q hq)), fun u hu => by
    obtain ⟨q, hq, hu⟩ := List.mem_flatMap.1 hu
    exact ho u (List.mem_flatMap.2 ⟨q, hs q hq, hu⟩)⟩
/-- Deleting one letter of an own row. -/
theorem Delete_ct (ps : List (Lt × Value)) (R1 R2 : Rl) (n : Int) (hn : inB n ps.length = true) :
    Ct Try.prog 72 [.sl 0, i64 n, i64 (n + 1)] [.row 29 4 (encP ps), .abs R1, .abs R2] (Is2 (.sl 3) [.gone, .abs R1, .abs R2, .row 29 4 (encP (ps.eraseIdx n.toNat))]) := by
  have hb : 0 ≤ n ∧ n < ps.length := by unfold inB at hn; simpa using hn
  refine ⟨Try.call72, fun I ρ us L a b c w F hw => ?_⟩
  cases b with
  | @cons _ _ _ e0 _ h0 b =>
    cases b with
    | @cons _ _ _ e1 _ h1 b =>
      cases b with
      | @cons _ _ _ e2 _ h2 b =>
        cases b with
        | nil g =>
          obtain ⟨A, cp, us0, hk, hz, hus, hone, rfl⟩ := h0
          obtain ⟨d1, d2⟩ := enc_us hus
          rw [encP_len] at hk
          obtain ⟨u0, us1, rfl, p0, q0⟩ := a.uncons
          obtain ⟨u1, us2, rfl, p1, q1⟩ := q0.uncons
          obtain ⟨u2, us3, rfl, p2, q2⟩ := q1.uncons
          obtain rfl := q2.unnil
          obtain ⟨rfl, _⟩ := ra_int p1
          obtain ⟨rfl, _⟩ := ra_int p2
          cases p0 with
          | @sl _ A' n' c' p0 =>
            rw [hk] at p0
            simp only [Value.slice.injEq] at p0
            obtain ⟨rfl, rfl, rfl⟩ := p0
            rw [encP_len, d1] at hw
            have hw1 : HS I (Ent.row (.slice A ps.length cp) 29 4 ps.length (ps.flatMap ltV) :: ((e1 ++ (e2 ++ [])) ++ F)) w := by simpa using hw
            have hrow := hw1.ents _ (List.mem_cons_self ..)
            obtain ⟨hrl, hrow⟩ := hrow
            rcases hrow with ⟨_, hz0⟩ | ⟨gb, cap, cur, hsl, _, hgb, hc1, hc2, hc3, hc4⟩
            · omega
            · simp only [Value.slice.injEq] at hsl
              obtain ⟨rfl, _, rfl⟩ := hsl
              have hgb' : w.heap[gb]? = some (.cells cur.toList.toArray 29 (0, 0)) := by simpa using hgb
              have hdel := Delete_run ps.length cp gb n.toNat (n.toNat + 1) rfl cur.toList w hgb' hc1 hc2 (by simpa using hc3) (by omega) (by rw [hc4, ← d1]; exact fun u hu => hone u hu)
              rw [show ((n.toNat : Nat) : Int) = n by omega, show ((n.toNat + 1 : Nat) : Int) = n + 1 by omega] at hdel
              refine hdel.mono ?_
              rintro e w' ⟨rfl, cs2, k1, k2, k3, k4, k5, k6, k7⟩
              have hnl : n.toNat < ps.length := by omega
              have hel : (ps.eraseIdx n.toNat).length = ps.length - 1 := List.length_eraseIdx_of_lt hnl
              have hfl : (ps.eraseIdx n.toNat).flatMap ltV = cs2.take ((ps.length - 1) * 4) := by
                rw [k3, hc4, List.eraseIdx_eq_take_drop_succ, List.flatMap_append, fl_drop]
                have h4 : cur.toList.take (n.toNat * 4) = (ps.flatMap ltV).take (n.toNat * 4) := by
                  rw [← hc4, List.take_take, Nat.min_eq_left (by omega)]
                rw [h4, fl_take]
              have hs2 := HS.swap (e' := .row (.slice (some ⟨gb, 0, none⟩) (ps.length - 1) cp) 29 4 (ps.length - 1) ((ps.eraseIdx n.toNat).flatMap ltV)) (w' := w') hw1 (fun b _ hne => k4 b (fun e => hne (by rw [e]; rfl)))
                ⟨by rw [fl_len, hel], .inr ⟨gb, cp, cs2.toArray, rfl, Nat.zero_le _, k1, by omega, hc2, by rw [List.size_toArray, k2]; simpa using hc3, hfl.symm⟩⟩ (fun b hb => .inl hb) k5 k6 k7
              have hE := enc_us (I := I) (ps := ps) hus
              have hk3 : (if (3 : Nat) = 3 then Value.slice (some ⟨gb, 0, none⟩) (ps.length - 1) cp else ρ 3) = .slice (some ⟨gb, 0, none⟩) (encP (ps.eraseIdx n.toNat)).length cp := by rw [if_pos rfl, encP_len, hel]
              have hag : ∀ l, ρ l ≠ .nilFunc → (fun k => if k = 3 then Value.slice (some ⟨gb, 0, none⟩) (ps.length - 1) cp else ρ k) l = ρ l := by
                intro l hl
                show (if l = 3 then _ else _) = _
                rw [if_neg]
                rintro rfl
                exact hl (c 3 (Nat.le_refl _))
              have hcell : All2 (RelD I) ((ps.eraseIdx n.toNat).flatMap ltV) (cellsOf (encP (ps.eraseIdx n.toNat))) ∧ Ones ((ps.eraseIdx n.toNat).flatMap ltV) := by
                rw [d1] at hus hone
                exact enc_sub hus hone (fun p hp => List.mem_of_mem_eraseIdx hp)
              refine ⟨_, I, [] ++ (e1 ++ (e2 ++ ([Ent.row (.slice (some ⟨gb, 0, none⟩) (ps.length - 1) cp) 29 4 (ps.length - 1) ((ps.eraseIdx n.toNat).flatMap ltV)] ++ []))), rfl, Imm.le_refl _, ⟨fun k => if k = 3 then .slice (some ⟨gb, 0, none⟩) (ps.length - 1) cp else ρ k, .sl 3, _, .sl (c := cp) rfl, ?_, ?_, ?_, hag, rfl, rfl⟩, ?_⟩
              · exact .cons (rfl : ([] : List Ent) = []) (.cons (RelO.ren (o := .abs R1) h1 hag) (.cons (RelO.ren (o := .abs R2) h2 hag) (.cons ⟨_, cp, _, hk3, encP_one _, hcell.1, hcell.2, by rw [encP_len, hel]⟩ (.nil g))))
              · intro k hk
                have hk' : 4 ≤ k := hk
                show (if k = 3 then _ else ρ k) = _
                rw [if_neg (by omega)]
                exact c k (by show 3 ≤ k; omega)
              · show 3 ≤ 4; decide
              · refine hs2.perm ?_
                have p1 := List.perm_append_comm (l₁ := [Ent.row (.slice (some ⟨gb, 0, none⟩) (ps.length - 1) cp) 29 4 (ps.length - 1) ((ps.eraseIdx n.toNat).flatMap ltV)]) (l₂ := e1 ++ e2)
                have p2 := p1.append_right F
                simpa [List.append_assoc] using p2
end Go.Proofs.Ytidelnccggfmgaa.Rod

/- Roads: New, Take. -/
namespace Go.Proofs.Ytidelnccggfmgaa.Rod
open Go.V Go.Num
open Go.Eng (wr HS Imm Ent bytesV)
set_option maxRecDepth 100000
set_option maxHeartbeats 4000000
abbrev tookO (ps : List (Lt × Value)) (acc : List (Value × List UInt8)) (n : Int) : List V.Obj := [.vec 65 [.sl 4], .abs (inn (inP ps)), .abs (inn acc), .gone, .row 29 4 (encP (ps.eraseIdx n.toNat))]
theorem out_ct (ps : List (Lt × Value)) (acc : List (Value × List UInt8)) (n : Int) (x : Lt) (v : Value) (hp : ps.length ≤ 512) (hn : inB n ps.length = true) (hg : ps[n.toNat]? = some (x, v)) : Ct Try.prog 32 [.ptr 0 0, i64 n] (roadO ps acc) (Is2 (.d (ltO x v)) (tookO ps acc n)) := by
  have hl := encP_len ps
  have hb : 0 ≤ n ∧ n < ps.length := by unfold inB at hn; simpa using hn
  refine Ct.introF (E := E 25 4 [.cell 4 29] [] [] []) tab_ok Try.call32 Try.func32 rfl rfl rfl rfl rfl (fun hin => ?_)
  (conv => whnf); refine And.intro (by omega) ?_
  (conv => whnf); refine Idx.mk _ (encP_get hg) ?_
  (conv => whnf); refine And.intro (by omega) ?_
  (conv => whnf); refine (Delete_ct ps (inn (inP ps)) (inn acc) n hn).use ?_
  exact Is2.mk rfl
theorem take_ct (ps : List (Lt × Value)) (acc : List (Value × List UInt8)) (n : Int) (x : Lt) (v : Value) (hp : ps.length ≤ 512) (hn : inB n ps.length = true) (hg : ps[n.toNat]? = some (x, v)) : Ct Try.prog 15 [.ptr 0 0, i64 n] (roadO ps acc) (Is2 (.tup [.d (ltO x v), i64 0]) (tookO ps acc n)) := by
  have hA := at_ct ps acc n
  rw [if_pos hn] at hA
  refine Ct.introF (E := E 19 4 [.cell 4 29, .tmp 5] [] [] []) tab_ok Try.call15 Try.func15 rfl rfl rfl rfl rfl (fun hin => ?_)
  (conv => whnf); refine (hA).use ?_
  (conv => whnf); refine (out_ct ps acc n x v hp hn hg).use ?_
  exact Is2.mk rfl
abbrev ltZ : D := .agg [.int .i64 0, .bool false, .bool false, .nils]
theorem takeNo_ct (ps : List (Lt × Value)) (acc : List (Value × List UInt8)) (n : Int) (hn : inB n ps.length = false) : Ct Try.prog 15 [.ptr 0 0, i64 n] (roadO ps acc) (Is2 (.tup [.d ltZ, i64 7]) (roadO ps acc)) := by
  have hA := at_ct ps acc n
  rw [hn, if_neg (by simp)] at hA
  refine Ct.introF (E := E 19 4 [.cell 4 29, .tmp 5] [] [] []) tab_ok Try.call15 Try.func15 rfl rfl rfl rfl rfl (fun hin => ?_)
  (conv => whnf); refine (hA).use ?_
  exact Is2.mk rfl
theorem take0_ct (acc : List (Value × List UInt8)) (n : Int) : Ct Try.prog 15 [.ptr 0 0, i64 n] (roadN acc) (Is2 (.tup [.d ltZ, i64 7]) (roadN acc)) := by
  refine Ct.introF (E := E 19 3 [.cell 4 29, .tmp 5] [] [] []) tab_ok Try.call15 Try.func15 rfl rfl rfl rfl rfl (fun hin => ?_)
  (conv => whnf); refine (at0_ct acc n).use ?_
  exact Is2.mk rfl
theorem new_ct : Ct Try.prog 12 [] [] (Is2 (.ptr 0 0) [.vec 65 [.d .nils]]) := by
  refine Ct.introF (E := E 3 0 [.tmp 0] [] [] []) tab_ok Try.call12 Try.func12 rfl rfl rfl rfl rfl (fun hin => ?_)
  exact Is2.mk rfl
theorem New_ct : Ct Try.prog 12 [] [] (Is2 (.ptr 0 0) [.abs (roadR [])]) := by
  refine ⟨new_ct.call, fun I ρ us L a b c w F hw => (new_ct.run I ρ us L a b c w F hw).mono fun e w' ⟨v, I', L', he, hle, ⟨ρ', r, os', r1, r2, r3, r4, r5, h1, h2⟩, hs⟩ => ?_⟩
  subst h1; subst h2
  cases r2 with
  | cons ho hr =>
    cases hr with
    | nil g =>
      obtain ⟨b, us', hb, hus, hone, rfl⟩ := ho
      obtain ⟨u, us2, rfl, hu, hn⟩ := hus.uncons
      obtain rfl := hn.unnil
      cases hu with
      | d hu =>
        cases hu
        exact ⟨v, I', _, he, hle, ⟨ρ', _, [.abs (roadR [])], r1, .cons ⟨b, hb, .inl ⟨rfl, List.Perm.refl _⟩⟩ (.nil g), r3, r4, r5, rfl, rfl⟩, hs⟩
theorem perm_cut {α : Type} : ∀ {l : List α} {n : Nat} {x : α}, l[n]? = some x → l.Perm (l.eraseIdx n ++ [x])
  | [], n, x, h => by simp at h
  | a :: l, 0, x, h => by
    simp at h
    subst h
    have := List.perm_append_comm (l₁ := [a]) (l₂ := l)
    simpa using this
  | a :: l, n + 1, x, h => by
    have := perm_cut (l := l) (n := n) (x := x) (by simpa using h)
    simpa using List.Perm.cons a this
theorem fin_took {ps : List (Lt × Value)} {n : Int} {x : Lt} {v : Value} (hl : ps.length ≤ 512) (hb : ∀ p ∈ ps, okP p) (hg : ps[n.toNat]? = some (x, v)) : Fin (.tup [.d (ltD x), i64 0]) ((ps.eraseIdx n.toNat).map (·.1)) (.tup [.d (ltO x v), i64 0]) (tookO ps [] n) := by
  refine ⟨by show 3 ≤ 5; decide, fun I ρ u L F w hv h hw => ?_⟩
  have hin := (hb _ (List.mem_of_getElem? hg)).1
  cases h with
  | @cons _ _ _ e0 _ h0 h =>
    cases h with
    | @cons _ _ _ e1 _ h1 h =>
      cases h with
      | @cons _ _ _ e2 _ h2 h =>
        cases h with
        | @cons _ _ _ eg _ hgn h =>
          cases h with
          | @cons _ _ _ e3 _ h3 h =>
            cases h with
            | nil g =>
              obtain ⟨_, i1, i2⟩ := h1
              obtain ⟨_, j1, j2⟩ := h2
              obtain rfl : eg = [] := hgn
              have hpm := perm_cut hg
              obtain ⟨es, q1, q2, q3⟩ := pk (ins := inP ps) (ex := [(v, x.dat)]) h0 h3 (Nat.le_trans (List.length_eraseIdx_le _ _) hl) (fun p hp => (hb p (List.mem_of_mem_eraseIdx hp)).2.2) i1 (by
                have := hpm.map (fun p : Lt × Value => (p.2, p.1.dat))
                simpa [inP] using this)
              have hw2 : HS I ([(v, x.dat)].map innEnt ++ (es ++ F)) w := by
                refine hw.perm ?_
                have p1 : (e0 ++ (e1 ++ (e2 ++ ([] ++ (e3 ++ []))))).Perm (e0 ++ (e3 ++ (inP ps).map innEnt)) := by
                  rw [i2, j2]
                  refine List.Perm.append_left _ ?_
                  have p1 := List.perm_append_comm (l₁ := (inP ps).map innEnt) (l₂ := e3)
                  simpa [List.append_assoc] using p1
                have p2 := (p1.trans q3).append_right F
                refine p2.trans ?_
                have p3 := List.perm_append_comm (l₁ := es) (l₂ := [(v, x.dat)].map innEnt)
                have p4 := p3.append_right F
                simpa [List.append_assoc] using p4
              obtain ⟨I', hle, hr, hs⟩ := freeze_rows hw2 q2
              have hro := hr _ (List.mem_cons_self ..)
              refine ⟨I', es, hle, fun ρ2 => ?_, (roadR _).mono q1 hle, hs⟩
              cases hv with
              | @tup us _ htl hx =>
                match us, htl, hx with
                | [u0, u1], _, hx =>
                  have x0 := hx 0 u0 _ rfl rfl
                  have x1 := hx 1 u1 _ rfl rfl
                  cases x0 with
                  | d x0 =>
                    cases x1 with
                    | d x1 =>
                      obtain ⟨u3, rfl, _, hu3⟩ := agg4 x0
                      have hone : u3.oneCell' = true := by cases hu3; next h => exact h.2
                      obtain rfl : u3 = v := by cases hu3; rfl
                      refine .tup (us := [_, u1]) rfl (fun j u' y hj hy => ?_)
                      match j, hj, hy with
                      | 0, hj, hy => cases hj; cases hy; exact .d (mk4 hin hro hone)
                      | 1, hj, hy => cases hj; cases hy; exact .d (x1.mono hle)
                      | _ + 2, hj, hy => simp at hj
theorem Take_ct (ls : List Lt) (n : Int) (x : Lt) (hn : inB n ls.length = true) (hg : ls[n.toNat]? = some x) : Ct Try.prog 15 [.ptr 0 0, i64 n] [.abs (roadR ls)] (Is2 (.tup [.d (ltD x), i64 0]) [.abs (roadR (ls.eraseIdx n.toNat))]) := by
  refine Ct.roadF (ds := [.int .i64 n]) Try.call15 (fun h0 => ?_) (fun ps h1 h2 h3 => ?_)
  · subst h0; exact absurd hg (by simp)
  · subst h1
    rw [List.length_map] at hn
    rw [List.getElem?_map] at hg
    cases hq : ps[n.toNat]? with
    | none => rw [hq] at hg; cases hg
    | some q =>
      obtain ⟨y, v⟩ := q
      rw [hq] at hg
      obtain rfl : y = x := by simpa using hg
      refine (take_ct ps [] n y v h2 hn hq).mono ?_
      rintro r os ⟨rfl, rfl⟩
      have := fin_took h2 h3 hq
      have e : (ps.map (·.1)).eraseIdx n.toNat = (ps.eraseIdx n.toNat).map (·.1) := by
        rw [List.eraseIdx_eq_take_drop_succ, List.eraseIdx_eq_take_drop_succ, List.map_append, List.map_take, List.map_drop]
      rw [e]
      exact this
theorem TakeNo_ct (ls : List Lt) (n : Int) (hn : inB n ls.length = false) : Ct Try.prog 15 [.ptr 0 0, i64 n] [.abs (roadR ls)] (Is2 (.tup [.d ltZ, i64 7]) [.abs (roadR ls)]) := by
  have hz : ∀ (I : Imm) (ρ ρ2 : Nat → Value) (v : Value), RelA I ρ v (.tup [.d ltZ, i64 7]) → RelA I ρ2 v (.tup [.d ltZ, i64 7]) := by
    intro I ρ ρ2 v h
    cases h with
    | tup h1 h2 =>
      refine .tup h1 (fun j u y hu hy => ?_)
      have := h2 j u y hu hy
      match j, hy with
      | 0, hy => cases hy; cases this with | d t => exact .d t
      | 1, hy => cases hy; cases this with | d t => exact .d t
      | _ + 2, hy => simp at hy
  refine Ct.roadF (ds := [.int .i64 n]) Try.call15 (fun h0 => ?_) (fun ps h1 h2 h3 => ?_)
  · subst h0
    refine (take0_ct [] n).mono ?_
    rintro r os ⟨rfl, rfl⟩
    refine ⟨packs_nil.1, fun I ρ v L F w hv h hw => ?_⟩
    obtain ⟨es, q1, _, q3⟩ := packs_nil.2 I ρ L h
    exact ⟨I, es, Imm.le_refl _, fun ρ2 => hz _ _ _ _ hv, q1, hw.perm (by simpa using q3.append_right F)⟩
  · subst h1
    rw [List.length_map] at hn
    refine (takeNo_ct ps [] n hn).mono ?_
    rintro r os ⟨rfl, rfl⟩
    have hp := packs_same h2 (fun p hp => (h3 p hp).2.2)
    refine ⟨hp.1, fun I ρ v L F w hv h hw => ?_⟩
    obtain ⟨es, q1, _, q3⟩ := hp.2 I ρ L h
    exact ⟨I, es, Imm.le_refl _, fun ρ2 => hz _ _ _ _ hv, q1, hw.perm (by simpa using q3.append_right F)⟩
end Go.Proofs.Ytidelnccggfmgaa.Rod

/- Roads: a bit is turned. -/
namespace Go.Proofs.Ytidelnccggfmgaa.Rod
open Go.V Go.Num
open Go.Eng (wr HS Imm Ent Row Upd bytesV setCell_blk setCell_far)
set_option maxRecDepth 100000
set_option maxHeartbeats 4000000
/-- A letter's bytes lie in a block of their own. -/
def Hd2 (p : Lt × Value) : Prop := p.1.dat = [] ∨ ∃ g c, p.2 = .slice (some ⟨g, 0, none⟩) p.1.dat.length c
/-- A method's contract, of the road's parts, as one of the road. -/
theorem Ct.roadG {f : FuncId} {ds : List D} {R : AV} {ls ls' : List Lt} (hc : ∀ xs w, (callFunc f xs).run Try.prog w = .ok (.enter f xs) w)
    (h0 : ls = [] → Ct Try.prog f (.ptr 0 0 :: ds.map .d) (roadN []) (Fin R ls'))
    (h1 : ∀ ps, ps.map (·.1) = ls → ps.length ≤ 512 → (∀ p ∈ ps, okP p) → (∀ p ∈ ps, Hd2 p) → Ct Try.prog f (.ptr 0 0 :: ds.map .d) (roadO ps []) (Fin R ls')) :
    Ct Try.prog f (.ptr 0 0 :: ds.map .d) [.abs (roadR ls)] (Is2 R [.abs (roadR ls')]) := by
  refine ⟨hc, fun I ρ us L a b c w F hw => ?_⟩
  have hargs : ∀ ρ2 : Nat → Value, ρ2 0 = ρ 0 → All2 (RelA I ρ2) us (.ptr 0 0 :: ds.map .d) := by
    intro ρ2 h2
    obtain ⟨u, us', rfl, p1, p2⟩ := a.uncons
    refine .cons ?_ ⟨p2.1, fun j u y hu hy => ?_⟩
    · cases p1 with
      | ptr p1 => exact .ptr (by rw [h2]; exact p1)
    · have := p2.2 j u y hu hy
      rw [List.getElem?_map] at hy
      cases hd : ds[j]? with
      | none => rw [hd] at hy; cases hy
      | some x => rw [hd] at hy; simp at hy; subst hy; cases this with | d this => exact .d this
  have fin : ∀ {ρ2 : Nat → Value} {e : Ending} {w' : World}, ρ2 0 = ρ 0 → (ρ 0 ≠ .nilFunc) → (∃ v I' L', e = .returned v ∧ I.le I' ∧ (∃ ρ' r os', RelA I' ρ' v r ∧ RelH I' ρ' (numb 0 os') L' ∧ (∀ k, os'.length ≤ k → ρ' k = .nilFunc) ∧ 3 ≤ os'.length ∧ (∀ l, ρ2 l ≠ .nilFunc → ρ' l = ρ2 l) ∧ Fin R ls' r os') ∧ HS I' (L' ++ F) w') →
      ∃ v I' L', e = .returned v ∧ I.le I' ∧ (∃ ρ' r os', RelA I' ρ' v r ∧ RelH I' ρ' (numb 0 os') L' ∧ (∀ k, os'.length ≤ k → ρ' k = .nilFunc) ∧ 1 ≤ os'.length ∧ (∀ l, ρ l ≠ .nilFunc → ρ' l = ρ l) ∧ Is2 R [.abs (roadR ls')] r os') ∧ HS I' (L' ++ F) w' := by
    rintro ρ2 e w' e2 hne ⟨v, I', L', rfl, hle, ⟨ρ', r, os', r1, r2, r3, r4, r5, hp⟩, hs⟩
    obtain ⟨I2, es, g0, g1, g2, g3⟩ := hp.2 I' ρ' v L' F w' r1 r2 hs
    have e3 : ρ' 0 = ρ 0 := by rw [r5 0 (by rw [e2]; exact hne), e2]
    rw [e3] at g2
    exact ⟨v, I2, es ++ [], rfl, hle.trans g0, ⟨ρ, R, [.abs (roadR ls')], g1 ρ, .cons g2 (.nil (r2.glob.mono g0)), c, Nat.le_refl _, fun _ _ => rfl, rfl, rfl⟩, by simpa using g3⟩
  cases b with
  | @cons _ _ _ es _ h b =>
    cases b with
    | nil g =>
      have hne : ρ 0 ≠ .nilFunc := (roadR ls).ne h
      obtain ⟨b, hb, h⟩ := h
      rcases h with ⟨hl, hp⟩ | ⟨sl, ps, hps, h512, hok, ⟨A, cp, hsl⟩, hp⟩
      · refine ((h0 hl).run I (fun k => if k = 0 then ρ 0 else if k ≤ 2 then .bool true else .nilFunc) us ([.blk b 65 [.slice none 0 0]] ++ ([] ++ ([] ++ []))) (hargs _ rfl) ?_ ?_ w F ?_).mono (fun e w' h => fin (ρ2 := fun k => if k = 0 then ρ 0 else if k ≤ 2 then .bool true else .nilFunc) rfl hne h)
        · refine .cons ⟨b, [.slice none 0 0], hb, .one (.d .nils), .one rfl, rfl⟩ (.cons ⟨rfl, (fun p hp => by cases hp), rfl⟩ (.cons ⟨rfl, (fun p hp => by cases hp), rfl⟩ (.nil g)))
        · intro k hk
          have hk' : 3 ≤ k := hk
          show (if k = 0 then ρ 0 else if k ≤ 2 then .bool true else .nilFunc) = Value.nilFunc
          rw [if_neg (by omega), if_neg (by omega)]
        · refine hw.perm (List.Perm.append_right F ?_)
          simpa using hp
      · have hd2 : ∀ p ∈ ps, Hd2 p := by
          intro p hp'
          have hm : innEnt (p.2, p.1.dat) ∈ es ++ [] ++ F := by
            rw [List.append_nil]
            refine List.mem_append_left _ (hp.mem_iff.2 ?_)
            unfold roadE
            refine List.mem_cons_of_mem _ (List.mem_cons_of_mem _ ?_)
            exact List.mem_map.2 ⟨(p.2, p.1.dat), List.mem_map.2 ⟨p, hp', rfl⟩, rfl⟩
          have hrow := (hw.ents _ hm).2
          rcases hrow with ⟨_, hz⟩ | ⟨g1, cap, cur, hv, _⟩
          · exact .inl (List.eq_nil_of_length_eq_zero hz)
          · exact .inr ⟨g1, cap, hv⟩
        refine ((h1 ps hps h512 hok hd2).run I (fun k => if k = 0 then ρ 0 else if k = 3 then sl else if k ≤ 3 then .bool true else .nilFunc) us ([.blk b 65 [sl]] ++ ((inP ps).map innEnt ++ ([] ++ ([.row sl 29 4 ps.length (ps.flatMap ltV)] ++ [])))) (hargs _ rfl) ?_ ?_ w F ?_).mono (fun e w' h => by
            refine fin (ρ2 := fun k => if k = 0 then ρ 0 else if k = 3 then sl else if k ≤ 3 then .bool true else .nilFunc) rfl hne ?_
            obtain ⟨v, I', L', h1, h2, ⟨ρ', r, os', r1, r2, r3, r4, r5⟩, h4⟩ := h
            exact ⟨v, I', L', h1, h2, ⟨ρ', r, os', r1, r2, r3, Nat.le_trans (show 3 ≤ 4 by decide) r4, r5⟩, h4⟩)
        · have h1 : (fun k => if k = 0 then ρ 0 else if k = 3 then sl else if k ≤ 3 then Value.bool true else .nilFunc) 3 = .slice A (encP ps).length cp := by rw [encP_len]; exact hsl
          obtain ⟨e1, e2⟩ := enc_rel (I := I) hok
          refine .cons ⟨b, [sl], hb, .one ?_, ?_, rfl⟩ (.cons ⟨rfl, fun p hp => ?_, rfl⟩ (.cons ⟨rfl, (fun p hp => by cases hp), rfl⟩ (.cons ⟨A, cp, ps.flatMap ltV, h1, encP_one ps, e1, e2, ?_⟩ (.nil g))))
          · rw [hsl]
            exact .sl (c := cp) rfl
          · exact .one (by rw [hsl]; rfl)
          · obtain ⟨q, hq, rfl⟩ := List.mem_map.1 hp
            exact (hok q hq).2.1
          · rw [encP_len, ← hsl]
        · intro k hk
          have hk' : 4 ≤ k := hk
          show (if k = 0 then ρ 0 else if k = 3 then sl else if k ≤ 3 then .bool true else .nilFunc) = Value.nilFunc
          rw [if_neg (by omega), if_neg (by omega), if_neg (by omega)]
        · refine hw.perm (List.Perm.append_right F ?_)
          have : (es ++ []).Perm (roadE b sl ps) := by simpa using hp
          refine this.trans ?_
          unfold roadE
          rw [List.append_nil, List.nil_append]
          show (_ :: _ :: _).Perm (_ :: _)
          refine List.Perm.cons _ ?_
          have p1 := List.perm_append_comm (l₁ := [Ent.row sl 29 4 ps.length (ps.flatMap ltV)]) (l₂ := (inP ps).map innEnt)
          simpa using p1
theorem bytesV_get {bs : List UInt8} {j : Nat} {b : UInt8} (h : bs[j]? = some b) : (bytesV bs)[j]? = some (.int .u8 b.toNat) := by
  show (List.map _ bs)[j]? = _
  rw [List.getElem?_map, h]; rfl
theorem bytesV_set (bs : List UInt8) (j : Nat) (b : UInt8) : bytesV (bs.set j b) = (bytesV bs).set j (.int .u8 b.toNat) := by
  show List.map _ _ = _
  rw [List.map_set]; rfl
/-- What lies in a row of bytes that is told by its header. -/
theorem load_inn {st : St} {K : AV → Prop} {l g c j : Nat} {P : List (Value × List UInt8)} {dat : List UInt8} {b : UInt8} (hl : lookO st.hp l = .abs (inn P)) (hP : (Value.slice (some ⟨g, 0, none⟩) dat.length c, dat) ∈ P) (hj : dat[j]? = some b)
    (k : K (.d (.int .u8 b.toNat))) : LoadO st ((⟨g, 0, none⟩ : Addr).add j) K := by
  refine .mk (.int .u8 b.toNat) (fun I ρ F fr L hs => ⟨.int .u8 b.toNat, fun w hw => ?_, .int (inr_u8 b)⟩) k
  obtain ⟨es, ho, hm⟩ := hs.obj l
  rw [hl] at ho
  obtain ⟨_, _, h3⟩ := ho
  have hme : innEnt (Value.slice (some ⟨g, 0, none⟩) dat.length c, dat) ∈ L := hm _ (by rw [h3]; exact List.mem_map.2 ⟨_, hP, rfl⟩)
  have hok : Row w 5 1 (.slice (some ⟨g, 0, none⟩) dat.length c) dat.length (bytesV dat) := hw.ents _ hme
  exact hok.cells rfl j _ (bytesV_get hj)
/-- A byte is put there. -/
theorem sto_inn {st : St} {K : St → Prop} {l g c j i : Nat} {P : List (Value × List UInt8)} {dat : List UInt8} {b : UInt8} (hl : lookO st.hp l = .abs (inn P)) (hP : P[i]? = some (Value.slice (some ⟨g, 0, none⟩) dat.length c, dat)) (hj : j < dat.length)
    (k : K ⟨st.fr, setO st.hp l (.abs (inn (P.set i (Value.slice (some ⟨g, 0, none⟩) dat.length c, dat.set j b)))), st.nx⟩) : StoO st ((⟨g, 0, none⟩ : Addr).add j) (.int .u8 b.toNat) K := by
  refine .mk _ (fun I ρ F fr L u hs hu => ?_) k
  obtain ⟨rfl, _⟩ := rd_int hu
  obtain ⟨M, es, R, rfl, ho, hk⟩ := hs.at hl (by simp)
  obtain ⟨h1, h2, rfl⟩ := ho
  have hi := (List.getElem?_eq_some_iff.1 hP).1
  have hPi := (List.getElem?_eq_some_iff.1 hP).2
  have hsplit : P = P.take i ++ (Value.slice (some ⟨g, 0, none⟩) dat.length c, dat) :: P.drop (i + 1) :=
    (List.take_append_drop i P).symm.trans (congrArg (P.take i ++ ·) ((List.drop_eq_getElem_cons hi).trans (congrArg (· :: P.drop (i + 1)) hPi)))
  have hset : P.set i (Value.slice (some ⟨g, 0, none⟩) dat.length c, dat.set j b) = P.take i ++ (Value.slice (some ⟨g, 0, none⟩) dat.length c, dat.set j b) :: P.drop (i + 1) := by
    rw [List.set_eq_take_append_cons_drop, if_pos hi]
  have hadd : (⟨g, 0, none⟩ : Addr).add j = ⟨g, j, none⟩ := by
    by_cases h0 : j = 0
    · rw [h0]; rfl
    · show (if j = 0 then _ else _) = _
      rw [if_neg h0]
      show Addr.mk g (0 + j) none = _
      rw [Nat.zero_add]
  have hres := hk (.abs (inn (P.set i (Value.slice (some ⟨g, 0, none⟩) dat.length c, dat.set j b)))) ((P.set i (Value.slice (some ⟨g, 0, none⟩) dat.length c, dat.set j b)).map innEnt) I ρ st.nx (Imm.le_refl _) (fun _ _ => rfl) hs.new ⟨h1, fun p hp => by
    rcases List.mem_or_eq_of_mem_set hp with hp | rfl
    · exact h2 p hp
    · exact ⟨some ⟨g, 0, none⟩, c, by show _ = Value.slice _ (dat.set j b).length c; rw [List.length_set]⟩, rfl⟩
  refine ⟨_, hres, fun w hw => ?_⟩
  rw [hadd]
  have hL : M ++ P.map innEnt ++ R = (M ++ (P.take i).map innEnt) ++ innEnt (Value.slice (some ⟨g, 0, none⟩) dat.length c, dat) :: ((P.drop (i + 1)).map innEnt ++ R) := by
    rw [congrArg (List.map innEnt) hsplit]; simp
  have hL' : M ++ (P.set i (Value.slice (some ⟨g, 0, none⟩) dat.length c, dat.set j b)).map innEnt ++ R = (M ++ (P.take i).map innEnt) ++ innEnt (Value.slice (some ⟨g, 0, none⟩) dat.length c, dat.set j b) :: ((P.drop (i + 1)).map innEnt ++ R) := by
    rw [hset]; simp
  rw [hL] at hw
  rw [hL']
  have hok : Row w 5 1 (.slice (some ⟨g, 0, none⟩) dat.length c) dat.length (bytesV dat) := hw.ents _ (List.mem_append_right _ (List.mem_cons_self ..))
  obtain ⟨k1, k2⟩ := hok
  rcases k2 with ⟨e, _⟩ | ⟨g', cap, cur, e, _, hg, c1, c2, c3, c4⟩
  · cases e
  · simp only [Value.slice.injEq, Option.some.injEq, Addr.mk.injEq, and_true, true_and] at e
    obtain ⟨rfl, rfl⟩ := e
    have hg' : w.heap[g]? = some (.cells cur.toList.toArray 5 (0, 0)) := by simpa using hg
    have hjc : j < cur.size := by omega
    refine ⟨⟨cur[j], by show (match w.heap[g]? with | some (.cells c _ _) => if (none : Option _).isSome then none else c[j]? | _ => none) = _; rw [hg]; exact Array.getElem?_eq_getElem hjc⟩, by show (match w.heap[g]? with | some (.cells _ _ (lo, hi)) => lo ≤ j && j < hi | _ => false) = _; rw [hg]; simp, ?_⟩
    refine hw.upd Upd.mid (fun c' _ hne => setCell_far (fun e => hne (by rw [e]; rfl)) j _) ⟨?_, .inr ⟨g, c, (cur.toList.set j (.int .u8 b.toNat)).toArray, ?_, Nat.zero_le _, setCell_blk hg' j _, ?_, c2, ?_, ?_⟩⟩ (fun c' hc => .inl hc) rfl rfl rfl
    · show (bytesV (dat.set j b)).length = (dat.set j b).length * 1
      rw [bytesV_set, List.length_set, List.length_set, k1]
    · show Value.slice _ dat.length c = Value.slice _ (dat.set j b).length c
      rw [List.length_set]
    · show (dat.set j b).length ≤ c
      rw [List.length_set]; exact c1
    · simpa using c3
    · show ((cur.toList.set j (.int .u8 b.toNat)).toArray).toList.take ((dat.set j b).length * 1) = bytesV (dat.set j b)
      rw [bytesV_set, ← c4, List.length_set]
      simp [List.take_set]
end Go.Proofs.Ytidelnccggfmgaa.Rod

/- Package prime and its reference: sums, differences, products, powers. -/
namespace Go.Proofs.Ytidelnccggfmgaa
open Go.V Go.Num
open Go.Eng (wr)
set_option maxRecDepth 100000
abbrev u64 (n : Int) : AV := .d (.int .u64 n)
abbrev i64 (n : Int) : AV := .d (.int .i64 n)
theorem shr_step {b : Int} (hb : 0 ≤ b) {i : Nat} : b / 2 ^ i = 2 * (b / 2 ^ (i + 1)) + (b / 2 ^ i) % 2 := by
  have : b / 2 ^ (i + 1) = (b / 2 ^ i) / 2 := by rw [Int.pow_succ, Int.ediv_ediv_of_nonneg (by exact Int.pow_nonneg (by decide))]
  omega
theorem bit_i {x : Int} (hx : 0 ≤ x) : (((x.toNat &&& (1 : Int).toNat : Nat) : Int)) = x % 2 := by
  have : x.toNat &&& (1 : Int).toNat = x.toNat % 2 := Nat.and_one_is_mod _
  rw [this]; omega
theorem wr_small {x : Int} (h : 0 ≤ x ∧ x < 18446744073709551616) : wr .u64 x = x := by simp only [wr]; omega
theorem dbl (x : Int) : wr .u64 (x % 2305843009213693951 + x % 2305843009213693951) % 2305843009213693951 = (2 * x) % 2305843009213693951 := by rw [wr_small (by omega)]; omega
theorem dbl1 (x a : Int) : wr .u64 (x % 2305843009213693951 + a % 2305843009213693951) % 2305843009213693951 = (x + a) % 2305843009213693951 := by rw [wr_small (by omega)]; omega
theorem and_low (k : Nat) {x : Int} (hx : 0 ≤ x) : ((x.toNat &&& (2 ^ k - 1) : Nat) : Int) = x % 2 ^ k := by
  rw [Nat.and_two_pow_sub_one_eq_mod]
  obtain ⟨n, rfl⟩ := Int.eq_ofNat_of_zero_le hx
  simp
theorem and32 {x : Int} (hx : 0 ≤ x) : ((x.toNat &&& (4294967295 : Int).toNat : Nat) : Int) = x % 4294967296 := and_low 32 hx
theorem andP {x : Int} (hx : 0 ≤ x) : ((x.toNat &&& (2305843009213693951 : Int).toNat : Nat) : Int) = x % 2305843009213693952 := and_low 61 hx
theorem mulB {x y : Int} (hx : 0 ≤ x ∧ x ≤ 4294967295) (hy : 0 ≤ y ∧ y ≤ 4294967295) : 0 ≤ x * y ∧ x * y ≤ 18446744065119617025 := by
  refine ⟨Int.mul_nonneg hx.1 hy.1, ?_⟩
  have h1 := Int.mul_le_mul_of_nonneg_right hx.2 hy.1
  have h2 : 4294967295 * y ≤ 4294967295 * 4294967295 := by omega
  omega
theorem p32 : (2 : Int) ^ min (Int.toNat 32) IntKind.u64.bits = 4294967296 := rfl
theorem mul64_pure {x0 x1 y0 y1 : Int} (hx0 : 0 ≤ x0 ∧ x0 ≤ 4294967295) (hx1 : 0 ≤ x1 ∧ x1 ≤ 4294967295) (hy0 : 0 ≤ y0 ∧ y0 ≤ 4294967295) (hy1 : 0 ≤ y1 ∧ y1 ≤ 4294967295) :
    wr .u64 (wr .u64 (wr .u64 (x1 * y1) + wr .u64 (wr .u64 (x1 * y0) + wr .u64 (x0 * y0) / 4294967296) / 4294967296) + wr .u64 (wr .u64 (wr .u64 (x1 * y0) + wr .u64 (x0 * y0) / 4294967296) % 4294967296 + wr .u64 (x0 * y1)) / 4294967296) =
      ((4294967296 * x1 + x0) * (4294967296 * y1 + y0)) / 18446744073709551616 := by
  have e : (4294967296 * x1 + x0) * (4294967296 * y1 + y0) = 18446744073709551616 * (x1 * y1) + 4294967296 * (x1 * y0 + x0 * y1) + x0 * y0 := by grind
  have b11 := mulB hx1 hy1; have b10 := mulB hx1 hy0; have b01 := mulB hx0 hy1; have b00 := mulB hx0 hy0
  rw [e]
  generalize x1 * y1 = p11 at *
  generalize x1 * y0 = p10 at *
  generalize x0 * y1 = p01 at *
  generalize x0 * y0 = p00 at *
  rw [wr_small (x := p11) (by omega), wr_small (x := p10) (by omega), wr_small (x := p00) (by omega), wr_small (x := p01) (by omega), wr_small (x := p10 + p00 / 4294967296) (by omega),
    wr_small (x := p11 + (p10 + p00 / 4294967296) / 4294967296) (by omega), wr_small (x := (p10 + p00 / 4294967296) % 4294967296 + p01) (by omega), wr_small (by omega)]
  omega
theorem p61 : (2 : Int) ^ min (Int.toNat 61) IntKind.u64.bits = 2305843009213693952 := rfl
theorem p58 : (2 : Int) ^ min (Int.toNat 58) IntKind.u64.bits = 288230376151711744 := rfl
theorem p3 : (2 : Int) ^ min (Int.toNat 3) IntKind.u64.bits = 8 := rfl
theorem or_low {a b : Int} (ha : 0 ≤ a ∧ a < 8) (hb : 0 ≤ b) : ((a.toNat ||| (8 * b).toNat : Nat) : Int) = a + 8 * b := by
  obtain ⟨m, rfl⟩ := Int.eq_ofNat_of_zero_le ha.1
  obtain ⟨n, rfl⟩ := Int.eq_ofNat_of_zero_le hb
  have h := Nat.shiftLeft_add_eq_or_of_lt (b := m) (i := 3) (by omega) n
  rw [Nat.shiftLeft_eq] at h
  have e1 : ((m : Int)).toNat = m := rfl
  have e2 : (8 * (n : Int)).toNat = n * 2 ^ 3 := by omega
  rw [e1, e2, Nat.or_comm, ← h]; omega
theorem whole_pure {hi lo : Int} (hh : 0 ≤ hi ∧ hi < 18446744073709551616) (hl : 0 ≤ lo ∧ lo < 18446744073709551616) : (lo % 2305843009213693952 + (lo / 2305843009213693952 + 8 * (hi % 2305843009213693952)) % 2305843009213693952 + hi / 288230376151711744) % 2305843009213693951 = (hi * 18446744073709551616 + lo) % 2305843009213693951 := by
  have h1 : (lo / 2305843009213693952 + 8 * (hi % 2305843009213693952)) % 2305843009213693952 = (lo / 2305843009213693952 + 8 * hi) % 2305843009213693952 := by omega
  have h2 : (lo / 2305843009213693952 + 8 * hi) / 2305843009213693952 = hi / 288230376151711744 := by omega
  have h3 : hi * 18446744073709551616 + lo = lo % 2305843009213693952 + 2305843009213693952 * (lo / 2305843009213693952 + 8 * hi) := by omega
  rw [h1, ← h2, h3]
  generalize lo / 2305843009213693952 + 8 * hi = q
  generalize lo % 2305843009213693952 = l
  have h4 : l + 2305843009213693952 * q = (l + q % 2305843009213693952 + q / 2305843009213693952) + 2305843009213693951 * (q % 2305843009213693952 + 2305843009213693953 * (q / 2305843009213693952)) := by omega
  rw [h4, Int.add_mul_emod_self_left]
end Go.Proofs.Ytidelnccggfmgaa

/- Package letter, in plain Lean: numbers as bytes, the check, sealed bytes. No function of the program is proved here. -/
namespace Go.Proofs.Ytidelnccggfmgaa.Let
open Go.V Go.Num
open Go.Eng (wr)
set_option maxRecDepth 100000
def bt (n : Int) (i : Nat) : UInt8 := UInt8.ofNat ((n / 2 ^ (8 * i)) % 256).toNat
def leB (n : Int) : Nat → List UInt8
  | 0 => []
  | k + 1 => leB n k ++ [bt n k]
theorem leB_len (n : Int) (k : Nat) : (leB n k).length = k := by
  induction k with
  | zero => rfl
  | succ k ih => simp [leB, ih]
theorem bt_val {n : Int} {i : Nat} (hi : i < 8) : wr .u8 (n / 2 ^ (min (8 * (i : Int)).toNat IntKind.u64.bits)) = ((bt n i).toNat : Int) := by
  have e : min (8 * (i : Int)).toNat IntKind.u64.bits = 8 * i := by
    have : IntKind.u64.bits = 64 := rfl
    omega
  rw [e]
  simp only [bt, wr]
  have h := Int.emod_nonneg (n / 2 ^ (8 * i)) (show (256 : Int) ≠ 0 by decide)
  have h2 := Int.emod_lt_of_pos (n / 2 ^ (8 * i)) (show (0 : Int) < 256 by decide)
  rw [UInt8.toNat_ofNat_of_lt' (by show _ < 256; omega)]
  omega
def crcBit (n : Nat) : Nat := if n % 2 = 1 then (n / 2) ^^^ 3988292384 else n / 2
def crcIt : Nat → Nat → Nat
  | 0, n => n
  | k + 1, n => crcBit (crcIt k n)
def crcStep (n : Nat) (c : UInt8) : Nat := crcIt 8 (n ^^^ c.toNat)
def crcL (bs : List UInt8) : Nat := bs.foldl crcStep 4294967295
def crc (bs : List UInt8) : Nat := 4294967295 - crcL bs
theorem crcBit_lt {n : Nat} (h : n < 4294967296) : crcBit n < 4294967296 := by
  unfold crcBit
  split
  · exact Nat.xor_lt_two_pow (n := 32) (by omega) (by decide)
  · omega
theorem crcIt_lt {n : Nat} (h : n < 4294967296) : ∀ k, crcIt k n < 4294967296
  | 0 => h
  | k + 1 => crcBit_lt (crcIt_lt h k)
theorem crcStep_lt {n : Nat} (h : n < 4294967296) (c : UInt8) : crcStep n c < 4294967296 :=
  crcIt_lt (Nat.xor_lt_two_pow (n := 32) h (Nat.lt_of_lt_of_le c.toNat_lt (by decide))) 8
theorem crcL_lt (bs : List UInt8) : crcL bs < 4294967296 := by
  unfold crcL
  have : ∀ (l : List UInt8) (n : Nat), n < 4294967296 → l.foldl crcStep n < 4294967296 := by
    intro l
    induction l with
    | nil => intro n h; exact h
    | cons c l ih => intro n h; exact ih _ (crcStep_lt h c)
  exact this bs _ (by decide)
theorem crcL_snoc (bs : List UInt8) (c : UInt8) : crcL (bs ++ [c]) = crcIt 8 (crcL bs ^^^ c.toNat) := by simp [crcL, crcStep]
theorem crcL_take {bs : List UInt8} {k : Nat} {c : UInt8} (h : bs[k]? = some c) : crcL (bs.take (k + 1)) = crcIt 8 (crcL (bs.take k) ^^^ c.toNat) := by
  rw [List.take_add_one, h]; exact crcL_snoc _ _
theorem crcBit_odd {m : Nat} (h : (((m : Int).toNat &&& (1 : Int).toNat : Nat) : Int) = 1) : (((((m : Int) / 2).toNat ^^^ (3988292384 : Int).toNat : Nat)) : Int) = (crcBit m : Nat) := by
  have e1 : m % 2 = 1 := by
    have h2 : ((m &&& 1 : Nat) : Int) = 1 := h
    rw [Nat.and_one_is_mod] at h2; omega
  have e2 : ((m : Int) / 2).toNat = m / 2 := by omega
  rw [e2, crcBit, if_pos e1]; rfl
theorem crcBit_even {m : Nat} (h : ¬ (((m : Int).toNat &&& (1 : Int).toNat : Nat) : Int) = 1) : ((m : Int) / 2) = (crcBit m : Nat) := by
  have e1 : ¬ m % 2 = 1 := by
    intro e
    apply h
    show ((m &&& 1 : Nat) : Int) = 1
    rw [Nat.and_one_is_mod]; omega
  rw [crcBit, if_neg e1]; omega
theorem u8_lt (c : UInt8) : c.toNat < 256 := c.toNat_lt
def takeB (rest : List UInt8) (e : Int) (n : Nat) : List UInt8 × List UInt8 × Int :=
  if e = 0 then (if rest.length < n then ([], rest, 3) else (rest.take n, rest.drop n, 0)) else ([], rest, e)
def numB : List UInt8 → Nat
  | [] => 0
  | b :: l => b.toNat + 256 * numB l
theorem numB_app (l : List UInt8) (b : UInt8) : numB (l ++ [b]) = numB l + b.toNat * 256 ^ l.length := by
  induction l with
  | nil => simp [numB]
  | cons a l ih => simp only [List.cons_append, numB, ih, List.length_cons, Nat.pow_succ]; grind
theorem numB_lt (l : List UInt8) : numB l < 256 ^ l.length := by
  induction l with
  | nil => simp [numB]
  | cons a l ih => have := u8_lt a; simp only [numB, List.length_cons, Nat.pow_succ]; omega
theorem numB_le (l : List UInt8) (h : l.length ≤ 8) : numB l ≤ 18446744073709551615 := by
  have h1 := numB_lt l
  have h2 : 256 ^ l.length ≤ 256 ^ 8 := Nat.pow_le_pow_right (by decide) h
  have h3 : (256 : Nat) ^ 8 = 18446744073709551616 := by decide
  omega
theorem numB_or {l : List UInt8} {b : UInt8} {k : Nat} (hk : l.length = k) (h8 : k < 8) :
    ((((numB l : Nat) : Int).toNat ||| (wr .u64 (((b.toNat : Nat) : Int) * 2 ^ (min ((8 : Int) * (k : Int)).toNat IntKind.u64.bits))).toNat : Nat) : Int) = ((numB (l ++ [b]) : Nat) : Int) := by
  have e : min ((8 : Int) * (k : Int)).toNat IntKind.u64.bits = 8 * k := by
    have : IntKind.u64.bits = 64 := rfl
    omega
  rw [e]
  have h1 : ((b.toNat : Nat) : Int) * 2 ^ (8 * k) = ((b.toNat * 2 ^ (8 * k) : Nat) : Int) := by simp
  have h2 : b.toNat * 2 ^ (8 * k) < 18446744073709551616 := by
    have hb := u8_lt b
    have : b.toNat * 2 ^ (8 * k) < 256 * 2 ^ (8 * k) := Nat.mul_lt_mul_of_pos_right hb (Nat.two_pow_pos _)
    have h3 : 256 * 2 ^ (8 * k) ≤ 256 * 2 ^ 56 := Nat.mul_le_mul_left _ (Nat.pow_le_pow_right (by decide) (by omega))
    have h4 : (256 : Nat) * 2 ^ 56 = 18446744073709551616 := by decide
    omega
  have h3 : (wr .u64 (((b.toNat : Nat) : Int) * 2 ^ (8 * k))).toNat = b.toNat * 2 ^ (8 * k) := by
    rw [h1]; simp only [wr]; omega
  rw [h3]
  have hl := numB_lt l
  rw [hk] at hl
  have h256 : (256 : Nat) ^ k = 2 ^ (8 * k) := by rw [Nat.pow_mul]
  rw [numB_app, hk, h256]
  rw [h256] at hl
  have h5 : b.toNat * 2 ^ (8 * k) = 2 ^ (8 * k) * b.toNat := Nat.mul_comm _ _
  show ((numB l ||| b.toNat * 2 ^ (8 * k) : Nat) : Int) = _
  rw [h5, Nat.or_comm, ← Nat.two_pow_add_eq_or_of_lt hl, Nat.add_comm]
theorem take_len (rest : List UInt8) (e : Int) (n : Nat) : (takeB rest e n).1.length ≤ n := by
  unfold takeB; split <;> (try split) <;> simp [List.length_take] <;> omega
theorem numB_lt32 {l : List UInt8} (h : l.length ≤ 4) : numB l < 4294967296 := by
  have h1 := numB_lt l
  have h3 : 256 ^ l.length ≤ 256 ^ 4 := Nat.pow_le_pow_right (by decide) h
  have h4 : (256 : Nat) ^ 4 = 4294967296 := by decide
  omega
def bytesB (rest : List UInt8) (e : Int) : List UInt8 × List UInt8 × Int :=
  takeB (takeB rest e 4).2.1 (takeB rest e 4).2.2 (numB (takeB rest e 4).1)
def endB (rest : List UInt8) (e : Int) : Int := if e = 0 ∧ 0 < rest.length then 2 else e
def openB (bs : List UInt8) : List UInt8 × Int :=
  if bs.length < 4 then ([], 3) else if 65540 < bs.length then ([], 6)
  else if crc (bs.take (bs.length - 4)) ≠ numB (bs.drop (bs.length - 4)) then ([], 2) else (bs.take (bs.length - 4), 0)
def sealB (bs : List UInt8) : List UInt8 := bs ++ leB (crc bs : Nat) 4
theorem sealB_len (bs : List UInt8) : (sealB bs).length = bs.length + 4 := by simp [sealB, leB_len]
theorem crc_lt (bs : List UInt8) : crc bs ≤ 4294967295 := by unfold crc; omega
def sealR (wide : Bool) (bs : List UInt8) : List UInt8 × Int := if wide = true then ([], 4) else if 65536 < bs.length then ([], 6) else (sealB bs, 0)
theorem bt_mod (n : Int) (i : Nat) (hi : i < 4) : bt (n % 4294967296) i = bt n i := by
  have : i = 0 ∨ i = 1 ∨ i = 2 ∨ i = 3 := by omega
  unfold bt
  rcases this with rfl | rfl | rfl | rfl <;> (congr 2; simp only [Nat.mul_zero, Nat.reduceMul]; omega)
theorem bt_div (n : Int) (i : Nat) : bt (n / 4294967296) i = bt n (i + 4) := by
  unfold bt
  rw [Int.ediv_ediv_of_nonneg (by decide), show (2 : Int) ^ (8 * (i + 4)) = 4294967296 * 2 ^ (8 * i) from by rw [Nat.mul_add, Int.pow_add, Int.mul_comm]; rfl]
theorem leB8 (n : Int) : leB (n % 4294967296) 4 ++ leB (n / 4294967296) 4 = leB n 8 := by
  simp only [leB, List.nil_append, List.cons_append, bt_mod _ _ (show 0 < 4 by decide), bt_mod _ _ (show 1 < 4 by decide), bt_mod _ _ (show 2 < 4 by decide), bt_mod _ _ (show 3 < 4 by decide), bt_div]
def refBit (n b : Nat) : Nat := if (2 * n ^^^ b * 4294967296) / 4294967296 = 1 then (2 * n ^^^ b * 4294967296) ^^^ 4374732215 else 2 * n ^^^ b * 4294967296
structure Turned (n s : Nat) : Prop where
  ln : n < 4294967296
  ls : s < 4294967296
  bits : ∀ i, i < 32 → n.testBit i = s.testBit (31 - i)
theorem poly_bits : ∀ i, i < 32 → (4374732215 : Nat).testBit i = (3988292384 : Nat).testBit (31 - i) := by decide
theorem crcBit_bits (x i : Nat) : (crcBit x).testBit i = (x.testBit (i + 1) ^^ (x.testBit 0 && (3988292384 : Nat).testBit i)) := by
  unfold crcBit
  have h0 : x.testBit 0 = decide (x % 2 = 1) := by rw [Nat.testBit_zero]
  rw [h0]
  split
  · next h => rw [Nat.testBit_xor, Nat.testBit_div_two]; simp [h]
  · next h => rw [Nat.testBit_div_two]; simp [h]
theorem dbl_bits (n i : Nat) : (2 * n).testBit i = (decide (1 ≤ i) && n.testBit (i - 1)) := by
  have := Nat.testBit_two_pow_mul (i := 1) (a := n) (j := i)
  simpa using this
theorem refBit_turned {n s b : Nat} (h : Turned n s) (hb : b < 2) : Turned (refBit n b) (crcBit (s ^^^ b)) := by
  have hm : 2 * n ^^^ b * 4294967296 < 8589934592 := Nat.xor_lt_two_pow (n := 33) (by have := h.ln; omega) (by omega)
  have hb0 : ∀ i, i < 32 → (b * 4294967296).testBit i = false := fun i hi => by
    rw [show b * 4294967296 = 2 ^ 32 * b from Nat.mul_comm _ _, Nat.testBit_two_pow_mul]; simp; omega
  have hb1 : ∀ i, (b.testBit (i + 1)) = false := fun i => Nat.testBit_lt_two_pow (Nat.lt_of_lt_of_le hb (by rw [Nat.pow_succ]; have := Nat.two_pow_pos i; omega))
  have hsb : s ^^^ b < 4294967296 := Nat.xor_lt_two_pow (n := 32) h.ls (by omega)
  have t32 : (2 * n ^^^ b * 4294967296).testBit 32 = (s ^^^ b).testBit 0 := by
    rw [Nat.testBit_xor, Nat.testBit_xor, show b * 4294967296 = 2 ^ 32 * b from Nat.mul_comm _ _, Nat.testBit_two_pow_mul, dbl_bits, h.bits 31 (by decide)]
    simp
  have hq : ((2 * n ^^^ b * 4294967296) / 4294967296 = 1) ↔ (2 * n ^^^ b * 4294967296).testBit 32 = true := by
    rw [Nat.testBit_eq_decide_div_mod_eq]; simp; omega
  have low : ∀ i, i < 32 → (refBit n b).testBit i = (crcBit (s ^^^ b)).testBit (31 - i) := by
    intro i hi
    rw [crcBit_bits, ← t32, ← poly_bits i hi]
    have e1 : (2 * n ^^^ b * 4294967296).testBit i = (s ^^^ b).testBit (31 - i + 1) := by
      rw [Nat.testBit_xor, hb0 i hi, Nat.testBit_xor, hb1, Bool.xor_false, Bool.xor_false, dbl_bits]
      cases i with
      | zero => rw [show decide (1 ≤ 0) = false from rfl, Bool.false_and]; exact (Nat.testBit_lt_two_pow (Nat.lt_of_lt_of_le h.ls (by decide))).symm
      | succ i => rw [Nat.add_sub_cancel, h.bits i (by omega)]; simp; congr 1; omega
    unfold refBit
    split
    · next hc => rw [Nat.testBit_xor, e1, hq.1 hc]; simp
    · next hc => rw [e1]; rw [hq] at hc; simp [hc]
  refine ⟨?_, crcBit_lt hsb, low⟩
  refine Nat.lt_pow_two_of_testBit (n := 32) _ fun i hi => ?_
  unfold refBit
  split
  · next hc =>
    rw [Nat.testBit_xor]
    by_cases h2 : i = 32
    · subst h2; rw [hq.1 hc]; decide
    · rw [Nat.testBit_lt_two_pow (Nat.lt_of_lt_of_le hm (Nat.pow_le_pow_right (by decide : 0 < 2) (show 33 ≤ i by omega))), Nat.testBit_lt_two_pow (Nat.lt_of_lt_of_le (by decide : (4374732215 : Nat) < 2 ^ 33) (Nat.pow_le_pow_right (by decide) (by omega)))]; rfl
  · next hc =>
    refine Nat.testBit_lt_two_pow (Nat.lt_of_lt_of_le ?_ (Nat.pow_le_pow_right (n := 2) (by decide) hi))
    omega
def bq (x : UInt8) (k : Nat) : Nat := x.toNat / 2 ^ k % 2
theorem bq_lt (x : UInt8) (k : Nat) : bq x k < 2 := Nat.mod_lt _ (by decide)
def refB (n : Nat) (x : UInt8) : Nat → Nat
  | 0 => n
  | k + 1 => refBit (refB n x k) (bq x k)
def crcB (s : Nat) (x : UInt8) : Nat → Nat
  | 0 => s
  | k + 1 => crcBit (crcB s x k ^^^ bq x k)
theorem turned_byte {n s : Nat} (h : Turned n s) (x : UInt8) : ∀ k, Turned (refB n x k) (crcB s x k)
  | 0 => h
  | k + 1 => refBit_turned (turned_byte h x k) (bq_lt x k)
theorem crcBit_lin (a y : Nat) : crcBit (a ^^^ 2 * y) = crcBit a ^^^ y := by
  apply Nat.eq_of_testBit_eq
  intro i
  rw [Nat.testBit_xor, crcBit_bits, crcBit_bits, Nat.testBit_xor, Nat.testBit_xor, dbl_bits, dbl_bits, Nat.add_sub_cancel, show decide (1 ≤ 0) = false from rfl, show decide (1 ≤ i + 1) = true from by simp]
  cases a.testBit (i + 1) <;> cases a.testBit 0 <;> cases y.testBit i <;> cases Nat.testBit 3988292384 i <;> rfl
theorem bit_split (x k : Nat) : x / 2 ^ k = (x / 2 ^ k % 2) ^^^ 2 * (x / 2 ^ (k + 1)) := by
  apply Nat.eq_of_testBit_eq
  intro i
  have e : x / 2 ^ (k + 1) = x / 2 ^ k / 2 := by rw [Nat.pow_succ, Nat.div_div_eq_div_mul]
  rw [Nat.testBit_xor, dbl_bits, e]
  generalize x / 2 ^ k = y
  cases i with
  | zero => rw [show decide (1 ≤ 0) = false from rfl, Bool.false_and, Bool.xor_false, Nat.testBit_zero, Nat.testBit_zero, Nat.mod_mod]
  | succ i =>
    rw [Nat.add_sub_cancel, Nat.testBit_div_two, show decide (1 ≤ i + 1) = true from by simp, Bool.true_and]
    have h2 := Nat.two_pow_pos i
    rw [Nat.testBit_lt_two_pow (x := y % 2) (i := i + 1) (by rw [Nat.pow_succ]; omega), Bool.false_xor]
theorem crcIt_byte (s : Nat) (x : UInt8) : ∀ k, crcIt k (s ^^^ x.toNat) = crcB s x k ^^^ (x.toNat / 2 ^ k)
  | 0 => by simp [crcIt, crcB]
  | k + 1 => by
    show crcBit (crcIt k (s ^^^ x.toNat)) = crcBit (crcB s x k ^^^ bq x k) ^^^ _
    rw [crcIt_byte s x k, bit_split x.toNat k, ← Nat.xor_assoc, crcBit_lin]; rfl
theorem crcIt_8 (s : Nat) (x : UInt8) : crcIt 8 (s ^^^ x.toNat) = crcB s x 8 := by
  have h := u8_lt x
  rw [crcIt_byte, show x.toNat / 2 ^ 8 = 0 from by omega, Nat.xor_zero]
theorem shr_nat (a : Nat) {k b : Nat} (h : k ≤ b) : (a : Int) / 2 ^ (min (k : Int).toNat b) = ((a / 2 ^ k : Nat) : Int) := by
  rw [Int.toNat_natCast, Nat.min_eq_left h]; simp
theorem xor33 (m r : Nat) : ((((m : Int) * 2).toNat ^^^ ((r : Int) * 4294967296).toNat : Nat) : Int) = ((2 * m ^^^ r * 4294967296 : Nat) : Int) := by
  have e1 : (m : Int) * 2 = ((2 * m : Nat) : Int) := by omega
  have e2 : (r : Int) * 4294967296 = ((r * 4294967296 : Nat) : Int) := by simp
  rw [e1, e2, Int.toNat_natCast, Int.toNat_natCast]
theorem and1 (q : Nat) : (((q : Int).toNat &&& (1 : Int).toNat : Nat) : Int) = ((q % 2 : Nat) : Int) := by
  show ((q &&& 1 : Nat) : Int) = _
  rw [Nat.and_one_is_mod]
theorem or1 (q r : Nat) : ((((q : Int) * 2).toNat ||| ((r % 2 : Nat) : Int).toNat : Nat) : Int) = ((2 * q + r % 2 : Nat) : Int) := by
  have e : ((q : Int) * 2).toNat = 2 * q := by omega
  rw [e, Int.toNat_natCast]
  have h := Nat.two_pow_add_eq_or_of_lt (i := 1) (b := r % 2) (Nat.mod_lt _ (by decide)) q
  rw [Nat.pow_one] at h
  rw [h]
theorem turned_next {n s i : Nat} (h : Turned n s) (hi : i < 32) : s / 2 ^ (32 - (i + 1)) = 2 * (s / 2 ^ (32 - i)) + n / 2 ^ i % 2 := by
  have e1 : s / 2 ^ (32 - i) = s / 2 ^ (31 - i) / 2 := by
    rw [show 32 - i = 31 - i + 1 from by omega, Nat.pow_succ, Nat.div_div_eq_div_mul]
  have e2 := h.bits i hi
  rw [Nat.testBit_eq_decide_div_mod_eq, Nat.testBit_eq_decide_div_mod_eq] at e2
  have e3 : n / 2 ^ i % 2 = s / 2 ^ (31 - i) % 2 := by
    have := decide_eq_decide.1 e2
    omega
  rw [e1, e3, show 32 - (i + 1) = 31 - i from by omega]
  omega
theorem numB_inj : ∀ (a b : List UInt8), a.length = b.length → numB a = numB b → a = b
  | [], [], _, _ => rfl
  | [], _ :: _, h, _ => by simp at h
  | _ :: _, [], h, _ => by simp at h
  | x :: a, y :: b, h, e => by
    simp only [numB] at e
    have hx := u8_lt x
    have hy := u8_lt y
    have h1 : x.toNat = y.toNat := by omega
    have h2 : numB a = numB b := by omega
    rw [UInt8.toNat_inj.1 h1, numB_inj a b (by simpa using h) h2]
theorem numB_leB (n : Nat) : ∀ k, numB (leB n k) = n % 256 ^ k
  | 0 => by simp [leB, numB]; omega
  | k + 1 => by
    simp only [leB]
    rw [numB_app, numB_leB n k, leB_len]
    have e : (bt n k).toNat = n / 256 ^ k % 256 := by
      unfold bt
      have h1 : (n : Int) / 2 ^ (8 * k) % 256 = ((n / 256 ^ k % 256 : Nat) : Int) := by
        rw [Nat.pow_mul (a := 2) (m := 8) (n := k) |> fun h => (by rw [show (256 : Nat) ^ k = 2 ^ (8 * k) from by rw [Nat.pow_mul]] : (256 : Nat) ^ k = 2 ^ (8 * k))]
        simp
      rw [h1, Int.toNat_natCast, UInt8.toNat_ofNat_of_lt' (by show _ < 256; exact Nat.mod_lt _ (by decide))]
    rw [e, Nat.pow_succ, Nat.mod_mul, Nat.mul_comm (n / 256 ^ k % 256)]
theorem numB_crc (bs : List UInt8) : numB (leB (crc bs : Nat) 4) = crc bs := by
  rw [numB_leB, Nat.mod_eq_of_lt (by have h1 := crc_lt bs; have h2 : (256 : Nat) ^ 4 = 4294967296 := (by decide); omega)]
theorem crcBit_inj {x y : Nat} (hx : x < 4294967296) (hy : y < 4294967296) (h : crcBit x = crcBit y) : x = y := by
  have hb : ∀ z, z < 4294967296 → (crcBit z).testBit 31 = z.testBit 0 := fun z hz => by
    rw [crcBit_bits, Nat.testBit_lt_two_pow (x := z) (i := 31 + 1) hz, show (3988292384 : Nat).testBit 31 = true from by decide]; simp
  have h0 : x.testBit 0 = y.testBit 0 := by rw [← hb x hx, ← hb y hy, h]
  apply Nat.eq_of_testBit_eq
  intro i
  cases i with
  | zero => exact h0
  | succ i =>
    have h1 := crcBit_bits x i
    rw [h, crcBit_bits y i, h0] at h1
    generalize (y.testBit 0 && Nat.testBit 3988292384 i) = t at h1
    generalize x.testBit (i + 1) = a at *
    generalize y.testBit (i + 1) = b at *
    cases a <;> cases b <;> cases t <;> first | rfl | exact h1 | exact h1.symm
theorem crcIt_inj {x y : Nat} (hx : x < 4294967296) (hy : y < 4294967296) : ∀ k, crcIt k x = crcIt k y → x = y
  | 0, h => h
  | k + 1, h => crcIt_inj hx hy k (crcBit_inj (crcIt_lt hx k) (crcIt_lt hy k) h)
theorem crcStep_inj {x y : Nat} (hx : x < 4294967296) (hy : y < 4294967296) {c : UInt8} (h : crcStep x c = crcStep y c) : x = y := by
  have hc := u8_lt c
  have h2 := crcIt_inj (Nat.xor_lt_two_pow (n := 32) hx (by omega)) (Nat.xor_lt_two_pow (n := 32) hy (by omega)) 8 h
  have h3 := congrArg (fun q => q ^^^ c.toNat) h2
  simpa [Nat.xor_assoc] using h3
theorem crcStep_ne {x : Nat} (hx : x < 4294967296) {c d : UInt8} (h : crcStep x c = crcStep x d) : c = d := by
  have hc := u8_lt c
  have hd := u8_lt d
  have h2 := crcIt_inj (Nat.xor_lt_two_pow (n := 32) hx (by omega)) (Nat.xor_lt_two_pow (n := 32) hx (by omega)) 8 h
  have h3 := congrArg (fun q => x ^^^ q) h2
  simp only [← Nat.xor_assoc, Nat.xor_self, Nat.zero_xor] at h3
  exact UInt8.toNat_inj.1 h3
theorem foldl_inj : ∀ (l : List UInt8) {x y : Nat}, x < 4294967296 → y < 4294967296 → l.foldl crcStep x = l.foldl crcStep y → x = y
  | [], _, _, _, _, h => h
  | c :: l, _, _, hx, hy, h => crcStep_inj hx hy (foldl_inj l (crcStep_lt hx c) (crcStep_lt hy c) h)
theorem foldl_set : ∀ (l : List UInt8) (i : Nat) (y : UInt8) {s : Nat}, s < 4294967296 → i < l.length → (l.set i y).foldl crcStep s = l.foldl crcStep s → l[i]? = some y
  | [], _, _, _, _, h, _ => by simp at h
  | c :: l, 0, y, s, hs, _, h => by
    have := foldl_inj l (crcStep_lt hs y) (crcStep_lt hs c) h
    rw [crcStep_ne hs this]; rfl
  | c :: l, i + 1, y, s, hs, hi, h => by
    have := foldl_set l i y (crcStep_lt hs c) (by simpa using hi) h
    simpa using this
theorem crc_set {l : List UInt8} {i : Nat} {y : UInt8} (hi : i < l.length) (h : crc (l.set i y) = crc l) : l[i]? = some y := by
  have h1 := crcL_lt l
  have h2 := crcL_lt (l.set i y)
  unfold crc at h
  exact foldl_set l i y (by decide) hi (show crcL (l.set i y) = crcL l by omega)
theorem open_bent {p : List UInt8} {i : Nat} {y : UInt8} (hp : p.length ≤ 65536) (hi : i < p.length + 4) (hy : (sealB p)[i]? ≠ some y) : openB ((sealB p).set i y) = ([], 2) := by
  have hl : ((sealB p).set i y).length = p.length + 4 := by rw [List.length_set, sealB_len]
  unfold openB
  rw [if_neg (by omega), if_neg (by omega), if_pos]
  rw [hl, Nat.add_sub_cancel]
  rcases Nat.lt_or_ge i p.length with h | h
  · have e1 : ((sealB p).set i y).take p.length = p.set i y := by
      unfold sealB
      rw [List.set_append_left _ _ h, List.take_append_of_le_length (by simp), List.take_of_length_le (by simp)]
    have e2 : ((sealB p).set i y).drop p.length = leB (crc p : Nat) 4 := by
      unfold sealB
      rw [List.set_append_left _ _ h, List.drop_append, List.drop_of_length_le (by simp)]
      simp
    rw [e1, e2, numB_crc]
    intro hc
    apply hy
    unfold sealB
    rw [List.getElem?_append_left h]
    exact crc_set h hc
  · have e1 : ((sealB p).set i y).take p.length = p := by
      unfold sealB
      rw [List.set_append_right _ _ h, List.take_append_of_le_length (Nat.le_refl _), List.take_of_length_le (Nat.le_refl _)]
    have e2 : ((sealB p).set i y).drop p.length = (leB (crc p : Nat) 4).set (i - p.length) y := by
      unfold sealB
      rw [List.set_append_right _ _ h, List.drop_append, List.drop_of_length_le (Nat.le_refl _)]
      simp
    rw [e1, e2]
    intro hc
    apply hy
    have hc2 : numB ((leB (crc p : Nat) 4).set (i - p.length) y) = numB (leB (crc p : Nat) 4) := by rw [numB_crc]; exact hc.symm
    have e3 := numB_inj _ _ (by simp) hc2
    have hi4 : i - p.length < (leB (crc p : Nat) 4).length := by rw [leB_len]; omega
    unfold sealB
    rw [List.getElem?_append_right h, ← e3, List.getElem?_set_self hi4]
def flip (x : UInt8) (k : Nat) : UInt8 := UInt8.ofNat (x.toNat ^^^ 2 ^ k)
theorem flip_val {x : UInt8} {k : Nat} (hk : k < 8) : (((x.toNat : Int).toNat ^^^ (wr .u8 ((1 : Int) * 2 ^ (min (k : Int).toNat IntKind.u8.bits))).toNat : Nat) : Int) = ((flip x k).toNat : Int) := by
  have h8 : IntKind.u8.bits = 8 := rfl
  have hx := u8_lt x
  have e : min (k : Int).toNat IntKind.u8.bits = k := by rw [h8, Int.toNat_natCast]; omega
  have hp : 2 ^ k < 256 := Nat.lt_of_lt_of_le (Nat.pow_lt_pow_right (by decide) hk) (by decide)
  have e2 : (wr .u8 ((1 : Int) * 2 ^ k)).toNat = 2 ^ k := by
    have : ((1 : Int) * 2 ^ k) = ((2 ^ k : Nat) : Int) := by simp
    rw [this]
    simp only [wr]
    generalize 2 ^ k = z at *
    omega
  rw [e, e2, Int.toNat_natCast]
  unfold flip
  rw [UInt8.toNat_ofNat_of_lt' (Nat.xor_lt_two_pow (n := 8) hx hp)]
theorem flip_ne {x : UInt8} {k : Nat} (hk : k < 8) : x ≠ flip x k := by
  intro h
  have hx := u8_lt x
  have hp : 2 ^ k < 256 := Nat.lt_of_lt_of_le (Nat.pow_lt_pow_right (by decide) hk) (by decide)
  have h2 := congrArg UInt8.toNat h
  unfold flip at h2
  rw [UInt8.toNat_ofNat_of_lt' (Nat.xor_lt_two_pow (n := 8) hx hp)] at h2
  have h3 := congrArg (fun q => x.toNat ^^^ q) h2
  simp only [← Nat.xor_assoc, Nat.xor_self, Nat.zero_xor] at h3
  have := Nat.two_pow_pos k
  omega
end Go.Proofs.Ytidelnccggfmgaa.Let

/- Roads: a bit is turned: the method. -/
namespace Go.Proofs.Ytidelnccggfmgaa.Rod
open Go.V Go.Num
open Go.Eng (wr HS Imm Ent bytesV)
set_option maxRecDepth 100000
set_option maxHeartbeats 4000000
theorem sto_inn' {st : St} {K : St → Prop} {l g c j i : Nat} {P : List (Value × List UInt8)} {dat : List UInt8} {b : UInt8} {z : Int} (hz : z = (b.toNat : Int)) (hl : lookO st.hp l = .abs (inn P)) (hP : P[i]? = some (Value.slice (some ⟨g, 0, none⟩) dat.length c, dat)) (hj : j < dat.length)
    (k : K ⟨st.fr, setO st.hp l (.abs (inn (P.set i (Value.slice (some ⟨g, 0, none⟩) dat.length c, dat.set j b)))), st.nx⟩) : StoO st ((⟨g, 0, none⟩ : Addr).add j) (.int .u8 z) K := by
  subst hz; exact sto_inn hl hP hj k
theorem bendNo_ct (ps : List (Lt × Value)) (acc : List (Value × List UInt8)) (n bit : Int) (hn : inB n ps.length = false) :
    Ct Try.prog 18 [.ptr 0 0, i64 n, i64 bit] (roadO ps acc) (Is2 (i64 7) (roadO ps acc)) := by
  have hA := at_ct ps acc n
  rw [hn, if_neg (by simp)] at hA
  refine Ct.introF (E := E 56 4 [.tmp 6] [] [] []) tab_ok Try.call18 Try.func18 rfl rfl rfl rfl rfl (fun hin => ?_)
  (conv => whnf); refine (hA).use ?_
  exact Is2.mk rfl
theorem bend0_ct (acc : List (Value × List UInt8)) (n bit : Int) : Ct Try.prog 18 [.ptr 0 0, i64 n, i64 bit] (roadN acc) (Is2 (i64 7) (roadN acc)) := by
  refine Ct.introF (E := E 56 3 [.tmp 6] [] [] []) tab_ok Try.call18 Try.func18 rfl rfl rfl rfl rfl (fun hin => ?_)
  (conv => whnf); refine (at0_ct acc n).use ?_
  exact Is2.mk rfl
theorem bendDone_ct (ps : List (Lt × Value)) (acc : List (Value × List UInt8)) (n bit : Int) (x : Lt) (v0 : Value) (hn : inB n ps.length = true) (hg : ps[n.toNat]? = some (x, v0)) (hb : x.bt = true) :
    Ct Try.prog 18 [.ptr 0 0, i64 n, i64 bit] (roadO ps acc) (Is2 (i64 17) (roadO ps acc)) := by
  have hA := at_ct ps acc n
  rw [if_pos hn] at hA
  have hl := encP_len ps
  have hn2 : 0 ≤ n ∧ n < ps.length := by unfold inB at hn; simpa using hn
  obtain ⟨xd, xk, xt, xs⟩ := x
  obtain rfl : xt = true := hb
  refine Ct.introF (E := E 56 4 [.tmp 6] [] [] []) tab_ok Try.call18 Try.func18 rfl rfl rfl rfl rfl (fun hin => ?_)
  (conv => whnf); refine (hA).use ?_
  (conv => whnf); refine And.intro (by omega) ?_
  (conv => whnf); refine Idx.mk _ (encP_get hg) ?_
  (conv => whnf); refine Idx.mk _ rfl ?_
  exact Is2.mk rfl
theorem bendRange_ct (ps : List (Lt × Value)) (acc : List (Value × List UInt8)) (n bit : Int) (x : Lt) (v0 : Value) (hn : inB n ps.length = true) (hg : ps[n.toNat]? = some (x, v0)) (hb : x.bt = false) (hv : ∃ A c, v0 = .slice A x.dat.length c) (hx : x.dat.length ≤ 1000000)
    (hr : bit < 0 ∨ 8 * (x.dat.length : Int) ≤ bit) :
    Ct Try.prog 18 [.ptr 0 0, i64 n, i64 bit] (roadO ps acc) (Is2 (i64 4) (roadO ps acc)) := by
  have hA := at_ct ps acc n
  rw [if_pos hn] at hA
  have hl := encP_len ps
  have hn2 : 0 ≤ n ∧ n < ps.length := by unfold inB at hn; simpa using hn
  obtain ⟨xd, xk, xt, xs⟩ := x
  obtain rfl : xt = false := hb
  obtain ⟨A, c, rfl⟩ := hv
  have hx' : xs.length ≤ 1000000 := hx
  have hr' : bit < 0 ∨ 8 * (xs.length : Int) ≤ bit := hr
  refine Ct.introF (E := E 56 4 [.tmp 6] [] [] []) tab_ok Try.call18 Try.func18 rfl rfl rfl rfl rfl (fun hin => ?_)
  (conv => whnf); refine (hA).use ?_
  (conv => whnf); refine And.intro (by omega) ?_
  (conv => whnf); refine Idx.mk _ (encP_get hg) ?_
  (conv => whnf); refine Idx.mk _ rfl ?_
  (conv => whnf); refine cond_d (fun h => ?_) (fun h => ?_)
  · exact Is2.mk rfl
  (conv => whnf); refine Idx.mk _ (encP_get hg) ?_
  (conv => whnf); refine Idx.mk _ rfl ?_
  (conv => whnf); refine And.intro (show xs.length ≤ 9223372036854775807 by omega) ?_
  (conv => whnf); refine And.intro (by first | omega | (dsimp only [List.length, cond]; omega) | (show (-9223372036854775808 : Int) ≤ _ ∧ _ ≤ (9223372036854775807 : Int); omega) | decide) ?_
  (conv => whnf); refine cond_d (fun h2 => ?_) (fun h2 => ?_)
  · exact Is2.mk rfl
  exfalso
  omega
theorem bendYes_ct (ps : List (Lt × Value)) (acc : List (Value × List UInt8)) (n bit : Int) (x : Lt) (g c : Nat) (hn : inB n ps.length = true) (hg : ps[n.toNat]? = some (x, .slice (some ⟨g, 0, none⟩) x.dat.length c)) (hb : x.bt = false) (hx : x.dat.length ≤ 1000000)
    (hr1 : 0 ≤ bit) (hr2 : bit < 8 * (x.dat.length : Int)) (y : UInt8) (hy : x.dat[bit.toNat / 8]? = some y) :
    Ct Try.prog 18 [.ptr 0 0, i64 n, i64 bit] (roadO ps acc) (Is2 (i64 0) (roadO (ps.set n.toNat ({ x with bt := true, dat := x.dat.set (bit.toNat / 8) (Let.flip y (bit.toNat % 8)) }, .slice (some ⟨g, 0, none⟩) x.dat.length c)) acc)) := by
  have hA := at_ct ps acc n
  rw [if_pos hn] at hA
  have hl := encP_len ps
  have hn2 : 0 ≤ n ∧ n < ps.length := by unfold inB at hn; simpa using hn
  obtain ⟨xd, xk, xt, xs⟩ := x
  obtain rfl : xt = false := hb
  have hx' : xs.length ≤ 1000000 := hx
  have hr2' : bit < 8 * (xs.length : Int) := hr2
  refine Ct.introF (E := E 56 4 [.tmp 6] [] [] []) tab_ok Try.call18 Try.func18 rfl rfl rfl rfl rfl (fun hin => ?_)
  (conv => whnf); refine (hA).use ?_
  (conv => whnf); refine And.intro (by omega) ?_
  (conv => whnf); refine Idx.mk _ (encP_get hg) ?_
  (conv => whnf); refine Idx.mk _ rfl ?_
  (conv => whnf); refine cond_d (fun h => ?_) (fun h => ?_)
  · exfalso; omega
  (conv => whnf); refine Idx.mk _ (encP_get hg) ?_
  (conv => whnf); refine Idx.mk _ rfl ?_
  (conv => whnf); refine And.intro (show xs.length ≤ 9223372036854775807 by omega) ?_
  (conv => whnf); refine And.intro (by first | omega | (dsimp only [List.length, cond]; omega) | (show (-9223372036854775808 : Int) ≤ _ ∧ _ ≤ (9223372036854775807 : Int); omega) | decide) ?_
  (conv => whnf); refine cond_d (fun h2 => ?_) (fun h2 => ?_)
  · exfalso; omega
  (conv => whnf); refine DrawI.mixF [⟨[(0, true, [8]), (1, true, [40]), (2, true, [41]), (3, true, [42]), (4, true, [2]), (5, true, [44]), (6, true, [43, 45]), (7, true, [46]), (8, true, [2]), (9, true, [48]), (10, true, [49]), (11, true, [47, 50]), (12, true, [43, 45])], [], some (13, [51, 52])⟩, ⟨[], [], none⟩] [] (by decide +kernel) ?_
  repeat (first | refine DrawO.mkF _ (And.intro rfl rfl) ?_ | refine DrawO.mkF _ (Idx.mk _ rfl (And.intro rfl rfl)) ?_ | refine And.intro rfl ?_)
  refine DrawO.mkF _ (Idx.mk _ (encP_get hg) (Idx.mk _ rfl (And.intro rfl rfl))) ?_
  repeat (first | refine DrawO.mkF _ (And.intro rfl rfl) ?_ | refine DrawO.mkF _ (Idx.mk _ rfl (And.intro rfl rfl)) ?_ | refine And.intro rfl ?_)
  refine DrawO.mkF _ (And.intro (by first | omega | (dsimp only [List.length, cond]; omega) | decide) (And.intro rfl rfl)) ?_
  repeat (first | refine DrawO.mkF _ (And.intro rfl rfl) ?_ | refine DrawO.mkF _ (Idx.mk _ rfl (And.intro rfl rfl)) ?_ | refine And.intro rfl ?_)
  refine DrawO.mkF _ (And.intro (show 0 ≤ bit / 8 ∧ bit / 8 < (xs.length : Int) from ⟨by omega, by omega⟩) (And.intro rfl rfl)) ?_
  have hmem : (Value.slice (some ⟨g, 0, none⟩) xs.length c, xs) ∈ inP ps := List.mem_map.2 ⟨_, List.mem_of_getElem? hg, rfl⟩
  have hj : xs[(bit / 8).toNat * 1]? = some y := by rw [show (bit / 8).toNat * 1 = bit.toNat / 8 by omega]; exact hy
  refine DrawO.mkF _ (load_inn (l := 1) rfl hmem hj (And.intro rfl rfl)) ?_
  repeat (first | refine DrawO.mkF _ (And.intro rfl rfl) ?_ | refine DrawO.mkF _ (Idx.mk _ rfl (And.intro rfl rfl)) ?_ | refine And.intro rfl ?_)
  refine DrawO.mkF _ (And.intro (by first | omega | (dsimp only [List.length, cond]; omega) | decide) (And.intro rfl rfl)) ?_
  repeat (first | refine DrawO.mkF _ (And.intro rfl rfl) ?_ | refine DrawO.mkF _ (Idx.mk _ rfl (And.intro rfl rfl)) ?_ | refine And.intro rfl ?_)
  refine DrawO.mkF _ (And.intro (by first | omega | (dsimp only [List.length, cond]; omega) | decide) (And.intro rfl rfl)) ?_
  repeat (first | refine DrawO.mkF _ (And.intro rfl rfl) ?_ | refine DrawO.mkF _ (Idx.mk _ rfl (And.intro rfl rfl)) ?_ | refine And.intro rfl ?_)
  refine DrawO.mkF _ (And.intro (show 0 ≤ bit / 8 ∧ bit / 8 < (xs.length : Int) from ⟨by omega, by omega⟩) (And.intro rfl rfl)) ?_
  repeat (first | refine DrawO.mkF _ (And.intro rfl rfl) ?_ | refine DrawO.mkF _ (Idx.mk _ rfl (And.intro rfl rfl)) ?_ | refine And.intro rfl ?_)
  (conv => whnf)
  have hz : ((((y.toNat : Int).toNat ^^^ (wr .u8 ((1 : Int) * 2 ^ (min (bit % 8).toNat IntKind.u8.bits))).toNat : Nat)) : Int) = ((Let.flip y (bit.toNat % 8)).toNat : Int) := by
    have := Let.flip_val (x := y) (k := bit.toNat % 8) (Nat.mod_lt _ (by decide))
    rw [show ((bit.toNat % 8 : Nat) : Int) = bit % 8 by omega] at this
    exact this
  have hP : (inP ps)[n.toNat]? = some (Value.slice (some ⟨g, 0, none⟩) xs.length c, xs) := by
    show (List.map _ ps)[n.toNat]? = _
    rw [List.getElem?_map, hg]; rfl
  refine sto_inn' (l := 1) (g := g) (c := c) (dat := xs) (i := n.toNat) (b := Let.flip y (bit.toNat % 8)) hz rfl hP (show (bit / 8).toNat * 1 < xs.length by omega) ?_
  (conv => whnf)
  (conv => whnf); refine Idx.mk _ (encP_get hg) ?_
  (conv => whnf)
  have e1 : inP (ps.set n.toNat (⟨xd, xk, true, xs.set (bit.toNat / 8) (Let.flip y (bit.toNat % 8))⟩, .slice (some ⟨g, 0, none⟩) xs.length c)) = (inP ps).set n.toNat (.slice (some ⟨g, 0, none⟩) xs.length c, xs.set ((bit / 8).toNat * 1) (Let.flip y (bit.toNat % 8))) := by
    show List.map _ _ = _
    rw [List.map_set, show (bit / 8).toNat * 1 = bit.toNat / 8 by omega]
  have e2 : encP (ps.set n.toNat (⟨xd, xk, true, xs.set (bit.toNat / 8) (Let.flip y (bit.toNat % 8))⟩, .slice (some ⟨g, 0, none⟩) xs.length c)) = (encP ps).set n.toNat (.agg [.int .i64 xd, .bool xk, .bool true, .opq (.slice (some ⟨g, 0, none⟩) xs.length c)]) := by
    show List.map _ _ = _
    rw [List.map_set]
  refine ⟨rfl, ?_⟩
  show [_, V.Obj.abs (inn (inP (ps.set n.toNat (⟨xd, xk, true, xs.set (bit.toNat / 8) (Let.flip y (bit.toNat % 8))⟩, .slice (some ⟨g, 0, none⟩) xs.length c)))), _, .row _ _ (encP (ps.set n.toNat (⟨xd, xk, true, xs.set (bit.toNat / 8) (Let.flip y (bit.toNat % 8))⟩, .slice (some ⟨g, 0, none⟩) xs.length c)))] = [_, .abs (inn ((inP ps).set n.toNat (.slice (some ⟨g, 0, none⟩) xs.length c, xs.set ((bit / 8).toNat * 1) (Let.flip y (bit.toNat % 8))))), _, .row _ _ ((encP ps).set n.toNat _)]
  rw [e1, e2]
  rfl
end Go.Proofs.Ytidelnccggfmgaa.Rod

/- Roads: Bend. -/
namespace Go.Proofs.Ytidelnccggfmgaa.Rod
open Go.V Go.Num
open Go.Eng (wr HS Imm Ent bytesV)
set_option maxRecDepth 100000
set_option maxHeartbeats 4000000
theorem Packs.fin {ls : List Lt} {os : List V.Obj} (hp : Packs ls [] os) (n : Int) : Fin (i64 n) ls (i64 n) os := by
  refine ⟨hp.1, fun I ρ v L F w hv h hw => ?_⟩
  obtain ⟨es, q1, _, q3⟩ := hp.2 I ρ L h
  refine ⟨I, es, Imm.le_refl _, fun ρ2 => ?_, q1, hw.perm (by simpa using q3.append_right F)⟩
  cases hv with | d hv => exact .d hv
/-- A letter of which a bit is turned. -/
abbrev bentL (x : Lt) (bit : Int) (y : UInt8) : Lt := { x with bt := true, dat := x.dat.set (bit.toNat / 8) (Let.flip y (bit.toNat % 8)) }
theorem BendNo_ct (ls : List Lt) (n bit : Int) (hn : inB n ls.length = false) : Ct Try.prog 18 [.ptr 0 0, i64 n, i64 bit] [.abs (roadR ls)] (Is2 (i64 7) [.abs (roadR ls)]) := by
  refine Ct.roadG (ds := [.int .i64 n, .int .i64 bit]) Try.call18 (fun h0 => ?_) (fun ps h1 h2 h3 _ => ?_)
  · subst h0
    refine (bend0_ct [] n bit).mono ?_
    rintro r os ⟨rfl, rfl⟩
    exact packs_nil.fin 7
  · subst h1
    rw [List.length_map] at hn
    refine (bendNo_ct ps [] n bit hn).mono ?_
    rintro r os ⟨rfl, rfl⟩
    exact (packs_same h2 (fun p hp => (h3 p hp).2.2)).fin 7
theorem got {ps : List (Lt × Value)} {n : Nat} {x : Lt} (h : (ps.map (·.1))[n]? = some x) : ∃ v, ps[n]? = some (x, v) := by
  rw [List.getElem?_map] at h
  cases hq : ps[n]? with
  | none => rw [hq] at h; cases h
  | some q => rw [hq] at h; obtain ⟨y, v⟩ := q; obtain rfl : y = x := by simpa using h
              exact ⟨v, rfl⟩
theorem BendDone_ct (ls : List Lt) (n bit : Int) (x : Lt) (hn : inB n ls.length = true) (hg : ls[n.toNat]? = some x) (hb : x.bt = true) : Ct Try.prog 18 [.ptr 0 0, i64 n, i64 bit] [.abs (roadR ls)] (Is2 (i64 17) [.abs (roadR ls)]) := by
  refine Ct.roadG (ds := [.int .i64 n, .int .i64 bit]) Try.call18 (fun h0 => ?_) (fun ps h1 h2 h3 _ => ?_)
  · subst h0; exact absurd hg (by simp)
  · subst h1
    rw [List.length_map] at hn
    obtain ⟨v, hq⟩ := got hg
    refine (bendDone_ct ps [] n bit x v hn hq hb).mono ?_
    rintro r os ⟨rfl, rfl⟩
    exact (packs_same h2 (fun p hp => (h3 p hp).2.2)).fin 17
theorem BendRange_ct (ls : List Lt) (n bit : Int) (x : Lt) (hn : inB n ls.length = true) (hg : ls[n.toNat]? = some x) (hb : x.bt = false) (hr : bit < 0 ∨ 8 * (x.dat.length : Int) ≤ bit) : Ct Try.prog 18 [.ptr 0 0, i64 n, i64 bit] [.abs (roadR ls)] (Is2 (i64 4) [.abs (roadR ls)]) := by
  refine Ct.roadG (ds := [.int .i64 n, .int .i64 bit]) Try.call18 (fun h0 => ?_) (fun ps h1 h2 h3 _ => ?_)
  · subst h0; exact absurd hg (by simp)
  · subst h1
    rw [List.length_map] at hn
    obtain ⟨v, hq⟩ := got hg
    obtain ⟨_, h4, h5⟩ := h3 _ (List.mem_of_getElem? hq)
    refine (bendRange_ct ps [] n bit x v hn hq hb h4 h5 hr).mono ?_
    rintro r os ⟨rfl, rfl⟩
    exact (packs_same h2 (fun p hp => (h3 p hp).2.2)).fin 4
theorem Bend_ct (ls : List Lt) (n bit : Int) (x : Lt) (y : UInt8) (hn : inB n ls.length = true) (hg : ls[n.toNat]? = some x) (hb : x.bt = false) (hr1 : 0 ≤ bit) (hr2 : bit < 8 * (x.dat.length : Int)) (hy : x.dat[bit.toNat / 8]? = some y) :
    Ct Try.prog 18 [.ptr 0 0, i64 n, i64 bit] [.abs (roadR ls)] (Is2 (i64 0) [.abs (roadR (ls.set n.toNat (bentL x bit y)))]) := by
  refine Ct.roadG (ds := [.int .i64 n, .int .i64 bit]) Try.call18 (fun h0 => ?_) (fun ps h1 h2 h3 h6 => ?_)
  · subst h0; exact absurd hg (by simp)
  · subst h1
    rw [List.length_map] at hn
    obtain ⟨v, hq⟩ := got hg
    have hm := List.mem_of_getElem? hq
    obtain ⟨_, h4, h5⟩ := h3 _ hm
    rcases h6 _ hm with h6 | ⟨g, c, h6⟩
    · exfalso
      have h7 : x.dat = [] := h6
      rw [h7] at hy; cases hy
    obtain rfl : v = .slice (some ⟨g, 0, none⟩) x.dat.length c := h6
    refine (bendYes_ct ps [] n bit x g c hn hq hb h5 hr1 hr2 y hy).mono ?_
    rintro r os ⟨rfl, rfl⟩
    have := packs_same (ps := ps.set n.toNat (bentL x bit y, .slice (some ⟨g, 0, none⟩) x.dat.length c)) (by rw [List.length_set]; exact h2) (fun p hp => by
      rcases List.mem_or_eq_of_mem_set hp with hp | rfl
      · exact (h3 p hp).2.2
      · show (x.dat.set _ _).length ≤ _
        rw [List.length_set]; exact h5)
    rw [List.map_set] at this
    exact this.fin 0
end Go.Proofs.Ytidelnccggfmgaa.Rod

/- Roads: the laws' helpers. -/
namespace Go.Proofs.Ytidelnccggfmgaa.Rod
open Go.V Go.Num
open Go.Eng (wr HS Imm Ent bytesV)
set_option maxRecDepth 100000
set_option maxHeartbeats 4000000
theorem same_ct (x y : Lt) (hx : x.dat.length ≤ 1000000) (hy : y.dat.length ≤ 1000000) : Ct Try.prog 16 [.d (ltD x), .d (ltD y)] [] (Is2 (.d (.bool (decide (x.d = y.d) && decide (x.bk = y.bk) && decide (x.bt = y.bt) && decide (x.dat = y.dat)))) []) := by
  refine Ct.introF (E := E 33 0 [.tmp 4] [] [] []) tab_ok Try.call16 Try.func16 rfl rfl rfl rfl rfl (fun hin => ?_)
  (conv => whnf); refine cond_d (fun h1 => ?_) (fun h1 => ?_)
  · (conv => whnf); refine cond_i (fun h2 => ?_) (fun h2 => ?_)
    · have h2' : x.bk = y.bk := by simpa using h2
      (conv => whnf); refine cond_i (fun h3 => ?_) (fun h3 => ?_)
      · have h3' : x.bt = y.bt := by simpa using h3
        (conv => whnf)
        refine Exists.intro x.dat (And.intro rfl ?_)
        (conv => whnf)
        refine Exists.intro y.dat (And.intro rfl ?_)
        refine isBool ?_
        rw [decide_eq_true h1, decide_eq_true h2', decide_eq_true h3']
        rfl
      · have h3' : ¬ x.bt = y.bt := by simpa using h3
        exact isBool (by rw [decide_eq_true h1, decide_eq_true h2', decide_eq_false h3']; rfl)
    · have h2' : ¬ x.bk = y.bk := by simpa using h2
      exact isBool (by rw [decide_eq_true h1, decide_eq_false h2']; rfl)
  · exact isBool (by rw [decide_eq_false h1]; rfl)
theorem ro_lent {I1 : Imm} {dat : List UInt8} {A : Option Addr} {cp : Nat} (c1 : ∀ (j : Nat) (u : Value), (bytesV dat)[j]? = some u → ∃ a, A = some a ∧ I1.cell (a.add j) = some u) (c2 : dat.length ≤ cp) (c3 : dat.length ≤ maxLen) : RelD I1 (.slice A dat.length cp) (.ro (bytesD dat)) := by
  refine .ro (sz := 1) (us := bytesV dat) (bD_len _) c2 c3 (bD_one _) c1 (by rw [bytesD_cells, bD_len]; exact List.length_map _) ?_ ?_
  · intro y hy
    obtain ⟨b, _, rfl⟩ := List.mem_map.1 hy
    rfl
  · intro j u' y hj hy
    rw [bytesD_cells] at hy
    have hj' : (dat.map fun b : UInt8 => Value.int .u8 b.toNat)[j]? = some u' := hj
    have hy' : (dat.map fun b : UInt8 => D.int .u8 b.toNat)[j]? = some y := hy
    rw [List.getElem?_map] at hj' hy'
    cases hb : dat[j]? with
    | none => rw [hb] at hj'; cases hj'
    | some b =>
      rw [hb] at hj' hy'
      simp at hj' hy'
      subst hj'; subst hy'
      exact .int (inr_u8 b)
/-- A letter whose bytes are an own row, lent. -/
theorem Ct.lent {f : FuncId} {d : Int} {bk bt : Bool} {dat : List UInt8} {ls ls' : List Lt} {k : Int} (hc : Ct Try.prog f [.ptr 0 0, .d (ltD ⟨d, bk, bt, dat⟩)] [.abs (roadR ls)] (Is2 (i64 k) [.abs (roadR ls')])) :
    Ct Try.prog f [.ptr 0 0, .agg [i64 d, .d (.bool bk), .d (.bool bt), .sl 1]] [.abs (roadR ls), .row 5 1 (bytesD dat)] (Is2 (i64 k) [.abs (roadR ls'), .row 5 1 (bytesD dat)]) := by
  refine ⟨hc.call, fun I ρ us L a b c w F hw => ?_⟩
  cases b with
  | @cons _ _ _ es1 _ h1 b =>
    cases b with
    | @cons _ _ _ es2 _ h2 b =>
      cases b with
      | nil g =>
        obtain ⟨u0, us1, rfl, a0, aa⟩ := a.uncons
        obtain ⟨u1, us2, rfl, a1, a2⟩ := aa.uncons
        obtain rfl := a2.unnil
        obtain ⟨A, cp, us, q1, q2, q3, q4, rfl⟩ := h2
        rw [bytesD_cells] at q3
        have hus := bytesD_all q3
        subst hus
        rw [bD_len] at q1
        rw [bD_len] at hw
        have hw1 : HS I ([Ent.row (.slice A dat.length cp) 5 1 dat.length (bytesV dat)] ++ (es1 ++ F)) w := by
          refine hw.perm ?_
          have := List.perm_append_comm (l₁ := es1) (l₂ := [Ent.row (.slice A dat.length cp) 5 1 dat.length (bytesV dat)])
          simpa [List.append_assoc] using this.append_right F
        obtain ⟨I1, hle1, hw2, hcell, hgive⟩ := HS.lend hw1 (fun e he => by rw [List.mem_singleton.1 he]; exact ⟨A, dat.length, cp, 5, 1, bytesV dat, rfl⟩)
        obtain ⟨c1, c2, c3⟩ := hcell _ _ _ _ _ _ (List.mem_singleton.2 rfl)
        have hro := ro_lent c1 c2 c3
        have ha1 : RelD I1 u1 (ltD ⟨d, bk, bt, dat⟩) := by
          cases a1 with
          | @agg us2 _ hl h1' hx =>
            match us2, hl, hx with
            | [w0, w1, w2, w3], _, hx =>
              have x0 := hx 0 w0 _ rfl rfl
              have x1 := hx 1 w1 _ rfl rfl
              have x2 := hx 2 w2 _ rfl rfl
              have x3 := hx 3 w3 _ rfl rfl
              cases x0 with
              | d x0 =>
                obtain ⟨rfl, hin⟩ := rd_int x0
                cases x1 with
                | d x1 =>
                  cases x1
                  cases x2 with
                  | d x2 =>
                    cases x2
                    cases x3 with
                    | sl x3 =>
                      rw [q1] at x3
                      simp only [Value.slice.injEq] at x3
                      obtain ⟨rfl, rfl, rfl⟩ := x3
                      exact mk4 hin hro rfl
        have hne : ρ 0 ≠ .nilFunc := (roadR ls).ne h1
        refine (hc.run I1 (fun k => if k = 0 then ρ 0 else .nilFunc) [u0, u1] (es1 ++ []) (.cons ?_ (.one (.d ha1))) (.cons h1 (.nil (g.mono hle1))) ?_ w F (by simpa using hw2)).mono ?_
        · cases a0 with | ptr h => exact .ptr h
        · intro k hk
          have hk' : 1 ≤ k := hk
          exact if_neg (by omega)
        · rintro e w' ⟨v, I', L', rfl, hle, ⟨ρ', r, os', r1, r2, r3, r4, r5, rfl, rfl⟩, hs⟩
          obtain ⟨I3, hle3, hs3⟩ := hgive I' _ w' hle hs
          have e0 : ρ' 0 = ρ 0 := r5 0 hne
          cases r2 with
          | @cons _ _ _ e1 _ o1 r2 =>
            cases r2 with
            | nil g2 =>
              refine ⟨v, I3, e1 ++ ([Ent.row (.slice A dat.length cp) 5 1 dat.length (bytesV dat)] ++ []), rfl, hle3, ⟨ρ, i64 k, [.abs (roadR ls'), .row 5 1 (bytesD dat)], ?_, ?_, c, Nat.le_refl _, fun _ _ => rfl, rfl, rfl⟩, ?_⟩
              · cases r1 with | d r1 => cases r1 with | int h => exact .d (.int h)
              · refine .cons (o := .abs (roadR ls')) (by show (roadR ls').rel I3 (ρ 0) e1; rw [← e0]; exact o1) (.cons ⟨A, cp, bytesV dat, ?_, q2, ?_, q4, ?_⟩ (.nil (g.mono hle3)))
                · rw [bD_len]; exact q1
                · rw [bytesD_cells]; exact ⟨q3.1, fun j u y hu hy => (q3.2 j u y hu hy).mono hle3⟩
                · rw [bD_len]
              · refine hs3.perm ?_
                have := (List.perm_append_comm (l₁ := [Ent.row (.slice A dat.length cp) 5 1 dat.length (bytesV dat)]) (l₂ := e1)).append_right F
                simpa [List.append_assoc] using this
end Go.Proofs.Ytidelnccggfmgaa.Rod

/- Roads: a fixed fact. -/
namespace Go.Proofs.Ytidelnccggfmgaa.Rod
open Go.V Go.Num
open Go.Eng (wr HS Imm Ent bytesV)
set_option maxRecDepth 100000
set_option maxHeartbeats 4000000
/-- What is left behind is let go. -/
theorem Ct.drop {P : Program} {f : FuncId} {vs : List AV} {d : D} (h : Ct P f vs [] (fun r _ => r = .d d)) : Ct P f vs [] (Is2 (.d d) []) := by
  refine ⟨h.call, fun I ρ us L a b c w F hw => (h.run I ρ us L a b c w F hw).mono ?_⟩
  rintro e w' ⟨v, I', L', he, hle, ⟨ρ', r, os', r1, r2, r3, r4, r5, rfl⟩, hs⟩
  cases b with
  | nil g =>
    refine ⟨v, I', [], he, hle, ⟨ρ, .d d, [], ?_, .nil (g.mono hle), c, Nat.le_refl _, fun _ _ => rfl, rfl, rfl⟩, hs.sublist (List.sublist_append_right _ _)⟩
    cases r1 with | d r1 => exact .d r1
theorem awake_ct : Ct Try.prog 13 [] [] (Is2 (.d (.bool true)) []) := by
  refine Ct.drop ?_
  have c1 := Ct.lent (Send_ct [] ⟨3, false, false, [1]⟩ (show 1 ≤ 1000000 by decide) (by decide))
  have c2 := Twin_ct [⟨3, false, false, [1]⟩] 0 ⟨3, false, false, [1]⟩ rfl rfl (by decide)
  have c3 := Bend_ct [⟨3, false, false, [1]⟩, ⟨3, false, false, [1]⟩] 1 2 ⟨3, false, false, [1]⟩ 1 rfl rfl rfl (by decide) (by decide) rfl
  have c4 := BendDone_ct [⟨3, false, false, [1]⟩, ⟨3, false, true, [5]⟩] 1 2 ⟨3, false, true, [5]⟩ rfl rfl rfl
  have c5 := Letters_ct [⟨3, false, false, [1]⟩, ⟨3, false, true, [5]⟩]
  have c6 := Take_ct [⟨3, false, false, [1]⟩, ⟨3, false, true, [5]⟩] 0 ⟨3, false, false, [1]⟩ rfl rfl
  have c7 := Letters_ct [⟨3, false, true, [5]⟩]
  refine Ct.introF (E := E 72 0 [.tmp 0] [] [] []) tab_ok Try.call13 Try.func13 rfl rfl rfl rfl rfl (fun hin => ?_)
  (conv => whnf); refine (New_ct).use ?_
  (conv => whnf); refine (c1).use ?_
  (conv => whnf); refine (c2).use ?_
  (conv => whnf); refine (c3).use ?_
  (conv => whnf); refine (c4).use ?_
  (conv => whnf); refine (c5).use ?_
  (conv => whnf); refine (c6).use ?_
  (conv => whnf); refine And.intro (by decide) ?_
  (conv => whnf); refine Idx.mk _ rfl ?_
  (conv => whnf); refine Idx.mk _ rfl ?_
  (conv => whnf); refine And.intro (by decide) ?_
  (conv => whnf); refine Idx.mk _ rfl ?_
  (conv => whnf); refine Idx.mk _ rfl ?_
  (conv => whnf); refine And.intro (by decide) ?_
  (conv => whnf); refine Idx.mk _ rfl ?_
  (conv => whnf); refine Idx.mk _ rfl ?_
  (conv => whnf); refine And.intro (by decide) ?_
  (conv => whnf); refine Idx.mk _ rfl ?_
  (conv => whnf); refine Idx.mk _ rfl ?_
  (conv => whnf); refine (c7).use ?_
  exact (And.intro rfl True.intro).1
/-- A call beside something that is told by a law of its own. -/
theorem Ct.beside {P : Program} {f : FuncId} {d : D} (ds : List D) (R : Rl) (h : Ct P f (ds.map .d) [] (Is2 (.d d) [])) : Ct P f (ds.map .d) [.abs R] (Is2 (.d d) [.abs R]) := by
  refine ⟨h.call, fun I ρ us L a b c w F hw => ?_⟩
  cases b with
  | @cons _ _ _ es _ h0 b =>
    cases b with
    | nil g =>
      refine (h.run I (fun _ => .nilFunc) us [] ⟨a.1, fun j u y hu hy => ?_⟩ (.nil g) (fun _ _ => rfl) w (es ++ F) (by simpa using hw)).mono ?_
      · have := a.2 j u y hu hy
        rw [List.getElem?_map] at hy
        cases hd : ds[j]? with
        | none => rw [hd] at hy; cases hy
        | some x => rw [hd] at hy; simp at hy; subst hy; cases this with | d this => exact .d this
      · rintro e w' ⟨v, I', L', he, hle, ⟨ρ', r, os', r1, r2, r3, r4, r5, rfl, rfl⟩, hs⟩
        refine ⟨v, I', es ++ [], he, hle, ⟨ρ, .d d, [.abs R], ?_, .cons (R.mono h0 hle) (.nil (g.mono hle)), c, Nat.le_refl _, fun _ _ => rfl, rfl, rfl⟩, ?_⟩
        · cases r1 with | d r1 => exact .d r1
        · cases r2 with
          | nil g2 => simpa using hs
theorem awakeB_ct (R : Rl) : Ct Try.prog 13 [] [.abs R] (Is2 (.d (.bool true)) [.abs R]) := Ct.beside [] R awake_ct
theorem sameB_ct (R : Rl) (x y : Lt) (hx : x.dat.length ≤ 1000000) (hy : y.dat.length ≤ 1000000) : Ct Try.prog 16 [.d (ltD x), .d (ltD y)] [.abs R] (Is2 (.d (.bool (decide (x.d = y.d) && decide (x.bk = y.bk) && decide (x.bt = y.bt) && decide (x.dat = y.dat)))) [.abs R]) :=
  Ct.beside [ltD x, ltD y] R (same_ct x y hx hy)
/-! ## A letter, as a law gets it -/
def toB (l : List Int) : List UInt8 := l.map fun n => UInt8.ofNat n.toNat
theorem toB_D {l : List Int} (h : ∀ x ∈ l, Eng.InR .u8 x) : l.map (D.int .u8) = bytesD (toB l) := by
  unfold toB bytesD
  rw [List.map_map]
  refine List.map_congr_left (fun x hx => ?_)
  have h1 : 0 ≤ x ∧ x ≤ 255 := h x hx
  show D.int .u8 x = D.int .u8 (((UInt8.ofNat x.toNat).toNat : Nat) : Int)
  rw [UInt8.toNat_ofNat_of_lt' (show x.toNat < 256 by omega)]
  congr 1; omega
def toLt (a : Int × Bool × Bool × List Int × Unit) : Lt := ⟨a.1, a.2.1, a.2.2.1, toB a.2.2.2.1⟩
theorem toLt_rel {I : Go.Eng.Imm} {v : Value} (a : Int × Bool × Bool × List Int × Unit) (hb : ∀ n ∈ a.2.2.2.1, Eng.InR .u8 n) (h : RelD I v (.agg [.int .i64 a.1, .bool a.2.1, .bool a.2.2.1, .ro (a.2.2.2.1.map (D.int .u8))])) : RelD I v (ltD (toLt a)) := by
  rw [show ltD (toLt a) = .agg [.int .i64 a.1, .bool a.2.1, .bool a.2.2.1, .ro (bytesD (toB a.2.2.2.1))] from rfl, ← toB_D hb]
  exact h
end Go.Proofs.Ytidelnccggfmgaa.Rod

/- Roads: letters as they are told, with rows of their own. -/
namespace Go.Proofs.Ytidelnccggfmgaa.Rod
open Go.V Go.Num
open Go.Eng (wr HS Imm Ent bytesV)
set_option maxRecDepth 100000
set_option maxHeartbeats 4000000
def FinQ (Q : AV → List V.Obj → Prop) (r : AV) (os : List V.Obj) : Prop := 3 ≤ os.length ∧ ∀ I ρ v L F w, RelA I ρ v r → RelH I ρ (numb 0 os) L → HS I (L ++ F) w → ρ 0 ≠ .nilFunc → ∃ I' ρ' r' os' L', I.le I' ∧ ρ' 0 = ρ 0 ∧ RelA I' ρ' v r' ∧ RelH I' ρ' (numb 0 os') L' ∧ (∀ k, os'.length ≤ k → ρ' k = .nilFunc) ∧ 1 ≤ os'.length ∧ Q r' os' ∧ HS I' (L' ++ F) w
/-- A method's contract, of the road's parts, as one of the road. -/
theorem Ct.roadH {f : FuncId} {ds : List D} {Q : AV → List V.Obj → Prop} {ls : List Lt} (hc : ∀ xs w, (callFunc f xs).run Try.prog w = .ok (.enter f xs) w) (h0 : ls ≠ [])
    (h1 : ∀ ps, ps.map (·.1) = ls → ps.length ≤ 512 → (∀ p ∈ ps, okP p) → Ct Try.prog f (.ptr 0 0 :: ds.map .d) (roadO ps []) (FinQ Q)) :
    Ct Try.prog f (.ptr 0 0 :: ds.map .d) [.abs (roadR ls)] Q := by
  refine ⟨hc, fun I ρ us L a b c w F hw => ?_⟩
  have hargs : ∀ ρ2 : Nat → Value, ρ2 0 = ρ 0 → All2 (RelA I ρ2) us (.ptr 0 0 :: ds.map .d) := by
    intro ρ2 h2
    obtain ⟨u, us', rfl, p1, p2⟩ := a.uncons
    refine .cons ?_ ⟨p2.1, fun j u y hu hy => ?_⟩
    · cases p1 with
      | ptr p1 => exact .ptr (by rw [h2]; exact p1)
    · have := p2.2 j u y hu hy
      rw [List.getElem?_map] at hy
      cases hd : ds[j]? with
      | none => rw [hd] at hy; cases hy
      | some x => rw [hd] at hy; simp at hy; subst hy; cases this with | d this => exact .d this
  have fin : ∀ {ρ2 : Nat → Value} {e : Ending} {w' : World}, ρ2 0 = ρ 0 → (ρ 0 ≠ .nilFunc) → (∃ v I' L', e = .returned v ∧ I.le I' ∧ (∃ ρ' r os', RelA I' ρ' v r ∧ RelH I' ρ' (numb 0 os') L' ∧ (∀ k, os'.length ≤ k → ρ' k = .nilFunc) ∧ 3 ≤ os'.length ∧ (∀ l, ρ2 l ≠ .nilFunc → ρ' l = ρ2 l) ∧ FinQ Q r os') ∧ HS I' (L' ++ F) w') →
      ∃ v I' L', e = .returned v ∧ I.le I' ∧ (∃ ρ' r os', RelA I' ρ' v r ∧ RelH I' ρ' (numb 0 os') L' ∧ (∀ k, os'.length ≤ k → ρ' k = .nilFunc) ∧ 1 ≤ os'.length ∧ (∀ l, ρ l ≠ .nilFunc → ρ' l = ρ l) ∧ Q r os') ∧ HS I' (L' ++ F) w' := by
    rintro ρ2 e w' e2 hne ⟨v, I', L', rfl, hle, ⟨ρ', r, os', r1, r2, r3, r4, r5, hp⟩, hs⟩
    have e3 : ρ' 0 = ρ 0 := by rw [r5 0 (by rw [e2]; exact hne), e2]
    obtain ⟨I2, ρ3, r', os3, L3, g0, g1, g2, g3, g4, g5, g6, g7⟩ := hp.2 I' ρ' v L' F w' r1 r2 hs (by rw [e3]; exact hne)
    refine ⟨v, I2, L3, rfl, hle.trans g0, ⟨ρ3, r', os3, g2, g3, g4, g5, fun l hl => ?_, g6⟩, g7⟩
    by_cases h : l = 0
    · rw [h, g1, e3]
    · exact absurd (c l (show 1 ≤ l by omega)) hl
  cases b with
  | @cons _ _ _ es _ h b =>
    cases b with
    | nil g =>
      have hne : ρ 0 ≠ .nilFunc := (roadR ls).ne h
      obtain ⟨b, hb, h⟩ := h
      rcases h with ⟨hl, hp⟩ | ⟨sl, ps, hps, h512, hok, ⟨A, cp, hsl⟩, hp⟩
      · exact absurd hl h0
      · refine ((h1 ps hps h512 hok).run I (fun k => if k = 0 then ρ 0 else if k = 3 then sl else if k ≤ 3 then .bool true else .nilFunc) us ([.blk b 65 [sl]] ++ ((inP ps).map innEnt ++ ([] ++ ([.row sl 29 4 ps.length (ps.flatMap ltV)] ++ [])))) (hargs _ rfl) ?_ ?_ w F ?_).mono (fun e w' h => by
            refine fin (ρ2 := fun k => if k = 0 then ρ 0 else if k = 3 then sl else if k ≤ 3 then .bool true else .nilFunc) rfl hne ?_
            obtain ⟨v, I', L', h1, h2, ⟨ρ', r, os', r1, r2, r3, r4, r5⟩, h4⟩ := h
            exact ⟨v, I', L', h1, h2, ⟨ρ', r, os', r1, r2, r3, Nat.le_trans (show 3 ≤ 4 by decide) r4, r5⟩, h4⟩)
        · have h1 : (fun k => if k = 0 then ρ 0 else if k = 3 then sl else if k ≤ 3 then Value.bool true else .nilFunc) 3 = .slice A (encP ps).length cp := by rw [encP_len]; exact hsl
          obtain ⟨e1, e2⟩ := enc_rel (I := I) hok
          refine .cons ⟨b, [sl], hb, .one ?_, ?_, rfl⟩ (.cons ⟨rfl, fun p hp => ?_, rfl⟩ (.cons ⟨rfl, (fun p hp => by cases hp), rfl⟩ (.cons ⟨A, cp, ps.flatMap ltV, h1, encP_one ps, e1, e2, ?_⟩ (.nil g))))
          · rw [hsl]
            exact .sl (c := cp) rfl
          · exact .one (by rw [hsl]; rfl)
          · obtain ⟨q, hq, rfl⟩ := List.mem_map.1 hp
            exact (hok q hq).2.1
          · rw [encP_len, ← hsl]
        · intro k hk
          have hk' : 4 ≤ k := hk
          show (if k = 0 then ρ 0 else if k = 3 then sl else if k ≤ 3 then .bool true else .nilFunc) = Value.nilFunc
          rw [if_neg (by omega), if_neg (by omega), if_neg (by omega)]
        · refine hw.perm (List.Perm.append_right F ?_)
          have : (es ++ []).Perm (roadE b sl ps) := by simpa using hp
          refine this.trans ?_
          unfold roadE
          rw [List.append_nil, List.nil_append]
          show (_ :: _ :: _).Perm (_ :: _)
          refine List.Perm.cons _ ?_
          have p1 := List.perm_append_comm (l₁ := [Ent.row sl 29 4 ps.length (ps.flatMap ltV)]) (l₂ := (inP ps).map innEnt)
          simpa using p1
/-- All letters, their bytes rows of their own. -/
theorem LettersO_ct (ls : List Lt) (h0 : ls ≠ []) : Ct Try.prog 19 [.ptr 0 0] [.abs (roadR ls)] (fun r os => ∃ qs : List (Lt × Value), qs.map (·.1) = ls ∧ (∀ q ∈ qs, Hd2 q) ∧ r = .sl 2 ∧ os = [.abs (roadR ls), .abs (inn (inP qs)), .row 29 4 (encP qs)]) := by
  refine Ct.roadH (ds := []) Try.call19 h0 (fun ps h1 h2 h3 => ?_)
  subst h1
  refine (letters_ct ps h2 h3).mono ?_
  rintro r os ⟨qs, q1, q2, rfl, rfl⟩
  refine ⟨by show 3 ≤ 5; decide, fun I ρ v L F w hv h hw hne => ?_⟩
  cases h with
  | @cons _ _ _ e0 _ h0' h =>
    cases h with
    | @cons _ _ _ e1 _ h1 h =>
      cases h with
      | @cons _ _ _ e2 _ h2' h =>
        cases h with
        | @cons _ _ _ e3 _ h3' h =>
          cases h with
          | @cons _ _ _ e4 _ h4' h =>
            cases h with
            | nil g =>
              obtain ⟨_, i1, i2⟩ := h1
              obtain ⟨es, k1, _, k3⟩ := pk (ins := inP ps) (ex := []) h0' h3' h2 (fun p hp => (h3 p hp).2.2) i1 (by rw [List.append_nil])
              have hd2 : ∀ q ∈ qs, Hd2 q := by
                intro q hq
                have hm : innEnt (q.2, q.1.dat) ∈ e0 ++ (e1 ++ (e2 ++ (e3 ++ (e4 ++ [])))) ++ F := by
                  refine List.mem_append_left _ (List.mem_append_right _ (List.mem_append_right _ (List.mem_append_left _ ?_)))
                  rw [h2'.2.2]
                  exact List.mem_map.2 ⟨_, List.mem_map.2 ⟨q, hq, rfl⟩, rfl⟩
                have hrow := (hw.ents _ hm).2
                rcases hrow with ⟨_, hz⟩ | ⟨g1, cap, cur, hv, _⟩
                · exact .inl (List.eq_nil_of_length_eq_zero hz)
                · exact .inr ⟨g1, cap, hv⟩
              obtain ⟨A, c, us4, hk, r1, r2, r3, rfl⟩ := h4'
              refine ⟨I, fun k => if k = 0 then ρ 0 else if k = 1 then ρ 2 else if k = 2 then ρ 4 else .nilFunc, .sl 2, [.abs (roadR (ps.map (·.1))), .abs (inn (inP qs)), .row 29 4 (encP qs)], es ++ (e2 ++ ([.row (.slice A (encP qs).length c) 29 4 (encP qs).length us4] ++ [])), Imm.le_refl _, rfl, ?_, ?_, ?_, ?_, ⟨qs, q1, hd2, rfl, rfl⟩, ?_⟩
              · cases hv with
                | sl hv => exact .sl hv
              · refine .cons ?_ (.cons ?_ (.cons ?_ (.nil g)))
                · exact k1
                · exact h2'
                · exact ⟨A, c, us4, hk, r1, r2, r3, rfl⟩
              · intro k hk
                have hk' : 3 ≤ k := hk
                show (if k = 0 then ρ 0 else if k = 1 then ρ 2 else if k = 2 then ρ 4 else .nilFunc) = Value.nilFunc
                rw [if_neg (by omega), if_neg (by omega), if_neg (by omega)]
              · show 1 ≤ 3; decide
              · refine hw.perm (List.Perm.append_right F ?_)
                have p1 : (e0 ++ (e3 ++ e1)).Perm es := by
                  have := k3
                  rw [← i2] at this
                  simpa using this
                have a1 : (e1 ++ (e2 ++ e3)).Perm (e3 ++ (e1 ++ e2)) := by
                  have := List.perm_append_comm (l₁ := e1 ++ e2) (l₂ := e3)
                  simpa [List.append_assoc] using this
                have a2 : (e0 ++ (e1 ++ (e2 ++ e3))).Perm ((e0 ++ (e3 ++ e1)) ++ e2) := by
                  have := List.Perm.append_left e0 a1
                  simpa [List.append_assoc] using this
                have a3 := (a2.trans (List.Perm.append_right e2 p1)).append_right [Ent.row (.slice A (encP qs).length c) 29 4 (encP qs).length us4]
                simpa [List.append_assoc] using a3
/-- A method's contract, beside something else. -/
theorem Ct.besides {f : FuncId} {ls ls' : List Lt} {d : D} (ds : List D) (S : Rl) (hc : Ct Try.prog f (.ptr 0 0 :: ds.map .d) [.abs (roadR ls)] (Is2 (.d d) [.abs (roadR ls')])) : Ct Try.prog f (.ptr 0 0 :: ds.map .d) [.abs (roadR ls), .abs S] (Is2 (.d d) [.abs (roadR ls'), .abs S]) := by
  refine ⟨hc.call, fun I ρ us L a b c w F hw => ?_⟩
  cases b with
  | @cons _ _ _ es1 _ h1 b =>
    cases b with
    | @cons _ _ _ es2 _ h2 b =>
      cases b with
      | nil g =>
        have hne : ρ 0 ≠ .nilFunc := (roadR ls).ne h1
        refine (hc.run I (fun k => if k = 0 then ρ 0 else .nilFunc) us (es1 ++ []) ?_ (.cons h1 (.nil g)) ?_ w (es2 ++ F) (by simpa using hw)).mono ?_
        · obtain ⟨u, us', rfl, p1, p2⟩ := a.uncons
          refine .cons ?_ ⟨p2.1, fun j u y hu hy => ?_⟩
          · cases p1 with
            | ptr p1 => exact .ptr p1
          · have := p2.2 j u y hu hy
            rw [List.getElem?_map] at hy
            cases hd : ds[j]? with
            | none => rw [hd] at hy; cases hy
            | some x => rw [hd] at hy; simp at hy; subst hy; cases this with | d this => exact .d this
        · intro k hk
          have hk' : 1 ≤ k := hk
          exact if_neg (by omega)
        · rintro e w' ⟨v, I', L', he, hle, ⟨ρ', r, os', r1, r2, r3, r4, r5, rfl, rfl⟩, hs⟩
          have e0 : ρ' 0 = ρ 0 := r5 0 hne
          cases r2 with
          | @cons _ _ _ e1 _ o1 r2 =>
            cases r2 with
            | nil g2 =>
              refine ⟨v, I', e1 ++ (es2 ++ []), he, hle, ⟨ρ, .d d, [.abs (roadR ls'), .abs S], ?_, .cons (o := .abs (roadR ls')) (by show (roadR ls').rel I' (ρ 0) e1; rw [← e0]; exact o1) (.cons (S.mono h2 hle) (.nil (g.mono hle))), c, Nat.le_refl _, fun _ _ => rfl, rfl, rfl⟩, by simpa using hs⟩
              cases r1 with | d r1 => exact .d r1
end Go.Proofs.Ytidelnccggfmgaa.Rod

/- Roads: what was sent may be written over, and what was told. -/
namespace Go.Proofs.Ytidelnccggfmgaa.Rod
open Go.V Go.Num
open Go.Eng (wr HS Imm Ent bytesV)
set_option maxRecDepth 100000
set_option maxHeartbeats 4000000
theorem load_innN {st : St} {K : AV → Prop} {l g c j n : Nat} {P : List (Value × List UInt8)} {dat : List UInt8} {b : UInt8} (hn : dat.length = n) (hl : lookO st.hp l = .abs (inn P)) (hP : (Value.slice (some ⟨g, 0, none⟩) n c, dat) ∈ P) (hj : dat[j]? = some b)
    (k : K (.d (.int .u8 b.toNat))) : LoadO st ((⟨g, 0, none⟩ : Addr).add j) K := by
  subst hn; exact load_inn hl hP hj k
theorem sto_innN {st : St} {K : St → Prop} {l g c j i n : Nat} {P : List (Value × List UInt8)} {dat : List UInt8} {b : UInt8} {z : Int} (hn : dat.length = n) (hz : z = (b.toNat : Int)) (hl : lookO st.hp l = .abs (inn P)) (hP : P[i]? = some (Value.slice (some ⟨g, 0, none⟩) n c, dat)) (hj : j < dat.length)
    (k : K ⟨st.fr, setO st.hp l (.abs (inn (P.set i (Value.slice (some ⟨g, 0, none⟩) n c, dat.set j b)))), st.nx⟩) : StoO st ((⟨g, 0, none⟩ : Addr).add j) (.int .u8 z) K := by
  subst hn; exact sto_inn' hz hl hP hj k
theorem xor255 (y : UInt8) : ((((y.toNat : Nat) : Int).toNat ^^^ Int.toNat 255 : Nat) : Int) = ((y ^^^ 255).toNat : Int) := by
  rw [Int.toNat_natCast, UInt8.toNat_xor]; rfl
theorem RoadOwn_ct (b : List UInt8) : Ct Try.prog 5 [.d (.ro (bytesD b))] [] (Is2 (.d (.bool true)) []) := by
  refine Ct.drop ?_
  refine Ct.introF (E := E 85 0 [.tmp 2] [] [(10, [0, 3, 4, 5, 6, 7])] []) tab_ok Try.call5 Try.func5 rfl rfl rfl rfl rfl (fun hin => ?_)
  have hbl := bD_len b
  (conv => whnf); refine (New_ct).use ?_
  (conv => whnf); refine (awakeB_ct _).use ?_
  (conv => whnf); refine cond_d (fun h1 => ?_) (fun h1 => ?_)
  · (conv => whnf); refine (awakeB_ct _).use ?_
    exact rfl
  have hb : b.length ≤ 2000 := by omega
  (conv => whnf)
  refine Exists.intro b (And.intro rfl ?_)
  (conv => whnf); refine And.intro ⟨by dsimp only [List.length]; omega, bD_one _⟩ ?_
  have c1 := Ct.lent (Send_ct [] ⟨0, false, false, b⟩ (show b.length ≤ 1000000 by omega) (by decide))
  (conv => whnf); refine (c1).use ?_
  have c2 := Twin_ct [⟨0, false, false, b⟩] 0 ⟨0, false, false, b⟩ rfl rfl (show 1 < 512 by decide)
  (conv => whnf); refine (c2).use ?_
  (conv => whnf)
  refine (LettersO_ct [⟨0, false, false, b⟩, ⟨0, false, false, b⟩] (by simp)).mono ?_
  rintro _ _ ⟨qs, q1, q2, rfl, rfl⟩
  obtain ⟨v0, v1, rfl⟩ : ∃ v0 v1, qs = [(⟨0, false, false, b⟩, v0), (⟨0, false, false, b⟩, v1)] := by
    match qs, q1 with
    | [(y0, v0), (y1, v1)], q1 =>
      simp only [List.map_cons, List.map_nil, List.cons.injEq, and_true] at q1
      exact ⟨v0, v1, by rw [q1.1, q1.2]⟩
  have hv0 := q2 _ (List.mem_cons_self ..)
  have hgo : b ≠ [] → ∃ g c, v0 = .slice (some ⟨g, 0, none⟩) b.length c := fun hne => by
    rcases hv0 with h | h
    · exact absurd h hne
    · exact h
  clear hv0 q2 q1
  (conv => whnf); refine LoopI.mk (fun q vs os => ∃ (i : Nat) (m d0 : List UInt8), vs = [.d (.ro (bytesD b)), .ptr 0 0, .d (.str b), .sl 1, .sl 2, i64 i] ∧ os = [.abs (roadR [⟨0, false, false, b⟩, ⟨0, false, false, b⟩]), .row 5 1 (bytesD m), .row 29 4 (encP [(⟨0, false, false, b⟩, v0), (⟨0, false, false, b⟩, v1)]), .abs (inn [(v0, d0), (v1, b)])] ∧
    m.length = b.length ∧ d0.length = b.length ∧ i ≤ b.length ∧ q = b.length - i) b.length ⟨0, b, b, rfl, rfl, rfl, rfl, Nat.zero_le _, rfl⟩ ?_
  rintro q _ _ ⟨i, m, d0, rfl, rfl, hm, hd, hi, rfl⟩
  have hml := bD_len m
  (conv => whnf); refine cond_d (fun h2 => ?_) (fun h2 => ?_)
  · obtain ⟨g, c, rfl⟩ := hgo (fun e => by rw [e] at hm; simp at hm; rw [hm] at h2; simp [bytesD] at h2; omega)
    have him : i < m.length := by omega
    obtain ⟨y, hy⟩ : ∃ y, m[i]? = some y := ⟨_, List.getElem?_eq_getElem him⟩
    obtain ⟨z, hz⟩ : ∃ z, d0[i]? = some z := ⟨_, List.getElem?_eq_getElem (show i < d0.length by omega)⟩
    have hgy : (bytesD m)[((i : Nat) : Int).toNat]? = some (D.int .u8 y.toNat) := by
      rw [Int.toNat_natCast]
      show (List.map _ m)[i]? = _
      rw [List.getElem?_map, hy]; rfl
    (conv => whnf); refine And.intro (by omega) ?_
    (conv => whnf); refine Idx.mk _ hgy ?_; try ((conv => whnf); refine Idx.mk _ rfl ?_)
    (conv => whnf)
    (conv => whnf); refine And.intro (by omega) ?_
    (conv => whnf); refine Idx.mk _ hgy ?_; try ((conv => whnf); refine Idx.mk _ rfl ?_)
    (conv => whnf); refine And.intro (show (0:Int) ≤ 0 ∧ (0:Int) < ((2:Nat):Int) from ⟨by omega, by omega⟩) ?_
    (conv => whnf); refine Idx.mk _ rfl ?_
    (conv => whnf); refine Idx.mk _ rfl ?_
    (conv => whnf)
    (conv => whnf); refine And.intro (show 0 ≤ (i : Int) ∧ (i : Int) < ((b.length : Nat) : Int) from ⟨by omega, by omega⟩) ?_
    (conv => whnf)
    refine load_innN (l := 3) hd rfl (List.mem_cons_self ..) (show d0[((i : Nat) : Int).toNat * 1]? = some z by rw [Int.toNat_natCast, Nat.mul_one]; exact hz) ?_
    (conv => whnf)
    (conv => whnf); refine And.intro (show 0 ≤ (i : Int) ∧ (i : Int) < ((b.length : Nat) : Int) from ⟨by omega, by omega⟩) ?_
    (conv => whnf)
    refine sto_innN (l := 3) (i := 0) (c := c) (dat := d0) (b := z ^^^ 255) hd (xor255 z) rfl rfl (show ((i : Nat) : Int).toNat * 1 < d0.length by rw [Int.toNat_natCast]; omega) ?_
    (conv => whnf); refine And.intro (by first | omega | (dsimp only [List.length, cond]; omega) | (show (-9223372036854775808 : Int) ≤ _ ∧ _ ≤ (9223372036854775807 : Int); omega) | decide) ?_
    (conv => whnf)
    have e : (bytesD m).set ((i : Nat) : Int).toNat (D.int .u8 ((((y.toNat : Nat) : Int).toNat ^^^ Int.toNat 255 : Nat) : Int)) = bytesD (m.set i (y ^^^ 255)) := by
      rw [Int.toNat_natCast i, xor255]
      unfold bytesD
      rw [List.map_set]
    refine ⟨b.length - (i + 1), by omega, i + 1, m.set i (y ^^^ 255), d0.set (((i : Nat) : Int).toNat * 1) (z ^^^ 255), rfl, ?_, by rw [List.length_set]; exact hm, by rw [List.length_set]; exact hd, by omega, rfl⟩
    show [_, V.Obj.row _ _ ((bytesD m).set ((i : Nat) : Int).toNat (D.int .u8 ((((y.toNat : Nat) : Int).toNat ^^^ Int.toNat 255 : Nat) : Int))), _, _] = [_, _, _, _]
    rw [e]
    rfl
  · clear hgo
    cases b with
    | nil =>
      have c3 := Ct.besides [.int .i64 0, .int .i64 0] (inn [(v0, d0), (v1, [])]) (BendRange_ct [⟨0, false, false, []⟩, ⟨0, false, false, []⟩] 0 0 ⟨0, false, false, []⟩ rfl rfl rfl (.inr (Int.le_refl _)))
      have c4 := Ct.besides [] (inn [(v0, d0), (v1, [])]) (Letters_ct [⟨0, false, false, []⟩, ⟨0, false, false, []⟩])
      (conv => whnf); refine (c3).use ?_
      (conv => whnf); refine (c4).use ?_
      (conv => whnf); refine And.intro (by decide) ?_
      (conv => whnf); refine Idx.mk _ rfl ?_
      (conv => whnf); refine Idx.mk _ rfl ?_
      (conv => whnf)
      refine Exists.intro ([]) (And.intro rfl ?_)
      (conv => whnf); refine And.intro (by decide) ?_
      (conv => whnf); refine Idx.mk _ rfl ?_
      (conv => whnf); refine Idx.mk _ rfl ?_
      (conv => whnf)
      refine Exists.intro ([]) (And.intro rfl ?_)
      exact rfl
    | cons y bs =>
      have c3 := Ct.besides [.int .i64 0, .int .i64 0] (inn [(v0, d0), (v1, y :: bs)]) (Bend_ct [⟨0, false, false, y :: bs⟩, ⟨0, false, false, y :: bs⟩] 0 0 ⟨0, false, false, y :: bs⟩ y rfl rfl rfl (Int.le_refl _) (by show (0 : Int) < 8 * ((bs.length + 1 : Nat) : Int); omega) rfl)
      have c4 := Ct.besides [] (inn [(v0, d0), (v1, y :: bs)]) (Letters_ct [⟨0, false, true, Let.flip y 0 :: bs⟩, ⟨0, false, false, y :: bs⟩])
      (conv => whnf); refine (c3).use ?_
      (conv => whnf); refine (c4).use ?_
      (conv => whnf); refine And.intro (by decide) ?_
      (conv => whnf); refine Idx.mk _ rfl ?_
      (conv => whnf); refine Idx.mk _ rfl ?_
      (conv => whnf)
      refine Exists.intro (y :: bs) (And.intro rfl ?_)
      (conv => whnf); refine cond_d (fun h5 => ?_) (fun h5 => absurd rfl h5)
      (conv => whnf); refine And.intro (by decide) ?_
      (conv => whnf); refine Idx.mk _ rfl ?_
      (conv => whnf); refine Idx.mk _ rfl ?_
      (conv => whnf)
      refine Exists.intro (Let.flip y 0 :: bs) (And.intro rfl ?_)
      (conv => whnf)
      have e1 : ¬ Let.flip y 0 :: bs = y :: bs := fun e => Let.flip_ne (x := y) (k := 0) (by decide) (by injection e with e _; exact e.symm)
      have e2 : ¬ (((bytesD (y :: bs)).length : Nat) : Int) = 0 := by rw [hbl]; show ¬ (((bs.length + 1 : Nat)) : Int) = 0; omega
      exact congrArg (fun b => AV.d (.bool b)) (by rw [decide_eq_false e1, decide_eq_false e2]; rfl)
end Go.Proofs.Ytidelnccggfmgaa.Rod
