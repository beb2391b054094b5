
import Derived.Test.YtdecipfdbkpigaaProg
import Derived.Test.YtdecipfdbkpigaaLetR
namespace Go.Proofs.Ytdecipfdbkpigaa
open Go.Eng

theorem open_len (bs : List UInt8) : (openB bs).1.length ≤ bs.length := by
  unfold openB; split <;> (try split) <;> (try split) <;> simp [List.length_take]
theorem refTake_rest (s : List UInt8) (e : Int) (n : Nat) : (refTake s e n).2.1.length ≤ s.length := by
  unfold refTake; split <;> (try split) <;> simp [List.length_drop]
theorem bytes_same {rest s : List UInt8} {e : Int} (h : e = 0 → rest = s) : (bytesB rest e).1 = (refTake (refTake s e 4).2.1 (refTake s e 4).2.2 (numB (refTake s e 4).1)).1 ∧ (bytesB rest e).2.2 = (refTake (refTake s e 4).2.1 (refTake s e 4).2.2 (numB (refTake s e 4).1)).2.2 ∧ ((bytesB rest e).2.2 = 0 → (bytesB rest e).2.1 = (refTake (refTake s e 4).2.1 (refTake s e 4).2.2 (numB (refTake s e 4).1)).2.1) := by
  obtain ⟨h1, h2, h3⟩ := take_same h 4
  have h4 := take_same h3 (numB (takeB rest e 4).1)
  rw [h2, h1] at h4
  unfold bytesB
  rw [h1, h2]
  exact h4
theorem take_bad {rest : List UInt8} {e : Int} (h : e ≠ 0) : takeB rest e 4 = ([], rest, e) := by unfold takeB; simp [h]



set_option maxRecDepth 100000 in
set_option maxHeartbeats 400000 in
theorem LReads_spec {I : Imm} {A B : Option Addr} {c d : Nat} (bs asks : List UInt8) (hr : Rd eByte I A bs) (hc : bs.length ≤ c) (hb : bs.length ≤ 140737488351232) (hra : Rd eByte I B asks) :
    Meets Try.prog 8 #[.slice A bs.length c, .slice B asks.length d] I ([]) (fun v _ L' => .bool true = v ∧ [] = L') := by
  refine Meets.intro (args := [.slice A bs.length c, .slice B asks.length d]) (N := 96) (rs := [.tmp 4]) Try.func8 rfl rfl rfl rfl (fun F => ?_)
  change Cd _ _ _ [(0, .slice A bs.length c), (1, .slice B asks.length d)] I (F) _
  have hle := Imm.le_refl I
  refine Cd.seq ?_
  refine Cd.region ?_
  refine Opz.val (R.assign rfl) rfl rfl rfl ?_
  refine Opz.nil ?_
  refine seqQ.normal ?_
  refine Cd.seq ?_
  refine Cd.region ?_
  refine Opz.val (R.move rfl) rfl rfl rfl ?_
  refine Opz.op (by exact W.call rfl rfl Try.call30 (Look_spec (L0 := []) bs (Rd.cells hr) rfl hc (by omega)) rfl Take.nil) rfl rfl rfl ?_
  rintro v12 I12 _ ⟨hI12, M12, hp12, rfl⟩
  obtain ⟨b12, A12, c12, rfl, rfl, hb12, hc12⟩ := hp12
  have hol := open_len bs
  have hr12 := Rd.cells (L := []) hb12
  have hle := hle.trans hI12
  replace hr := hr.mono hI12
  replace hra := hra.mono hI12
  refine Opz.val (R.assign rfl) rfl rfl rfl ?_
  refine Opz.nil ?_
  refine seqQ.normal ?_
  refine Cd.seq ?_
  refine Cd.region ?_
  refine Opz.val (R.move rfl) rfl rfl rfl ?_
  refine Opz.op (by exact W.call rfl rfl Try.call31 (ROpen_spec bs hr hc (by omega)) rfl Take.nil) rfl rfl rfl ?_
  rintro v14 I14 _ ⟨hI14, M14, hp14, rfl⟩
  obtain ⟨rfl, rfl, rfl⟩ := hp14
  refine Opz.op (W.allocA Try.zeroValue65) rfl rfl rfl ?_
  rintro _ _ _ ⟨b6, rfl, rfl, rfl⟩
  refine Opz.opU (by exact W.storeAll rfl rfl Try.typeInfo65 rfl (by repeat (first | exact Upd.head | apply Upd.tail)) (by rfl) (by simp [Value.oneCell'])) rfl rfl ?_
  rintro _ _ _ ⟨rfl, rfl, rfl⟩
  refine Opz.nil ?_
  refine seqQ.normal ?_
  refine Cd.seq ?_
  refine Cd.seq ?_
  refine Cd.region ?_
  refine Opz.val (R.assign rfl) rfl rfl rfl ?_
  refine Opz.nil ?_
  refine seqQ.normal ?_
  refine Cd.block ?_
  -- loop 1: turned [7], kept [1, 5, 6]
  refine Cd.loop [1, 5, 6] (fun nn vs I101 L1 => ∃ (i : Nat) (A2 : Option Addr) (c2 : Nat) (rest : List UInt8) (s : List UInt8) (e : Int), [(7, .int .i64 i)] = vs ∧ (.blk b12 93 [.slice A2 rest.length c2, .int .i64 e] :: .blk b6 65 [.string (strOf s), .int .i64 e] :: F) = L1 ∧ I12.le I101 ∧ asks.length - i = nn ∧ (i ≤ asks.length) ∧ (RdC I101 [] A2 (bytesV rest)) ∧ (rest.length ≤ c2) ∧ (e = 0 → rest = s) ∧ (s.length ≤ 140737488351232)) (Pick.cons rfl (Pick.cons rfl (Pick.cons rfl (Pick.nil)))) ?_ ?_
  ·
    refine ⟨_, _, _, ⟨0, A12, c12, (openB bs).1, (openB bs).1, (openB bs).2, rfl, rfl, Imm.le_refl _, rfl, ?_, ?_, ?_, ?_, ?_⟩, ⟨rfl, trivial⟩, by repeat (first | exact Have.refl | (refine Have.cons (by repeat (first | exact Rem.head | apply Rem.tail | exact Rem.mid)) ?_) | refine Have.skip ?_ | refine Have.app ?_)⟩
    · first | assumption | omega | simp
    · exact hr12
    · exact hc12
    · exact fun _ => rfl
    · omega
  ·
    rintro nn1 _ I101 _ ⟨i, A2, c2, rest, s, e, rfl, rfl, hI101, hn1, hi, hrr, hcc, hse, hss⟩
    have hle := hle.trans hI101
    replace hr := hr.mono hI101
    replace hra := hra.mono hI101
    refine Cd.seq ?_
    refine Cd.seq ?_
    refine Cd.region ?_
    refine Opz.val (R.move rfl) rfl rfl rfl ?_
    refine Opz.val (R.move rfl) rfl rfl rfl ?_
    refine Opz.val (R.len rfl rfl Try.underlying27) rfl rfl rfl ?_
    refine Opz.val (R.lss rfl rfl) rfl rfl rfl ?_
    refine Opz.val (R.move rfl) rfl rfl rfl ?_
    first | refine Opz.guardD 19 rfl (fun hq1 => ?_) (fun hq1 => ?_) | refine Opz.guard 19 rfl (fun hq1 => ?_) (fun hq1 => ?_)
    ·
      -- g19T
      try contradiction
      all_goals
        refine Opz.val (R.move rfl) rfl rfl rfl ?_
        refine Opz.val (R.lss rfl rfl) rfl rfl rfl ?_
        refine Opz.val (R.pick rfl rfl) rfl rfl rfl ?_
        refine Opz.nil ?_
        refine seqQ.normal ?_
        first | refine Cd.condD rfl (fun hq2 => ?_) (fun hq2 => ?_) | refine Cd.cond rfl (fun hq2 => ?_) (fun hq2 => ?_)
        ·
          -- c1T
          try contradiction
          all_goals
            refine Cd.skip ?_
            refine seqQ.normal ?_
            refine Cd.seq ?_
            refine Cd.block ?_
            refine Cd.seq ?_
            refine Cd.region ?_
            refine Opz.val (R.assign rfl) rfl rfl rfl ?_
            refine Opz.nil ?_
            refine seqQ.normal ?_
            refine Cd.seq ?_
            refine Cd.region ?_
            refine Opz.val (R.move rfl) rfl rfl rfl ?_
            refine Opz.val (R.move rfl) rfl rfl rfl ?_
            refine Opz.rdSome (L := _) (Rd.cells hra) (by rw [bytesV_len]; omega) (fun a hA => ?_)
            obtain ⟨x28, hx28⟩ : ∃ x, asks[i]? = some x := ⟨asks[i], List.getElem?_eq_getElem (by omega)⟩
            have h8 := u8_lt x28
            refine Opz.val (by first | exact R.ixA rfl rfl Try.underlying27 Try.typeInfo5 ⟨by omega, by omega⟩ rfl | exact R.ixO rfl (by assumption) rfl Try.underlying27 Try.typeInfo5 ⟨by omega, by omega⟩ rfl) rfl rfl rfl ?_
            refine Opz.val (by exact R.load rfl Try.underlying5 rfl (cellI (byteAt hra hA hx28))) rfl rfl rfl ?_
            refine Opz.val (by first | exact R.rem rfl rfl (by omega) (by omega) | exact R.remT rfl rfl (by omega)) rfl rfl rfl ?_
            refine Opz.nil ?_
            refine seqQ.normal ?_
            refine Cd.block ?_
            refine Cd.seq ?_
            refine Cd.region ?_
            refine Opz.val (R.eql rfl rfl) rfl rfl rfl ?_
            refine Opz.val (R.assign rfl) rfl rfl rfl ?_
            refine Opz.nil ?_
            refine seqQ.normal ?_
            first | refine Cd.condD rfl (fun hq3 => ?_) (fun hq3 => ?_) | refine Cd.cond rfl (fun hq3 => ?_) (fun hq3 => ?_)
            ·
              -- c2T
              try contradiction
              all_goals
                refine Cd.seq ?_
                refine Cd.region ?_
                refine Opz.val (by exact R.loadAgg rfl Try.underlying65 rfl Try.typeInfo65 rfl (by first | exact cellsL (by repeat (first | exact List.Mem.head _ | apply List.Mem.tail)) | exact cellsI (by assumption))) rfl rfl rfl ?_
                refine Opz.op (by exact W.call rfl rfl Try.call32 (RNumber_spec s e 4 (by omega) (by omega)) rfl Take.nil) rfl rfl rfl ?_
                rintro v51 I51 _ ⟨hI51, M51, hp51, rfl⟩
                obtain ⟨rfl, rfl, rfl⟩ := hp51
                have hst := take_same hse 4
                have hss2 := refTake_rest s e 4
                refine Opz.val (R.move rfl) rfl rfl rfl ?_
                refine Opz.val (R.ext rfl rfl) rfl rfl rfl ?_
                refine Opz.val (R.ext rfl rfl) rfl rfl rfl ?_
                refine Opz.val (R.assign rfl) rfl rfl rfl ?_
                refine Opz.opU (by exact W.storeAll rfl rfl Try.typeInfo65 rfl (by repeat (first | exact Upd.head | apply Upd.tail)) (by rfl) (by simp [Value.oneCell'])) rfl rfl ?_
                rintro _ _ _ ⟨rfl, rfl, rfl⟩
                refine Opz.nil ?_
                refine seqQ.normal ?_
                refine Cd.seq ?_
                refine Cd.region ?_
                refine Opz.val (R.move rfl) rfl rfl rfl ?_
                refine Opz.op (by exact W.call rfl rfl Try.call33 (ESmall_spec (L0 := []) rest rfl hrr hcc) rfl (Take.cons (by repeat (first | exact Rem.head | apply Rem.tail | exact Rem.mid)) Take.nil)) rfl rfl rfl ?_
                rintro v55 I55 _ ⟨hI55, M55, hp55, rfl⟩
                obtain ⟨A255, c255, rfl, rfl, rfl, hr55, hc55⟩ := hp55
                have h32 := numB_lt32 (refTake_len s e 4)
                rw [hst.1]
                refine Opz.val (R.move rfl) rfl rfl rfl ?_
                refine Opz.val (by first | exact R.conv rfl Try.underlying49 Try.underlying3 (by first | exact ⟨by simp only [loK]; omega, by simp only [hiK]; omega⟩ | exact wr_inR rfl _) | exact R.convW rfl Try.underlying49 Try.underlying3) rfl rfl rfl ?_
                refine Opz.val (R.neq rfl rfl) rfl rfl rfl ?_
                refine Opz.nil ?_
                refine seqQ.normal ?_
                first | refine Cd.condD rfl (fun hq4 => ?_) (fun hq4 => ?_) | refine Cd.cond rfl (fun hq4 => ?_) (fun hq4 => ?_)
                ·
                  -- c3T
                  exact absurd rfl hq4
                ·
                  -- c3F
                  try contradiction
                  all_goals
                    refine Cd.skip ?_
                    refine blkQ.normal ?_
                    refine blkQ.normal ?_
                    refine seqQ.normal ?_
                    refine Cd.region ?_
                    refine Opz.val (R.move rfl) rfl rfl rfl ?_
                    refine Opz.val (by exact R.add rfl rfl (by first | exact ⟨by simp only [loK]; omega, by simp only [hiK]; omega⟩ | exact wr_inR rfl _)) rfl rfl rfl ?_
                    refine Opz.val (R.assign rfl) rfl rfl rfl ?_
                    refine Opz.nil ?_
                    -- round by g19T c1T c2T c3F
                    rw [← hst.2.1]
                    refine loopQ.round ⟨i + 1, A255, c255, (takeB rest e 4).2.1, (refTake s e 4).2.1, (takeB rest e 4).2.2, rfl, rfl, (by first | assumption | exact Imm.le_refl _ | exact Imm.le.trans (by assumption) (by assumption)), rfl, ?_, ?_, ?_, ?_, ?_⟩ ?_ ⟨(by first | rfl | (refine look_val rfl ?_; first | rfl | (refine int_congr ?_; first | omega | (simp; done)))), rfl, rfl, rfl, trivial⟩ (by repeat (first | exact Have.refl | (refine Have.cons (by repeat (first | exact Rem.head | apply Rem.tail | exact Rem.mid)) ?_) | refine Have.skip ?_ | refine Have.app ?_))
                    · first | assumption | omega | simp
                    · exact hr55
                    · exact hc55
                    · exact hst.2.2
                    · omega
                    · omega
            ·
              -- c2F
              try contradiction
              all_goals
                refine Cd.seq ?_
                refine Cd.region ?_
                refine Opz.val (R.eql rfl rfl) rfl rfl rfl ?_
                refine Opz.val (R.assign rfl) rfl rfl rfl ?_
                refine Opz.nil ?_
                refine seqQ.normal ?_
                first | refine Cd.condD rfl (fun hq5 => ?_) (fun hq5 => ?_) | refine Cd.cond rfl (fun hq5 => ?_) (fun hq5 => ?_)
                ·
                  -- c4T
                  try contradiction
                  all_goals
                    refine Cd.seq ?_
                    refine Cd.region ?_
                    refine Opz.val (by exact R.loadAgg rfl Try.underlying65 rfl Try.typeInfo65 rfl (by first | exact cellsL (by repeat (first | exact List.Mem.head _ | apply List.Mem.tail)) | exact cellsI (by assumption))) rfl rfl rfl ?_
                    refine Opz.op (by exact W.call rfl rfl Try.call32 (RNumber_spec s e 8 (by omega) (by omega)) rfl Take.nil) rfl rfl rfl ?_
                    rintro v63 I63 _ ⟨hI63, M63, hp63, rfl⟩
                    obtain ⟨rfl, rfl, rfl⟩ := hp63
                    have hst := take_same hse 8
                    have hss2 := refTake_rest s e 8
                    refine Opz.val (R.move rfl) rfl rfl rfl ?_
                    refine Opz.val (R.ext rfl rfl) rfl rfl rfl ?_
                    refine Opz.val (R.ext rfl rfl) rfl rfl rfl ?_
                    refine Opz.val (R.assign rfl) rfl rfl rfl ?_
                    refine Opz.opU (by exact W.storeAll rfl rfl Try.typeInfo65 rfl (by repeat (first | exact Upd.head | apply Upd.tail)) (by rfl) (by simp [Value.oneCell'])) rfl rfl ?_
                    rintro _ _ _ ⟨rfl, rfl, rfl⟩
                    refine Opz.nil ?_
                    refine seqQ.normal ?_
                    refine Cd.seq ?_
                    refine Cd.region ?_
                    refine Opz.val (R.move rfl) rfl rfl rfl ?_
                    refine Opz.op (by exact W.call rfl rfl Try.call34 (EGreat_spec (L0 := []) rest rfl hrr hcc) rfl (Take.cons (by repeat (first | exact Rem.head | apply Rem.tail | exact Rem.mid)) Take.nil)) rfl rfl rfl ?_
                    rintro v67 I67 _ ⟨hI67, M67, hp67, rfl⟩
                    obtain ⟨A267, c267, rfl, rfl, rfl, hr67, hc67⟩ := hp67
                    rw [hst.1]
                    refine Opz.val (R.move rfl) rfl rfl rfl ?_
                    refine Opz.val (R.neq rfl rfl) rfl rfl rfl ?_
                    refine Opz.nil ?_
                    refine seqQ.normal ?_
                    first | refine Cd.condD rfl (fun hq6 => ?_) (fun hq6 => ?_) | refine Cd.cond rfl (fun hq6 => ?_) (fun hq6 => ?_)
                    ·
                      -- c5T
                      exact absurd rfl hq6
                    ·
                      -- c5F
                      try contradiction
                      all_goals
                        refine Cd.skip ?_
                        refine blkQ.normal ?_
                        refine blkQ.normal ?_
                        refine seqQ.normal ?_
                        refine Cd.region ?_
                        refine Opz.val (R.move rfl) rfl rfl rfl ?_
                        refine Opz.val (by exact R.add rfl rfl (by first | exact ⟨by simp only [loK]; omega, by simp only [hiK]; omega⟩ | exact wr_inR rfl _)) rfl rfl rfl ?_
                        refine Opz.val (R.assign rfl) rfl rfl rfl ?_
                        refine Opz.nil ?_
                        -- round by g19T c1T c2F c4T c5F
                        rw [← hst.2.1]
                        refine loopQ.round ⟨i + 1, A267, c267, (takeB rest e 8).2.1, (refTake s e 8).2.1, (takeB rest e 8).2.2, rfl, rfl, (by first | assumption | exact Imm.le_refl _ | exact Imm.le.trans (by assumption) (by assumption)), rfl, ?_, ?_, ?_, ?_, ?_⟩ ?_ ⟨(by first | rfl | (refine look_val rfl ?_; first | rfl | (refine int_congr ?_; first | omega | (simp; done)))), rfl, rfl, rfl, trivial⟩ (by repeat (first | exact Have.refl | (refine Have.cons (by repeat (first | exact Rem.head | apply Rem.tail | exact Rem.mid)) ?_) | refine Have.skip ?_ | refine Have.app ?_))
                        · first | assumption | omega | simp
                        · exact hr67
                        · exact hc67
                        · exact hst.2.2
                        · omega
                        · omega
                ·
                  -- c4F
                  try contradiction
                  all_goals
                    refine Cd.seq ?_
                    refine Cd.region ?_
                    refine Opz.val (R.assign rfl) rfl rfl rfl ?_
                    refine Opz.nil ?_
                    refine seqQ.normal ?_
                    refine Cd.seq ?_
                    refine Cd.region ?_
                    refine Opz.val (by exact R.loadAgg rfl Try.underlying65 rfl Try.typeInfo65 rfl (by first | exact cellsL (by repeat (first | exact List.Mem.head _ | apply List.Mem.tail)) | exact cellsI (by assumption))) rfl rfl rfl ?_
                    refine Opz.op (by exact W.call rfl rfl Try.call32 (RNumber_spec s e 4 (by omega) (by omega)) rfl Take.nil) rfl rfl rfl ?_
                    rintro v32 I32 _ ⟨hI32, M32, hp32, rfl⟩
                    obtain ⟨rfl, rfl, rfl⟩ := hp32
                    have hst4 := take_same hse 4
                    have hss4 := refTake_rest s e 4
                    have h32 := numB_lt32 (refTake_len s e 4)
                    have hst := bytes_same hse
                    refine Opz.val (R.move rfl) rfl rfl rfl ?_
                    refine Opz.val (R.ext rfl rfl) rfl rfl rfl ?_
                    refine Opz.val (R.ext rfl rfl) rfl rfl rfl ?_
                    refine Opz.val (R.assign rfl) rfl rfl rfl ?_
                    refine Opz.opU (by exact W.storeAll rfl rfl Try.typeInfo65 rfl (by repeat (first | exact Upd.head | apply Upd.tail)) (by rfl) (by simp [Value.oneCell'])) rfl rfl ?_
                    rintro _ _ _ ⟨rfl, rfl, rfl⟩
                    refine Opz.nil ?_
                    refine seqQ.normal ?_
                    refine Cd.seq ?_
                    refine Cd.region ?_
                    refine Opz.val (by exact R.loadAgg rfl Try.underlying65 rfl Try.typeInfo65 rfl (by first | exact cellsL (by repeat (first | exact List.Mem.head _ | apply List.Mem.tail)) | exact cellsI (by assumption))) rfl rfl rfl ?_
                    refine Opz.val (R.move rfl) rfl rfl rfl ?_
                    refine Opz.val (by first | exact R.conv rfl Try.underlying49 Try.underlying3 (by first | exact ⟨by simp only [loK]; omega, by simp only [hiK]; omega⟩ | exact wr_inR rfl _) | exact R.convW rfl Try.underlying49 Try.underlying3) rfl rfl rfl ?_
                    refine Opz.op (by exact W.call rfl rfl Try.call35 (RTake_spec (refTake s e 4).2.1 (refTake s e 4).2.2 (numB (refTake s e 4).1) (by omega) (by omega)) rfl Take.nil) rfl rfl rfl ?_
                    rintro v39 I39 _ ⟨hI39, M39, hp39, rfl⟩
                    obtain ⟨rfl, rfl, rfl⟩ := hp39
                    have hss2 := refTake_rest (refTake s e 4).2.1 (refTake s e 4).2.2 (numB (refTake s e 4).1)
                    refine Opz.val (R.move rfl) rfl rfl rfl ?_
                    refine Opz.val (R.ext rfl rfl) rfl rfl rfl ?_
                    refine Opz.val (R.ext rfl rfl) rfl rfl rfl ?_
                    refine Opz.val (R.assign rfl) rfl rfl rfl ?_
                    refine Opz.opU (by exact W.storeAll rfl rfl Try.typeInfo65 rfl (by repeat (first | exact Upd.head | apply Upd.tail)) (by rfl) (by simp [Value.oneCell'])) rfl rfl ?_
                    rintro _ _ _ ⟨rfl, rfl, rfl⟩
                    refine Opz.nil ?_
                    refine seqQ.normal ?_
                    refine Cd.seq ?_
                    refine Cd.region ?_
                    refine Opz.val (R.move rfl) rfl rfl rfl ?_
                    refine Opz.op (by exact W.call rfl rfl Try.call36 (EBytes_spec (L0 := []) rest rfl hrr hcc) rfl (Take.cons (by repeat (first | exact Rem.head | apply Rem.tail | exact Rem.mid)) Take.nil)) rfl rfl rfl ?_
                    rintro v43 I43 _ ⟨hI43, M43, hp43, rfl⟩
                    obtain ⟨A143, c143, A243, c243, rfl, rfl, hb43, hcb43, hr43, hc43⟩ := hp43
                    rw [hst.1]
                    rw [hst.1] at hb43
                    have hle := hle.trans hI43
                    replace hr := hr.mono hI43
                    replace hra := hra.mono hI43
                    refine Opz.val (by exact R.bytesT rfl Try.underlying27 Try.underlying5 Try.underlying9 (by first | rfl | assumption | simp) (Rd.cells hb43)) rfl rfl rfl ?_
                    refine Opz.val (R.move rfl) rfl rfl rfl ?_
                    refine Opz.val (R.neT rfl rfl) rfl rfl rfl ?_
                    refine Opz.nil ?_
                    refine seqQ.normal ?_
                    first | refine Cd.condD rfl (fun hq7 => ?_) (fun hq7 => ?_) | refine Cd.cond rfl (fun hq7 => ?_) (fun hq7 => ?_)
                    ·
                      -- c6T
                      exact absurd rfl hq7
                    ·
                      -- c6F
                      try contradiction
                      all_goals
                        refine Cd.skip ?_
                        refine blkQ.normal ?_
                        refine blkQ.normal ?_
                        refine seqQ.normal ?_
                        refine Cd.region ?_
                        refine Opz.val (R.move rfl) rfl rfl rfl ?_
                        refine Opz.val (by exact R.add rfl rfl (by first | exact ⟨by simp only [loK]; omega, by simp only [hiK]; omega⟩ | exact wr_inR rfl _)) rfl rfl rfl ?_
                        refine Opz.val (R.assign rfl) rfl rfl rfl ?_
                        refine Opz.nil ?_
                        -- round by g19T c1T c2F c4F c6F
                        rw [← hst.2.1]
                        refine loopQ.round ⟨i + 1, A243, c243, (bytesB rest e).2.1, (refTake (refTake s e 4).2.1 (refTake s e 4).2.2 (numB (refTake s e 4).1)).2.1, (bytesB rest e).2.2, rfl, rfl, (by first | assumption | exact Imm.le_refl _ | exact Imm.le.trans (by assumption) (by assumption)), rfl, ?_, ?_, ?_, ?_, ?_⟩ ?_ ⟨(by first | rfl | (refine look_val rfl ?_; first | rfl | (refine int_congr ?_; first | omega | (simp; done)))), rfl, rfl, rfl, trivial⟩ (by repeat (first | exact Have.refl | (refine Have.cons (by repeat (first | exact Rem.head | apply Rem.tail | exact Rem.mid)) ?_) | refine Have.skip ?_ | refine Have.app ?_))
                        · first | assumption | omega | simp
                        · exact (hr43.mono (by assumption))
                        · exact hc43
                        · exact hst.2.2
                        · omega
                        · omega
        ·
          -- c1F
          try contradiction
          all_goals
            refine Cd.exit ?_
            refine seqQ.exit ?_
            refine loopQ.exit ?_
            refine blkQ.here ?_
            refine seqQ.normal ?_
            refine Cd.seq ?_
            refine Cd.region ?_
            refine Opz.val (by first | exact R.field (off := 1) rfl Try.underlying65 rfl Try.typeInfo32 rfl rfl | exact R.fieldA rfl Try.underlying65 rfl Try.typeInfo32 rfl) rfl rfl rfl ?_
            refine Opz.val (by exact R.load rfl Try.underlying32 rfl (by first | exact cellL (by repeat (first | exact List.Mem.head _ | apply List.Mem.tail)) rfl | exact cellI (by assumption) | (exact cellRow (by repeat (first | exact List.Mem.head _ | apply List.Mem.tail)) (by assumption) (by assumption)))) rfl rfl rfl ?_
            refine Opz.val (R.assign rfl) rfl rfl rfl ?_
            refine Opz.nil ?_
            refine seqQ.normal ?_
            refine Cd.seq ?_
            refine Cd.seq ?_
            refine Cd.region ?_
            refine Opz.val (R.move rfl) rfl rfl rfl ?_
            refine Opz.val (R.eql rfl rfl) rfl rfl rfl ?_
            refine Opz.val (R.move rfl) rfl rfl rfl ?_
            first | refine Opz.guardD 74 rfl (fun hq8 => ?_) (fun hq8 => ?_) | refine Opz.guard 74 rfl (fun hq8 => ?_) (fun hq8 => ?_)
            ·
              -- g74T
              try contradiction
              all_goals
                have he : e = 0 := by simpa using hq8
                refine Opz.val (by first | exact R.field (off := 0) rfl Try.underlying65 rfl Try.typeInfo9 rfl rfl | exact R.fieldA rfl Try.underlying65 rfl Try.typeInfo9 rfl) rfl rfl rfl ?_
                refine Opz.val (by exact R.load rfl Try.underlying9 rfl (by first | exact cellL (by repeat (first | exact List.Mem.head _ | apply List.Mem.tail)) rfl | exact cellI (by assumption) | (exact cellRow (by repeat (first | exact List.Mem.head _ | apply List.Mem.tail)) (by assumption) (by assumption)))) rfl rfl rfl ?_
                refine Opz.val (R.lenT rfl rfl Try.underlying9) rfl rfl rfl ?_
                refine Opz.val (R.gtr rfl rfl) rfl rfl rfl ?_
                refine Opz.val (R.pick rfl rfl) rfl rfl rfl ?_
                refine Opz.nil ?_
                refine seqQ.normal ?_
                first | refine Cd.condD rfl (fun hq9 => ?_) (fun hq9 => ?_) | refine Cd.cond rfl (fun hq9 => ?_) (fun hq9 => ?_)
                ·
                  -- c7T
                  try contradiction
                  all_goals
                    have hs0 : 0 < s.length := by simpa using hq9
                    have hend : (if e = 0 ∧ 0 < rest.length then (2 : Int) else e) = 2 := by rw [if_pos ⟨he, by rw [hse he]; exact hs0⟩]
                    refine Cd.region ?_
                    refine Opz.val (R.assign rfl) rfl rfl rfl ?_
                    refine Opz.nil ?_
                    refine seqQ.normal ?_
                    refine Cd.seq ?_
                    refine Cd.region ?_
                    refine Opz.op (by exact W.call rfl rfl Try.call21 awake_spec rfl Take.nil) rfl rfl rfl ?_
                    rintro v80 I80 _ ⟨hI80, M80, hp80, rfl⟩
                    obtain ⟨rfl, rfl⟩ := hp80
                    have hle := hle.trans hI80
                    replace hr := hr.mono hI80
                    replace hra := hra.mono hI80
                    refine Opz.val (R.move rfl) rfl rfl rfl ?_
                    first | refine Opz.guardD 81 rfl (fun hq10 => ?_) (fun hq10 => ?_) | refine Opz.guard 81 rfl (fun hq10 => ?_) (fun hq10 => ?_)
                    ·
                      -- g81T
                      try contradiction
                      all_goals
                        refine Opz.val (R.move rfl) rfl rfl rfl ?_
                        refine Opz.op (by exact W.call rfl rfl Try.call37 EEnd_spec rfl (Take.cons (by repeat (first | exact Rem.head | apply Rem.tail | exact Rem.mid)) Take.nil)) rfl rfl rfl ?_
                        rintro v83 I83 _ ⟨hI83, M83, hp83, rfl⟩
                        obtain ⟨rfl, rfl, rfl⟩ := hp83
                        rw [hend]
                        refine Opz.val (R.move rfl) rfl rfl rfl ?_
                        refine Opz.val (R.eql rfl rfl) rfl rfl rfl ?_
                        refine Opz.val (R.pick rfl rfl) rfl rfl rfl ?_
                        refine Opz.val (R.move rfl) rfl rfl rfl ?_
                        first | refine Opz.guardD 87 rfl (fun hq11 => ?_) (fun hq11 => ?_) | refine Opz.guard 87 rfl (fun hq11 => ?_) (fun hq11 => ?_)
                        ·
                          -- g87T
                          try contradiction
                          all_goals
                            refine Opz.val (R.move rfl) rfl rfl rfl ?_
                            refine Opz.val (R.eql rfl rfl) rfl rfl rfl ?_
                            refine Opz.val (R.move rfl) rfl rfl rfl ?_
                            first | refine Opz.guardD 90 rfl (fun hq12 => ?_) (fun hq12 => ?_) | refine Opz.guard 90 rfl (fun hq12 => ?_) (fun hq12 => ?_)
                            ·
                              -- g90T
                              try contradiction
                              all_goals
                                refine Opz.none rfl rfl rfl ?_
                                refine Opz.none rfl rfl rfl ?_
                                refine Opz.none rfl rfl rfl ?_
                                refine Opz.val (R.pick rfl rfl) rfl rfl rfl ?_
                                refine Opz.val (R.pick rfl rfl) rfl rfl rfl ?_
                                refine Opz.val (R.assign rfl) rfl rfl rfl ?_
                                refine Opz.nil ?_
                                refine seqQ.normal ?_
                                refine Cd.ret ?_
                                -- path g19T c1F g74T c7T g81T g87T g90T
                                refine fin.ret (L' := []) (ResOK.tmp rfl ResOK.nil) (by first | exact hle | exact Imm.le_refl _) ?_ ?_
                                · repeat (first | exact Have.refl | (refine Have.cons (by repeat (first | exact Rem.head | apply Rem.tail | exact Rem.mid)) ?_) | refine Have.skip ?_ | refine Have.app ?_)
                                ·
                                  first | exact ⟨rfl, rfl⟩ | exact ⟨(bool_congr (by simp [numB])).symm, rfl⟩
                            ·
                              -- g90F
                              try contradiction
                              all_goals
                                have hbad := hq12
                                refine Opz.val (R.move rfl) rfl rfl rfl ?_
                                refine Opz.op (by exact W.call rfl rfl Try.call33 (ESmall_spec (L0 := []) rest rfl (hrr.mono (by assumption)) hcc) rfl (Take.cons (by repeat (first | exact Rem.head | apply Rem.tail | exact Rem.mid)) Take.nil)) rfl rfl rfl ?_
                                rintro v92 I92 _ ⟨hI92, M92, hp92, rfl⟩
                                obtain ⟨A292, c292, rfl, rfl, rfl, hr92, hc92⟩ := hp92
                                rw [take_bad hbad]
                                refine Opz.val (R.eql rfl rfl) rfl rfl rfl ?_
                                refine Opz.val (R.pick rfl rfl) rfl rfl rfl ?_
                                refine Opz.val (R.pick rfl rfl) rfl rfl rfl ?_
                                refine Opz.val (R.assign rfl) rfl rfl rfl ?_
                                refine Opz.nil ?_
                                refine seqQ.normal ?_
                                refine Cd.ret ?_
                                -- path g19T c1F g74T c7T g81T g87T g90F
                                refine fin.ret (L' := []) (ResOK.tmp rfl ResOK.nil) (by first | exact hle | exact Imm.le_refl _) ?_ ?_
                                · repeat (first | exact Have.refl | (refine Have.cons (by repeat (first | exact Rem.head | apply Rem.tail | exact Rem.mid)) ?_) | refine Have.skip ?_ | refine Have.app ?_)
                                ·
                                  first | exact ⟨rfl, rfl⟩ | exact ⟨(bool_congr (by simp [numB])).symm, rfl⟩
                        ·
                          -- g87F
                          exact absurd rfl hq11
                    ·
                      -- g81F
                      exact absurd hq10 (by decide)
                ·
                  -- c7F
                  try contradiction
                  all_goals
                    have hs0 : e = 0 → ¬ 0 < s.length := by first | (intro h; exact absurd h he) | (intro _; simpa using hq9)
                    have hend : (if e = 0 ∧ 0 < rest.length then (2 : Int) else e) = e := by rw [if_neg]; rintro ⟨h1, h2⟩; rw [hse h1] at h2; exact hs0 h1 h2
                    refine Cd.skip ?_
                    refine seqQ.normal ?_
                    refine Cd.seq ?_
                    refine Cd.region ?_
                    refine Opz.op (by exact W.call rfl rfl Try.call21 awake_spec rfl Take.nil) rfl rfl rfl ?_
                    rintro v80 I80 _ ⟨hI80, M80, hp80, rfl⟩
                    obtain ⟨rfl, rfl⟩ := hp80
                    have hle := hle.trans hI80
                    replace hr := hr.mono hI80
                    replace hra := hra.mono hI80
                    refine Opz.val (R.move rfl) rfl rfl rfl ?_
                    first | refine Opz.guardD 81 rfl (fun hq13 => ?_) (fun hq13 => ?_) | refine Opz.guard 81 rfl (fun hq13 => ?_) (fun hq13 => ?_)
                    ·
                      -- g81T
                      try contradiction
                      all_goals
                        refine Opz.val (R.move rfl) rfl rfl rfl ?_
                        refine Opz.op (by exact W.call rfl rfl Try.call37 EEnd_spec rfl (Take.cons (by repeat (first | exact Rem.head | apply Rem.tail | exact Rem.mid)) Take.nil)) rfl rfl rfl ?_
                        rintro v83 I83 _ ⟨hI83, M83, hp83, rfl⟩
                        obtain ⟨rfl, rfl, rfl⟩ := hp83
                        rw [hend]
                        refine Opz.val (R.move rfl) rfl rfl rfl ?_
                        refine Opz.val (R.eql rfl rfl) rfl rfl rfl ?_
                        refine Opz.val (R.pick rfl rfl) rfl rfl rfl ?_
                        refine Opz.val (R.move rfl) rfl rfl rfl ?_
                        first | refine Opz.guardD 87 rfl (fun hq14 => ?_) (fun hq14 => ?_) | refine Opz.guard 87 rfl (fun hq14 => ?_) (fun hq14 => ?_)
                        ·
                          -- g87T
                          try contradiction
                          all_goals
                            refine Opz.val (R.move rfl) rfl rfl rfl ?_
                            refine Opz.val (R.eql rfl rfl) rfl rfl rfl ?_
                            refine Opz.val (R.move rfl) rfl rfl rfl ?_
                            first | refine Opz.guardD 90 rfl (fun hq15 => ?_) (fun hq15 => ?_) | refine Opz.guard 90 rfl (fun hq15 => ?_) (fun hq15 => ?_)
                            ·
                              -- g90T
                              try contradiction
                              all_goals
                                refine Opz.none rfl rfl rfl ?_
                                refine Opz.none rfl rfl rfl ?_
                                refine Opz.none rfl rfl rfl ?_
                                refine Opz.val (R.pick rfl rfl) rfl rfl rfl ?_
                                refine Opz.val (R.pick rfl rfl) rfl rfl rfl ?_
                                refine Opz.val (R.assign rfl) rfl rfl rfl ?_
                                refine Opz.nil ?_
                                refine seqQ.normal ?_
                                refine Cd.ret ?_
                                -- path g19T c1F g74T c7F g81T g87T g90T
                                refine fin.ret (L' := []) (ResOK.tmp rfl ResOK.nil) (by first | exact hle | exact Imm.le_refl _) ?_ ?_
                                · repeat (first | exact Have.refl | (refine Have.cons (by repeat (first | exact Rem.head | apply Rem.tail | exact Rem.mid)) ?_) | refine Have.skip ?_ | refine Have.app ?_)
                                ·
                                  first | exact ⟨rfl, rfl⟩ | exact ⟨(bool_congr (by simp [numB])).symm, rfl⟩
                            ·
                              -- g90F
                              try contradiction
                              all_goals
                                have hbad := hq15
                                refine Opz.val (R.move rfl) rfl rfl rfl ?_
                                refine Opz.op (by exact W.call rfl rfl Try.call33 (ESmall_spec (L0 := []) rest rfl (hrr.mono (by assumption)) hcc) rfl (Take.cons (by repeat (first | exact Rem.head | apply Rem.tail | exact Rem.mid)) Take.nil)) rfl rfl rfl ?_
                                rintro v92 I92 _ ⟨hI92, M92, hp92, rfl⟩
                                obtain ⟨A292, c292, rfl, rfl, rfl, hr92, hc92⟩ := hp92
                                rw [take_bad hbad]
                                refine Opz.val (R.eql rfl rfl) rfl rfl rfl ?_
                                refine Opz.val (R.pick rfl rfl) rfl rfl rfl ?_
                                refine Opz.val (R.pick rfl rfl) rfl rfl rfl ?_
                                refine Opz.val (R.assign rfl) rfl rfl rfl ?_
                                refine Opz.nil ?_
                                refine seqQ.normal ?_
                                refine Cd.ret ?_
                                -- path g19T c1F g74T c7F g81T g87T g90F
                                refine fin.ret (L' := []) (ResOK.tmp rfl ResOK.nil) (by first | exact hle | exact Imm.le_refl _) ?_ ?_
                                · repeat (first | exact Have.refl | (refine Have.cons (by repeat (first | exact Rem.head | apply Rem.tail | exact Rem.mid)) ?_) | refine Have.skip ?_ | refine Have.app ?_)
                                ·
                                  first | exact ⟨rfl, rfl⟩ | exact ⟨(bool_congr (by simp [numB])).symm, rfl⟩
                        ·
                          -- g87F
                          exact absurd rfl hq14
                    ·
                      -- g81F
                      exact absurd hq13 (by decide)
            ·
              -- g74F
              try contradiction
              all_goals
                have he : e ≠ 0 := by simpa using hq8
                refine Opz.none rfl rfl rfl ?_
                refine Opz.none rfl rfl rfl ?_
                refine Opz.none rfl rfl rfl ?_
                refine Opz.none rfl rfl rfl ?_
                refine Opz.val (R.pick rfl rfl) rfl rfl rfl ?_
                refine Opz.nil ?_
                refine seqQ.normal ?_
                first | refine Cd.condD rfl (fun hq16 => ?_) (fun hq16 => ?_) | refine Cd.cond rfl (fun hq16 => ?_) (fun hq16 => ?_)
                ·
                  -- c7T
                  try contradiction
                  all_goals
                    have hs0 : 0 < s.length := by simpa using hq16
                    have hend : (if e = 0 ∧ 0 < rest.length then (2 : Int) else e) = 2 := by rw [if_pos ⟨he, by rw [hse he]; exact hs0⟩]
                    refine Cd.region ?_
                    refine Opz.val (R.assign rfl) rfl rfl rfl ?_
                    refine Opz.nil ?_
                    refine seqQ.normal ?_
                    refine Cd.seq ?_
                    refine Cd.region ?_
                    refine Opz.op (by exact W.call rfl rfl Try.call21 awake_spec rfl Take.nil) rfl rfl rfl ?_
                    rintro v80 I80 _ ⟨hI80, M80, hp80, rfl⟩
                    obtain ⟨rfl, rfl⟩ := hp80
                    have hle := hle.trans hI80
                    replace hr := hr.mono hI80
                    replace hra := hra.mono hI80
                    refine Opz.val (R.move rfl) rfl rfl rfl ?_
                    first | refine Opz.guardD 81 rfl (fun hq17 => ?_) (fun hq17 => ?_) | refine Opz.guard 81 rfl (fun hq17 => ?_) (fun hq17 => ?_)
                    ·
                      -- g81T
                      try contradiction
                      all_goals
                        refine Opz.val (R.move rfl) rfl rfl rfl ?_
                        refine Opz.op (by exact W.call rfl rfl Try.call37 EEnd_spec rfl (Take.cons (by repeat (first | exact Rem.head | apply Rem.tail | exact Rem.mid)) Take.nil)) rfl rfl rfl ?_
                        rintro v83 I83 _ ⟨hI83, M83, hp83, rfl⟩
                        obtain ⟨rfl, rfl, rfl⟩ := hp83
                        rw [hend]
                        refine Opz.val (R.move rfl) rfl rfl rfl ?_
                        refine Opz.val (R.eql rfl rfl) rfl rfl rfl ?_
                        refine Opz.val (R.pick rfl rfl) rfl rfl rfl ?_
                        refine Opz.val (R.move rfl) rfl rfl rfl ?_
                        first | refine Opz.guardD 87 rfl (fun hq18 => ?_) (fun hq18 => ?_) | refine Opz.guard 87 rfl (fun hq18 => ?_) (fun hq18 => ?_)
                        ·
                          -- g87T
                          try contradiction
                          all_goals
                            refine Opz.val (R.move rfl) rfl rfl rfl ?_
                            refine Opz.val (R.eql rfl rfl) rfl rfl rfl ?_
                            refine Opz.val (R.move rfl) rfl rfl rfl ?_
                            first | refine Opz.guardD 90 rfl (fun hq19 => ?_) (fun hq19 => ?_) | refine Opz.guard 90 rfl (fun hq19 => ?_) (fun hq19 => ?_)
                            ·
                              -- g90T
                              try contradiction
                              all_goals
                                refine Opz.none rfl rfl rfl ?_
                                refine Opz.none rfl rfl rfl ?_
                                refine Opz.none rfl rfl rfl ?_
                                refine Opz.val (R.pick rfl rfl) rfl rfl rfl ?_
                                refine Opz.val (R.pick rfl rfl) rfl rfl rfl ?_
                                refine Opz.val (R.assign rfl) rfl rfl rfl ?_
                                refine Opz.nil ?_
                                refine seqQ.normal ?_
                                refine Cd.ret ?_
                                -- path g19T c1F g74F c7T g81T g87T g90T
                                refine fin.ret (L' := []) (ResOK.tmp rfl ResOK.nil) (by first | exact hle | exact Imm.le_refl _) ?_ ?_
                                · repeat (first | exact Have.refl | (refine Have.cons (by repeat (first | exact Rem.head | apply Rem.tail | exact Rem.mid)) ?_) | refine Have.skip ?_ | refine Have.app ?_)
                                ·
                                  first | exact ⟨rfl, rfl⟩ | exact ⟨(bool_congr (by simp [numB])).symm, rfl⟩
                            ·
                              -- g90F
                              try contradiction
                              all_goals
                                have hbad := hq19
                                refine Opz.val (R.move rfl) rfl rfl rfl ?_
                                refine Opz.op (by exact W.call rfl rfl Try.call33 (ESmall_spec (L0 := []) rest rfl (hrr.mono (by assumption)) hcc) rfl (Take.cons (by repeat (first | exact Rem.head | apply Rem.tail | exact Rem.mid)) Take.nil)) rfl rfl rfl ?_
                                rintro v92 I92 _ ⟨hI92, M92, hp92, rfl⟩
                                obtain ⟨A292, c292, rfl, rfl, rfl, hr92, hc92⟩ := hp92
                                rw [take_bad hbad]
                                refine Opz.val (R.eql rfl rfl) rfl rfl rfl ?_
                                refine Opz.val (R.pick rfl rfl) rfl rfl rfl ?_
                                refine Opz.val (R.pick rfl rfl) rfl rfl rfl ?_
                                refine Opz.val (R.assign rfl) rfl rfl rfl ?_
                                refine Opz.nil ?_
                                refine seqQ.normal ?_
                                refine Cd.ret ?_
                                -- path g19T c1F g74F c7T g81T g87T g90F
                                refine fin.ret (L' := []) (ResOK.tmp rfl ResOK.nil) (by first | exact hle | exact Imm.le_refl _) ?_ ?_
                                · repeat (first | exact Have.refl | (refine Have.cons (by repeat (first | exact Rem.head | apply Rem.tail | exact Rem.mid)) ?_) | refine Have.skip ?_ | refine Have.app ?_)
                                ·
                                  first | exact ⟨rfl, rfl⟩ | exact ⟨(bool_congr (by simp [numB])).symm, rfl⟩
                        ·
                          -- g87F
                          exact absurd rfl hq18
                    ·
                      -- g81F
                      exact absurd hq17 (by decide)
                ·
                  -- c7F
                  try contradiction
                  all_goals
                    have hs0 : e = 0 → ¬ 0 < s.length := by first | (intro h; exact absurd h he) | (intro _; simpa using hq16)
                    have hend : (if e = 0 ∧ 0 < rest.length then (2 : Int) else e) = e := by rw [if_neg]; rintro ⟨h1, h2⟩; rw [hse h1] at h2; exact hs0 h1 h2
                    refine Cd.skip ?_
                    refine seqQ.normal ?_
                    refine Cd.seq ?_
                    refine Cd.region ?_
                    refine Opz.op (by exact W.call rfl rfl Try.call21 awake_spec rfl Take.nil) rfl rfl rfl ?_
                    rintro v80 I80 _ ⟨hI80, M80, hp80, rfl⟩
                    obtain ⟨rfl, rfl⟩ := hp80
                    have hle := hle.trans hI80
                    replace hr := hr.mono hI80
                    replace hra := hra.mono hI80
                    refine Opz.val (R.move rfl) rfl rfl rfl ?_
                    first | refine Opz.guardD 81 rfl (fun hq20 => ?_) (fun hq20 => ?_) | refine Opz.guard 81 rfl (fun hq20 => ?_) (fun hq20 => ?_)
                    ·
                      -- g81T
                      try contradiction
                      all_goals
                        refine Opz.val (R.move rfl) rfl rfl rfl ?_
                        refine Opz.op (by exact W.call rfl rfl Try.call37 EEnd_spec rfl (Take.cons (by repeat (first | exact Rem.head | apply Rem.tail | exact Rem.mid)) Take.nil)) rfl rfl rfl ?_
                        rintro v83 I83 _ ⟨hI83, M83, hp83, rfl⟩
                        obtain ⟨rfl, rfl, rfl⟩ := hp83
                        rw [hend]
                        refine Opz.val (R.move rfl) rfl rfl rfl ?_
                        refine Opz.val (R.eql rfl rfl) rfl rfl rfl ?_
                        refine Opz.val (R.pick rfl rfl) rfl rfl rfl ?_
                        refine Opz.val (R.move rfl) rfl rfl rfl ?_
                        first | refine Opz.guardD 87 rfl (fun hq21 => ?_) (fun hq21 => ?_) | refine Opz.guard 87 rfl (fun hq21 => ?_) (fun hq21 => ?_)
                        ·
                          -- g87T
                          try contradiction
                          all_goals
                            refine Opz.val (R.move rfl) rfl rfl rfl ?_
                            refine Opz.val (R.eql rfl rfl) rfl rfl rfl ?_
                            refine Opz.val (R.move rfl) rfl rfl rfl ?_
                            first | refine Opz.guardD 90 rfl (fun hq22 => ?_) (fun hq22 => ?_) | refine Opz.guard 90 rfl (fun hq22 => ?_) (fun hq22 => ?_)
                            ·
                              -- g90T
                              try contradiction
                              all_goals
                                refine Opz.none rfl rfl rfl ?_
                                refine Opz.none rfl rfl rfl ?_
                                refine Opz.none rfl rfl rfl ?_
                                refine Opz.val (R.pick rfl rfl) rfl rfl rfl ?_
                                refine Opz.val (R.pick rfl rfl) rfl rfl rfl ?_
                                refine Opz.val (R.assign rfl) rfl rfl rfl ?_
                                refine Opz.nil ?_
                                refine seqQ.normal ?_
                                refine Cd.ret ?_
                                -- path g19T c1F g74F c7F g81T g87T g90T
                                refine fin.ret (L' := []) (ResOK.tmp rfl ResOK.nil) (by first | exact hle | exact Imm.le_refl _) ?_ ?_
                                · repeat (first | exact Have.refl | (refine Have.cons (by repeat (first | exact Rem.head | apply Rem.tail | exact Rem.mid)) ?_) | refine Have.skip ?_ | refine Have.app ?_)
                                ·
                                  first | exact ⟨rfl, rfl⟩ | exact ⟨(bool_congr (by simp [numB])).symm, rfl⟩
                            ·
                              -- g90F
                              try contradiction
                              all_goals
                                have hbad := hq22
                                refine Opz.val (R.move rfl) rfl rfl rfl ?_
                                refine Opz.op (by exact W.call rfl rfl Try.call33 (ESmall_spec (L0 := []) rest rfl (hrr.mono (by assumption)) hcc) rfl (Take.cons (by repeat (first | exact Rem.head | apply Rem.tail | exact Rem.mid)) Take.nil)) rfl rfl rfl ?_
                                rintro v92 I92 _ ⟨hI92, M92, hp92, rfl⟩
                                obtain ⟨A292, c292, rfl, rfl, rfl, hr92, hc92⟩ := hp92
                                rw [take_bad hbad]
                                refine Opz.val (R.eql rfl rfl) rfl rfl rfl ?_
                                refine Opz.val (R.pick rfl rfl) rfl rfl rfl ?_
                                refine Opz.val (R.pick rfl rfl) rfl rfl rfl ?_
                                refine Opz.val (R.assign rfl) rfl rfl rfl ?_
                                refine Opz.nil ?_
                                refine seqQ.normal ?_
                                refine Cd.ret ?_
                                -- path g19T c1F g74F c7F g81T g87T g90F
                                refine fin.ret (L' := []) (ResOK.tmp rfl ResOK.nil) (by first | exact hle | exact Imm.le_refl _) ?_ ?_
                                · repeat (first | exact Have.refl | (refine Have.cons (by repeat (first | exact Rem.head | apply Rem.tail | exact Rem.mid)) ?_) | refine Have.skip ?_ | refine Have.app ?_)
                                ·
                                  first | exact ⟨rfl, rfl⟩ | exact ⟨(bool_congr (by simp [numB])).symm, rfl⟩
                        ·
                          -- g87F
                          exact absurd rfl hq21
                    ·
                      -- g81F
                      exact absurd hq20 (by decide)
    ·
      -- g19F
      try contradiction
      all_goals
        refine Opz.none rfl rfl rfl ?_
        refine Opz.none rfl rfl rfl ?_
        refine Opz.val (R.pick rfl rfl) rfl rfl rfl ?_
        refine Opz.nil ?_
        refine seqQ.normal ?_
        first | refine Cd.condD rfl (fun hq23 => ?_) (fun hq23 => ?_) | refine Cd.cond rfl (fun hq23 => ?_) (fun hq23 => ?_)
        ·
          -- c1T
          try contradiction
          all_goals
            refine Cd.skip ?_
            refine seqQ.normal ?_
            refine Cd.seq ?_
            refine Cd.block ?_
            refine Cd.seq ?_
            refine Cd.region ?_
            refine Opz.val (R.assign rfl) rfl rfl rfl ?_
            refine Opz.nil ?_
            refine seqQ.normal ?_
            refine Cd.seq ?_
            refine Cd.region ?_
            refine Opz.val (R.move rfl) rfl rfl rfl ?_
            refine Opz.val (R.move rfl) rfl rfl rfl ?_
            refine Opz.rdSome (L := _) (Rd.cells hra) (by rw [bytesV_len]; omega) (fun a hA => ?_)
            obtain ⟨x28, hx28⟩ : ∃ x, asks[i]? = some x := ⟨asks[i], List.getElem?_eq_getElem (by omega)⟩
            have h8 := u8_lt x28
            refine Opz.val (by first | exact R.ixA rfl rfl Try.underlying27 Try.typeInfo5 ⟨by omega, by omega⟩ rfl | exact R.ixO rfl (by assumption) rfl Try.underlying27 Try.typeInfo5 ⟨by omega, by omega⟩ rfl) rfl rfl rfl ?_
            refine Opz.val (by exact R.load rfl Try.underlying5 rfl (cellI (byteAt hra hA hx28))) rfl rfl rfl ?_
            refine Opz.val (by first | exact R.rem rfl rfl (by omega) (by omega) | exact R.remT rfl rfl (by omega)) rfl rfl rfl ?_
            refine Opz.nil ?_
            refine seqQ.normal ?_
            refine Cd.block ?_
            refine Cd.seq ?_
            refine Cd.region ?_
            refine Opz.val (R.eql rfl rfl) rfl rfl rfl ?_
            refine Opz.val (R.assign rfl) rfl rfl rfl ?_
            refine Opz.nil ?_
            refine seqQ.normal ?_
            first | refine Cd.condD rfl (fun hq24 => ?_) (fun hq24 => ?_) | refine Cd.cond rfl (fun hq24 => ?_) (fun hq24 => ?_)
            ·
              -- c2T
              try contradiction
              all_goals
                refine Cd.seq ?_
                refine Cd.region ?_
                refine Opz.val (by exact R.loadAgg rfl Try.underlying65 rfl Try.typeInfo65 rfl (by first | exact cellsL (by repeat (first | exact List.Mem.head _ | apply List.Mem.tail)) | exact cellsI (by assumption))) rfl rfl rfl ?_
                refine Opz.op (by exact W.call rfl rfl Try.call32 (RNumber_spec s e 4 (by omega) (by omega)) rfl Take.nil) rfl rfl rfl ?_
                rintro v51 I51 _ ⟨hI51, M51, hp51, rfl⟩
                obtain ⟨rfl, rfl, rfl⟩ := hp51
                have hst := take_same hse 4
                have hss2 := refTake_rest s e 4
                refine Opz.val (R.move rfl) rfl rfl rfl ?_
                refine Opz.val (R.ext rfl rfl) rfl rfl rfl ?_
                refine Opz.val (R.ext rfl rfl) rfl rfl rfl ?_
                refine Opz.val (R.assign rfl) rfl rfl rfl ?_
                refine Opz.opU (by exact W.storeAll rfl rfl Try.typeInfo65 rfl (by repeat (first | exact Upd.head | apply Upd.tail)) (by rfl) (by simp [Value.oneCell'])) rfl rfl ?_
                rintro _ _ _ ⟨rfl, rfl, rfl⟩
                refine Opz.nil ?_
                refine seqQ.normal ?_
                refine Cd.seq ?_
                refine Cd.region ?_
                refine Opz.val (R.move rfl) rfl rfl rfl ?_
                refine Opz.op (by exact W.call rfl rfl Try.call33 (ESmall_spec (L0 := []) rest rfl hrr hcc) rfl (Take.cons (by repeat (first | exact Rem.head | apply Rem.tail | exact Rem.mid)) Take.nil)) rfl rfl rfl ?_
                rintro v55 I55 _ ⟨hI55, M55, hp55, rfl⟩
                obtain ⟨A255, c255, rfl, rfl, rfl, hr55, hc55⟩ := hp55
                have h32 := numB_lt32 (refTake_len s e 4)
                rw [hst.1]
                refine Opz.val (R.move rfl) rfl rfl rfl ?_
                refine Opz.val (by first | exact R.conv rfl Try.underlying49 Try.underlying3 (by first | exact ⟨by simp only [loK]; omega, by simp only [hiK]; omega⟩ | exact wr_inR rfl _) | exact R.convW rfl Try.underlying49 Try.underlying3) rfl rfl rfl ?_
                refine Opz.val (R.neq rfl rfl) rfl rfl rfl ?_
                refine Opz.nil ?_
                refine seqQ.normal ?_
                first | refine Cd.condD rfl (fun hq25 => ?_) (fun hq25 => ?_) | refine Cd.cond rfl (fun hq25 => ?_) (fun hq25 => ?_)
                ·
                  -- c3T
                  exact absurd rfl hq25
                ·
                  -- c3F
                  try contradiction
                  all_goals
                    refine Cd.skip ?_
                    refine blkQ.normal ?_
                    refine blkQ.normal ?_
                    refine seqQ.normal ?_
                    refine Cd.region ?_
                    refine Opz.val (R.move rfl) rfl rfl rfl ?_
                    refine Opz.val (by exact R.add rfl rfl (by first | exact ⟨by simp only [loK]; omega, by simp only [hiK]; omega⟩ | exact wr_inR rfl _)) rfl rfl rfl ?_
                    refine Opz.val (R.assign rfl) rfl rfl rfl ?_
                    refine Opz.nil ?_
                    -- round by g19F c1T c2T c3F
                    rw [← hst.2.1]
                    refine loopQ.round ⟨i + 1, A255, c255, (takeB rest e 4).2.1, (refTake s e 4).2.1, (takeB rest e 4).2.2, rfl, rfl, (by first | assumption | exact Imm.le_refl _ | exact Imm.le.trans (by assumption) (by assumption)), rfl, ?_, ?_, ?_, ?_, ?_⟩ ?_ ⟨(by first | rfl | (refine look_val rfl ?_; first | rfl | (refine int_congr ?_; first | omega | (simp; done)))), rfl, rfl, rfl, trivial⟩ (by repeat (first | exact Have.refl | (refine Have.cons (by repeat (first | exact Rem.head | apply Rem.tail | exact Rem.mid)) ?_) | refine Have.skip ?_ | refine Have.app ?_))
                    · first | assumption | omega | simp
                    · exact hr55
                    · exact hc55
                    · exact hst.2.2
                    · omega
                    · omega
            ·
              -- c2F
              try contradiction
              all_goals
                refine Cd.seq ?_
                refine Cd.region ?_
                refine Opz.val (R.eql rfl rfl) rfl rfl rfl ?_
                refine Opz.val (R.assign rfl) rfl rfl rfl ?_
                refine Opz.nil ?_
                refine seqQ.normal ?_
                first | refine Cd.condD rfl (fun hq26 => ?_) (fun hq26 => ?_) | refine Cd.cond rfl (fun hq26 => ?_) (fun hq26 => ?_)
                ·
                  -- c4T
                  try contradiction
                  all_goals
                    refine Cd.seq ?_
                    refine Cd.region ?_
                    refine Opz.val (by exact R.loadAgg rfl Try.underlying65 rfl Try.typeInfo65 rfl (by first | exact cellsL (by repeat (first | exact List.Mem.head _ | apply List.Mem.tail)) | exact cellsI (by assumption))) rfl rfl rfl ?_
                    refine Opz.op (by exact W.call rfl rfl Try.call32 (RNumber_spec s e 8 (by omega) (by omega)) rfl Take.nil) rfl rfl rfl ?_
                    rintro v63 I63 _ ⟨hI63, M63, hp63, rfl⟩
                    obtain ⟨rfl, rfl, rfl⟩ := hp63
                    have hst := take_same hse 8
                    have hss2 := refTake_rest s e 8
                    refine Opz.val (R.move rfl) rfl rfl rfl ?_
                    refine Opz.val (R.ext rfl rfl) rfl rfl rfl ?_
                    refine Opz.val (R.ext rfl rfl) rfl rfl rfl ?_
                    refine Opz.val (R.assign rfl) rfl rfl rfl ?_
                    refine Opz.opU (by exact W.storeAll rfl rfl Try.typeInfo65 rfl (by repeat (first | exact Upd.head | apply Upd.tail)) (by rfl) (by simp [Value.oneCell'])) rfl rfl ?_
                    rintro _ _ _ ⟨rfl, rfl, rfl⟩
                    refine Opz.nil ?_
                    refine seqQ.normal ?_
                    refine Cd.seq ?_
                    refine Cd.region ?_
                    refine Opz.val (R.move rfl) rfl rfl rfl ?_
                    refine Opz.op (by exact W.call rfl rfl Try.call34 (EGreat_spec (L0 := []) rest rfl hrr hcc) rfl (Take.cons (by repeat (first | exact Rem.head | apply Rem.tail | exact Rem.mid)) Take.nil)) rfl rfl rfl ?_
                    rintro v67 I67 _ ⟨hI67, M67, hp67, rfl⟩
                    obtain ⟨A267, c267, rfl, rfl, rfl, hr67, hc67⟩ := hp67
                    rw [hst.1]
                    refine Opz.val (R.move rfl) rfl rfl rfl ?_
                    refine Opz.val (R.neq rfl rfl) rfl rfl rfl ?_
                    refine Opz.nil ?_
                    refine seqQ.normal ?_
                    first | refine Cd.condD rfl (fun hq27 => ?_) (fun hq27 => ?_) | refine Cd.cond rfl (fun hq27 => ?_) (fun hq27 => ?_)
                    ·
                      -- c5T
                      exact absurd rfl hq27
                    ·
                      -- c5F
                      try contradiction
                      all_goals
                        refine Cd.skip ?_
                        refine blkQ.normal ?_
                        refine blkQ.normal ?_
                        refine seqQ.normal ?_
                        refine Cd.region ?_
                        refine Opz.val (R.move rfl) rfl rfl rfl ?_
                        refine Opz.val (by exact R.add rfl rfl (by first | exact ⟨by simp only [loK]; omega, by simp only [hiK]; omega⟩ | exact wr_inR rfl _)) rfl rfl rfl ?_
                        refine Opz.val (R.assign rfl) rfl rfl rfl ?_
                        refine Opz.nil ?_
                        -- round by g19F c1T c2F c4T c5F
                        rw [← hst.2.1]
                        refine loopQ.round ⟨i + 1, A267, c267, (takeB rest e 8).2.1, (refTake s e 8).2.1, (takeB rest e 8).2.2, rfl, rfl, (by first | assumption | exact Imm.le_refl _ | exact Imm.le.trans (by assumption) (by assumption)), rfl, ?_, ?_, ?_, ?_, ?_⟩ ?_ ⟨(by first | rfl | (refine look_val rfl ?_; first | rfl | (refine int_congr ?_; first | omega | (simp; done)))), rfl, rfl, rfl, trivial⟩ (by repeat (first | exact Have.refl | (refine Have.cons (by repeat (first | exact Rem.head | apply Rem.tail | exact Rem.mid)) ?_) | refine Have.skip ?_ | refine Have.app ?_))
                        · first | assumption | omega | simp
                        · exact hr67
                        · exact hc67
                        · exact hst.2.2
                        · omega
                        · omega
                ·
                  -- c4F
                  try contradiction
                  all_goals
                    refine Cd.seq ?_
                    refine Cd.region ?_
                    refine Opz.val (R.assign rfl) rfl rfl rfl ?_
                    refine Opz.nil ?_
                    refine seqQ.normal ?_
                    refine Cd.seq ?_
                    refine Cd.region ?_
                    refine Opz.val (by exact R.loadAgg rfl Try.underlying65 rfl Try.typeInfo65 rfl (by first | exact cellsL (by repeat (first | exact List.Mem.head _ | apply List.Mem.tail)) | exact cellsI (by assumption))) rfl rfl rfl ?_
                    refine Opz.op (by exact W.call rfl rfl Try.call32 (RNumber_spec s e 4 (by omega) (by omega)) rfl Take.nil) rfl rfl rfl ?_
                    rintro v32 I32 _ ⟨hI32, M32, hp32, rfl⟩
                    obtain ⟨rfl, rfl, rfl⟩ := hp32
                    have hst4 := take_same hse 4
                    have hss4 := refTake_rest s e 4
                    have h32 := numB_lt32 (refTake_len s e 4)
                    have hst := bytes_same hse
                    refine Opz.val (R.move rfl) rfl rfl rfl ?_
                    refine Opz.val (R.ext rfl rfl) rfl rfl rfl ?_
                    refine Opz.val (R.ext rfl rfl) rfl rfl rfl ?_
                    refine Opz.val (R.assign rfl) rfl rfl rfl ?_
                    refine Opz.opU (by exact W.storeAll rfl rfl Try.typeInfo65 rfl (by repeat (first | exact Upd.head | apply Upd.tail)) (by rfl) (by simp [Value.oneCell'])) rfl rfl ?_
                    rintro _ _ _ ⟨rfl, rfl, rfl⟩
                    refine Opz.nil ?_
                    refine seqQ.normal ?_
                    refine Cd.seq ?_
                    refine Cd.region ?_
                    refine Opz.val (by exact R.loadAgg rfl Try.underlying65 rfl Try.typeInfo65 rfl (by first | exact cellsL (by repeat (first | exact List.Mem.head _ | apply List.Mem.tail)) | exact cellsI (by assumption))) rfl rfl rfl ?_
                    refine Opz.val (R.move rfl) rfl rfl rfl ?_
                    refine Opz.val (by first | exact R.conv rfl Try.underlying49 Try.underlying3 (by first | exact ⟨by simp only [loK]; omega, by simp only [hiK]; omega⟩ | exact wr_inR rfl _) | exact R.convW rfl Try.underlying49 Try.underlying3) rfl rfl rfl ?_
                    refine Opz.op (by exact W.call rfl rfl Try.call35 (RTake_spec (refTake s e 4).2.1 (refTake s e 4).2.2 (numB (refTake s e 4).1) (by omega) (by omega)) rfl Take.nil) rfl rfl rfl ?_
                    rintro v39 I39 _ ⟨hI39, M39, hp39, rfl⟩
                    obtain ⟨rfl, rfl, rfl⟩ := hp39
                    have hss2 := refTake_rest (refTake s e 4).2.1 (refTake s e 4).2.2 (numB (refTake s e 4).1)
                    refine Opz.val (R.move rfl) rfl rfl rfl ?_
                    refine Opz.val (R.ext rfl rfl) rfl rfl rfl ?_
                    refine Opz.val (R.ext rfl rfl) rfl rfl rfl ?_
                    refine Opz.val (R.assign rfl) rfl rfl rfl ?_
                    refine Opz.opU (by exact W.storeAll rfl rfl Try.typeInfo65 rfl (by repeat (first | exact Upd.head | apply Upd.tail)) (by rfl) (by simp [Value.oneCell'])) rfl rfl ?_
                    rintro _ _ _ ⟨rfl, rfl, rfl⟩
                    refine Opz.nil ?_
                    refine seqQ.normal ?_
                    refine Cd.seq ?_
                    refine Cd.region ?_
                    refine Opz.val (R.move rfl) rfl rfl rfl ?_
                    refine Opz.op (by exact W.call rfl rfl Try.call36 (EBytes_spec (L0 := []) rest rfl hrr hcc) rfl (Take.cons (by repeat (first | exact Rem.head | apply Rem.tail | exact Rem.mid)) Take.nil)) rfl rfl rfl ?_
                    rintro v43 I43 _ ⟨hI43, M43, hp43, rfl⟩
                    obtain ⟨A143, c143, A243, c243, rfl, rfl, hb43, hcb43, hr43, hc43⟩ := hp43
                    rw [hst.1]
                    rw [hst.1] at hb43
                    have hle := hle.trans hI43
                    replace hr := hr.mono hI43
                    replace hra := hra.mono hI43
                    refine Opz.val (by exact R.bytesT rfl Try.underlying27 Try.underlying5 Try.underlying9 (by first | rfl | assumption | simp) (Rd.cells hb43)) rfl rfl rfl ?_
                    refine Opz.val (R.move rfl) rfl rfl rfl ?_
                    refine Opz.val (R.neT rfl rfl) rfl rfl rfl ?_
                    refine Opz.nil ?_
                    refine seqQ.normal ?_
                    first | refine Cd.condD rfl (fun hq28 => ?_) (fun hq28 => ?_) | refine Cd.cond rfl (fun hq28 => ?_) (fun hq28 => ?_)
                    ·
                      -- c6T
                      exact absurd rfl hq28
                    ·
                      -- c6F
                      try contradiction
                      all_goals
                        refine Cd.skip ?_
                        refine blkQ.normal ?_
                        refine blkQ.normal ?_
                        refine seqQ.normal ?_
                        refine Cd.region ?_
                        refine Opz.val (R.move rfl) rfl rfl rfl ?_
                        refine Opz.val (by exact R.add rfl rfl (by first | exact ⟨by simp only [loK]; omega, by simp only [hiK]; omega⟩ | exact wr_inR rfl _)) rfl rfl rfl ?_
                        refine Opz.val (R.assign rfl) rfl rfl rfl ?_
                        refine Opz.nil ?_
                        -- round by g19F c1T c2F c4F c6F
                        rw [← hst.2.1]
                        refine loopQ.round ⟨i + 1, A243, c243, (bytesB rest e).2.1, (refTake (refTake s e 4).2.1 (refTake s e 4).2.2 (numB (refTake s e 4).1)).2.1, (bytesB rest e).2.2, rfl, rfl, (by first | assumption | exact Imm.le_refl _ | exact Imm.le.trans (by assumption) (by assumption)), rfl, ?_, ?_, ?_, ?_, ?_⟩ ?_ ⟨(by first | rfl | (refine look_val rfl ?_; first | rfl | (refine int_congr ?_; first | omega | (simp; done)))), rfl, rfl, rfl, trivial⟩ (by repeat (first | exact Have.refl | (refine Have.cons (by repeat (first | exact Rem.head | apply Rem.tail | exact Rem.mid)) ?_) | refine Have.skip ?_ | refine Have.app ?_))
                        · first | assumption | omega | simp
                        · exact (hr43.mono (by assumption))
                        · exact hc43
                        · exact hst.2.2
                        · omega
                        · omega
        ·
          -- c1F
          try contradiction
          all_goals
            refine Cd.exit ?_
            refine seqQ.exit ?_
            refine loopQ.exit ?_
            refine blkQ.here ?_
            refine seqQ.normal ?_
            refine Cd.seq ?_
            refine Cd.region ?_
            refine Opz.val (by first | exact R.field (off := 1) rfl Try.underlying65 rfl Try.typeInfo32 rfl rfl | exact R.fieldA rfl Try.underlying65 rfl Try.typeInfo32 rfl) rfl rfl rfl ?_
            refine Opz.val (by exact R.load rfl Try.underlying32 rfl (by first | exact cellL (by repeat (first | exact List.Mem.head _ | apply List.Mem.tail)) rfl | exact cellI (by assumption) | (exact cellRow (by repeat (first | exact List.Mem.head _ | apply List.Mem.tail)) (by assumption) (by assumption)))) rfl rfl rfl ?_
            refine Opz.val (R.assign rfl) rfl rfl rfl ?_
            refine Opz.nil ?_
            refine seqQ.normal ?_
            refine Cd.seq ?_
            refine Cd.seq ?_
            refine Cd.region ?_
            refine Opz.val (R.move rfl) rfl rfl rfl ?_
            refine Opz.val (R.eql rfl rfl) rfl rfl rfl ?_
            refine Opz.val (R.move rfl) rfl rfl rfl ?_
            first | refine Opz.guardD 74 rfl (fun hq29 => ?_) (fun hq29 => ?_) | refine Opz.guard 74 rfl (fun hq29 => ?_) (fun hq29 => ?_)
            ·
              -- g74T
              try contradiction
              all_goals
                have he : e = 0 := by simpa using hq29
                refine Opz.val (by first | exact R.field (off := 0) rfl Try.underlying65 rfl Try.typeInfo9 rfl rfl | exact R.fieldA rfl Try.underlying65 rfl Try.typeInfo9 rfl) rfl rfl rfl ?_
                refine Opz.val (by exact R.load rfl Try.underlying9 rfl (by first | exact cellL (by repeat (first | exact List.Mem.head _ | apply List.Mem.tail)) rfl | exact cellI (by assumption) | (exact cellRow (by repeat (first | exact List.Mem.head _ | apply List.Mem.tail)) (by assumption) (by assumption)))) rfl rfl rfl ?_
                refine Opz.val (R.lenT rfl rfl Try.underlying9) rfl rfl rfl ?_
                refine Opz.val (R.gtr rfl rfl) rfl rfl rfl ?_
                refine Opz.val (R.pick rfl rfl) rfl rfl rfl ?_
                refine Opz.nil ?_
                refine seqQ.normal ?_
                first | refine Cd.condD rfl (fun hq30 => ?_) (fun hq30 => ?_) | refine Cd.cond rfl (fun hq30 => ?_) (fun hq30 => ?_)
                ·
                  -- c7T
                  try contradiction
                  all_goals
                    have hs0 : 0 < s.length := by simpa using hq30
                    have hend : (if e = 0 ∧ 0 < rest.length then (2 : Int) else e) = 2 := by rw [if_pos ⟨he, by rw [hse he]; exact hs0⟩]
                    refine Cd.region ?_
                    refine Opz.val (R.assign rfl) rfl rfl rfl ?_
                    refine Opz.nil ?_
                    refine seqQ.normal ?_
                    refine Cd.seq ?_
                    refine Cd.region ?_
                    refine Opz.op (by exact W.call rfl rfl Try.call21 awake_spec rfl Take.nil) rfl rfl rfl ?_
                    rintro v80 I80 _ ⟨hI80, M80, hp80, rfl⟩
                    obtain ⟨rfl, rfl⟩ := hp80
                    have hle := hle.trans hI80
                    replace hr := hr.mono hI80
                    replace hra := hra.mono hI80
                    refine Opz.val (R.move rfl) rfl rfl rfl ?_
                    first | refine Opz.guardD 81 rfl (fun hq31 => ?_) (fun hq31 => ?_) | refine Opz.guard 81 rfl (fun hq31 => ?_) (fun hq31 => ?_)
                    ·
                      -- g81T
                      try contradiction
                      all_goals
                        refine Opz.val (R.move rfl) rfl rfl rfl ?_
                        refine Opz.op (by exact W.call rfl rfl Try.call37 EEnd_spec rfl (Take.cons (by repeat (first | exact Rem.head | apply Rem.tail | exact Rem.mid)) Take.nil)) rfl rfl rfl ?_
                        rintro v83 I83 _ ⟨hI83, M83, hp83, rfl⟩
                        obtain ⟨rfl, rfl, rfl⟩ := hp83
                        rw [hend]
                        refine Opz.val (R.move rfl) rfl rfl rfl ?_
                        refine Opz.val (R.eql rfl rfl) rfl rfl rfl ?_
                        refine Opz.val (R.pick rfl rfl) rfl rfl rfl ?_
                        refine Opz.val (R.move rfl) rfl rfl rfl ?_
                        first | refine Opz.guardD 87 rfl (fun hq32 => ?_) (fun hq32 => ?_) | refine Opz.guard 87 rfl (fun hq32 => ?_) (fun hq32 => ?_)
                        ·
                          -- g87T
                          try contradiction
                          all_goals
                            refine Opz.val (R.move rfl) rfl rfl rfl ?_
                            refine Opz.val (R.eql rfl rfl) rfl rfl rfl ?_
                            refine Opz.val (R.move rfl) rfl rfl rfl ?_
                            first | refine Opz.guardD 90 rfl (fun hq33 => ?_) (fun hq33 => ?_) | refine Opz.guard 90 rfl (fun hq33 => ?_) (fun hq33 => ?_)
                            ·
                              -- g90T
                              try contradiction
                              all_goals
                                refine Opz.none rfl rfl rfl ?_
                                refine Opz.none rfl rfl rfl ?_
                                refine Opz.none rfl rfl rfl ?_
                                refine Opz.val (R.pick rfl rfl) rfl rfl rfl ?_
                                refine Opz.val (R.pick rfl rfl) rfl rfl rfl ?_
                                refine Opz.val (R.assign rfl) rfl rfl rfl ?_
                                refine Opz.nil ?_
                                refine seqQ.normal ?_
                                refine Cd.ret ?_
                                -- path g19F c1F g74T c7T g81T g87T g90T
                                refine fin.ret (L' := []) (ResOK.tmp rfl ResOK.nil) (by first | exact hle | exact Imm.le_refl _) ?_ ?_
                                · repeat (first | exact Have.refl | (refine Have.cons (by repeat (first | exact Rem.head | apply Rem.tail | exact Rem.mid)) ?_) | refine Have.skip ?_ | refine Have.app ?_)
                                ·
                                  first | exact ⟨rfl, rfl⟩ | exact ⟨(bool_congr (by simp [numB])).symm, rfl⟩
                            ·
                              -- g90F
                              try contradiction
                              all_goals
                                have hbad := hq33
                                refine Opz.val (R.move rfl) rfl rfl rfl ?_
                                refine Opz.op (by exact W.call rfl rfl Try.call33 (ESmall_spec (L0 := []) rest rfl (hrr.mono (by assumption)) hcc) rfl (Take.cons (by repeat (first | exact Rem.head | apply Rem.tail | exact Rem.mid)) Take.nil)) rfl rfl rfl ?_
                                rintro v92 I92 _ ⟨hI92, M92, hp92, rfl⟩
                                obtain ⟨A292, c292, rfl, rfl, rfl, hr92, hc92⟩ := hp92
                                rw [take_bad hbad]
                                refine Opz.val (R.eql rfl rfl) rfl rfl rfl ?_
                                refine Opz.val (R.pick rfl rfl) rfl rfl rfl ?_
                                refine Opz.val (R.pick rfl rfl) rfl rfl rfl ?_
                                refine Opz.val (R.assign rfl) rfl rfl rfl ?_
                                refine Opz.nil ?_
                                refine seqQ.normal ?_
                                refine Cd.ret ?_
                                -- path g19F c1F g74T c7T g81T g87T g90F
                                refine fin.ret (L' := []) (ResOK.tmp rfl ResOK.nil) (by first | exact hle | exact Imm.le_refl _) ?_ ?_
                                · repeat (first | exact Have.refl | (refine Have.cons (by repeat (first | exact Rem.head | apply Rem.tail | exact Rem.mid)) ?_) | refine Have.skip ?_ | refine Have.app ?_)
                                ·
                                  first | exact ⟨rfl, rfl⟩ | exact ⟨(bool_congr (by simp [numB])).symm, rfl⟩
                        ·
                          -- g87F
                          exact absurd rfl hq32
                    ·
                      -- g81F
                      exact absurd hq31 (by decide)
                ·
                  -- c7F
                  try contradiction
                  all_goals
                    have hs0 : e = 0 → ¬ 0 < s.length := by first | (intro h; exact absurd h he) | (intro _; simpa using hq30)
                    have hend : (if e = 0 ∧ 0 < rest.length then (2 : Int) else e) = e := by rw [if_neg]; rintro ⟨h1, h2⟩; rw [hse h1] at h2; exact hs0 h1 h2
                    refine Cd.skip ?_
                    refine seqQ.normal ?_
                    refine Cd.seq ?_
                    refine Cd.region ?_
                    refine Opz.op (by exact W.call rfl rfl Try.call21 awake_spec rfl Take.nil) rfl rfl rfl ?_
                    rintro v80 I80 _ ⟨hI80, M80, hp80, rfl⟩
                    obtain ⟨rfl, rfl⟩ := hp80
                    have hle := hle.trans hI80
                    replace hr := hr.mono hI80
                    replace hra := hra.mono hI80
                    refine Opz.val (R.move rfl) rfl rfl rfl ?_
                    first | refine Opz.guardD 81 rfl (fun hq34 => ?_) (fun hq34 => ?_) | refine Opz.guard 81 rfl (fun hq34 => ?_) (fun hq34 => ?_)
                    ·
                      -- g81T
                      try contradiction
                      all_goals
                        refine Opz.val (R.move rfl) rfl rfl rfl ?_
                        refine Opz.op (by exact W.call rfl rfl Try.call37 EEnd_spec rfl (Take.cons (by repeat (first | exact Rem.head | apply Rem.tail | exact Rem.mid)) Take.nil)) rfl rfl rfl ?_
                        rintro v83 I83 _ ⟨hI83, M83, hp83, rfl⟩
                        obtain ⟨rfl, rfl, rfl⟩ := hp83
                        rw [hend]
                        refine Opz.val (R.move rfl) rfl rfl rfl ?_
                        refine Opz.val (R.eql rfl rfl) rfl rfl rfl ?_
                        refine Opz.val (R.pick rfl rfl) rfl rfl rfl ?_
                        refine Opz.val (R.move rfl) rfl rfl rfl ?_
                        first | refine Opz.guardD 87 rfl (fun hq35 => ?_) (fun hq35 => ?_) | refine Opz.guard 87 rfl (fun hq35 => ?_) (fun hq35 => ?_)
                        ·
                          -- g87T
                          try contradiction
                          all_goals
                            refine Opz.val (R.move rfl) rfl rfl rfl ?_
                            refine Opz.val (R.eql rfl rfl) rfl rfl rfl ?_
                            refine Opz.val (R.move rfl) rfl rfl rfl ?_
                            first | refine Opz.guardD 90 rfl (fun hq36 => ?_) (fun hq36 => ?_) | refine Opz.guard 90 rfl (fun hq36 => ?_) (fun hq36 => ?_)
                            ·
                              -- g90T
                              try contradiction
                              all_goals
                                refine Opz.none rfl rfl rfl ?_
                                refine Opz.none rfl rfl rfl ?_
                                refine Opz.none rfl rfl rfl ?_
                                refine Opz.val (R.pick rfl rfl) rfl rfl rfl ?_
                                refine Opz.val (R.pick rfl rfl) rfl rfl rfl ?_
                                refine Opz.val (R.assign rfl) rfl rfl rfl ?_
                                refine Opz.nil ?_
                                refine seqQ.normal ?_
                                refine Cd.ret ?_
                                -- path g19F c1F g74T c7F g81T g87T g90T
                                refine fin.ret (L' := []) (ResOK.tmp rfl ResOK.nil) (by first | exact hle | exact Imm.le_refl _) ?_ ?_
                                · repeat (first | exact Have.refl | (refine Have.cons (by repeat (first | exact Rem.head | apply Rem.tail | exact Rem.mid)) ?_) | refine Have.skip ?_ | refine Have.app ?_)
                                ·
                                  first | exact ⟨rfl, rfl⟩ | exact ⟨(bool_congr (by simp [numB])).symm, rfl⟩
                            ·
                              -- g90F
                              try contradiction
                              all_goals
                                have hbad := hq36
                                refine Opz.val (R.move rfl) rfl rfl rfl ?_
                                refine Opz.op (by exact W.call rfl rfl Try.call33 (ESmall_spec (L0 := []) rest rfl (hrr.mono (by assumption)) hcc) rfl (Take.cons (by repeat (first | exact Rem.head | apply Rem.tail | exact Rem.mid)) Take.nil)) rfl rfl rfl ?_
                                rintro v92 I92 _ ⟨hI92, M92, hp92, rfl⟩
                                obtain ⟨A292, c292, rfl, rfl, rfl, hr92, hc92⟩ := hp92
                                rw [take_bad hbad]
                                refine Opz.val (R.eql rfl rfl) rfl rfl rfl ?_
                                refine Opz.val (R.pick rfl rfl) rfl rfl rfl ?_
                                refine Opz.val (R.pick rfl rfl) rfl rfl rfl ?_
                                refine Opz.val (R.assign rfl) rfl rfl rfl ?_
                                refine Opz.nil ?_
                                refine seqQ.normal ?_
                                refine Cd.ret ?_
                                -- path g19F c1F g74T c7F g81T g87T g90F
                                refine fin.ret (L' := []) (ResOK.tmp rfl ResOK.nil) (by first | exact hle | exact Imm.le_refl _) ?_ ?_
                                · repeat (first | exact Have.refl | (refine Have.cons (by repeat (first | exact Rem.head | apply Rem.tail | exact Rem.mid)) ?_) | refine Have.skip ?_ | refine Have.app ?_)
                                ·
                                  first | exact ⟨rfl, rfl⟩ | exact ⟨(bool_congr (by simp [numB])).symm, rfl⟩
                        ·
                          -- g87F
                          exact absurd rfl hq35
                    ·
                      -- g81F
                      exact absurd hq34 (by decide)
            ·
              -- g74F
              try contradiction
              all_goals
                have he : e ≠ 0 := by simpa using hq29
                refine Opz.none rfl rfl rfl ?_
                refine Opz.none rfl rfl rfl ?_
                refine Opz.none rfl rfl rfl ?_
                refine Opz.none rfl rfl rfl ?_
                refine Opz.val (R.pick rfl rfl) rfl rfl rfl ?_
                refine Opz.nil ?_
                refine seqQ.normal ?_
                first | refine Cd.condD rfl (fun hq37 => ?_) (fun hq37 => ?_) | refine Cd.cond rfl (fun hq37 => ?_) (fun hq37 => ?_)
                ·
                  -- c7T
                  try contradiction
                  all_goals
                    have hs0 : 0 < s.length := by simpa using hq37
                    have hend : (if e = 0 ∧ 0 < rest.length then (2 : Int) else e) = 2 := by rw [if_pos ⟨he, by rw [hse he]; exact hs0⟩]
                    refine Cd.region ?_
                    refine Opz.val (R.assign rfl) rfl rfl rfl ?_
                    refine Opz.nil ?_
                    refine seqQ.normal ?_
                    refine Cd.seq ?_
                    refine Cd.region ?_
                    refine Opz.op (by exact W.call rfl rfl Try.call21 awake_spec rfl Take.nil) rfl rfl rfl ?_
                    rintro v80 I80 _ ⟨hI80, M80, hp80, rfl⟩
                    obtain ⟨rfl, rfl⟩ := hp80
                    have hle := hle.trans hI80
                    replace hr := hr.mono hI80
                    replace hra := hra.mono hI80
                    refine Opz.val (R.move rfl) rfl rfl rfl ?_
                    first | refine Opz.guardD 81 rfl (fun hq38 => ?_) (fun hq38 => ?_) | refine Opz.guard 81 rfl (fun hq38 => ?_) (fun hq38 => ?_)
                    ·
                      -- g81T
                      try contradiction
                      all_goals
                        refine Opz.val (R.move rfl) rfl rfl rfl ?_
                        refine Opz.op (by exact W.call rfl rfl Try.call37 EEnd_spec rfl (Take.cons (by repeat (first | exact Rem.head | apply Rem.tail | exact Rem.mid)) Take.nil)) rfl rfl rfl ?_
                        rintro v83 I83 _ ⟨hI83, M83, hp83, rfl⟩
                        obtain ⟨rfl, rfl, rfl⟩ := hp83
                        rw [hend]
                        refine Opz.val (R.move rfl) rfl rfl rfl ?_
                        refine Opz.val (R.eql rfl rfl) rfl rfl rfl ?_
                        refine Opz.val (R.pick rfl rfl) rfl rfl rfl ?_
                        refine Opz.val (R.move rfl) rfl rfl rfl ?_
                        first | refine Opz.guardD 87 rfl (fun hq39 => ?_) (fun hq39 => ?_) | refine Opz.guard 87 rfl (fun hq39 => ?_) (fun hq39 => ?_)
                        ·
                          -- g87T
                          try contradiction
                          all_goals
                            refine Opz.val (R.move rfl) rfl rfl rfl ?_
                            refine Opz.val (R.eql rfl rfl) rfl rfl rfl ?_
                            refine Opz.val (R.move rfl) rfl rfl rfl ?_
                            first | refine Opz.guardD 90 rfl (fun hq40 => ?_) (fun hq40 => ?_) | refine Opz.guard 90 rfl (fun hq40 => ?_) (fun hq40 => ?_)
                            ·
                              -- g90T
                              try contradiction
                              all_goals
                                refine Opz.none rfl rfl rfl ?_
                                refine Opz.none rfl rfl rfl ?_
                                refine Opz.none rfl rfl rfl ?_
                                refine Opz.val (R.pick rfl rfl) rfl rfl rfl ?_
                                refine Opz.val (R.pick rfl rfl) rfl rfl rfl ?_
                                refine Opz.val (R.assign rfl) rfl rfl rfl ?_
                                refine Opz.nil ?_
                                refine seqQ.normal ?_
                                refine Cd.ret ?_
                                -- path g19F c1F g74F c7T g81T g87T g90T
                                refine fin.ret (L' := []) (ResOK.tmp rfl ResOK.nil) (by first | exact hle | exact Imm.le_refl _) ?_ ?_
                                · repeat (first | exact Have.refl | (refine Have.cons (by repeat (first | exact Rem.head | apply Rem.tail | exact Rem.mid)) ?_) | refine Have.skip ?_ | refine Have.app ?_)
                                ·
                                  first | exact ⟨rfl, rfl⟩ | exact ⟨(bool_congr (by simp [numB])).symm, rfl⟩
                            ·
                              -- g90F
                              try contradiction
                              all_goals
                                have hbad := hq40
                                refine Opz.val (R.move rfl) rfl rfl rfl ?_
                                refine Opz.op (by exact W.call rfl rfl Try.call33 (ESmall_spec (L0 := []) rest rfl (hrr.mono (by assumption)) hcc) rfl (Take.cons (by repeat (first | exact Rem.head | apply Rem.tail | exact Rem.mid)) Take.nil)) rfl rfl rfl ?_
                                rintro v92 I92 _ ⟨hI92, M92, hp92, rfl⟩
                                obtain ⟨A292, c292, rfl, rfl, rfl, hr92, hc92⟩ := hp92
                                rw [take_bad hbad]
                                refine Opz.val (R.eql rfl rfl) rfl rfl rfl ?_
                                refine Opz.val (R.pick rfl rfl) rfl rfl rfl ?_
                                refine Opz.val (R.pick rfl rfl) rfl rfl rfl ?_
                                refine Opz.val (R.assign rfl) rfl rfl rfl ?_
                                refine Opz.nil ?_
                                refine seqQ.normal ?_
                                refine Cd.ret ?_
                                -- path g19F c1F g74F c7T g81T g87T g90F
                                refine fin.ret (L' := []) (ResOK.tmp rfl ResOK.nil) (by first | exact hle | exact Imm.le_refl _) ?_ ?_
                                · repeat (first | exact Have.refl | (refine Have.cons (by repeat (first | exact Rem.head | apply Rem.tail | exact Rem.mid)) ?_) | refine Have.skip ?_ | refine Have.app ?_)
                                ·
                                  first | exact ⟨rfl, rfl⟩ | exact ⟨(bool_congr (by simp [numB])).symm, rfl⟩
                        ·
                          -- g87F
                          exact absurd rfl hq39
                    ·
                      -- g81F
                      exact absurd hq38 (by decide)
                ·
                  -- c7F
                  try contradiction
                  all_goals
                    have hs0 : e = 0 → ¬ 0 < s.length := by first | (intro h; exact absurd h he) | (intro _; simpa using hq37)
                    have hend : (if e = 0 ∧ 0 < rest.length then (2 : Int) else e) = e := by rw [if_neg]; rintro ⟨h1, h2⟩; rw [hse h1] at h2; exact hs0 h1 h2
                    refine Cd.skip ?_
                    refine seqQ.normal ?_
                    refine Cd.seq ?_
                    refine Cd.region ?_
                    refine Opz.op (by exact W.call rfl rfl Try.call21 awake_spec rfl Take.nil) rfl rfl rfl ?_
                    rintro v80 I80 _ ⟨hI80, M80, hp80, rfl⟩
                    obtain ⟨rfl, rfl⟩ := hp80
                    have hle := hle.trans hI80
                    replace hr := hr.mono hI80
                    replace hra := hra.mono hI80
                    refine Opz.val (R.move rfl) rfl rfl rfl ?_
                    first | refine Opz.guardD 81 rfl (fun hq41 => ?_) (fun hq41 => ?_) | refine Opz.guard 81 rfl (fun hq41 => ?_) (fun hq41 => ?_)
                    ·
                      -- g81T
                      try contradiction
                      all_goals
                        refine Opz.val (R.move rfl) rfl rfl rfl ?_
                        refine Opz.op (by exact W.call rfl rfl Try.call37 EEnd_spec rfl (Take.cons (by repeat (first | exact Rem.head | apply Rem.tail | exact Rem.mid)) Take.nil)) rfl rfl rfl ?_
                        rintro v83 I83 _ ⟨hI83, M83, hp83, rfl⟩
                        obtain ⟨rfl, rfl, rfl⟩ := hp83
                        rw [hend]
                        refine Opz.val (R.move rfl) rfl rfl rfl ?_
                        refine Opz.val (R.eql rfl rfl) rfl rfl rfl ?_
                        refine Opz.val (R.pick rfl rfl) rfl rfl rfl ?_
                        refine Opz.val (R.move rfl) rfl rfl rfl ?_
                        first | refine Opz.guardD 87 rfl (fun hq42 => ?_) (fun hq42 => ?_) | refine Opz.guard 87 rfl (fun hq42 => ?_) (fun hq42 => ?_)
                        ·
                          -- g87T
                          try contradiction
                          all_goals
                            refine Opz.val (R.move rfl) rfl rfl rfl ?_
                            refine Opz.val (R.eql rfl rfl) rfl rfl rfl ?_
                            refine Opz.val (R.move rfl) rfl rfl rfl ?_
                            first | refine Opz.guardD 90 rfl (fun hq43 => ?_) (fun hq43 => ?_) | refine Opz.guard 90 rfl (fun hq43 => ?_) (fun hq43 => ?_)
                            ·
                              -- g90T
                              try contradiction
                              all_goals
                                refine Opz.none rfl rfl rfl ?_
                                refine Opz.none rfl rfl rfl ?_
                                refine Opz.none rfl rfl rfl ?_
                                refine Opz.val (R.pick rfl rfl) rfl rfl rfl ?_
                                refine Opz.val (R.pick rfl rfl) rfl rfl rfl ?_
                                refine Opz.val (R.assign rfl) rfl rfl rfl ?_
                                refine Opz.nil ?_
                                refine seqQ.normal ?_
                                refine Cd.ret ?_
                                -- path g19F c1F g74F c7F g81T g87T g90T
                                refine fin.ret (L' := []) (ResOK.tmp rfl ResOK.nil) (by first | exact hle | exact Imm.le_refl _) ?_ ?_
                                · repeat (first | exact Have.refl | (refine Have.cons (by repeat (first | exact Rem.head | apply Rem.tail | exact Rem.mid)) ?_) | refine Have.skip ?_ | refine Have.app ?_)
                                ·
                                  first | exact ⟨rfl, rfl⟩ | exact ⟨(bool_congr (by simp [numB])).symm, rfl⟩
                            ·
                              -- g90F
                              try contradiction
                              all_goals
                                have hbad := hq43
                                refine Opz.val (R.move rfl) rfl rfl rfl ?_
                                refine Opz.op (by exact W.call rfl rfl Try.call33 (ESmall_spec (L0 := []) rest rfl (hrr.mono (by assumption)) hcc) rfl (Take.cons (by repeat (first | exact Rem.head | apply Rem.tail | exact Rem.mid)) Take.nil)) rfl rfl rfl ?_
                                rintro v92 I92 _ ⟨hI92, M92, hp92, rfl⟩
                                obtain ⟨A292, c292, rfl, rfl, rfl, hr92, hc92⟩ := hp92
                                rw [take_bad hbad]
                                refine Opz.val (R.eql rfl rfl) rfl rfl rfl ?_
                                refine Opz.val (R.pick rfl rfl) rfl rfl rfl ?_
                                refine Opz.val (R.pick rfl rfl) rfl rfl rfl ?_
                                refine Opz.val (R.assign rfl) rfl rfl rfl ?_
                                refine Opz.nil ?_
                                refine seqQ.normal ?_
                                refine Cd.ret ?_
                                -- path g19F c1F g74F c7F g81T g87T g90F
                                refine fin.ret (L' := []) (ResOK.tmp rfl ResOK.nil) (by first | exact hle | exact Imm.le_refl _) ?_ ?_
                                · repeat (first | exact Have.refl | (refine Have.cons (by repeat (first | exact Rem.head | apply Rem.tail | exact Rem.mid)) ?_) | refine Have.skip ?_ | refine Have.app ?_)
                                ·
                                  first | exact ⟨rfl, rfl⟩ | exact ⟨(bool_congr (by simp [numB])).symm, rfl⟩
                        ·
                          -- g87F
                          exact absurd rfl hq42
                    ·
                      -- g81F
                      exact absurd hq41 (by decide)

end Go.Proofs.Ytdecipfdbkpigaa
