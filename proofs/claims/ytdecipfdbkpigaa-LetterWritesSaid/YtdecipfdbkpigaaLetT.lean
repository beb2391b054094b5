
import Derived.Test.YtdecipfdbkpigaaProg
import Derived.Test.YtdecipfdbkpigaaLetS
import Derived.Test.YtdecipfdbkpigaaEngL
namespace Go.Proofs.Ytdecipfdbkpigaa
open Go.Eng

/-- A part, as it lies. -/
abbrev ePart : Enc (Int × Int × Int × List UInt8 × Unit) := ePair (eInt .i64) (ePair (eInt .i64) (ePair (eInt .u64) (ePair (eSl eByte) eUnit)))
theorem part_rep {I : Imm} {x : Int × Int × Int × List UInt8 × Unit} {cs : List Value} (h : ePart.rep I x cs) :
    ∃ B c, cs = [.int .i64 x.1, .int .i64 x.2.1, .int .u64 x.2.2.1, .slice B x.2.2.2.1.length c] ∧ InR .i64 x.1 ∧ InR .i64 x.2.1 ∧ InR .u64 x.2.2.1 ∧ Rd eByte I B x.2.2.2.1 := by
  obtain ⟨c1, c2, rfl, ⟨rfl, h1⟩, c3, c4, rfl, ⟨rfl, h2⟩, c5, c6, rfl, ⟨rfl, h3⟩, c7, c8, rfl, ⟨B, c, rfl, _, h4⟩, rfl⟩ := h
  exact ⟨B, c, rfl, h1, h2, h3, h4⟩
theorem wide_next {wide fits : Bool} {n : Int} (hw : wide = !fits) : (wide || decide (n < 0) || decide (4294967295 < n)) = !(fits && decide (0 ≤ n) && decide (n < 4294967296)) := by
  subst hw
  by_cases h1 : n < 0
  · have h2 : ¬ 0 ≤ n := by omega
    simp [h1, h2]
  · have h2 : 0 ≤ n := by omega
    by_cases h3 : 4294967295 < n
    · have h4 : ¬ n < 4294967296 := by omega
      simp [h1, h2, h3, h4]
    · have h4 : n < 4294967296 := by omega
      simp [h1, h2, h3, h4]



set_option maxRecDepth 100000 in
set_option maxHeartbeats 400000 in
theorem RSealed_spec {I : Imm} (s : List UInt8) (hs : s.length ≤ 4611686018427387904) :
    Meets Try.prog 29 #[.string (strOf s)] I ([]) (Ret I (.string (strOf (sealB s)))) := by
  refine Meets.intro (args := [.string (strOf s)]) (N := 9) (rs := [.tmp 2]) Try.func29 rfl rfl rfl rfl (fun F => ?_)
  change Cd _ _ _ [(0, .string (strOf s))] I (F) _
  have hle := Imm.le_refl I
  refine Cd.seq ?_
  refine Cd.region ?_
  refine Opz.val (R.assign rfl) rfl rfl rfl ?_
  refine Opz.nil ?_
  refine seqQ.normal ?_
  refine Cd.seq ?_
  refine Cd.region ?_
  refine Opz.val (R.move rfl) rfl rfl rfl ?_
  refine Opz.val (R.move rfl) rfl rfl rfl ?_
  refine Opz.op (by exact W.call rfl rfl Try.call39 (RCheck_spec s hs) rfl Take.nil) rfl rfl rfl ?_
  rintro v5 I5 _ ⟨hI5, M5, hp5, rfl⟩
  obtain ⟨rfl, rfl, rfl⟩ := hp5
  have hcl := crc_lt s
  refine Opz.val (by first | exact R.conv rfl Try.underlying76 Try.underlying3 (by first | exact ⟨by simp only [loK]; omega, by simp only [hiK]; omega⟩ | exact wr_inR rfl _) | exact R.convW rfl Try.underlying76 Try.underlying3) rfl rfl rfl ?_
  refine Opz.op (by exact W.call rfl rfl Try.call23 (RSmall_spec (crc s : Nat) (by omega) (by omega)) rfl Take.nil) rfl rfl rfl ?_
  rintro v7 I7 _ ⟨hI7, M7, hp7, rfl⟩
  obtain ⟨rfl, rfl, rfl⟩ := hp7
  refine Opz.val (by exact R.catT rfl rfl (by rw [leB_len]; omega)) rfl rfl rfl ?_
  refine Opz.val (R.assign rfl) rfl rfl rfl ?_
  refine Opz.nil ?_
  refine seqQ.normal ?_
  refine Cd.ret ?_
  -- path 
  refine fin.ret (L' := []) (ResOK.tmp rfl ResOK.nil) (by first | exact hle | exact Imm.le_refl _) ?_ ?_
  · repeat (first | exact Have.refl | (refine Have.cons (by repeat (first | exact Rem.head | apply Rem.tail | exact Rem.mid)) ?_) | refine Have.skip ?_ | refine Have.app ?_)
  ·
    exact Ret.mk rfl


set_option maxRecDepth 100000 in
set_option maxHeartbeats 4000000 in
theorem LWrites_spec {I : Imm} {A : Option Addr} {c : Nat} (parts : List (Int × Int × Int × List UInt8 × Unit)) (hra : Rd ePart I A parts) (hlen : parts.length ≤ 140737488351232) :
    Meets Try.prog 7 #[.slice A parts.length c] I ([]) (fun v _ L' => .bool true = v ∧ [] = L') := by
  refine Meets.intro (args := [.slice A parts.length c]) (N := 128) (rs := [.tmp 2]) Try.func7 rfl rfl rfl rfl (fun F => ?_)
  change Cd _ _ _ [(0, .slice A parts.length c)] I (F) _
  have hle := Imm.le_refl I
  refine Cd.seq ?_
  refine Cd.region ?_
  refine Opz.val (R.assign rfl) rfl rfl rfl ?_
  refine Opz.nil ?_
  refine seqQ.normal ?_
  refine Cd.seq ?_
  refine Cd.region ?_
  refine Opz.op (by exact W.call rfl rfl Try.call20 (Blank_spec) rfl Take.nil) rfl rfl rfl ?_
  rintro v11 I11 _ ⟨hI11, M11, hp11, rfl⟩
  obtain ⟨b11, rfl, rfl, rfl⟩ := hp11
  refine Opz.val (R.assign rfl) rfl rfl rfl ?_
  refine Opz.nil ?_
  refine seqQ.normal ?_
  refine Cd.seq ?_
  refine Cd.region ?_
  refine Opz.val (R.assign rfl) rfl rfl rfl ?_
  refine Opz.nil ?_
  refine seqQ.normal ?_
  refine Cd.seq ?_
  refine Cd.region ?_
  refine Opz.val (R.assign rfl) rfl rfl rfl ?_
  refine Opz.nil ?_
  refine seqQ.normal ?_
  refine Cd.seq ?_
  refine Cd.seq ?_
  refine Cd.region ?_
  refine Opz.val (R.assign rfl) rfl rfl rfl ?_
  refine Opz.nil ?_
  refine seqQ.normal ?_
  refine Cd.block ?_
  -- loop 1: turned [4, 5, 6], kept [0, 3]
  refine Cd.loop [0, 3] (fun nn vs I101 L1 => ∃ (i : Nat) (A1 : Option Addr) (c1 : Nat) (bs : List UInt8) (s : List UInt8) (wide : Bool) (fits : Bool), [(4, .string (strOf s)), (5, .bool fits), (6, .int .i64 i)] = vs ∧ (.blk b11 89 [.slice A1 (bs.length) c1, .bool wide] :: .row (.slice A1 (bs.length) c1) 5 1 (bs.length) (bytesV bs) :: F) = L1 ∧ I.le I101 ∧ parts.length - i = nn ∧ (i ≤ parts.length) ∧ (i ≤ 30) ∧ (bs.length ≤ i * 70004) ∧ (s.length ≤ i * 70004) ∧ (wide = !fits) ∧ (fits = true → bs = s)) (Pick.cons rfl (Pick.cons rfl (Pick.nil))) ?_ ?_
  ·
    refine ⟨_, _, _, ⟨0, none, 0, [], [], false, true, rfl, rfl, Imm.le_refl _, rfl, ?_, ?_, ?_, ?_, ?_, ?_⟩, ⟨rfl, rfl, rfl, trivial⟩, by repeat (first | exact Have.refl | (refine Have.cons (by repeat (first | exact Rem.head | apply Rem.tail | exact Rem.mid)) ?_) | refine Have.skip ?_ | refine Have.app ?_)⟩
    · first | assumption | omega | simp
    · first | assumption | omega | simp
    · decide
    · decide
    · rfl
    · exact fun _ => rfl
  ·
    rintro nn1 _ I101 _ ⟨i, A1, c1, bs, s, wide, fits, rfl, rfl, hI101, hn1, hi, hi30, hbl, hsl, hw, hbs⟩
    have hle := hle.trans hI101
    replace hra := hra.mono hI101
    refine Cd.seq ?_
    refine Cd.seq ?_
    refine Cd.region ?_
    refine Opz.val (R.move rfl) rfl rfl rfl ?_
    refine Opz.val (R.move rfl) rfl rfl rfl ?_
    refine Opz.val (R.len rfl rfl Try.underlying46) rfl rfl rfl ?_
    refine Opz.val (R.lss rfl rfl) rfl rfl rfl ?_
    refine Opz.val (R.move rfl) rfl rfl rfl ?_
    first | refine Opz.guardD 16 rfl (fun hq1 => ?_) (fun hq1 => ?_) | refine Opz.guard 16 rfl (fun hq1 => ?_) (fun hq1 => ?_)
    ·
      -- g16T
      try contradiction
      all_goals
        refine Opz.val (R.move rfl) rfl rfl rfl ?_
        refine Opz.val (R.lss rfl rfl) rfl rfl rfl ?_
        refine Opz.val (R.pick rfl rfl) rfl rfl rfl ?_
        refine Opz.nil ?_
        refine seqQ.normal ?_
        first | refine Cd.condD rfl (fun hq2 => ?_) (fun hq2 => ?_) | refine Cd.cond rfl (fun hq2 => ?_) (fun hq2 => ?_)
        ·
          -- c1T
          try contradiction
          all_goals
            refine Cd.skip ?_
            refine seqQ.normal ?_
            refine Cd.seq ?_
            refine Cd.block ?_
            refine Cd.seq ?_
            obtain ⟨x25, hx25⟩ : ∃ x, parts[i]? = some x := ⟨parts[i]'(by omega), List.getElem?_eq_getElem _⟩
            obtain ⟨a, hA⟩ := Rd.some hra (by decide) hx25
            obtain ⟨cs25, hrep25, hc25⟩ := hra i x25 hx25
            obtain ⟨B25, d25, rfl, hk25, hn25, hg25, hb25⟩ := part_rep hrep25
            simp only [InR, loK, hiK] at hk25 hn25 hg25
            refine Cd.region ?_
            refine Opz.val (R.move rfl) rfl rfl rfl ?_
            refine Opz.val (R.move rfl) rfl rfl rfl ?_
            refine Opz.val (by first | exact R.ixA rfl rfl Try.underlying46 Try.typeInfo51 ⟨by omega, by omega⟩ rfl | exact R.ixO rfl (by assumption) rfl Try.underlying46 Try.typeInfo51 ⟨by omega, by omega⟩ rfl) rfl rfl rfl ?_
            refine Opz.val (by exact R.loadAgg rfl Try.underlying51 rfl Try.typeInfo51 rfl (cellsOfRd hA hc25)) rfl rfl rfl ?_
            refine Opz.op (W.allocA Try.zeroValue51) rfl rfl rfl ?_
            rintro _ _ _ ⟨b7, rfl, rfl, rfl⟩
            refine Opz.opU (by exact W.storeAll rfl rfl Try.typeInfo51 rfl (by repeat (first | exact Upd.head | apply Upd.tail)) (by rfl) (by simp [Value.oneCell'])) rfl rfl ?_
            rintro _ _ _ ⟨rfl, rfl, rfl⟩
            refine Opz.nil ?_
            refine seqQ.normal ?_
            refine Cd.seq ?_
            refine Cd.seq ?_
            refine Cd.region ?_
            refine Opz.val (by first | exact R.field (off := 3) rfl Try.underlying51 rfl Try.typeInfo27 rfl rfl | exact R.fieldA rfl Try.underlying51 rfl Try.typeInfo27 rfl) rfl rfl rfl ?_
            refine Opz.val (by exact R.load rfl Try.underlying27 rfl (by first | exact cellL (by repeat (first | exact List.Mem.head _ | apply List.Mem.tail)) rfl | exact cellI (by assumption) | (exact cellRow (by repeat (first | exact List.Mem.head _ | apply List.Mem.tail)) (by assumption) (by assumption)))) rfl rfl rfl ?_
            refine Opz.val (R.len rfl rfl Try.underlying27) rfl rfl rfl ?_
            refine Opz.val (R.gtr rfl rfl) rfl rfl rfl ?_
            refine Opz.nil ?_
            refine seqQ.normal ?_
            first | refine Cd.condD rfl (fun hq3 => ?_) (fun hq3 => ?_) | refine Cd.cond rfl (fun hq3 => ?_) (fun hq3 => ?_)
            ·
              -- c2T
              try contradiction
              all_goals
                refine Cd.seq ?_
                refine Cd.region ?_
                refine Opz.op (by exact W.call rfl rfl Try.call21 awake_spec rfl Take.nil) rfl rfl rfl ?_
                rintro v30 I30 _ ⟨hI30, M30, hp30, rfl⟩
                obtain ⟨rfl, rfl⟩ := hp30
                have hle := hle.trans hI30
                replace hra := hra.mono hI30
                refine Opz.val (R.assign rfl) rfl rfl rfl ?_
                refine Opz.nil ?_
                refine seqQ.normal ?_
                refine Cd.ret ?_
                refine seqQ.ret ?_
                refine blkQ.ret ?_
                refine seqQ.ret ?_
                refine loopQ.ret ?_
                refine blkQ.ret ?_
                refine seqQ.ret ?_
                -- path g16T c1T c2T
                refine fin.ret (L' := []) (ResOK.tmp rfl ResOK.nil) (by first | exact hle | exact Imm.le_refl _) ?_ ?_
                · repeat (first | exact Have.refl | (refine Have.cons (by repeat (first | exact Rem.head | apply Rem.tail | exact Rem.mid)) ?_) | refine Have.skip ?_ | refine Have.app ?_)
                ·
                  first | exact ⟨rfl, rfl⟩ | exact ⟨(bool_congr (by simp [*])).symm, rfl⟩
            ·
              -- c2F
              try contradiction
              all_goals
                have hxl : x25.2.2.2.1.length ≤ 70000 := by omega
                refine Cd.skip ?_
                refine seqQ.normal ?_
                refine Cd.seq ?_
                refine Cd.region ?_
                refine Opz.val (R.move rfl) rfl rfl rfl ?_
                refine Opz.val (R.assign rfl) rfl rfl rfl ?_
                refine Opz.nil ?_
                refine seqQ.normal ?_
                refine Cd.seq ?_
                refine Cd.seq ?_
                refine Cd.region ?_
                refine Opz.val (by first | exact R.field (off := 0) rfl Try.underlying51 rfl Try.typeInfo3 rfl rfl | exact R.fieldA rfl Try.underlying51 rfl Try.typeInfo3 rfl) rfl rfl rfl ?_
                refine Opz.val (by exact R.load rfl Try.underlying3 rfl (by first | exact cellL (by repeat (first | exact List.Mem.head _ | apply List.Mem.tail)) rfl | exact cellI (by assumption) | (exact cellRow (by repeat (first | exact List.Mem.head _ | apply List.Mem.tail)) (by assumption) (by assumption)))) rfl rfl rfl ?_
                refine Opz.nil ?_
                refine seqQ.normal ?_
                refine Cd.block ?_
                refine Cd.seq ?_
                refine Cd.region ?_
                refine Opz.val (R.eql rfl rfl) rfl rfl rfl ?_
                refine Opz.val (R.assign rfl) rfl rfl rfl ?_
                refine Opz.nil ?_
                refine seqQ.normal ?_
                first | refine Cd.condD rfl (fun hq4 => ?_) (fun hq4 => ?_) | refine Cd.cond rfl (fun hq4 => ?_) (fun hq4 => ?_)
                ·
                  -- c3T
                  try contradiction
                  all_goals
                    refine Cd.seq ?_
                    refine Cd.region ?_
                    refine Opz.val (R.move rfl) rfl rfl rfl ?_
                    refine Opz.val (by first | exact R.field (off := 1) rfl Try.underlying51 rfl Try.typeInfo3 rfl rfl | exact R.fieldA rfl Try.underlying51 rfl Try.typeInfo3 rfl) rfl rfl rfl ?_
                    refine Opz.val (by exact R.load rfl Try.underlying3 rfl (by first | exact cellL (by repeat (first | exact List.Mem.head _ | apply List.Mem.tail)) rfl | exact cellI (by assumption) | (exact cellRow (by repeat (first | exact List.Mem.head _ | apply List.Mem.tail)) (by assumption) (by assumption)))) rfl rfl rfl ?_
                    refine Opz.op (by exact W.call rfl rfl Try.call22 (PSmall_spec (b := b11) (wide := wide) bs x25.2.1 hn25 (by omega)) rfl (Take.cons (by repeat (first | exact Rem.head | apply Rem.tail | exact Rem.mid)) (Take.cons (by repeat (first | exact Rem.head | apply Rem.tail | exact Rem.mid)) Take.nil))) rfl rfl rfl ?_
                    rintro v39 I39 _ ⟨hI39, M39, hp39, rfl⟩
                    obtain ⟨A39, c39, rfl, rfl, rfl⟩ := hp39
                    rw [show bs.length + 4 = (bs ++ leB (wr .u64 x25.2.1) 4).length from by rw [List.length_append, leB_len]]
                    refine Opz.val (R.assign rfl) rfl rfl rfl ?_
                    refine Opz.nil ?_
                    refine seqQ.normal ?_
                    refine Cd.seq ?_
                    refine Cd.region ?_
                    refine Opz.val (R.move rfl) rfl rfl rfl ?_
                    refine Opz.val (R.move rfl) rfl rfl rfl ?_
                    first | refine Opz.guardD 41 rfl (fun hq5 => ?_) (fun hq5 => ?_) | refine Opz.guard 41 rfl (fun hq5 => ?_) (fun hq5 => ?_)
                    ·
                      -- g41T
                      try contradiction
                      all_goals
                        refine Opz.val (by first | exact R.field (off := 1) rfl Try.underlying51 rfl Try.typeInfo3 rfl rfl | exact R.fieldA rfl Try.underlying51 rfl Try.typeInfo3 rfl) rfl rfl rfl ?_
                        refine Opz.val (by exact R.load rfl Try.underlying3 rfl (by first | exact cellL (by repeat (first | exact List.Mem.head _ | apply List.Mem.tail)) rfl | exact cellI (by assumption) | (exact cellRow (by repeat (first | exact List.Mem.head _ | apply List.Mem.tail)) (by assumption) (by assumption)))) rfl rfl rfl ?_
                        refine Opz.val (R.geq rfl rfl) rfl rfl rfl ?_
                        refine Opz.val (R.pick rfl rfl) rfl rfl rfl ?_
                        refine Opz.val (R.move rfl) rfl rfl rfl ?_
                        first | refine Opz.guardD 46 rfl (fun hq6 => ?_) (fun hq6 => ?_) | refine Opz.guard 46 rfl (fun hq6 => ?_) (fun hq6 => ?_)
                        ·
                          -- g46T
                          try contradiction
                          all_goals
                            refine Opz.val (by first | exact R.field (off := 1) rfl Try.underlying51 rfl Try.typeInfo3 rfl rfl | exact R.fieldA rfl Try.underlying51 rfl Try.typeInfo3 rfl) rfl rfl rfl ?_
                            refine Opz.val (by exact R.load rfl Try.underlying3 rfl (by first | exact cellL (by repeat (first | exact List.Mem.head _ | apply List.Mem.tail)) rfl | exact cellI (by assumption) | (exact cellRow (by repeat (first | exact List.Mem.head _ | apply List.Mem.tail)) (by assumption) (by assumption)))) rfl rfl rfl ?_
                            refine Opz.val (R.lss rfl rfl) rfl rfl rfl ?_
                            refine Opz.val (R.pick rfl rfl) rfl rfl rfl ?_
                            refine Opz.val (R.assign rfl) rfl rfl rfl ?_
                            refine Opz.nil ?_
                            refine seqQ.normal ?_
                            refine Cd.seq ?_
                            refine Cd.region ?_
                            refine Opz.val (by first | exact R.field (off := 1) rfl Try.underlying51 rfl Try.typeInfo3 rfl rfl | exact R.fieldA rfl Try.underlying51 rfl Try.typeInfo3 rfl) rfl rfl rfl ?_
                            refine Opz.val (by exact R.load rfl Try.underlying3 rfl (by first | exact cellL (by repeat (first | exact List.Mem.head _ | apply List.Mem.tail)) rfl | exact cellI (by assumption) | (exact cellRow (by repeat (first | exact List.Mem.head _ | apply List.Mem.tail)) (by assumption) (by assumption)))) rfl rfl rfl ?_
                            refine Opz.val (R.geq rfl rfl) rfl rfl rfl ?_
                            refine Opz.nil ?_
                            refine seqQ.normal ?_
                            first | refine Cd.condD rfl (fun hq7 => ?_) (fun hq7 => ?_) | refine Cd.cond rfl (fun hq7 => ?_) (fun hq7 => ?_)
                            ·
                              -- c4T
                              try contradiction
                              all_goals
                                refine Cd.region ?_
                                refine Opz.val (R.move rfl) rfl rfl rfl ?_
                                refine Opz.val (by first | exact R.field (off := 1) rfl Try.underlying51 rfl Try.typeInfo3 rfl rfl | exact R.fieldA rfl Try.underlying51 rfl Try.typeInfo3 rfl) rfl rfl rfl ?_
                                refine Opz.val (by exact R.load rfl Try.underlying3 rfl (by first | exact cellL (by repeat (first | exact List.Mem.head _ | apply List.Mem.tail)) rfl | exact cellI (by assumption) | (exact cellRow (by repeat (first | exact List.Mem.head _ | apply List.Mem.tail)) (by assumption) (by assumption)))) rfl rfl rfl ?_
                                refine Opz.op (by exact W.call rfl rfl Try.call23 (RSmall_spec x25.2.1 (by omega) (by omega)) rfl Take.nil) rfl rfl rfl ?_
                                rintro v57 I57 _ ⟨hI57, M57, hp57, rfl⟩
                                obtain ⟨rfl, rfl, rfl⟩ := hp57
                                refine Opz.val (by exact R.catT rfl rfl (by rw [leB_len]; omega)) rfl rfl rfl ?_
                                refine Opz.val (R.assign rfl) rfl rfl rfl ?_
                                refine Opz.nil ?_
                                refine blkQ.normal ?_
                                refine seqQ.normal ?_
                                refine Cd.seq ?_
                                refine Cd.region ?_
                                refine Opz.val (R.move rfl) rfl rfl rfl ?_
                                refine Opz.val (R.move rfl) rfl rfl rfl ?_
                                refine Opz.val (by first | exact R.nePN rfl rfl Try.underlying47 | exact R.neNN rfl rfl Try.underlying47 | exact R.nePS rfl rfl Try.underlying47 Try.typeInfo89) rfl rfl rfl ?_
                                refine Opz.nil ?_
                                refine seqQ.normal ?_
                                first | refine Cd.condD rfl (fun hq8 => ?_) (fun hq8 => ?_) | refine Cd.cond rfl (fun hq8 => ?_) (fun hq8 => ?_)
                                ·
                                  -- c7T
                                  first | exact absurd rfl hq8 | cases hq8
                                ·
                                  -- c7F
                                  try contradiction
                                  all_goals
                                    refine Cd.skip ?_
                                    refine blkQ.normal ?_
                                    refine seqQ.normal ?_
                                    refine Cd.region ?_
                                    refine Opz.val (R.move rfl) rfl rfl rfl ?_
                                    refine Opz.val (by exact R.add rfl rfl (by first | exact ⟨by simp only [loK]; omega, by simp only [hiK]; omega⟩ | exact wr_inR rfl _)) rfl rfl rfl ?_
                                    refine Opz.val (R.assign rfl) rfl rfl rfl ?_
                                    refine Opz.nil ?_
                                    -- round by g16T c1T c2F c3T g41T g46T c4T c7F
                                    refine loopQ.round ⟨i + 1, A39, c39, (bs ++ leB (wr .u64 x25.2.1) 4), (s ++ leB x25.2.1 4), (wide || decide (x25.2.1 < 0) || decide (4294967295 < x25.2.1)), (fits && decide (0 ≤ x25.2.1) && decide (x25.2.1 < 4294967296)), rfl, rfl, (by first | assumption | exact Imm.le_refl _ | exact Imm.le.trans (by assumption) (by assumption)), rfl, ?_, ?_, ?_, ?_, ?_, ?_⟩ ?_ ⟨(by first | rfl | (refine look_val rfl ?_; first | rfl | (refine int_congr ?_; first | omega | (simp; done)))), (by first | rfl | (refine look_val rfl ?_; exact bool_congr (by simp [*]))), (by first | rfl | (refine look_val rfl ?_; first | rfl | (refine int_congr ?_; first | omega | (simp; done)))), rfl, rfl, trivial⟩ (by repeat (first | exact Have.refl | (refine Have.cons (by repeat (first | exact Rem.head | apply Rem.tail | exact Rem.mid)) ?_) | refine Have.skip ?_ | refine Have.app ?_))
                                    · first | assumption | omega | simp
                                    · first | assumption | omega | simp
                                    · rw [List.length_append, leB_len]; omega
                                    · rw [List.length_append, leB_len]; omega
                                    · exact wide_next hw
                                    · intro hf; rw [hbs (by revert hf; cases fits <;> simp), show wr .u64 x25.2.1 = x25.2.1 from by simp only [wr]; omega]
                                    · omega
                            ·
                              -- c4F
                              try contradiction
                              all_goals
                                refine Cd.region ?_
                                refine Opz.val (R.move rfl) rfl rfl rfl ?_
                                refine Opz.val (by exact R.catT (b := [46, 46, 46, 46]) rfl rfl (by simp; omega)) rfl rfl rfl ?_
                                refine Opz.val (R.assign rfl) rfl rfl rfl ?_
                                refine Opz.nil ?_
                                refine blkQ.normal ?_
                                refine seqQ.normal ?_
                                refine Cd.seq ?_
                                refine Cd.region ?_
                                refine Opz.val (R.move rfl) rfl rfl rfl ?_
                                refine Opz.val (R.move rfl) rfl rfl rfl ?_
                                refine Opz.val (by first | exact R.nePN rfl rfl Try.underlying47 | exact R.neNN rfl rfl Try.underlying47 | exact R.nePS rfl rfl Try.underlying47 Try.typeInfo89) rfl rfl rfl ?_
                                refine Opz.nil ?_
                                refine seqQ.normal ?_
                                first | refine Cd.condD rfl (fun hq9 => ?_) (fun hq9 => ?_) | refine Cd.cond rfl (fun hq9 => ?_) (fun hq9 => ?_)
                                ·
                                  -- c7T
                                  first | exact absurd rfl hq9 | cases hq9
                                ·
                                  -- c7F
                                  try contradiction
                                  all_goals
                                    refine Cd.skip ?_
                                    refine blkQ.normal ?_
                                    refine seqQ.normal ?_
                                    refine Cd.region ?_
                                    refine Opz.val (R.move rfl) rfl rfl rfl ?_
                                    refine Opz.val (by exact R.add rfl rfl (by first | exact ⟨by simp only [loK]; omega, by simp only [hiK]; omega⟩ | exact wr_inR rfl _)) rfl rfl rfl ?_
                                    refine Opz.val (R.assign rfl) rfl rfl rfl ?_
                                    refine Opz.nil ?_
                                    -- round by g16T c1T c2F c3T g41T g46T c4F c7F
                                    refine loopQ.round ⟨i + 1, A39, c39, (bs ++ leB (wr .u64 x25.2.1) 4), (s ++ [46, 46, 46, 46]), (wide || decide (x25.2.1 < 0) || decide (4294967295 < x25.2.1)), (fits && decide (0 ≤ x25.2.1) && decide (x25.2.1 < 4294967296)), rfl, rfl, (by first | assumption | exact Imm.le_refl _ | exact Imm.le.trans (by assumption) (by assumption)), rfl, ?_, ?_, ?_, ?_, ?_, ?_⟩ ?_ ⟨(by first | rfl | (refine look_val rfl ?_; first | rfl | (refine int_congr ?_; first | omega | (simp; done)))), (by first | rfl | (refine look_val rfl ?_; exact bool_congr (by simp [*]))), (by first | rfl | (refine look_val rfl ?_; first | rfl | (refine int_congr ?_; first | omega | (simp; done)))), rfl, rfl, trivial⟩ (by repeat (first | exact Have.refl | (refine Have.cons (by repeat (first | exact Rem.head | apply Rem.tail | exact Rem.mid)) ?_) | refine Have.skip ?_ | refine Have.app ?_))
                                    · first | assumption | omega | simp
                                    · first | assumption | omega | simp
                                    · rw [List.length_append, leB_len]; omega
                                    · rw [List.length_append]; simp; omega
                                    · exact wide_next hw
                                    · intro hf; exfalso; revert hf; simp; omega
                                    · omega
                        ·
                          -- g46F
                          try contradiction
                          all_goals
                            refine Opz.none rfl rfl rfl ?_
                            refine Opz.none rfl rfl rfl ?_
                            refine Opz.none rfl rfl rfl ?_
                            refine Opz.val (R.pick rfl rfl) rfl rfl rfl ?_
                            refine Opz.val (R.assign rfl) rfl rfl rfl ?_
                            refine Opz.nil ?_
                            refine seqQ.normal ?_
                            refine Cd.seq ?_
                            refine Cd.region ?_
                            refine Opz.val (by first | exact R.field (off := 1) rfl Try.underlying51 rfl Try.typeInfo3 rfl rfl | exact R.fieldA rfl Try.underlying51 rfl Try.typeInfo3 rfl) rfl rfl rfl ?_
                            refine Opz.val (by exact R.load rfl Try.underlying3 rfl (by first | exact cellL (by repeat (first | exact List.Mem.head _ | apply List.Mem.tail)) rfl | exact cellI (by assumption) | (exact cellRow (by repeat (first | exact List.Mem.head _ | apply List.Mem.tail)) (by assumption) (by assumption)))) rfl rfl rfl ?_
                            refine Opz.val (R.geq rfl rfl) rfl rfl rfl ?_
                            refine Opz.nil ?_
                            refine seqQ.normal ?_
                            first | refine Cd.condD rfl (fun hq10 => ?_) (fun hq10 => ?_) | refine Cd.cond rfl (fun hq10 => ?_) (fun hq10 => ?_)
                            ·
                              -- c4T
                              try contradiction
                              all_goals
                                refine Cd.region ?_
                                refine Opz.val (R.move rfl) rfl rfl rfl ?_
                                refine Opz.val (by first | exact R.field (off := 1) rfl Try.underlying51 rfl Try.typeInfo3 rfl rfl | exact R.fieldA rfl Try.underlying51 rfl Try.typeInfo3 rfl) rfl rfl rfl ?_
                                refine Opz.val (by exact R.load rfl Try.underlying3 rfl (by first | exact cellL (by repeat (first | exact List.Mem.head _ | apply List.Mem.tail)) rfl | exact cellI (by assumption) | (exact cellRow (by repeat (first | exact List.Mem.head _ | apply List.Mem.tail)) (by assumption) (by assumption)))) rfl rfl rfl ?_
                                refine Opz.op (by exact W.call rfl rfl Try.call23 (RSmall_spec x25.2.1 (by omega) (by omega)) rfl Take.nil) rfl rfl rfl ?_
                                rintro v57 I57 _ ⟨hI57, M57, hp57, rfl⟩
                                obtain ⟨rfl, rfl, rfl⟩ := hp57
                                refine Opz.val (by exact R.catT rfl rfl (by rw [leB_len]; omega)) rfl rfl rfl ?_
                                refine Opz.val (R.assign rfl) rfl rfl rfl ?_
                                refine Opz.nil ?_
                                refine blkQ.normal ?_
                                refine seqQ.normal ?_
                                refine Cd.seq ?_
                                refine Cd.region ?_
                                refine Opz.val (R.move rfl) rfl rfl rfl ?_
                                refine Opz.val (R.move rfl) rfl rfl rfl ?_
                                refine Opz.val (by first | exact R.nePN rfl rfl Try.underlying47 | exact R.neNN rfl rfl Try.underlying47 | exact R.nePS rfl rfl Try.underlying47 Try.typeInfo89) rfl rfl rfl ?_
                                refine Opz.nil ?_
                                refine seqQ.normal ?_
                                first | refine Cd.condD rfl (fun hq11 => ?_) (fun hq11 => ?_) | refine Cd.cond rfl (fun hq11 => ?_) (fun hq11 => ?_)
                                ·
                                  -- c7T
                                  first | exact absurd rfl hq11 | cases hq11
                                ·
                                  -- c7F
                                  try contradiction
                                  all_goals
                                    refine Cd.skip ?_
                                    refine blkQ.normal ?_
                                    refine seqQ.normal ?_
                                    refine Cd.region ?_
                                    refine Opz.val (R.move rfl) rfl rfl rfl ?_
                                    refine Opz.val (by exact R.add rfl rfl (by first | exact ⟨by simp only [loK]; omega, by simp only [hiK]; omega⟩ | exact wr_inR rfl _)) rfl rfl rfl ?_
                                    refine Opz.val (R.assign rfl) rfl rfl rfl ?_
                                    refine Opz.nil ?_
                                    -- round by g16T c1T c2F c3T g41T g46F c4T c7F
                                    refine loopQ.round ⟨i + 1, A39, c39, (bs ++ leB (wr .u64 x25.2.1) 4), (s ++ leB x25.2.1 4), (wide || decide (x25.2.1 < 0) || decide (4294967295 < x25.2.1)), (fits && decide (0 ≤ x25.2.1) && decide (x25.2.1 < 4294967296)), rfl, rfl, (by first | assumption | exact Imm.le_refl _ | exact Imm.le.trans (by assumption) (by assumption)), rfl, ?_, ?_, ?_, ?_, ?_, ?_⟩ ?_ ⟨(by first | rfl | (refine look_val rfl ?_; first | rfl | (refine int_congr ?_; first | omega | (simp; done)))), (by first | rfl | (refine look_val rfl ?_; exact bool_congr (by simp [*]))), (by first | rfl | (refine look_val rfl ?_; first | rfl | (refine int_congr ?_; first | omega | (simp; done)))), rfl, rfl, trivial⟩ (by repeat (first | exact Have.refl | (refine Have.cons (by repeat (first | exact Rem.head | apply Rem.tail | exact Rem.mid)) ?_) | refine Have.skip ?_ | refine Have.app ?_))
                                    · first | assumption | omega | simp
                                    · first | assumption | omega | simp
                                    · rw [List.length_append, leB_len]; omega
                                    · rw [List.length_append, leB_len]; omega
                                    · exact wide_next hw
                                    · intro hf; rw [hbs (by revert hf; cases fits <;> simp), show wr .u64 x25.2.1 = x25.2.1 from by simp only [wr]; omega]
                                    · omega
                            ·
                              -- c4F
                              try contradiction
                              all_goals
                                refine Cd.region ?_
                                refine Opz.val (R.move rfl) rfl rfl rfl ?_
                                refine Opz.val (by exact R.catT (b := [46, 46, 46, 46]) rfl rfl (by simp; omega)) rfl rfl rfl ?_
                                refine Opz.val (R.assign rfl) rfl rfl rfl ?_
                                refine Opz.nil ?_
                                refine blkQ.normal ?_
                                refine seqQ.normal ?_
                                refine Cd.seq ?_
                                refine Cd.region ?_
                                refine Opz.val (R.move rfl) rfl rfl rfl ?_
                                refine Opz.val (R.move rfl) rfl rfl rfl ?_
                                refine Opz.val (by first | exact R.nePN rfl rfl Try.underlying47 | exact R.neNN rfl rfl Try.underlying47 | exact R.nePS rfl rfl Try.underlying47 Try.typeInfo89) rfl rfl rfl ?_
                                refine Opz.nil ?_
                                refine seqQ.normal ?_
                                first | refine Cd.condD rfl (fun hq12 => ?_) (fun hq12 => ?_) | refine Cd.cond rfl (fun hq12 => ?_) (fun hq12 => ?_)
                                ·
                                  -- c7T
                                  first | exact absurd rfl hq12 | cases hq12
                                ·
                                  -- c7F
                                  try contradiction
                                  all_goals
                                    refine Cd.skip ?_
                                    refine blkQ.normal ?_
                                    refine seqQ.normal ?_
                                    refine Cd.region ?_
                                    refine Opz.val (R.move rfl) rfl rfl rfl ?_
                                    refine Opz.val (by exact R.add rfl rfl (by first | exact ⟨by simp only [loK]; omega, by simp only [hiK]; omega⟩ | exact wr_inR rfl _)) rfl rfl rfl ?_
                                    refine Opz.val (R.assign rfl) rfl rfl rfl ?_
                                    refine Opz.nil ?_
                                    -- round by g16T c1T c2F c3T g41T g46F c4F c7F
                                    refine loopQ.round ⟨i + 1, A39, c39, (bs ++ leB (wr .u64 x25.2.1) 4), (s ++ [46, 46, 46, 46]), (wide || decide (x25.2.1 < 0) || decide (4294967295 < x25.2.1)), (fits && decide (0 ≤ x25.2.1) && decide (x25.2.1 < 4294967296)), rfl, rfl, (by first | assumption | exact Imm.le_refl _ | exact Imm.le.trans (by assumption) (by assumption)), rfl, ?_, ?_, ?_, ?_, ?_, ?_⟩ ?_ ⟨(by first | rfl | (refine look_val rfl ?_; first | rfl | (refine int_congr ?_; first | omega | (simp; done)))), (by first | rfl | (refine look_val rfl ?_; exact bool_congr (by simp [*]))), (by first | rfl | (refine look_val rfl ?_; first | rfl | (refine int_congr ?_; first | omega | (simp; done)))), rfl, rfl, trivial⟩ (by repeat (first | exact Have.refl | (refine Have.cons (by repeat (first | exact Rem.head | apply Rem.tail | exact Rem.mid)) ?_) | refine Have.skip ?_ | refine Have.app ?_))
                                    · first | assumption | omega | simp
                                    · first | assumption | omega | simp
                                    · rw [List.length_append, leB_len]; omega
                                    · rw [List.length_append]; simp; omega
                                    · exact wide_next hw
                                    · intro hf; exfalso; revert hf; simp; omega
                                    · omega
                    ·
                      -- g41F
                      try contradiction
                      all_goals
                        refine Opz.none rfl rfl rfl ?_
                        refine Opz.none rfl rfl rfl ?_
                        refine Opz.none rfl rfl rfl ?_
                        refine Opz.val (R.pick rfl rfl) rfl rfl rfl ?_
                        refine Opz.val (R.move rfl) rfl rfl rfl ?_
                        first | refine Opz.guardD 46 rfl (fun hq13 => ?_) (fun hq13 => ?_) | refine Opz.guard 46 rfl (fun hq13 => ?_) (fun hq13 => ?_)
                        ·
                          -- g46T
                          try contradiction
                          all_goals
                            refine Opz.val (by first | exact R.field (off := 1) rfl Try.underlying51 rfl Try.typeInfo3 rfl rfl | exact R.fieldA rfl Try.underlying51 rfl Try.typeInfo3 rfl) rfl rfl rfl ?_
                            refine Opz.val (by exact R.load rfl Try.underlying3 rfl (by first | exact cellL (by repeat (first | exact List.Mem.head _ | apply List.Mem.tail)) rfl | exact cellI (by assumption) | (exact cellRow (by repeat (first | exact List.Mem.head _ | apply List.Mem.tail)) (by assumption) (by assumption)))) rfl rfl rfl ?_
                            refine Opz.val (R.lss rfl rfl) rfl rfl rfl ?_
                            refine Opz.val (R.pick rfl rfl) rfl rfl rfl ?_
                            refine Opz.val (R.assign rfl) rfl rfl rfl ?_
                            refine Opz.nil ?_
                            refine seqQ.normal ?_
                            refine Cd.seq ?_
                            refine Cd.region ?_
                            refine Opz.val (by first | exact R.field (off := 1) rfl Try.underlying51 rfl Try.typeInfo3 rfl rfl | exact R.fieldA rfl Try.underlying51 rfl Try.typeInfo3 rfl) rfl rfl rfl ?_
                            refine Opz.val (by exact R.load rfl Try.underlying3 rfl (by first | exact cellL (by repeat (first | exact List.Mem.head _ | apply List.Mem.tail)) rfl | exact cellI (by assumption) | (exact cellRow (by repeat (first | exact List.Mem.head _ | apply List.Mem.tail)) (by assumption) (by assumption)))) rfl rfl rfl ?_
                            refine Opz.val (R.geq rfl rfl) rfl rfl rfl ?_
                            refine Opz.nil ?_
                            refine seqQ.normal ?_
                            first | refine Cd.condD rfl (fun hq14 => ?_) (fun hq14 => ?_) | refine Cd.cond rfl (fun hq14 => ?_) (fun hq14 => ?_)
                            ·
                              -- c4T
                              try contradiction
                              all_goals
                                refine Cd.region ?_
                                refine Opz.val (R.move rfl) rfl rfl rfl ?_
                                refine Opz.val (by first | exact R.field (off := 1) rfl Try.underlying51 rfl Try.typeInfo3 rfl rfl | exact R.fieldA rfl Try.underlying51 rfl Try.typeInfo3 rfl) rfl rfl rfl ?_
                                refine Opz.val (by exact R.load rfl Try.underlying3 rfl (by first | exact cellL (by repeat (first | exact List.Mem.head _ | apply List.Mem.tail)) rfl | exact cellI (by assumption) | (exact cellRow (by repeat (first | exact List.Mem.head _ | apply List.Mem.tail)) (by assumption) (by assumption)))) rfl rfl rfl ?_
                                refine Opz.op (by exact W.call rfl rfl Try.call23 (RSmall_spec x25.2.1 (by omega) (by omega)) rfl Take.nil) rfl rfl rfl ?_
                                rintro v57 I57 _ ⟨hI57, M57, hp57, rfl⟩
                                obtain ⟨rfl, rfl, rfl⟩ := hp57
                                refine Opz.val (by exact R.catT rfl rfl (by rw [leB_len]; omega)) rfl rfl rfl ?_
                                refine Opz.val (R.assign rfl) rfl rfl rfl ?_
                                refine Opz.nil ?_
                                refine blkQ.normal ?_
                                refine seqQ.normal ?_
                                refine Cd.seq ?_
                                refine Cd.region ?_
                                refine Opz.val (R.move rfl) rfl rfl rfl ?_
                                refine Opz.val (R.move rfl) rfl rfl rfl ?_
                                refine Opz.val (by first | exact R.nePN rfl rfl Try.underlying47 | exact R.neNN rfl rfl Try.underlying47 | exact R.nePS rfl rfl Try.underlying47 Try.typeInfo89) rfl rfl rfl ?_
                                refine Opz.nil ?_
                                refine seqQ.normal ?_
                                first | refine Cd.condD rfl (fun hq15 => ?_) (fun hq15 => ?_) | refine Cd.cond rfl (fun hq15 => ?_) (fun hq15 => ?_)
                                ·
                                  -- c7T
                                  first | exact absurd rfl hq15 | cases hq15
                                ·
                                  -- c7F
                                  try contradiction
                                  all_goals
                                    refine Cd.skip ?_
                                    refine blkQ.normal ?_
                                    refine seqQ.normal ?_
                                    refine Cd.region ?_
                                    refine Opz.val (R.move rfl) rfl rfl rfl ?_
                                    refine Opz.val (by exact R.add rfl rfl (by first | exact ⟨by simp only [loK]; omega, by simp only [hiK]; omega⟩ | exact wr_inR rfl _)) rfl rfl rfl ?_
                                    refine Opz.val (R.assign rfl) rfl rfl rfl ?_
                                    refine Opz.nil ?_
                                    -- round by g16T c1T c2F c3T g41F g46T c4T c7F
                                    refine loopQ.round ⟨i + 1, A39, c39, (bs ++ leB (wr .u64 x25.2.1) 4), (s ++ leB x25.2.1 4), (wide || decide (x25.2.1 < 0) || decide (4294967295 < x25.2.1)), (fits && decide (0 ≤ x25.2.1) && decide (x25.2.1 < 4294967296)), rfl, rfl, (by first | assumption | exact Imm.le_refl _ | exact Imm.le.trans (by assumption) (by assumption)), rfl, ?_, ?_, ?_, ?_, ?_, ?_⟩ ?_ ⟨(by first | rfl | (refine look_val rfl ?_; first | rfl | (refine int_congr ?_; first | omega | (simp; done)))), (by first | rfl | (refine look_val rfl ?_; exact bool_congr (by simp [*]))), (by first | rfl | (refine look_val rfl ?_; first | rfl | (refine int_congr ?_; first | omega | (simp; done)))), rfl, rfl, trivial⟩ (by repeat (first | exact Have.refl | (refine Have.cons (by repeat (first | exact Rem.head | apply Rem.tail | exact Rem.mid)) ?_) | refine Have.skip ?_ | refine Have.app ?_))
                                    · first | assumption | omega | simp
                                    · first | assumption | omega | simp
                                    · rw [List.length_append, leB_len]; omega
                                    · rw [List.length_append, leB_len]; omega
                                    · exact wide_next hw
                                    · intro hf; rw [hbs (by revert hf; cases fits <;> simp), show wr .u64 x25.2.1 = x25.2.1 from by simp only [wr]; omega]
                                    · omega
                            ·
                              -- c4F
                              try contradiction
                              all_goals
                                refine Cd.region ?_
                                refine Opz.val (R.move rfl) rfl rfl rfl ?_
                                refine Opz.val (by exact R.catT (b := [46, 46, 46, 46]) rfl rfl (by simp; omega)) rfl rfl rfl ?_
                                refine Opz.val (R.assign rfl) rfl rfl rfl ?_
                                refine Opz.nil ?_
                                refine blkQ.normal ?_
                                refine seqQ.normal ?_
                                refine Cd.seq ?_
                                refine Cd.region ?_
                                refine Opz.val (R.move rfl) rfl rfl rfl ?_
                                refine Opz.val (R.move rfl) rfl rfl rfl ?_
                                refine Opz.val (by first | exact R.nePN rfl rfl Try.underlying47 | exact R.neNN rfl rfl Try.underlying47 | exact R.nePS rfl rfl Try.underlying47 Try.typeInfo89) rfl rfl rfl ?_
                                refine Opz.nil ?_
                                refine seqQ.normal ?_
                                first | refine Cd.condD rfl (fun hq16 => ?_) (fun hq16 => ?_) | refine Cd.cond rfl (fun hq16 => ?_) (fun hq16 => ?_)
                                ·
                                  -- c7T
                                  first | exact absurd rfl hq16 | cases hq16
                                ·
                                  -- c7F
                                  try contradiction
                                  all_goals
                                    refine Cd.skip ?_
                                    refine blkQ.normal ?_
                                    refine seqQ.normal ?_
                                    refine Cd.region ?_
                                    refine Opz.val (R.move rfl) rfl rfl rfl ?_
                                    refine Opz.val (by exact R.add rfl rfl (by first | exact ⟨by simp only [loK]; omega, by simp only [hiK]; omega⟩ | exact wr_inR rfl _)) rfl rfl rfl ?_
                                    refine Opz.val (R.assign rfl) rfl rfl rfl ?_
                                    refine Opz.nil ?_
                                    -- round by g16T c1T c2F c3T g41F g46T c4F c7F
                                    refine loopQ.round ⟨i + 1, A39, c39, (bs ++ leB (wr .u64 x25.2.1) 4), (s ++ [46, 46, 46, 46]), (wide || decide (x25.2.1 < 0) || decide (4294967295 < x25.2.1)), (fits && decide (0 ≤ x25.2.1) && decide (x25.2.1 < 4294967296)), rfl, rfl, (by first | assumption | exact Imm.le_refl _ | exact Imm.le.trans (by assumption) (by assumption)), rfl, ?_, ?_, ?_, ?_, ?_, ?_⟩ ?_ ⟨(by first | rfl | (refine look_val rfl ?_; first | rfl | (refine int_congr ?_; first | omega | (simp; done)))), (by first | rfl | (refine look_val rfl ?_; exact bool_congr (by simp [*]))), (by first | rfl | (refine look_val rfl ?_; first | rfl | (refine int_congr ?_; first | omega | (simp; done)))), rfl, rfl, trivial⟩ (by repeat (first | exact Have.refl | (refine Have.cons (by repeat (first | exact Rem.head | apply Rem.tail | exact Rem.mid)) ?_) | refine Have.skip ?_ | refine Have.app ?_))
                                    · first | assumption | omega | simp
                                    · first | assumption | omega | simp
                                    · rw [List.length_append, leB_len]; omega
                                    · rw [List.length_append]; simp; omega
                                    · exact wide_next hw
                                    · intro hf; exfalso; revert hf; simp; omega
                                    · omega
                        ·
                          -- g46F
                          try contradiction
                          all_goals
                            refine Opz.none rfl rfl rfl ?_
                            refine Opz.none rfl rfl rfl ?_
                            refine Opz.none rfl rfl rfl ?_
                            refine Opz.val (R.pick rfl rfl) rfl rfl rfl ?_
                            refine Opz.val (R.assign rfl) rfl rfl rfl ?_
                            refine Opz.nil ?_
                            refine seqQ.normal ?_
                            refine Cd.seq ?_
                            refine Cd.region ?_
                            refine Opz.val (by first | exact R.field (off := 1) rfl Try.underlying51 rfl Try.typeInfo3 rfl rfl | exact R.fieldA rfl Try.underlying51 rfl Try.typeInfo3 rfl) rfl rfl rfl ?_
                            refine Opz.val (by exact R.load rfl Try.underlying3 rfl (by first | exact cellL (by repeat (first | exact List.Mem.head _ | apply List.Mem.tail)) rfl | exact cellI (by assumption) | (exact cellRow (by repeat (first | exact List.Mem.head _ | apply List.Mem.tail)) (by assumption) (by assumption)))) rfl rfl rfl ?_
                            refine Opz.val (R.geq rfl rfl) rfl rfl rfl ?_
                            refine Opz.nil ?_
                            refine seqQ.normal ?_
                            first | refine Cd.condD rfl (fun hq17 => ?_) (fun hq17 => ?_) | refine Cd.cond rfl (fun hq17 => ?_) (fun hq17 => ?_)
                            ·
                              -- c4T
                              try contradiction
                              all_goals
                                refine Cd.region ?_
                                refine Opz.val (R.move rfl) rfl rfl rfl ?_
                                refine Opz.val (by first | exact R.field (off := 1) rfl Try.underlying51 rfl Try.typeInfo3 rfl rfl | exact R.fieldA rfl Try.underlying51 rfl Try.typeInfo3 rfl) rfl rfl rfl ?_
                                refine Opz.val (by exact R.load rfl Try.underlying3 rfl (by first | exact cellL (by repeat (first | exact List.Mem.head _ | apply List.Mem.tail)) rfl | exact cellI (by assumption) | (exact cellRow (by repeat (first | exact List.Mem.head _ | apply List.Mem.tail)) (by assumption) (by assumption)))) rfl rfl rfl ?_
                                refine Opz.op (by exact W.call rfl rfl Try.call23 (RSmall_spec x25.2.1 (by omega) (by omega)) rfl Take.nil) rfl rfl rfl ?_
                                rintro v57 I57 _ ⟨hI57, M57, hp57, rfl⟩
                                obtain ⟨rfl, rfl, rfl⟩ := hp57
                                refine Opz.val (by exact R.catT rfl rfl (by rw [leB_len]; omega)) rfl rfl rfl ?_
                                refine Opz.val (R.assign rfl) rfl rfl rfl ?_
                                refine Opz.nil ?_
                                refine blkQ.normal ?_
                                refine seqQ.normal ?_
                                refine Cd.seq ?_
                                refine Cd.region ?_
                                refine Opz.val (R.move rfl) rfl rfl rfl ?_
                                refine Opz.val (R.move rfl) rfl rfl rfl ?_
                                refine Opz.val (by first | exact R.nePN rfl rfl Try.underlying47 | exact R.neNN rfl rfl Try.underlying47 | exact R.nePS rfl rfl Try.underlying47 Try.typeInfo89) rfl rfl rfl ?_
                                refine Opz.nil ?_
                                refine seqQ.normal ?_
                                first | refine Cd.condD rfl (fun hq18 => ?_) (fun hq18 => ?_) | refine Cd.cond rfl (fun hq18 => ?_) (fun hq18 => ?_)
                                ·
                                  -- c7T
                                  first | exact absurd rfl hq18 | cases hq18
                                ·
                                  -- c7F
                                  try contradiction
                                  all_goals
                                    refine Cd.skip ?_
                                    refine blkQ.normal ?_
                                    refine seqQ.normal ?_
                                    refine Cd.region ?_
                                    refine Opz.val (R.move rfl) rfl rfl rfl ?_
                                    refine Opz.val (by exact R.add rfl rfl (by first | exact ⟨by simp only [loK]; omega, by simp only [hiK]; omega⟩ | exact wr_inR rfl _)) rfl rfl rfl ?_
                                    refine Opz.val (R.assign rfl) rfl rfl rfl ?_
                                    refine Opz.nil ?_
                                    -- round by g16T c1T c2F c3T g41F g46F c4T c7F
                                    refine loopQ.round ⟨i + 1, A39, c39, (bs ++ leB (wr .u64 x25.2.1) 4), (s ++ leB x25.2.1 4), (wide || decide (x25.2.1 < 0) || decide (4294967295 < x25.2.1)), (fits && decide (0 ≤ x25.2.1) && decide (x25.2.1 < 4294967296)), rfl, rfl, (by first | assumption | exact Imm.le_refl _ | exact Imm.le.trans (by assumption) (by assumption)), rfl, ?_, ?_, ?_, ?_, ?_, ?_⟩ ?_ ⟨(by first | rfl | (refine look_val rfl ?_; first | rfl | (refine int_congr ?_; first | omega | (simp; done)))), (by first | rfl | (refine look_val rfl ?_; exact bool_congr (by simp [*]))), (by first | rfl | (refine look_val rfl ?_; first | rfl | (refine int_congr ?_; first | omega | (simp; done)))), rfl, rfl, trivial⟩ (by repeat (first | exact Have.refl | (refine Have.cons (by repeat (first | exact Rem.head | apply Rem.tail | exact Rem.mid)) ?_) | refine Have.skip ?_ | refine Have.app ?_))
                                    · first | assumption | omega | simp
                                    · first | assumption | omega | simp
                                    · rw [List.length_append, leB_len]; omega
                                    · rw [List.length_append, leB_len]; omega
                                    · exact wide_next hw
                                    · intro hf; rw [hbs (by revert hf; cases fits <;> simp), show wr .u64 x25.2.1 = x25.2.1 from by simp only [wr]; omega]
                                    · omega
                            ·
                              -- c4F
                              try contradiction
                              all_goals
                                refine Cd.region ?_
                                refine Opz.val (R.move rfl) rfl rfl rfl ?_
                                refine Opz.val (by exact R.catT (b := [46, 46, 46, 46]) rfl rfl (by simp; omega)) rfl rfl rfl ?_
                                refine Opz.val (R.assign rfl) rfl rfl rfl ?_
                                refine Opz.nil ?_
                                refine blkQ.normal ?_
                                refine seqQ.normal ?_
                                refine Cd.seq ?_
                                refine Cd.region ?_
                                refine Opz.val (R.move rfl) rfl rfl rfl ?_
                                refine Opz.val (R.move rfl) rfl rfl rfl ?_
                                refine Opz.val (by first | exact R.nePN rfl rfl Try.underlying47 | exact R.neNN rfl rfl Try.underlying47 | exact R.nePS rfl rfl Try.underlying47 Try.typeInfo89) rfl rfl rfl ?_
                                refine Opz.nil ?_
                                refine seqQ.normal ?_
                                first | refine Cd.condD rfl (fun hq19 => ?_) (fun hq19 => ?_) | refine Cd.cond rfl (fun hq19 => ?_) (fun hq19 => ?_)
                                ·
                                  -- c7T
                                  first | exact absurd rfl hq19 | cases hq19
                                ·
                                  -- c7F
                                  try contradiction
                                  all_goals
                                    refine Cd.skip ?_
                                    refine blkQ.normal ?_
                                    refine seqQ.normal ?_
                                    refine Cd.region ?_
                                    refine Opz.val (R.move rfl) rfl rfl rfl ?_
                                    refine Opz.val (by exact R.add rfl rfl (by first | exact ⟨by simp only [loK]; omega, by simp only [hiK]; omega⟩ | exact wr_inR rfl _)) rfl rfl rfl ?_
                                    refine Opz.val (R.assign rfl) rfl rfl rfl ?_
                                    refine Opz.nil ?_
                                    -- round by g16T c1T c2F c3T g41F g46F c4F c7F
                                    refine loopQ.round ⟨i + 1, A39, c39, (bs ++ leB (wr .u64 x25.2.1) 4), (s ++ [46, 46, 46, 46]), (wide || decide (x25.2.1 < 0) || decide (4294967295 < x25.2.1)), (fits && decide (0 ≤ x25.2.1) && decide (x25.2.1 < 4294967296)), rfl, rfl, (by first | assumption | exact Imm.le_refl _ | exact Imm.le.trans (by assumption) (by assumption)), rfl, ?_, ?_, ?_, ?_, ?_, ?_⟩ ?_ ⟨(by first | rfl | (refine look_val rfl ?_; first | rfl | (refine int_congr ?_; first | omega | (simp; done)))), (by first | rfl | (refine look_val rfl ?_; exact bool_congr (by simp [*]))), (by first | rfl | (refine look_val rfl ?_; first | rfl | (refine int_congr ?_; first | omega | (simp; done)))), rfl, rfl, trivial⟩ (by repeat (first | exact Have.refl | (refine Have.cons (by repeat (first | exact Rem.head | apply Rem.tail | exact Rem.mid)) ?_) | refine Have.skip ?_ | refine Have.app ?_))
                                    · first | assumption | omega | simp
                                    · first | assumption | omega | simp
                                    · rw [List.length_append, leB_len]; omega
                                    · rw [List.length_append]; simp; omega
                                    · exact wide_next hw
                                    · intro hf; exfalso; revert hf; simp; omega
                                    · omega
                ·
                  -- c3F
                  try contradiction
                  all_goals
                    refine Cd.seq ?_
                    refine Cd.region ?_
                    refine Opz.val (R.eql rfl rfl) rfl rfl rfl ?_
                    refine Opz.val (R.assign rfl) rfl rfl rfl ?_
                    refine Opz.nil ?_
                    refine seqQ.normal ?_
                    first | refine Cd.condD rfl (fun hq20 => ?_) (fun hq20 => ?_) | refine Cd.cond rfl (fun hq20 => ?_) (fun hq20 => ?_)
                    ·
                      -- c5T
                      try contradiction
                      all_goals
                        refine Cd.seq ?_
                        refine Cd.region ?_
                        refine Opz.val (R.move rfl) rfl rfl rfl ?_
                        refine Opz.val (by first | exact R.field (off := 2) rfl Try.underlying51 rfl Try.typeInfo49 rfl rfl | exact R.fieldA rfl Try.underlying51 rfl Try.typeInfo49 rfl) rfl rfl rfl ?_
                        refine Opz.val (by exact R.load rfl Try.underlying49 rfl (by first | exact cellL (by repeat (first | exact List.Mem.head _ | apply List.Mem.tail)) rfl | exact cellI (by assumption) | (exact cellRow (by repeat (first | exact List.Mem.head _ | apply List.Mem.tail)) (by assumption) (by assumption)))) rfl rfl rfl ?_
                        refine Opz.op (by exact W.call rfl rfl Try.call24 (PGreat_spec (b := b11) (wide := wide) bs x25.2.2.1 hg25 (by omega)) rfl (Take.cons (by repeat (first | exact Rem.head | apply Rem.tail | exact Rem.mid)) (Take.cons (by repeat (first | exact Rem.head | apply Rem.tail | exact Rem.mid)) Take.nil))) rfl rfl rfl ?_
                        rintro v66 I66 _ ⟨hI66, M66, hp66, rfl⟩
                        obtain ⟨A66, c66, rfl, rfl, rfl⟩ := hp66
                        rw [show bs.length + 8 = (bs ++ leB x25.2.2.1 8).length from by rw [List.length_append, leB_len]]
                        refine Opz.val (R.assign rfl) rfl rfl rfl ?_
                        refine Opz.nil ?_
                        refine seqQ.normal ?_
                        refine Cd.region ?_
                        refine Opz.val (R.move rfl) rfl rfl rfl ?_
                        refine Opz.val (by first | exact R.field (off := 2) rfl Try.underlying51 rfl Try.typeInfo49 rfl rfl | exact R.fieldA rfl Try.underlying51 rfl Try.typeInfo49 rfl) rfl rfl rfl ?_
                        refine Opz.val (by exact R.load rfl Try.underlying49 rfl (by first | exact cellL (by repeat (first | exact List.Mem.head _ | apply List.Mem.tail)) rfl | exact cellI (by assumption) | (exact cellRow (by repeat (first | exact List.Mem.head _ | apply List.Mem.tail)) (by assumption) (by assumption)))) rfl rfl rfl ?_
                        refine Opz.op (by exact W.call rfl rfl Try.call25 (RGreat_spec x25.2.2.1 hg25.1 hg25.2) rfl Take.nil) rfl rfl rfl ?_
                        rintro v70 I70 _ ⟨hI70, M70, hp70, rfl⟩
                        obtain ⟨rfl, rfl, rfl⟩ := hp70
                        refine Opz.val (by exact R.catT rfl rfl (by rw [leB_len]; omega)) rfl rfl rfl ?_
                        refine Opz.val (R.assign rfl) rfl rfl rfl ?_
                        refine Opz.nil ?_
                        refine blkQ.normal ?_
                        refine seqQ.normal ?_
                        refine Cd.seq ?_
                        refine Cd.region ?_
                        refine Opz.val (R.move rfl) rfl rfl rfl ?_
                        refine Opz.val (R.move rfl) rfl rfl rfl ?_
                        refine Opz.val (by first | exact R.nePN rfl rfl Try.underlying47 | exact R.neNN rfl rfl Try.underlying47 | exact R.nePS rfl rfl Try.underlying47 Try.typeInfo89) rfl rfl rfl ?_
                        refine Opz.nil ?_
                        refine seqQ.normal ?_
                        first | refine Cd.condD rfl (fun hq21 => ?_) (fun hq21 => ?_) | refine Cd.cond rfl (fun hq21 => ?_) (fun hq21 => ?_)
                        ·
                          -- c7T
                          first | exact absurd rfl hq21 | cases hq21
                        ·
                          -- c7F
                          try contradiction
                          all_goals
                            refine Cd.skip ?_
                            refine blkQ.normal ?_
                            refine seqQ.normal ?_
                            refine Cd.region ?_
                            refine Opz.val (R.move rfl) rfl rfl rfl ?_
                            refine Opz.val (by exact R.add rfl rfl (by first | exact ⟨by simp only [loK]; omega, by simp only [hiK]; omega⟩ | exact wr_inR rfl _)) rfl rfl rfl ?_
                            refine Opz.val (R.assign rfl) rfl rfl rfl ?_
                            refine Opz.nil ?_
                            -- round by g16T c1T c2F c3F c5T c7F
                            refine loopQ.round ⟨i + 1, A66, c66, (bs ++ leB x25.2.2.1 8), (s ++ leB x25.2.2.1 8), wide, fits, rfl, rfl, (by first | assumption | exact Imm.le_refl _ | exact Imm.le.trans (by assumption) (by assumption)), rfl, ?_, ?_, ?_, ?_, ?_, ?_⟩ ?_ ⟨(by first | rfl | (refine look_val rfl ?_; first | rfl | (refine int_congr ?_; first | omega | (simp; done)))), (by first | rfl | (refine look_val rfl ?_; first | rfl | (refine int_congr ?_; first | omega | (simp; done)))), (by first | rfl | (refine look_val rfl ?_; first | rfl | (refine int_congr ?_; first | omega | (simp; done)))), rfl, rfl, trivial⟩ (by repeat (first | exact Have.refl | (refine Have.cons (by repeat (first | exact Rem.head | apply Rem.tail | exact Rem.mid)) ?_) | refine Have.skip ?_ | refine Have.app ?_))
                            · first | assumption | omega | simp
                            · first | assumption | omega | simp
                            · rw [List.length_append, leB_len]; omega
                            · rw [List.length_append, leB_len]; omega
                            · exact hw
                            · intro hf; rw [hbs hf]
                            · omega
                    ·
                      -- c5F
                      try contradiction
                      all_goals
                        refine Cd.seq ?_
                        refine Cd.region ?_
                        refine Opz.val (R.eql rfl rfl) rfl rfl rfl ?_
                        refine Opz.val (R.assign rfl) rfl rfl rfl ?_
                        refine Opz.nil ?_
                        refine seqQ.normal ?_
                        first | refine Cd.condD rfl (fun hq22 => ?_) (fun hq22 => ?_) | refine Cd.cond rfl (fun hq22 => ?_) (fun hq22 => ?_)
                        ·
                          -- c6T
                          try contradiction
                          all_goals
                            refine Cd.seq ?_
                            refine Cd.region ?_
                            refine Opz.val (R.move rfl) rfl rfl rfl ?_
                            refine Opz.val (by first | exact R.field (off := 3) rfl Try.underlying51 rfl Try.typeInfo27 rfl rfl | exact R.fieldA rfl Try.underlying51 rfl Try.typeInfo27 rfl) rfl rfl rfl ?_
                            refine Opz.val (by exact R.load rfl Try.underlying27 rfl (by first | exact cellL (by repeat (first | exact List.Mem.head _ | apply List.Mem.tail)) rfl | exact cellI (by assumption) | (exact cellRow (by repeat (first | exact List.Mem.head _ | apply List.Mem.tail)) (by assumption) (by assumption)))) rfl rfl rfl ?_
                            refine Opz.op (by exact W.call rfl rfl Try.call26 (PBytes_spec (b := b11) (wide := wide) bs x25.2.2.2.1 hb25 (by omega)) rfl (Take.cons (by repeat (first | exact Rem.head | apply Rem.tail | exact Rem.mid)) (Take.cons (by repeat (first | exact Rem.head | apply Rem.tail | exact Rem.mid)) Take.nil))) rfl rfl rfl ?_
                            rintro v77 I77 _ ⟨hI77, M77, hp77, rfl⟩
                            obtain ⟨A77, c77, rfl, rfl, rfl⟩ := hp77
                            rw [show (wide || decide ((4294967295 : Int) < (x25.2.2.2.1.length : Int))) = wide from by simp; omega, List.append_assoc, show bs.length + 4 + x25.2.2.2.1.length = (bs ++ (leB (x25.2.2.2.1.length : Nat) 4 ++ x25.2.2.2.1)).length from by rw [List.length_append, List.length_append, leB_len]; omega]
                            refine Opz.val (R.assign rfl) rfl rfl rfl ?_
                            refine Opz.nil ?_
                            refine seqQ.normal ?_
                            refine Cd.region ?_
                            refine Opz.val (R.move rfl) rfl rfl rfl ?_
                            refine Opz.val (by first | exact R.field (off := 3) rfl Try.underlying51 rfl Try.typeInfo27 rfl rfl | exact R.fieldA rfl Try.underlying51 rfl Try.typeInfo27 rfl) rfl rfl rfl ?_
                            refine Opz.val (by exact R.load rfl Try.underlying27 rfl (by first | exact cellL (by repeat (first | exact List.Mem.head _ | apply List.Mem.tail)) rfl | exact cellI (by assumption) | (exact cellRow (by repeat (first | exact List.Mem.head _ | apply List.Mem.tail)) (by assumption) (by assumption)))) rfl rfl rfl ?_
                            refine Opz.op (by exact W.call rfl rfl Try.call27 (RBytes_spec x25.2.2.2.1 hb25 (by omega)) rfl Take.nil) rfl rfl rfl ?_
                            rintro v81 I81 _ ⟨hI81, M81, hp81, rfl⟩
                            obtain ⟨rfl, rfl, rfl⟩ := hp81
                            refine Opz.val (by exact R.catT rfl rfl (by rw [List.length_append, leB_len]; omega)) rfl rfl rfl ?_
                            refine Opz.val (R.assign rfl) rfl rfl rfl ?_
                            refine Opz.nil ?_
                            refine blkQ.normal ?_
                            refine seqQ.normal ?_
                            refine Cd.seq ?_
                            refine Cd.region ?_
                            refine Opz.val (R.move rfl) rfl rfl rfl ?_
                            refine Opz.val (R.move rfl) rfl rfl rfl ?_
                            refine Opz.val (by first | exact R.nePN rfl rfl Try.underlying47 | exact R.neNN rfl rfl Try.underlying47 | exact R.nePS rfl rfl Try.underlying47 Try.typeInfo89) rfl rfl rfl ?_
                            refine Opz.nil ?_
                            refine seqQ.normal ?_
                            first | refine Cd.condD rfl (fun hq23 => ?_) (fun hq23 => ?_) | refine Cd.cond rfl (fun hq23 => ?_) (fun hq23 => ?_)
                            ·
                              -- c7T
                              first | exact absurd rfl hq23 | cases hq23
                            ·
                              -- c7F
                              try contradiction
                              all_goals
                                refine Cd.skip ?_
                                refine blkQ.normal ?_
                                refine seqQ.normal ?_
                                refine Cd.region ?_
                                refine Opz.val (R.move rfl) rfl rfl rfl ?_
                                refine Opz.val (by exact R.add rfl rfl (by first | exact ⟨by simp only [loK]; omega, by simp only [hiK]; omega⟩ | exact wr_inR rfl _)) rfl rfl rfl ?_
                                refine Opz.val (R.assign rfl) rfl rfl rfl ?_
                                refine Opz.nil ?_
                                -- round by g16T c1T c2F c3F c5F c6T c7F
                                refine loopQ.round ⟨i + 1, A77, c77, (bs ++ (leB (x25.2.2.2.1.length : Nat) 4 ++ x25.2.2.2.1)), (s ++ (leB (x25.2.2.2.1.length : Nat) 4 ++ x25.2.2.2.1)), wide, fits, rfl, rfl, (by first | assumption | exact Imm.le_refl _ | exact Imm.le.trans (by assumption) (by assumption)), rfl, ?_, ?_, ?_, ?_, ?_, ?_⟩ ?_ ⟨(by first | rfl | (refine look_val rfl ?_; first | rfl | (refine int_congr ?_; first | omega | (simp; done)))), (by first | rfl | (refine look_val rfl ?_; first | rfl | (refine int_congr ?_; first | omega | (simp; done)))), (by first | rfl | (refine look_val rfl ?_; first | rfl | (refine int_congr ?_; first | omega | (simp; done)))), rfl, rfl, trivial⟩ (by repeat (first | exact Have.refl | (refine Have.cons (by repeat (first | exact Rem.head | apply Rem.tail | exact Rem.mid)) ?_) | refine Have.skip ?_ | refine Have.app ?_))
                                · first | assumption | omega | simp
                                · first | assumption | omega | simp
                                · rw [List.length_append, List.length_append, leB_len]; omega
                                · rw [List.length_append, List.length_append, leB_len]; omega
                                · exact hw
                                · intro hf; rw [hbs hf]
                                · omega
                        ·
                          -- c6F
                          try contradiction
                          all_goals
                            refine Cd.skip ?_
                            refine blkQ.normal ?_
                            refine seqQ.normal ?_
                            refine Cd.seq ?_
                            refine Cd.region ?_
                            refine Opz.val (R.move rfl) rfl rfl rfl ?_
                            refine Opz.val (R.move rfl) rfl rfl rfl ?_
                            refine Opz.val (by first | exact R.nePN rfl rfl Try.underlying47 | exact R.neNN rfl rfl Try.underlying47 | exact R.nePS rfl rfl Try.underlying47 Try.typeInfo89) rfl rfl rfl ?_
                            refine Opz.nil ?_
                            refine seqQ.normal ?_
                            first | refine Cd.condD rfl (fun hq24 => ?_) (fun hq24 => ?_) | refine Cd.cond rfl (fun hq24 => ?_) (fun hq24 => ?_)
                            ·
                              -- c7T
                              first | exact absurd rfl hq24 | cases hq24
                            ·
                              -- c7F
                              try contradiction
                              all_goals
                                refine Cd.skip ?_
                                refine blkQ.normal ?_
                                refine seqQ.normal ?_
                                refine Cd.region ?_
                                refine Opz.val (R.move rfl) rfl rfl rfl ?_
                                refine Opz.val (by exact R.add rfl rfl (by first | exact ⟨by simp only [loK]; omega, by simp only [hiK]; omega⟩ | exact wr_inR rfl _)) rfl rfl rfl ?_
                                refine Opz.val (R.assign rfl) rfl rfl rfl ?_
                                refine Opz.nil ?_
                                -- round by g16T c1T c2F c3F c5F c6F c7F
                                refine loopQ.round ⟨i + 1, A1, c1, bs, s, wide, fits, rfl, rfl, (by first | assumption | exact Imm.le_refl _ | exact Imm.le.trans (by assumption) (by assumption)), rfl, ?_, ?_, ?_, ?_, ?_, ?_⟩ ?_ ⟨(by first | rfl | (refine look_val rfl ?_; first | rfl | (refine int_congr ?_; first | omega | (simp; done)))), (by first | rfl | (refine look_val rfl ?_; first | rfl | (refine int_congr ?_; first | omega | (simp; done)))), (by first | rfl | (refine look_val rfl ?_; first | rfl | (refine int_congr ?_; first | omega | (simp; done)))), rfl, rfl, trivial⟩ (by repeat (first | exact Have.refl | (refine Have.cons (by repeat (first | exact Rem.head | apply Rem.tail | exact Rem.mid)) ?_) | refine Have.skip ?_ | refine Have.app ?_))
                                · first | assumption | omega | simp
                                · first | assumption | omega | simp
                                · exact Nat.le_trans hbl (Nat.mul_le_mul_right _ (Nat.le_succ i))
                                · exact Nat.le_trans hsl (Nat.mul_le_mul_right _ (Nat.le_succ i))
                                · exact hw
                                · exact hbs
                                · omega
        ·
          -- c1F
          try contradiction
          all_goals
            refine Cd.exit ?_
            refine seqQ.exit ?_
            refine loopQ.exit ?_
            refine blkQ.here ?_
            refine seqQ.normal ?_
            refine Cd.seq ?_
            refine Cd.region ?_
            refine Opz.val (R.move rfl) rfl rfl rfl ?_
            refine Opz.op (by exact W.call rfl rfl Try.call28 (PSeal_spec (b := b11) (wide := wide) bs (by omega)) rfl (Take.cons (by repeat (first | exact Rem.head | apply Rem.tail | exact Rem.mid)) (Take.cons (by repeat (first | exact Rem.head | apply Rem.tail | exact Rem.mid)) Take.nil))) rfl rfl rfl ?_
            rintro v88 I88 _ ⟨hI88, M88, hp88, rfl⟩
            obtain ⟨A88, c88, rfl, rfl, hb88, hc88⟩ := hp88
            have hle := hle.trans hI88
            replace hra := hra.mono hI88
            refine Opz.val (R.move rfl) rfl rfl rfl ?_
            refine Opz.val (R.ext rfl rfl) rfl rfl rfl ?_
            refine Opz.val (R.ext rfl rfl) rfl rfl rfl ?_
            refine Opz.val (R.assign rfl) rfl rfl rfl ?_
            refine Opz.val (R.assign rfl) rfl rfl rfl ?_
            refine Opz.nil ?_
            refine seqQ.normal ?_
            refine Cd.seq ?_
            refine Cd.seq ?_
            refine Cd.region ?_
            refine Opz.val (R.move rfl) rfl rfl rfl ?_
            refine Opz.val (R.not rfl) rfl rfl rfl ?_
            refine Opz.nil ?_
            refine seqQ.normal ?_
            first | refine Cd.condD rfl (fun hq25 => ?_) (fun hq25 => ?_) | refine Cd.cond rfl (fun hq25 => ?_) (fun hq25 => ?_)
            ·
              -- c8T
              try contradiction
              all_goals
                have hf : fits = false := by simpa using hq25
                have hs : sealR wide bs = ([], 4) := by unfold sealR; simp [hw, hf]
                rw [hs]
                refine Cd.seq ?_
                refine Cd.region ?_
                refine Opz.op (by exact W.call rfl rfl Try.call21 awake_spec rfl Take.nil) rfl rfl rfl ?_
                rintro v93 I93 _ ⟨hI93, M93, hp93, rfl⟩
                obtain ⟨rfl, rfl⟩ := hp93
                have hle := hle.trans hI93
                replace hra := hra.mono hI93
                refine Opz.val (R.move rfl) rfl rfl rfl ?_
                first | refine Opz.guardD 94 rfl (fun hq26 => ?_) (fun hq26 => ?_) | refine Opz.guard 94 rfl (fun hq26 => ?_) (fun hq26 => ?_)
                ·
                  -- g94T
                  try contradiction
                  all_goals
                    refine Opz.val (R.move rfl) rfl rfl rfl ?_
                    refine Opz.val (R.eql rfl rfl) rfl rfl rfl ?_
                    refine Opz.val (R.pick rfl rfl) rfl rfl rfl ?_
                    refine Opz.val (R.move rfl) rfl rfl rfl ?_
                    first | refine Opz.guardD 98 rfl (fun hq27 => ?_) (fun hq27 => ?_) | refine Opz.guard 98 rfl (fun hq27 => ?_) (fun hq27 => ?_)
                    ·
                      -- g98T
                      try contradiction
                      all_goals
                        refine Opz.val (R.move rfl) rfl rfl rfl ?_
                        refine Opz.val (R.len rfl rfl Try.underlying27) rfl rfl rfl ?_
                        refine Opz.val (R.eql rfl rfl) rfl rfl rfl ?_
                        refine Opz.val (R.pick rfl rfl) rfl rfl rfl ?_
                        refine Opz.val (R.assign rfl) rfl rfl rfl ?_
                        refine Opz.nil ?_
                        refine seqQ.normal ?_
                        refine Cd.ret ?_
                        refine seqQ.ret ?_
                        -- path g16T c1F c8T g94T g98T
                        refine fin.ret (L' := []) (ResOK.tmp rfl ResOK.nil) (by first | exact hle | exact Imm.le_refl _) ?_ ?_
                        · repeat (first | exact Have.refl | (refine Have.cons (by repeat (first | exact Rem.head | apply Rem.tail | exact Rem.mid)) ?_) | refine Have.skip ?_ | refine Have.app ?_)
                        ·
                          first | exact ⟨rfl, rfl⟩ | exact ⟨(bool_congr (by simp [*])).symm, rfl⟩
                    ·
                      -- g98F
                      first | exact absurd hq27 (by decide) | exact absurd hq27 (by simp)
                ·
                  -- g94F
                  first | exact absurd hq26 (by decide) | exact absurd hq26 (by simp)
            ·
              -- c8F
              try contradiction
              all_goals
                have hf : fits = true := by simpa using hq25
                have hbs2 := hbs hf
                subst hbs2
                refine Cd.skip ?_
                refine seqQ.normal ?_
                refine Cd.seq ?_
                refine Cd.seq ?_
                refine Cd.region ?_
                refine Opz.val (R.move rfl) rfl rfl rfl ?_
                refine Opz.val (R.lenT rfl rfl Try.underlying9) rfl rfl rfl ?_
                refine Opz.val (R.gtr rfl rfl) rfl rfl rfl ?_
                refine Opz.nil ?_
                refine seqQ.normal ?_
                first | refine Cd.condD rfl (fun hq28 => ?_) (fun hq28 => ?_) | refine Cd.cond rfl (fun hq28 => ?_) (fun hq28 => ?_)
                ·
                  -- c9T
                  try contradiction
                  all_goals
                    have hs : sealR wide bs = ([], 6) := by unfold sealR; rw [if_neg (by simp [hw, hf]), if_pos (by omega)]
                    rw [hs]
                    refine Cd.seq ?_
                    refine Cd.region ?_
                    refine Opz.op (by exact W.call rfl rfl Try.call21 awake_spec rfl Take.nil) rfl rfl rfl ?_
                    rintro v106 I106 _ ⟨hI106, M106, hp106, rfl⟩
                    obtain ⟨rfl, rfl⟩ := hp106
                    have hle := hle.trans hI106
                    replace hra := hra.mono hI106
                    refine Opz.val (R.move rfl) rfl rfl rfl ?_
                    first | refine Opz.guardD 107 rfl (fun hq29 => ?_) (fun hq29 => ?_) | refine Opz.guard 107 rfl (fun hq29 => ?_) (fun hq29 => ?_)
                    ·
                      -- g107T
                      try contradiction
                      all_goals
                        refine Opz.val (R.move rfl) rfl rfl rfl ?_
                        refine Opz.val (R.eql rfl rfl) rfl rfl rfl ?_
                        refine Opz.val (R.pick rfl rfl) rfl rfl rfl ?_
                        refine Opz.val (R.move rfl) rfl rfl rfl ?_
                        first | refine Opz.guardD 111 rfl (fun hq30 => ?_) (fun hq30 => ?_) | refine Opz.guard 111 rfl (fun hq30 => ?_) (fun hq30 => ?_)
                        ·
                          -- g111T
                          try contradiction
                          all_goals
                            refine Opz.val (R.move rfl) rfl rfl rfl ?_
                            refine Opz.val (R.len rfl rfl Try.underlying27) rfl rfl rfl ?_
                            refine Opz.val (R.eql rfl rfl) rfl rfl rfl ?_
                            refine Opz.val (R.pick rfl rfl) rfl rfl rfl ?_
                            refine Opz.val (R.assign rfl) rfl rfl rfl ?_
                            refine Opz.nil ?_
                            refine seqQ.normal ?_
                            refine Cd.ret ?_
                            refine seqQ.ret ?_
                            -- path g16T c1F c8F c9T g107T g111T
                            refine fin.ret (L' := []) (ResOK.tmp rfl ResOK.nil) (by first | exact hle | exact Imm.le_refl _) ?_ ?_
                            · repeat (first | exact Have.refl | (refine Have.cons (by repeat (first | exact Rem.head | apply Rem.tail | exact Rem.mid)) ?_) | refine Have.skip ?_ | refine Have.app ?_)
                            ·
                              first | exact ⟨rfl, rfl⟩ | exact ⟨(bool_congr (by simp [*])).symm, rfl⟩
                        ·
                          -- g111F
                          first | exact absurd hq30 (by decide) | exact absurd hq30 (by simp)
                    ·
                      -- g107F
                      first | exact absurd hq29 (by decide) | exact absurd hq29 (by simp)
                ·
                  -- c9F
                  try contradiction
                  all_goals
                    have hs : sealR wide bs = (sealB bs, 0) := by unfold sealR; rw [if_neg (by simp [hw, hf]), if_neg (by omega)]
                    rw [hs]
                    rw [hs] at hb88
                    refine Cd.skip ?_
                    refine seqQ.normal ?_
                    refine Cd.seq ?_
                    refine Cd.pick [4, 9, 10] (Pick.cons rfl (Pick.cons rfl (Pick.cons rfl (Pick.nil)))) ?_
                    refine Cd.draw (by kernel_rfl) ?_
                    refine Pot.step [0] rfl rfl rfl ⟨?_, trivial⟩
                    refine ChainOK.op (ts := []) rfl rfl rfl (Pick.nil) rfl rfl rfl (by exact W.call rfl rfl Try.call21 awake_spec rfl Take.nil) ?_
                    rintro v116 I116 _ ⟨hI116, M116, hp116, rfl⟩
                    obtain ⟨rfl, rfl⟩ := hp116
                    refine ⟨hI116, ?_⟩
                    have hle := hle.trans hI116
                    replace hra := hra.mono hI116
                    refine Pot.pure 1 (ts := [116]) rfl rfl rfl (Pick.cons rfl (Pick.nil)) rfl rfl rfl (fun _ _ _ => (R.move rfl)) rfl ?_
                    refine Pot.guard 117 rfl (fun hq31 => ?_) (fun hq31 => ?_)
                    ·
                      -- g117T
                      try contradiction
                      all_goals
                        try rw [hq31]
                        try replace hq31 := of_decide_eq_true hq31
                        refine Pot.pure 2 (ts := [10, 117]) rfl rfl rfl (Pick.cons rfl (Pick.cons rfl (Pick.nil))) rfl rfl rfl (fun _ _ _ => (R.move rfl)) rfl ?_
                        refine Pot.pure 3 (ts := [118, 117]) rfl rfl rfl (Pick.cons rfl (Pick.cons rfl (Pick.nil))) rfl rfl rfl (fun _ _ _ => (R.eql rfl rfl)) rfl ?_
                        refine Pot.pure 4 (ts := [117, 119]) rfl rfl rfl (Pick.cons rfl (Pick.cons rfl (Pick.nil))) rfl rfl rfl (fun _ _ _ => (R.pick rfl rfl)) rfl ?_
                        refine Pot.pure 5 (ts := [120]) rfl rfl rfl (Pick.cons rfl (Pick.nil)) rfl rfl rfl (fun _ _ _ => (R.move rfl)) rfl ?_
                        refine Pot.guard 121 rfl (fun hq32 => ?_) (fun hq32 => ?_)
                        ·
                          -- g121T
                          try contradiction
                          all_goals
                            try rw [hq32]
                            try replace hq32 := of_decide_eq_true hq32
                            refine Pot.pure 6 (ts := [9, 121]) rfl rfl rfl (Pick.cons rfl (Pick.cons rfl (Pick.nil))) rfl rfl rfl (fun _ _ _ => (R.move rfl)) rfl ?_
                            refine Pot.pure 7 (ts := [122, 121]) rfl rfl rfl (Pick.cons rfl (Pick.cons rfl (Pick.nil))) rfl rfl rfl (fun _ _ _ => (by exact R.bytesT rfl Try.underlying27 Try.underlying5 Try.underlying9 (by first | rfl | assumption | simp) (Rd.cells (hb88.mono (hI116.trans (by assumption)))))) rfl ?_
                            refine Pot.pure 8 (ts := [4, 121]) rfl rfl rfl (Pick.cons rfl (Pick.cons rfl (Pick.nil))) rfl rfl rfl (fun _ _ _ => (R.move rfl)) rfl ?_
                            refine Pot.step [9] rfl rfl rfl ⟨?_, trivial⟩
                            refine ChainOK.op (ts := [124, 121]) rfl rfl rfl (Pick.cons rfl (Pick.cons rfl (Pick.nil))) rfl rfl rfl (by exact W.call rfl rfl Try.call29 (RSealed_spec bs (by omega)) rfl Take.nil) ?_
                            rintro v125 I125 _ ⟨hI125, M125, hp125, rfl⟩
                            obtain ⟨rfl, rfl, rfl⟩ := hp125
                            refine ⟨Imm.le_refl _, ?_⟩
                            refine Pot.pure 10 (ts := [123, 125, 121]) rfl rfl rfl (Pick.cons rfl (Pick.cons rfl (Pick.cons rfl (Pick.nil)))) rfl rfl rfl (fun _ _ _ => (R.eqT rfl rfl)) rfl ?_
                            refine Pot.pure 11 (ts := [121, 126]) rfl rfl rfl (Pick.cons rfl (Pick.cons rfl (Pick.nil))) rfl rfl rfl (fun _ _ _ => (R.pick rfl rfl)) rfl ?_
                            refine Pot.pure 12 (ts := [127]) rfl rfl rfl (Pick.cons rfl (Pick.nil)) rfl rfl rfl (fun _ _ _ => (R.assign rfl)) rfl ?_
                            refine Pot.done rfl rfl ?_
                            refine seqQ.normal ?_
                            refine Cd.ret ?_
                            -- path g16T c1F c8F c9F g117T g121T
                            refine fin.ret (L' := []) (ResOK.tmp rfl ResOK.nil) (by first | exact hle | exact Imm.le_refl _) ?_ ?_
                            · repeat (first | exact Have.refl | (refine Have.cons (by repeat (first | exact Rem.head | apply Rem.tail | exact Rem.mid)) ?_) | refine Have.skip ?_ | refine Have.app ?_)
                            ·
                              first | exact ⟨rfl, rfl⟩ | exact ⟨(bool_congr (by simp [*])).symm, rfl⟩
                        ·
                          -- g121F
                          first | exact absurd hq32 (by decide) | exact absurd hq32 (by simp)
                    ·
                      -- g117F
                      first | exact absurd hq31 (by decide) | exact absurd hq31 (by simp)
    ·
      -- g16F
      try contradiction
      all_goals
        refine Opz.none rfl rfl rfl ?_
        refine Opz.none rfl rfl rfl ?_
        refine Opz.val (R.pick rfl rfl) rfl rfl rfl ?_
        refine Opz.nil ?_
        refine seqQ.normal ?_
        first | refine Cd.condD rfl (fun hq33 => ?_) (fun hq33 => ?_) | refine Cd.cond rfl (fun hq33 => ?_) (fun hq33 => ?_)
        ·
          -- c1T
          try contradiction
          all_goals
            refine Cd.skip ?_
            refine seqQ.normal ?_
            refine Cd.seq ?_
            refine Cd.block ?_
            refine Cd.seq ?_
            obtain ⟨x25, hx25⟩ : ∃ x, parts[i]? = some x := ⟨parts[i]'(by omega), List.getElem?_eq_getElem _⟩
            obtain ⟨a, hA⟩ := Rd.some hra (by decide) hx25
            obtain ⟨cs25, hrep25, hc25⟩ := hra i x25 hx25
            obtain ⟨B25, d25, rfl, hk25, hn25, hg25, hb25⟩ := part_rep hrep25
            simp only [InR, loK, hiK] at hk25 hn25 hg25
            refine Cd.region ?_
            refine Opz.val (R.move rfl) rfl rfl rfl ?_
            refine Opz.val (R.move rfl) rfl rfl rfl ?_
            refine Opz.val (by first | exact R.ixA rfl rfl Try.underlying46 Try.typeInfo51 ⟨by omega, by omega⟩ rfl | exact R.ixO rfl (by assumption) rfl Try.underlying46 Try.typeInfo51 ⟨by omega, by omega⟩ rfl) rfl rfl rfl ?_
            refine Opz.val (by exact R.loadAgg rfl Try.underlying51 rfl Try.typeInfo51 rfl (cellsOfRd hA hc25)) rfl rfl rfl ?_
            refine Opz.op (W.allocA Try.zeroValue51) rfl rfl rfl ?_
            rintro _ _ _ ⟨b7, rfl, rfl, rfl⟩
            refine Opz.opU (by exact W.storeAll rfl rfl Try.typeInfo51 rfl (by repeat (first | exact Upd.head | apply Upd.tail)) (by rfl) (by simp [Value.oneCell'])) rfl rfl ?_
            rintro _ _ _ ⟨rfl, rfl, rfl⟩
            refine Opz.nil ?_
            refine seqQ.normal ?_
            refine Cd.seq ?_
            refine Cd.seq ?_
            refine Cd.region ?_
            refine Opz.val (by first | exact R.field (off := 3) rfl Try.underlying51 rfl Try.typeInfo27 rfl rfl | exact R.fieldA rfl Try.underlying51 rfl Try.typeInfo27 rfl) rfl rfl rfl ?_
            refine Opz.val (by exact R.load rfl Try.underlying27 rfl (by first | exact cellL (by repeat (first | exact List.Mem.head _ | apply List.Mem.tail)) rfl | exact cellI (by assumption) | (exact cellRow (by repeat (first | exact List.Mem.head _ | apply List.Mem.tail)) (by assumption) (by assumption)))) rfl rfl rfl ?_
            refine Opz.val (R.len rfl rfl Try.underlying27) rfl rfl rfl ?_
            refine Opz.val (R.gtr rfl rfl) rfl rfl rfl ?_
            refine Opz.nil ?_
            refine seqQ.normal ?_
            first | refine Cd.condD rfl (fun hq34 => ?_) (fun hq34 => ?_) | refine Cd.cond rfl (fun hq34 => ?_) (fun hq34 => ?_)
            ·
              -- c2T
              try contradiction
              all_goals
                refine Cd.seq ?_
                refine Cd.region ?_
                refine Opz.op (by exact W.call rfl rfl Try.call21 awake_spec rfl Take.nil) rfl rfl rfl ?_
                rintro v30 I30 _ ⟨hI30, M30, hp30, rfl⟩
                obtain ⟨rfl, rfl⟩ := hp30
                have hle := hle.trans hI30
                replace hra := hra.mono hI30
                refine Opz.val (R.assign rfl) rfl rfl rfl ?_
                refine Opz.nil ?_
                refine seqQ.normal ?_
                refine Cd.ret ?_
                refine seqQ.ret ?_
                refine blkQ.ret ?_
                refine seqQ.ret ?_
                refine loopQ.ret ?_
                refine blkQ.ret ?_
                refine seqQ.ret ?_
                -- path g16F c1T c2T
                refine fin.ret (L' := []) (ResOK.tmp rfl ResOK.nil) (by first | exact hle | exact Imm.le_refl _) ?_ ?_
                · repeat (first | exact Have.refl | (refine Have.cons (by repeat (first | exact Rem.head | apply Rem.tail | exact Rem.mid)) ?_) | refine Have.skip ?_ | refine Have.app ?_)
                ·
                  first | exact ⟨rfl, rfl⟩ | exact ⟨(bool_congr (by simp [*])).symm, rfl⟩
            ·
              -- c2F
              try contradiction
              all_goals
                have hxl : x25.2.2.2.1.length ≤ 70000 := by omega
                refine Cd.skip ?_
                refine seqQ.normal ?_
                refine Cd.seq ?_
                refine Cd.region ?_
                refine Opz.val (R.move rfl) rfl rfl rfl ?_
                refine Opz.val (R.assign rfl) rfl rfl rfl ?_
                refine Opz.nil ?_
                refine seqQ.normal ?_
                refine Cd.seq ?_
                refine Cd.seq ?_
                refine Cd.region ?_
                refine Opz.val (by first | exact R.field (off := 0) rfl Try.underlying51 rfl Try.typeInfo3 rfl rfl | exact R.fieldA rfl Try.underlying51 rfl Try.typeInfo3 rfl) rfl rfl rfl ?_
                refine Opz.val (by exact R.load rfl Try.underlying3 rfl (by first | exact cellL (by repeat (first | exact List.Mem.head _ | apply List.Mem.tail)) rfl | exact cellI (by assumption) | (exact cellRow (by repeat (first | exact List.Mem.head _ | apply List.Mem.tail)) (by assumption) (by assumption)))) rfl rfl rfl ?_
                refine Opz.nil ?_
                refine seqQ.normal ?_
                refine Cd.block ?_
                refine Cd.seq ?_
                refine Cd.region ?_
                refine Opz.val (R.eql rfl rfl) rfl rfl rfl ?_
                refine Opz.val (R.assign rfl) rfl rfl rfl ?_
                refine Opz.nil ?_
                refine seqQ.normal ?_
                first | refine Cd.condD rfl (fun hq35 => ?_) (fun hq35 => ?_) | refine Cd.cond rfl (fun hq35 => ?_) (fun hq35 => ?_)
                ·
                  -- c3T
                  try contradiction
                  all_goals
                    refine Cd.seq ?_
                    refine Cd.region ?_
                    refine Opz.val (R.move rfl) rfl rfl rfl ?_
                    refine Opz.val (by first | exact R.field (off := 1) rfl Try.underlying51 rfl Try.typeInfo3 rfl rfl | exact R.fieldA rfl Try.underlying51 rfl Try.typeInfo3 rfl) rfl rfl rfl ?_
                    refine Opz.val (by exact R.load rfl Try.underlying3 rfl (by first | exact cellL (by repeat (first | exact List.Mem.head _ | apply List.Mem.tail)) rfl | exact cellI (by assumption) | (exact cellRow (by repeat (first | exact List.Mem.head _ | apply List.Mem.tail)) (by assumption) (by assumption)))) rfl rfl rfl ?_
                    refine Opz.op (by exact W.call rfl rfl Try.call22 (PSmall_spec (b := b11) (wide := wide) bs x25.2.1 hn25 (by omega)) rfl (Take.cons (by repeat (first | exact Rem.head | apply Rem.tail | exact Rem.mid)) (Take.cons (by repeat (first | exact Rem.head | apply Rem.tail | exact Rem.mid)) Take.nil))) rfl rfl rfl ?_
                    rintro v39 I39 _ ⟨hI39, M39, hp39, rfl⟩
                    obtain ⟨A39, c39, rfl, rfl, rfl⟩ := hp39
                    rw [show bs.length + 4 = (bs ++ leB (wr .u64 x25.2.1) 4).length from by rw [List.length_append, leB_len]]
                    refine Opz.val (R.assign rfl) rfl rfl rfl ?_
                    refine Opz.nil ?_
                    refine seqQ.normal ?_
                    refine Cd.seq ?_
                    refine Cd.region ?_
                    refine Opz.val (R.move rfl) rfl rfl rfl ?_
                    refine Opz.val (R.move rfl) rfl rfl rfl ?_
                    first | refine Opz.guardD 41 rfl (fun hq36 => ?_) (fun hq36 => ?_) | refine Opz.guard 41 rfl (fun hq36 => ?_) (fun hq36 => ?_)
                    ·
                      -- g41T
                      try contradiction
                      all_goals
                        refine Opz.val (by first | exact R.field (off := 1) rfl Try.underlying51 rfl Try.typeInfo3 rfl rfl | exact R.fieldA rfl Try.underlying51 rfl Try.typeInfo3 rfl) rfl rfl rfl ?_
                        refine Opz.val (by exact R.load rfl Try.underlying3 rfl (by first | exact cellL (by repeat (first | exact List.Mem.head _ | apply List.Mem.tail)) rfl | exact cellI (by assumption) | (exact cellRow (by repeat (first | exact List.Mem.head _ | apply List.Mem.tail)) (by assumption) (by assumption)))) rfl rfl rfl ?_
                        refine Opz.val (R.geq rfl rfl) rfl rfl rfl ?_
                        refine Opz.val (R.pick rfl rfl) rfl rfl rfl ?_
                        refine Opz.val (R.move rfl) rfl rfl rfl ?_
                        first | refine Opz.guardD 46 rfl (fun hq37 => ?_) (fun hq37 => ?_) | refine Opz.guard 46 rfl (fun hq37 => ?_) (fun hq37 => ?_)
                        ·
                          -- g46T
                          try contradiction
                          all_goals
                            refine Opz.val (by first | exact R.field (off := 1) rfl Try.underlying51 rfl Try.typeInfo3 rfl rfl | exact R.fieldA rfl Try.underlying51 rfl Try.typeInfo3 rfl) rfl rfl rfl ?_
                            refine Opz.val (by exact R.load rfl Try.underlying3 rfl (by first | exact cellL (by repeat (first | exact List.Mem.head _ | apply List.Mem.tail)) rfl | exact cellI (by assumption) | (exact cellRow (by repeat (first | exact List.Mem.head _ | apply List.Mem.tail)) (by assumption) (by assumption)))) rfl rfl rfl ?_
                            refine Opz.val (R.lss rfl rfl) rfl rfl rfl ?_
                            refine Opz.val (R.pick rfl rfl) rfl rfl rfl ?_
                            refine Opz.val (R.assign rfl) rfl rfl rfl ?_
                            refine Opz.nil ?_
                            refine seqQ.normal ?_
                            refine Cd.seq ?_
                            refine Cd.region ?_
                            refine Opz.val (by first | exact R.field (off := 1) rfl Try.underlying51 rfl Try.typeInfo3 rfl rfl | exact R.fieldA rfl Try.underlying51 rfl Try.typeInfo3 rfl) rfl rfl rfl ?_
                            refine Opz.val (by exact R.load rfl Try.underlying3 rfl (by first | exact cellL (by repeat (first | exact List.Mem.head _ | apply List.Mem.tail)) rfl | exact cellI (by assumption) | (exact cellRow (by repeat (first | exact List.Mem.head _ | apply List.Mem.tail)) (by assumption) (by assumption)))) rfl rfl rfl ?_
                            refine Opz.val (R.geq rfl rfl) rfl rfl rfl ?_
                            refine Opz.nil ?_
                            refine seqQ.normal ?_
                            first | refine Cd.condD rfl (fun hq38 => ?_) (fun hq38 => ?_) | refine Cd.cond rfl (fun hq38 => ?_) (fun hq38 => ?_)
                            ·
                              -- c4T
                              try contradiction
                              all_goals
                                refine Cd.region ?_
                                refine Opz.val (R.move rfl) rfl rfl rfl ?_
                                refine Opz.val (by first | exact R.field (off := 1) rfl Try.underlying51 rfl Try.typeInfo3 rfl rfl | exact R.fieldA rfl Try.underlying51 rfl Try.typeInfo3 rfl) rfl rfl rfl ?_
                                refine Opz.val (by exact R.load rfl Try.underlying3 rfl (by first | exact cellL (by repeat (first | exact List.Mem.head _ | apply List.Mem.tail)) rfl | exact cellI (by assumption) | (exact cellRow (by repeat (first | exact List.Mem.head _ | apply List.Mem.tail)) (by assumption) (by assumption)))) rfl rfl rfl ?_
                                refine Opz.op (by exact W.call rfl rfl Try.call23 (RSmall_spec x25.2.1 (by omega) (by omega)) rfl Take.nil) rfl rfl rfl ?_
                                rintro v57 I57 _ ⟨hI57, M57, hp57, rfl⟩
                                obtain ⟨rfl, rfl, rfl⟩ := hp57
                                refine Opz.val (by exact R.catT rfl rfl (by rw [leB_len]; omega)) rfl rfl rfl ?_
                                refine Opz.val (R.assign rfl) rfl rfl rfl ?_
                                refine Opz.nil ?_
                                refine blkQ.normal ?_
                                refine seqQ.normal ?_
                                refine Cd.seq ?_
                                refine Cd.region ?_
                                refine Opz.val (R.move rfl) rfl rfl rfl ?_
                                refine Opz.val (R.move rfl) rfl rfl rfl ?_
                                refine Opz.val (by first | exact R.nePN rfl rfl Try.underlying47 | exact R.neNN rfl rfl Try.underlying47 | exact R.nePS rfl rfl Try.underlying47 Try.typeInfo89) rfl rfl rfl ?_
                                refine Opz.nil ?_
                                refine seqQ.normal ?_
                                first | refine Cd.condD rfl (fun hq39 => ?_) (fun hq39 => ?_) | refine Cd.cond rfl (fun hq39 => ?_) (fun hq39 => ?_)
                                ·
                                  -- c7T
                                  first | exact absurd rfl hq39 | cases hq39
                                ·
                                  -- c7F
                                  try contradiction
                                  all_goals
                                    refine Cd.skip ?_
                                    refine blkQ.normal ?_
                                    refine seqQ.normal ?_
                                    refine Cd.region ?_
                                    refine Opz.val (R.move rfl) rfl rfl rfl ?_
                                    refine Opz.val (by exact R.add rfl rfl (by first | exact ⟨by simp only [loK]; omega, by simp only [hiK]; omega⟩ | exact wr_inR rfl _)) rfl rfl rfl ?_
                                    refine Opz.val (R.assign rfl) rfl rfl rfl ?_
                                    refine Opz.nil ?_
                                    -- round by g16F c1T c2F c3T g41T g46T c4T c7F
                                    refine loopQ.round ⟨i + 1, A39, c39, (bs ++ leB (wr .u64 x25.2.1) 4), (s ++ leB x25.2.1 4), (wide || decide (x25.2.1 < 0) || decide (4294967295 < x25.2.1)), (fits && decide (0 ≤ x25.2.1) && decide (x25.2.1 < 4294967296)), rfl, rfl, (by first | assumption | exact Imm.le_refl _ | exact Imm.le.trans (by assumption) (by assumption)), rfl, ?_, ?_, ?_, ?_, ?_, ?_⟩ ?_ ⟨(by first | rfl | (refine look_val rfl ?_; first | rfl | (refine int_congr ?_; first | omega | (simp; done)))), (by first | rfl | (refine look_val rfl ?_; exact bool_congr (by simp [*]))), (by first | rfl | (refine look_val rfl ?_; first | rfl | (refine int_congr ?_; first | omega | (simp; done)))), rfl, rfl, trivial⟩ (by repeat (first | exact Have.refl | (refine Have.cons (by repeat (first | exact Rem.head | apply Rem.tail | exact Rem.mid)) ?_) | refine Have.skip ?_ | refine Have.app ?_))
                                    · first | assumption | omega | simp
                                    · first | assumption | omega | simp
                                    · rw [List.length_append, leB_len]; omega
                                    · rw [List.length_append, leB_len]; omega
                                    · exact wide_next hw
                                    · intro hf; rw [hbs (by revert hf; cases fits <;> simp), show wr .u64 x25.2.1 = x25.2.1 from by simp only [wr]; omega]
                                    · omega
                            ·
                              -- c4F
                              try contradiction
                              all_goals
                                refine Cd.region ?_
                                refine Opz.val (R.move rfl) rfl rfl rfl ?_
                                refine Opz.val (by exact R.catT (b := [46, 46, 46, 46]) rfl rfl (by simp; omega)) rfl rfl rfl ?_
                                refine Opz.val (R.assign rfl) rfl rfl rfl ?_
                                refine Opz.nil ?_
                                refine blkQ.normal ?_
                                refine seqQ.normal ?_
                                refine Cd.seq ?_
                                refine Cd.region ?_
                                refine Opz.val (R.move rfl) rfl rfl rfl ?_
                                refine Opz.val (R.move rfl) rfl rfl rfl ?_
                                refine Opz.val (by first | exact R.nePN rfl rfl Try.underlying47 | exact R.neNN rfl rfl Try.underlying47 | exact R.nePS rfl rfl Try.underlying47 Try.typeInfo89) rfl rfl rfl ?_
                                refine Opz.nil ?_
                                refine seqQ.normal ?_
                                first | refine Cd.condD rfl (fun hq40 => ?_) (fun hq40 => ?_) | refine Cd.cond rfl (fun hq40 => ?_) (fun hq40 => ?_)
                                ·
                                  -- c7T
                                  first | exact absurd rfl hq40 | cases hq40
                                ·
                                  -- c7F
                                  try contradiction
                                  all_goals
                                    refine Cd.skip ?_
                                    refine blkQ.normal ?_
                                    refine seqQ.normal ?_
                                    refine Cd.region ?_
                                    refine Opz.val (R.move rfl) rfl rfl rfl ?_
                                    refine Opz.val (by exact R.add rfl rfl (by first | exact ⟨by simp only [loK]; omega, by simp only [hiK]; omega⟩ | exact wr_inR rfl _)) rfl rfl rfl ?_
                                    refine Opz.val (R.assign rfl) rfl rfl rfl ?_
                                    refine Opz.nil ?_
                                    -- round by g16F c1T c2F c3T g41T g46T c4F c7F
                                    refine loopQ.round ⟨i + 1, A39, c39, (bs ++ leB (wr .u64 x25.2.1) 4), (s ++ [46, 46, 46, 46]), (wide || decide (x25.2.1 < 0) || decide (4294967295 < x25.2.1)), (fits && decide (0 ≤ x25.2.1) && decide (x25.2.1 < 4294967296)), rfl, rfl, (by first | assumption | exact Imm.le_refl _ | exact Imm.le.trans (by assumption) (by assumption)), rfl, ?_, ?_, ?_, ?_, ?_, ?_⟩ ?_ ⟨(by first | rfl | (refine look_val rfl ?_; first | rfl | (refine int_congr ?_; first | omega | (simp; done)))), (by first | rfl | (refine look_val rfl ?_; exact bool_congr (by simp [*]))), (by first | rfl | (refine look_val rfl ?_; first | rfl | (refine int_congr ?_; first | omega | (simp; done)))), rfl, rfl, trivial⟩ (by repeat (first | exact Have.refl | (refine Have.cons (by repeat (first | exact Rem.head | apply Rem.tail | exact Rem.mid)) ?_) | refine Have.skip ?_ | refine Have.app ?_))
                                    · first | assumption | omega | simp
                                    · first | assumption | omega | simp
                                    · rw [List.length_append, leB_len]; omega
                                    · rw [List.length_append]; simp; omega
                                    · exact wide_next hw
                                    · intro hf; exfalso; revert hf; simp; omega
                                    · omega
                        ·
                          -- g46F
                          try contradiction
                          all_goals
                            refine Opz.none rfl rfl rfl ?_
                            refine Opz.none rfl rfl rfl ?_
                            refine Opz.none rfl rfl rfl ?_
                            refine Opz.val (R.pick rfl rfl) rfl rfl rfl ?_
                            refine Opz.val (R.assign rfl) rfl rfl rfl ?_
                            refine Opz.nil ?_
                            refine seqQ.normal ?_
                            refine Cd.seq ?_
                            refine Cd.region ?_
                            refine Opz.val (by first | exact R.field (off := 1) rfl Try.underlying51 rfl Try.typeInfo3 rfl rfl | exact R.fieldA rfl Try.underlying51 rfl Try.typeInfo3 rfl) rfl rfl rfl ?_
                            refine Opz.val (by exact R.load rfl Try.underlying3 rfl (by first | exact cellL (by repeat (first | exact List.Mem.head _ | apply List.Mem.tail)) rfl | exact cellI (by assumption) | (exact cellRow (by repeat (first | exact List.Mem.head _ | apply List.Mem.tail)) (by assumption) (by assumption)))) rfl rfl rfl ?_
                            refine Opz.val (R.geq rfl rfl) rfl rfl rfl ?_
                            refine Opz.nil ?_
                            refine seqQ.normal ?_
                            first | refine Cd.condD rfl (fun hq41 => ?_) (fun hq41 => ?_) | refine Cd.cond rfl (fun hq41 => ?_) (fun hq41 => ?_)
                            ·
                              -- c4T
                              try contradiction
                              all_goals
                                refine Cd.region ?_
                                refine Opz.val (R.move rfl) rfl rfl rfl ?_
                                refine Opz.val (by first | exact R.field (off := 1) rfl Try.underlying51 rfl Try.typeInfo3 rfl rfl | exact R.fieldA rfl Try.underlying51 rfl Try.typeInfo3 rfl) rfl rfl rfl ?_
                                refine Opz.val (by exact R.load rfl Try.underlying3 rfl (by first | exact cellL (by repeat (first | exact List.Mem.head _ | apply List.Mem.tail)) rfl | exact cellI (by assumption) | (exact cellRow (by repeat (first | exact List.Mem.head _ | apply List.Mem.tail)) (by assumption) (by assumption)))) rfl rfl rfl ?_
                                refine Opz.op (by exact W.call rfl rfl Try.call23 (RSmall_spec x25.2.1 (by omega) (by omega)) rfl Take.nil) rfl rfl rfl ?_
                                rintro v57 I57 _ ⟨hI57, M57, hp57, rfl⟩
                                obtain ⟨rfl, rfl, rfl⟩ := hp57
                                refine Opz.val (by exact R.catT rfl rfl (by rw [leB_len]; omega)) rfl rfl rfl ?_
                                refine Opz.val (R.assign rfl) rfl rfl rfl ?_
                                refine Opz.nil ?_
                                refine blkQ.normal ?_
                                refine seqQ.normal ?_
                                refine Cd.seq ?_
                                refine Cd.region ?_
                                refine Opz.val (R.move rfl) rfl rfl rfl ?_
                                refine Opz.val (R.move rfl) rfl rfl rfl ?_
                                refine Opz.val (by first | exact R.nePN rfl rfl Try.underlying47 | exact R.neNN rfl rfl Try.underlying47 | exact R.nePS rfl rfl Try.underlying47 Try.typeInfo89) rfl rfl rfl ?_
                                refine Opz.nil ?_
                                refine seqQ.normal ?_
                                first | refine Cd.condD rfl (fun hq42 => ?_) (fun hq42 => ?_) | refine Cd.cond rfl (fun hq42 => ?_) (fun hq42 => ?_)
                                ·
                                  -- c7T
                                  first | exact absurd rfl hq42 | cases hq42
                                ·
                                  -- c7F
                                  try contradiction
                                  all_goals
                                    refine Cd.skip ?_
                                    refine blkQ.normal ?_
                                    refine seqQ.normal ?_
                                    refine Cd.region ?_
                                    refine Opz.val (R.move rfl) rfl rfl rfl ?_
                                    refine Opz.val (by exact R.add rfl rfl (by first | exact ⟨by simp only [loK]; omega, by simp only [hiK]; omega⟩ | exact wr_inR rfl _)) rfl rfl rfl ?_
                                    refine Opz.val (R.assign rfl) rfl rfl rfl ?_
                                    refine Opz.nil ?_
                                    -- round by g16F c1T c2F c3T g41T g46F c4T c7F
                                    refine loopQ.round ⟨i + 1, A39, c39, (bs ++ leB (wr .u64 x25.2.1) 4), (s ++ leB x25.2.1 4), (wide || decide (x25.2.1 < 0) || decide (4294967295 < x25.2.1)), (fits && decide (0 ≤ x25.2.1) && decide (x25.2.1 < 4294967296)), rfl, rfl, (by first | assumption | exact Imm.le_refl _ | exact Imm.le.trans (by assumption) (by assumption)), rfl, ?_, ?_, ?_, ?_, ?_, ?_⟩ ?_ ⟨(by first | rfl | (refine look_val rfl ?_; first | rfl | (refine int_congr ?_; first | omega | (simp; done)))), (by first | rfl | (refine look_val rfl ?_; exact bool_congr (by simp [*]))), (by first | rfl | (refine look_val rfl ?_; first | rfl | (refine int_congr ?_; first | omega | (simp; done)))), rfl, rfl, trivial⟩ (by repeat (first | exact Have.refl | (refine Have.cons (by repeat (first | exact Rem.head | apply Rem.tail | exact Rem.mid)) ?_) | refine Have.skip ?_ | refine Have.app ?_))
                                    · first | assumption | omega | simp
                                    · first | assumption | omega | simp
                                    · rw [List.length_append, leB_len]; omega
                                    · rw [List.length_append, leB_len]; omega
                                    · exact wide_next hw
                                    · intro hf; rw [hbs (by revert hf; cases fits <;> simp), show wr .u64 x25.2.1 = x25.2.1 from by simp only [wr]; omega]
                                    · omega
                            ·
                              -- c4F
                              try contradiction
                              all_goals
                                refine Cd.region ?_
                                refine Opz.val (R.move rfl) rfl rfl rfl ?_
                                refine Opz.val (by exact R.catT (b := [46, 46, 46, 46]) rfl rfl (by simp; omega)) rfl rfl rfl ?_
                                refine Opz.val (R.assign rfl) rfl rfl rfl ?_
                                refine Opz.nil ?_
                                refine blkQ.normal ?_
                                refine seqQ.normal ?_
                                refine Cd.seq ?_
                                refine Cd.region ?_
                                refine Opz.val (R.move rfl) rfl rfl rfl ?_
                                refine Opz.val (R.move rfl) rfl rfl rfl ?_
                                refine Opz.val (by first | exact R.nePN rfl rfl Try.underlying47 | exact R.neNN rfl rfl Try.underlying47 | exact R.nePS rfl rfl Try.underlying47 Try.typeInfo89) rfl rfl rfl ?_
                                refine Opz.nil ?_
                                refine seqQ.normal ?_
                                first | refine Cd.condD rfl (fun hq43 => ?_) (fun hq43 => ?_) | refine Cd.cond rfl (fun hq43 => ?_) (fun hq43 => ?_)
                                ·
                                  -- c7T
                                  first | exact absurd rfl hq43 | cases hq43
                                ·
                                  -- c7F
                                  try contradiction
                                  all_goals
                                    refine Cd.skip ?_
                                    refine blkQ.normal ?_
                                    refine seqQ.normal ?_
                                    refine Cd.region ?_
                                    refine Opz.val (R.move rfl) rfl rfl rfl ?_
                                    refine Opz.val (by exact R.add rfl rfl (by first | exact ⟨by simp only [loK]; omega, by simp only [hiK]; omega⟩ | exact wr_inR rfl _)) rfl rfl rfl ?_
                                    refine Opz.val (R.assign rfl) rfl rfl rfl ?_
                                    refine Opz.nil ?_
                                    -- round by g16F c1T c2F c3T g41T g46F c4F c7F
                                    refine loopQ.round ⟨i + 1, A39, c39, (bs ++ leB (wr .u64 x25.2.1) 4), (s ++ [46, 46, 46, 46]), (wide || decide (x25.2.1 < 0) || decide (4294967295 < x25.2.1)), (fits && decide (0 ≤ x25.2.1) && decide (x25.2.1 < 4294967296)), rfl, rfl, (by first | assumption | exact Imm.le_refl _ | exact Imm.le.trans (by assumption) (by assumption)), rfl, ?_, ?_, ?_, ?_, ?_, ?_⟩ ?_ ⟨(by first | rfl | (refine look_val rfl ?_; first | rfl | (refine int_congr ?_; first | omega | (simp; done)))), (by first | rfl | (refine look_val rfl ?_; exact bool_congr (by simp [*]))), (by first | rfl | (refine look_val rfl ?_; first | rfl | (refine int_congr ?_; first | omega | (simp; done)))), rfl, rfl, trivial⟩ (by repeat (first | exact Have.refl | (refine Have.cons (by repeat (first | exact Rem.head | apply Rem.tail | exact Rem.mid)) ?_) | refine Have.skip ?_ | refine Have.app ?_))
                                    · first | assumption | omega | simp
                                    · first | assumption | omega | simp
                                    · rw [List.length_append, leB_len]; omega
                                    · rw [List.length_append]; simp; omega
                                    · exact wide_next hw
                                    · intro hf; exfalso; revert hf; simp; omega
                                    · omega
                    ·
                      -- g41F
                      try contradiction
                      all_goals
                        refine Opz.none rfl rfl rfl ?_
                        refine Opz.none rfl rfl rfl ?_
                        refine Opz.none rfl rfl rfl ?_
                        refine Opz.val (R.pick rfl rfl) rfl rfl rfl ?_
                        refine Opz.val (R.move rfl) rfl rfl rfl ?_
                        first | refine Opz.guardD 46 rfl (fun hq44 => ?_) (fun hq44 => ?_) | refine Opz.guard 46 rfl (fun hq44 => ?_) (fun hq44 => ?_)
                        ·
                          -- g46T
                          try contradiction
                          all_goals
                            refine Opz.val (by first | exact R.field (off := 1) rfl Try.underlying51 rfl Try.typeInfo3 rfl rfl | exact R.fieldA rfl Try.underlying51 rfl Try.typeInfo3 rfl) rfl rfl rfl ?_
                            refine Opz.val (by exact R.load rfl Try.underlying3 rfl (by first | exact cellL (by repeat (first | exact List.Mem.head _ | apply List.Mem.tail)) rfl | exact cellI (by assumption) | (exact cellRow (by repeat (first | exact List.Mem.head _ | apply List.Mem.tail)) (by assumption) (by assumption)))) rfl rfl rfl ?_
                            refine Opz.val (R.lss rfl rfl) rfl rfl rfl ?_
                            refine Opz.val (R.pick rfl rfl) rfl rfl rfl ?_
                            refine Opz.val (R.assign rfl) rfl rfl rfl ?_
                            refine Opz.nil ?_
                            refine seqQ.normal ?_
                            refine Cd.seq ?_
                            refine Cd.region ?_
                            refine Opz.val (by first | exact R.field (off := 1) rfl Try.underlying51 rfl Try.typeInfo3 rfl rfl | exact R.fieldA rfl Try.underlying51 rfl Try.typeInfo3 rfl) rfl rfl rfl ?_
                            refine Opz.val (by exact R.load rfl Try.underlying3 rfl (by first | exact cellL (by repeat (first | exact List.Mem.head _ | apply List.Mem.tail)) rfl | exact cellI (by assumption) | (exact cellRow (by repeat (first | exact List.Mem.head _ | apply List.Mem.tail)) (by assumption) (by assumption)))) rfl rfl rfl ?_
                            refine Opz.val (R.geq rfl rfl) rfl rfl rfl ?_
                            refine Opz.nil ?_
                            refine seqQ.normal ?_
                            first | refine Cd.condD rfl (fun hq45 => ?_) (fun hq45 => ?_) | refine Cd.cond rfl (fun hq45 => ?_) (fun hq45 => ?_)
                            ·
                              -- c4T
                              try contradiction
                              all_goals
                                refine Cd.region ?_
                                refine Opz.val (R.move rfl) rfl rfl rfl ?_
                                refine Opz.val (by first | exact R.field (off := 1) rfl Try.underlying51 rfl Try.typeInfo3 rfl rfl | exact R.fieldA rfl Try.underlying51 rfl Try.typeInfo3 rfl) rfl rfl rfl ?_
                                refine Opz.val (by exact R.load rfl Try.underlying3 rfl (by first | exact cellL (by repeat (first | exact List.Mem.head _ | apply List.Mem.tail)) rfl | exact cellI (by assumption) | (exact cellRow (by repeat (first | exact List.Mem.head _ | apply List.Mem.tail)) (by assumption) (by assumption)))) rfl rfl rfl ?_
                                refine Opz.op (by exact W.call rfl rfl Try.call23 (RSmall_spec x25.2.1 (by omega) (by omega)) rfl Take.nil) rfl rfl rfl ?_
                                rintro v57 I57 _ ⟨hI57, M57, hp57, rfl⟩
                                obtain ⟨rfl, rfl, rfl⟩ := hp57
                                refine Opz.val (by exact R.catT rfl rfl (by rw [leB_len]; omega)) rfl rfl rfl ?_
                                refine Opz.val (R.assign rfl) rfl rfl rfl ?_
                                refine Opz.nil ?_
                                refine blkQ.normal ?_
                                refine seqQ.normal ?_
                                refine Cd.seq ?_
                                refine Cd.region ?_
                                refine Opz.val (R.move rfl) rfl rfl rfl ?_
                                refine Opz.val (R.move rfl) rfl rfl rfl ?_
                                refine Opz.val (by first | exact R.nePN rfl rfl Try.underlying47 | exact R.neNN rfl rfl Try.underlying47 | exact R.nePS rfl rfl Try.underlying47 Try.typeInfo89) rfl rfl rfl ?_
                                refine Opz.nil ?_
                                refine seqQ.normal ?_
                                first | refine Cd.condD rfl (fun hq46 => ?_) (fun hq46 => ?_) | refine Cd.cond rfl (fun hq46 => ?_) (fun hq46 => ?_)
                                ·
                                  -- c7T
                                  first | exact absurd rfl hq46 | cases hq46
                                ·
                                  -- c7F
                                  try contradiction
                                  all_goals
                                    refine Cd.skip ?_
                                    refine blkQ.normal ?_
                                    refine seqQ.normal ?_
                                    refine Cd.region ?_
                                    refine Opz.val (R.move rfl) rfl rfl rfl ?_
                                    refine Opz.val (by exact R.add rfl rfl (by first | exact ⟨by simp only [loK]; omega, by simp only [hiK]; omega⟩ | exact wr_inR rfl _)) rfl rfl rfl ?_
                                    refine Opz.val (R.assign rfl) rfl rfl rfl ?_
                                    refine Opz.nil ?_
                                    -- round by g16F c1T c2F c3T g41F g46T c4T c7F
                                    refine loopQ.round ⟨i + 1, A39, c39, (bs ++ leB (wr .u64 x25.2.1) 4), (s ++ leB x25.2.1 4), (wide || decide (x25.2.1 < 0) || decide (4294967295 < x25.2.1)), (fits && decide (0 ≤ x25.2.1) && decide (x25.2.1 < 4294967296)), rfl, rfl, (by first | assumption | exact Imm.le_refl _ | exact Imm.le.trans (by assumption) (by assumption)), rfl, ?_, ?_, ?_, ?_, ?_, ?_⟩ ?_ ⟨(by first | rfl | (refine look_val rfl ?_; first | rfl | (refine int_congr ?_; first | omega | (simp; done)))), (by first | rfl | (refine look_val rfl ?_; exact bool_congr (by simp [*]))), (by first | rfl | (refine look_val rfl ?_; first | rfl | (refine int_congr ?_; first | omega | (simp; done)))), rfl, rfl, trivial⟩ (by repeat (first | exact Have.refl | (refine Have.cons (by repeat (first | exact Rem.head | apply Rem.tail | exact Rem.mid)) ?_) | refine Have.skip ?_ | refine Have.app ?_))
                                    · first | assumption | omega | simp
                                    · first | assumption | omega | simp
                                    · rw [List.length_append, leB_len]; omega
                                    · rw [List.length_append, leB_len]; omega
                                    · exact wide_next hw
                                    · intro hf; rw [hbs (by revert hf; cases fits <;> simp), show wr .u64 x25.2.1 = x25.2.1 from by simp only [wr]; omega]
                                    · omega
                            ·
                              -- c4F
                              try contradiction
                              all_goals
                                refine Cd.region ?_
                                refine Opz.val (R.move rfl) rfl rfl rfl ?_
                                refine Opz.val (by exact R.catT (b := [46, 46, 46, 46]) rfl rfl (by simp; omega)) rfl rfl rfl ?_
                                refine Opz.val (R.assign rfl) rfl rfl rfl ?_
                                refine Opz.nil ?_
                                refine blkQ.normal ?_
                                refine seqQ.normal ?_
                                refine Cd.seq ?_
                                refine Cd.region ?_
                                refine Opz.val (R.move rfl) rfl rfl rfl ?_
                                refine Opz.val (R.move rfl) rfl rfl rfl ?_
                                refine Opz.val (by first | exact R.nePN rfl rfl Try.underlying47 | exact R.neNN rfl rfl Try.underlying47 | exact R.nePS rfl rfl Try.underlying47 Try.typeInfo89) rfl rfl rfl ?_
                                refine Opz.nil ?_
                                refine seqQ.normal ?_
                                first | refine Cd.condD rfl (fun hq47 => ?_) (fun hq47 => ?_) | refine Cd.cond rfl (fun hq47 => ?_) (fun hq47 => ?_)
                                ·
                                  -- c7T
                                  first | exact absurd rfl hq47 | cases hq47
                                ·
                                  -- c7F
                                  try contradiction
                                  all_goals
                                    refine Cd.skip ?_
                                    refine blkQ.normal ?_
                                    refine seqQ.normal ?_
                                    refine Cd.region ?_
                                    refine Opz.val (R.move rfl) rfl rfl rfl ?_
                                    refine Opz.val (by exact R.add rfl rfl (by first | exact ⟨by simp only [loK]; omega, by simp only [hiK]; omega⟩ | exact wr_inR rfl _)) rfl rfl rfl ?_
                                    refine Opz.val (R.assign rfl) rfl rfl rfl ?_
                                    refine Opz.nil ?_
                                    -- round by g16F c1T c2F c3T g41F g46T c4F c7F
                                    refine loopQ.round ⟨i + 1, A39, c39, (bs ++ leB (wr .u64 x25.2.1) 4), (s ++ [46, 46, 46, 46]), (wide || decide (x25.2.1 < 0) || decide (4294967295 < x25.2.1)), (fits && decide (0 ≤ x25.2.1) && decide (x25.2.1 < 4294967296)), rfl, rfl, (by first | assumption | exact Imm.le_refl _ | exact Imm.le.trans (by assumption) (by assumption)), rfl, ?_, ?_, ?_, ?_, ?_, ?_⟩ ?_ ⟨(by first | rfl | (refine look_val rfl ?_; first | rfl | (refine int_congr ?_; first | omega | (simp; done)))), (by first | rfl | (refine look_val rfl ?_; exact bool_congr (by simp [*]))), (by first | rfl | (refine look_val rfl ?_; first | rfl | (refine int_congr ?_; first | omega | (simp; done)))), rfl, rfl, trivial⟩ (by repeat (first | exact Have.refl | (refine Have.cons (by repeat (first | exact Rem.head | apply Rem.tail | exact Rem.mid)) ?_) | refine Have.skip ?_ | refine Have.app ?_))
                                    · first | assumption | omega | simp
                                    · first | assumption | omega | simp
                                    · rw [List.length_append, leB_len]; omega
                                    · rw [List.length_append]; simp; omega
                                    · exact wide_next hw
                                    · intro hf; exfalso; revert hf; simp; omega
                                    · omega
                        ·
                          -- g46F
                          try contradiction
                          all_goals
                            refine Opz.none rfl rfl rfl ?_
                            refine Opz.none rfl rfl rfl ?_
                            refine Opz.none rfl rfl rfl ?_
                            refine Opz.val (R.pick rfl rfl) rfl rfl rfl ?_
                            refine Opz.val (R.assign rfl) rfl rfl rfl ?_
                            refine Opz.nil ?_
                            refine seqQ.normal ?_
                            refine Cd.seq ?_
                            refine Cd.region ?_
                            refine Opz.val (by first | exact R.field (off := 1) rfl Try.underlying51 rfl Try.typeInfo3 rfl rfl | exact R.fieldA rfl Try.underlying51 rfl Try.typeInfo3 rfl) rfl rfl rfl ?_
                            refine Opz.val (by exact R.load rfl Try.underlying3 rfl (by first | exact cellL (by repeat (first | exact List.Mem.head _ | apply List.Mem.tail)) rfl | exact cellI (by assumption) | (exact cellRow (by repeat (first | exact List.Mem.head _ | apply List.Mem.tail)) (by assumption) (by assumption)))) rfl rfl rfl ?_
                            refine Opz.val (R.geq rfl rfl) rfl rfl rfl ?_
                            refine Opz.nil ?_
                            refine seqQ.normal ?_
                            first | refine Cd.condD rfl (fun hq48 => ?_) (fun hq48 => ?_) | refine Cd.cond rfl (fun hq48 => ?_) (fun hq48 => ?_)
                            ·
                              -- c4T
                              try contradiction
                              all_goals
                                refine Cd.region ?_
                                refine Opz.val (R.move rfl) rfl rfl rfl ?_
                                refine Opz.val (by first | exact R.field (off := 1) rfl Try.underlying51 rfl Try.typeInfo3 rfl rfl | exact R.fieldA rfl Try.underlying51 rfl Try.typeInfo3 rfl) rfl rfl rfl ?_
                                refine Opz.val (by exact R.load rfl Try.underlying3 rfl (by first | exact cellL (by repeat (first | exact List.Mem.head _ | apply List.Mem.tail)) rfl | exact cellI (by assumption) | (exact cellRow (by repeat (first | exact List.Mem.head _ | apply List.Mem.tail)) (by assumption) (by assumption)))) rfl rfl rfl ?_
                                refine Opz.op (by exact W.call rfl rfl Try.call23 (RSmall_spec x25.2.1 (by omega) (by omega)) rfl Take.nil) rfl rfl rfl ?_
                                rintro v57 I57 _ ⟨hI57, M57, hp57, rfl⟩
                                obtain ⟨rfl, rfl, rfl⟩ := hp57
                                refine Opz.val (by exact R.catT rfl rfl (by rw [leB_len]; omega)) rfl rfl rfl ?_
                                refine Opz.val (R.assign rfl) rfl rfl rfl ?_
                                refine Opz.nil ?_
                                refine blkQ.normal ?_
                                refine seqQ.normal ?_
                                refine Cd.seq ?_
                                refine Cd.region ?_
                                refine Opz.val (R.move rfl) rfl rfl rfl ?_
                                refine Opz.val (R.move rfl) rfl rfl rfl ?_
                                refine Opz.val (by first | exact R.nePN rfl rfl Try.underlying47 | exact R.neNN rfl rfl Try.underlying47 | exact R.nePS rfl rfl Try.underlying47 Try.typeInfo89) rfl rfl rfl ?_
                                refine Opz.nil ?_
                                refine seqQ.normal ?_
                                first | refine Cd.condD rfl (fun hq49 => ?_) (fun hq49 => ?_) | refine Cd.cond rfl (fun hq49 => ?_) (fun hq49 => ?_)
                                ·
                                  -- c7T
                                  first | exact absurd rfl hq49 | cases hq49
                                ·
                                  -- c7F
                                  try contradiction
                                  all_goals
                                    refine Cd.skip ?_
                                    refine blkQ.normal ?_
                                    refine seqQ.normal ?_
                                    refine Cd.region ?_
                                    refine Opz.val (R.move rfl) rfl rfl rfl ?_
                                    refine Opz.val (by exact R.add rfl rfl (by first | exact ⟨by simp only [loK]; omega, by simp only [hiK]; omega⟩ | exact wr_inR rfl _)) rfl rfl rfl ?_
                                    refine Opz.val (R.assign rfl) rfl rfl rfl ?_
                                    refine Opz.nil ?_
                                    -- round by g16F c1T c2F c3T g41F g46F c4T c7F
                                    refine loopQ.round ⟨i + 1, A39, c39, (bs ++ leB (wr .u64 x25.2.1) 4), (s ++ leB x25.2.1 4), (wide || decide (x25.2.1 < 0) || decide (4294967295 < x25.2.1)), (fits && decide (0 ≤ x25.2.1) && decide (x25.2.1 < 4294967296)), rfl, rfl, (by first | assumption | exact Imm.le_refl _ | exact Imm.le.trans (by assumption) (by assumption)), rfl, ?_, ?_, ?_, ?_, ?_, ?_⟩ ?_ ⟨(by first | rfl | (refine look_val rfl ?_; first | rfl | (refine int_congr ?_; first | omega | (simp; done)))), (by first | rfl | (refine look_val rfl ?_; exact bool_congr (by simp [*]))), (by first | rfl | (refine look_val rfl ?_; first | rfl | (refine int_congr ?_; first | omega | (simp; done)))), rfl, rfl, trivial⟩ (by repeat (first | exact Have.refl | (refine Have.cons (by repeat (first | exact Rem.head | apply Rem.tail | exact Rem.mid)) ?_) | refine Have.skip ?_ | refine Have.app ?_))
                                    · first | assumption | omega | simp
                                    · first | assumption | omega | simp
                                    · rw [List.length_append, leB_len]; omega
                                    · rw [List.length_append, leB_len]; omega
                                    · exact wide_next hw
                                    · intro hf; rw [hbs (by revert hf; cases fits <;> simp), show wr .u64 x25.2.1 = x25.2.1 from by simp only [wr]; omega]
                                    · omega
                            ·
                              -- c4F
                              try contradiction
                              all_goals
                                refine Cd.region ?_
                                refine Opz.val (R.move rfl) rfl rfl rfl ?_
                                refine Opz.val (by exact R.catT (b := [46, 46, 46, 46]) rfl rfl (by simp; omega)) rfl rfl rfl ?_
                                refine Opz.val (R.assign rfl) rfl rfl rfl ?_
                                refine Opz.nil ?_
                                refine blkQ.normal ?_
                                refine seqQ.normal ?_
                                refine Cd.seq ?_
                                refine Cd.region ?_
                                refine Opz.val (R.move rfl) rfl rfl rfl ?_
                                refine Opz.val (R.move rfl) rfl rfl rfl ?_
                                refine Opz.val (by first | exact R.nePN rfl rfl Try.underlying47 | exact R.neNN rfl rfl Try.underlying47 | exact R.nePS rfl rfl Try.underlying47 Try.typeInfo89) rfl rfl rfl ?_
                                refine Opz.nil ?_
                                refine seqQ.normal ?_
                                first | refine Cd.condD rfl (fun hq50 => ?_) (fun hq50 => ?_) | refine Cd.cond rfl (fun hq50 => ?_) (fun hq50 => ?_)
                                ·
                                  -- c7T
                                  first | exact absurd rfl hq50 | cases hq50
                                ·
                                  -- c7F
                                  try contradiction
                                  all_goals
                                    refine Cd.skip ?_
                                    refine blkQ.normal ?_
                                    refine seqQ.normal ?_
                                    refine Cd.region ?_
                                    refine Opz.val (R.move rfl) rfl rfl rfl ?_
                                    refine Opz.val (by exact R.add rfl rfl (by first | exact ⟨by simp only [loK]; omega, by simp only [hiK]; omega⟩ | exact wr_inR rfl _)) rfl rfl rfl ?_
                                    refine Opz.val (R.assign rfl) rfl rfl rfl ?_
                                    refine Opz.nil ?_
                                    -- round by g16F c1T c2F c3T g41F g46F c4F c7F
                                    refine loopQ.round ⟨i + 1, A39, c39, (bs ++ leB (wr .u64 x25.2.1) 4), (s ++ [46, 46, 46, 46]), (wide || decide (x25.2.1 < 0) || decide (4294967295 < x25.2.1)), (fits && decide (0 ≤ x25.2.1) && decide (x25.2.1 < 4294967296)), rfl, rfl, (by first | assumption | exact Imm.le_refl _ | exact Imm.le.trans (by assumption) (by assumption)), rfl, ?_, ?_, ?_, ?_, ?_, ?_⟩ ?_ ⟨(by first | rfl | (refine look_val rfl ?_; first | rfl | (refine int_congr ?_; first | omega | (simp; done)))), (by first | rfl | (refine look_val rfl ?_; exact bool_congr (by simp [*]))), (by first | rfl | (refine look_val rfl ?_; first | rfl | (refine int_congr ?_; first | omega | (simp; done)))), rfl, rfl, trivial⟩ (by repeat (first | exact Have.refl | (refine Have.cons (by repeat (first | exact Rem.head | apply Rem.tail | exact Rem.mid)) ?_) | refine Have.skip ?_ | refine Have.app ?_))
                                    · first | assumption | omega | simp
                                    · first | assumption | omega | simp
                                    · rw [List.length_append, leB_len]; omega
                                    · rw [List.length_append]; simp; omega
                                    · exact wide_next hw
                                    · intro hf; exfalso; revert hf; simp; omega
                                    · omega
                ·
                  -- c3F
                  try contradiction
                  all_goals
                    refine Cd.seq ?_
                    refine Cd.region ?_
                    refine Opz.val (R.eql rfl rfl) rfl rfl rfl ?_
                    refine Opz.val (R.assign rfl) rfl rfl rfl ?_
                    refine Opz.nil ?_
                    refine seqQ.normal ?_
                    first | refine Cd.condD rfl (fun hq51 => ?_) (fun hq51 => ?_) | refine Cd.cond rfl (fun hq51 => ?_) (fun hq51 => ?_)
                    ·
                      -- c5T
                      try contradiction
                      all_goals
                        refine Cd.seq ?_
                        refine Cd.region ?_
                        refine Opz.val (R.move rfl) rfl rfl rfl ?_
                        refine Opz.val (by first | exact R.field (off := 2) rfl Try.underlying51 rfl Try.typeInfo49 rfl rfl | exact R.fieldA rfl Try.underlying51 rfl Try.typeInfo49 rfl) rfl rfl rfl ?_
                        refine Opz.val (by exact R.load rfl Try.underlying49 rfl (by first | exact cellL (by repeat (first | exact List.Mem.head _ | apply List.Mem.tail)) rfl | exact cellI (by assumption) | (exact cellRow (by repeat (first | exact List.Mem.head _ | apply List.Mem.tail)) (by assumption) (by assumption)))) rfl rfl rfl ?_
                        refine Opz.op (by exact W.call rfl rfl Try.call24 (PGreat_spec (b := b11) (wide := wide) bs x25.2.2.1 hg25 (by omega)) rfl (Take.cons (by repeat (first | exact Rem.head | apply Rem.tail | exact Rem.mid)) (Take.cons (by repeat (first | exact Rem.head | apply Rem.tail | exact Rem.mid)) Take.nil))) rfl rfl rfl ?_
                        rintro v66 I66 _ ⟨hI66, M66, hp66, rfl⟩
                        obtain ⟨A66, c66, rfl, rfl, rfl⟩ := hp66
                        rw [show bs.length + 8 = (bs ++ leB x25.2.2.1 8).length from by rw [List.length_append, leB_len]]
                        refine Opz.val (R.assign rfl) rfl rfl rfl ?_
                        refine Opz.nil ?_
                        refine seqQ.normal ?_
                        refine Cd.region ?_
                        refine Opz.val (R.move rfl) rfl rfl rfl ?_
                        refine Opz.val (by first | exact R.field (off := 2) rfl Try.underlying51 rfl Try.typeInfo49 rfl rfl | exact R.fieldA rfl Try.underlying51 rfl Try.typeInfo49 rfl) rfl rfl rfl ?_
                        refine Opz.val (by exact R.load rfl Try.underlying49 rfl (by first | exact cellL (by repeat (first | exact List.Mem.head _ | apply List.Mem.tail)) rfl | exact cellI (by assumption) | (exact cellRow (by repeat (first | exact List.Mem.head _ | apply List.Mem.tail)) (by assumption) (by assumption)))) rfl rfl rfl ?_
                        refine Opz.op (by exact W.call rfl rfl Try.call25 (RGreat_spec x25.2.2.1 hg25.1 hg25.2) rfl Take.nil) rfl rfl rfl ?_
                        rintro v70 I70 _ ⟨hI70, M70, hp70, rfl⟩
                        obtain ⟨rfl, rfl, rfl⟩ := hp70
                        refine Opz.val (by exact R.catT rfl rfl (by rw [leB_len]; omega)) rfl rfl rfl ?_
                        refine Opz.val (R.assign rfl) rfl rfl rfl ?_
                        refine Opz.nil ?_
                        refine blkQ.normal ?_
                        refine seqQ.normal ?_
                        refine Cd.seq ?_
                        refine Cd.region ?_
                        refine Opz.val (R.move rfl) rfl rfl rfl ?_
                        refine Opz.val (R.move rfl) rfl rfl rfl ?_
                        refine Opz.val (by first | exact R.nePN rfl rfl Try.underlying47 | exact R.neNN rfl rfl Try.underlying47 | exact R.nePS rfl rfl Try.underlying47 Try.typeInfo89) rfl rfl rfl ?_
                        refine Opz.nil ?_
                        refine seqQ.normal ?_
                        first | refine Cd.condD rfl (fun hq52 => ?_) (fun hq52 => ?_) | refine Cd.cond rfl (fun hq52 => ?_) (fun hq52 => ?_)
                        ·
                          -- c7T
                          first | exact absurd rfl hq52 | cases hq52
                        ·
                          -- c7F
                          try contradiction
                          all_goals
                            refine Cd.skip ?_
                            refine blkQ.normal ?_
                            refine seqQ.normal ?_
                            refine Cd.region ?_
                            refine Opz.val (R.move rfl) rfl rfl rfl ?_
                            refine Opz.val (by exact R.add rfl rfl (by first | exact ⟨by simp only [loK]; omega, by simp only [hiK]; omega⟩ | exact wr_inR rfl _)) rfl rfl rfl ?_
                            refine Opz.val (R.assign rfl) rfl rfl rfl ?_
                            refine Opz.nil ?_
                            -- round by g16F c1T c2F c3F c5T c7F
                            refine loopQ.round ⟨i + 1, A66, c66, (bs ++ leB x25.2.2.1 8), (s ++ leB x25.2.2.1 8), wide, fits, rfl, rfl, (by first | assumption | exact Imm.le_refl _ | exact Imm.le.trans (by assumption) (by assumption)), rfl, ?_, ?_, ?_, ?_, ?_, ?_⟩ ?_ ⟨(by first | rfl | (refine look_val rfl ?_; first | rfl | (refine int_congr ?_; first | omega | (simp; done)))), (by first | rfl | (refine look_val rfl ?_; first | rfl | (refine int_congr ?_; first | omega | (simp; done)))), (by first | rfl | (refine look_val rfl ?_; first | rfl | (refine int_congr ?_; first | omega | (simp; done)))), rfl, rfl, trivial⟩ (by repeat (first | exact Have.refl | (refine Have.cons (by repeat (first | exact Rem.head | apply Rem.tail | exact Rem.mid)) ?_) | refine Have.skip ?_ | refine Have.app ?_))
                            · first | assumption | omega | simp
                            · first | assumption | omega | simp
                            · rw [List.length_append, leB_len]; omega
                            · rw [List.length_append, leB_len]; omega
                            · exact hw
                            · intro hf; rw [hbs hf]
                            · omega
                    ·
                      -- c5F
                      try contradiction
                      all_goals
                        refine Cd.seq ?_
                        refine Cd.region ?_
                        refine Opz.val (R.eql rfl rfl) rfl rfl rfl ?_
                        refine Opz.val (R.assign rfl) rfl rfl rfl ?_
                        refine Opz.nil ?_
                        refine seqQ.normal ?_
                        first | refine Cd.condD rfl (fun hq53 => ?_) (fun hq53 => ?_) | refine Cd.cond rfl (fun hq53 => ?_) (fun hq53 => ?_)
                        ·
                          -- c6T
                          try contradiction
                          all_goals
                            refine Cd.seq ?_
                            refine Cd.region ?_
                            refine Opz.val (R.move rfl) rfl rfl rfl ?_
                            refine Opz.val (by first | exact R.field (off := 3) rfl Try.underlying51 rfl Try.typeInfo27 rfl rfl | exact R.fieldA rfl Try.underlying51 rfl Try.typeInfo27 rfl) rfl rfl rfl ?_
                            refine Opz.val (by exact R.load rfl Try.underlying27 rfl (by first | exact cellL (by repeat (first | exact List.Mem.head _ | apply List.Mem.tail)) rfl | exact cellI (by assumption) | (exact cellRow (by repeat (first | exact List.Mem.head _ | apply List.Mem.tail)) (by assumption) (by assumption)))) rfl rfl rfl ?_
                            refine Opz.op (by exact W.call rfl rfl Try.call26 (PBytes_spec (b := b11) (wide := wide) bs x25.2.2.2.1 hb25 (by omega)) rfl (Take.cons (by repeat (first | exact Rem.head | apply Rem.tail | exact Rem.mid)) (Take.cons (by repeat (first | exact Rem.head | apply Rem.tail | exact Rem.mid)) Take.nil))) rfl rfl rfl ?_
                            rintro v77 I77 _ ⟨hI77, M77, hp77, rfl⟩
                            obtain ⟨A77, c77, rfl, rfl, rfl⟩ := hp77
                            rw [show (wide || decide ((4294967295 : Int) < (x25.2.2.2.1.length : Int))) = wide from by simp; omega, List.append_assoc, show bs.length + 4 + x25.2.2.2.1.length = (bs ++ (leB (x25.2.2.2.1.length : Nat) 4 ++ x25.2.2.2.1)).length from by rw [List.length_append, List.length_append, leB_len]; omega]
                            refine Opz.val (R.assign rfl) rfl rfl rfl ?_
                            refine Opz.nil ?_
                            refine seqQ.normal ?_
                            refine Cd.region ?_
                            refine Opz.val (R.move rfl) rfl rfl rfl ?_
                            refine Opz.val (by first | exact R.field (off := 3) rfl Try.underlying51 rfl Try.typeInfo27 rfl rfl | exact R.fieldA rfl Try.underlying51 rfl Try.typeInfo27 rfl) rfl rfl rfl ?_
                            refine Opz.val (by exact R.load rfl Try.underlying27 rfl (by first | exact cellL (by repeat (first | exact List.Mem.head _ | apply List.Mem.tail)) rfl | exact cellI (by assumption) | (exact cellRow (by repeat (first | exact List.Mem.head _ | apply List.Mem.tail)) (by assumption) (by assumption)))) rfl rfl rfl ?_
                            refine Opz.op (by exact W.call rfl rfl Try.call27 (RBytes_spec x25.2.2.2.1 hb25 (by omega)) rfl Take.nil) rfl rfl rfl ?_
                            rintro v81 I81 _ ⟨hI81, M81, hp81, rfl⟩
                            obtain ⟨rfl, rfl, rfl⟩ := hp81
                            refine Opz.val (by exact R.catT rfl rfl (by rw [List.length_append, leB_len]; omega)) rfl rfl rfl ?_
                            refine Opz.val (R.assign rfl) rfl rfl rfl ?_
                            refine Opz.nil ?_
                            refine blkQ.normal ?_
                            refine seqQ.normal ?_
                            refine Cd.seq ?_
                            refine Cd.region ?_
                            refine Opz.val (R.move rfl) rfl rfl rfl ?_
                            refine Opz.val (R.move rfl) rfl rfl rfl ?_
                            refine Opz.val (by first | exact R.nePN rfl rfl Try.underlying47 | exact R.neNN rfl rfl Try.underlying47 | exact R.nePS rfl rfl Try.underlying47 Try.typeInfo89) rfl rfl rfl ?_
                            refine Opz.nil ?_
                            refine seqQ.normal ?_
                            first | refine Cd.condD rfl (fun hq54 => ?_) (fun hq54 => ?_) | refine Cd.cond rfl (fun hq54 => ?_) (fun hq54 => ?_)
                            ·
                              -- c7T
                              first | exact absurd rfl hq54 | cases hq54
                            ·
                              -- c7F
                              try contradiction
                              all_goals
                                refine Cd.skip ?_
                                refine blkQ.normal ?_
                                refine seqQ.normal ?_
                                refine Cd.region ?_
                                refine Opz.val (R.move rfl) rfl rfl rfl ?_
                                refine Opz.val (by exact R.add rfl rfl (by first | exact ⟨by simp only [loK]; omega, by simp only [hiK]; omega⟩ | exact wr_inR rfl _)) rfl rfl rfl ?_
                                refine Opz.val (R.assign rfl) rfl rfl rfl ?_
                                refine Opz.nil ?_
                                -- round by g16F c1T c2F c3F c5F c6T c7F
                                refine loopQ.round ⟨i + 1, A77, c77, (bs ++ (leB (x25.2.2.2.1.length : Nat) 4 ++ x25.2.2.2.1)), (s ++ (leB (x25.2.2.2.1.length : Nat) 4 ++ x25.2.2.2.1)), wide, fits, rfl, rfl, (by first | assumption | exact Imm.le_refl _ | exact Imm.le.trans (by assumption) (by assumption)), rfl, ?_, ?_, ?_, ?_, ?_, ?_⟩ ?_ ⟨(by first | rfl | (refine look_val rfl ?_; first | rfl | (refine int_congr ?_; first | omega | (simp; done)))), (by first | rfl | (refine look_val rfl ?_; first | rfl | (refine int_congr ?_; first | omega | (simp; done)))), (by first | rfl | (refine look_val rfl ?_; first | rfl | (refine int_congr ?_; first | omega | (simp; done)))), rfl, rfl, trivial⟩ (by repeat (first | exact Have.refl | (refine Have.cons (by repeat (first | exact Rem.head | apply Rem.tail | exact Rem.mid)) ?_) | refine Have.skip ?_ | refine Have.app ?_))
                                · first | assumption | omega | simp
                                · first | assumption | omega | simp
                                · rw [List.length_append, List.length_append, leB_len]; omega
                                · rw [List.length_append, List.length_append, leB_len]; omega
                                · exact hw
                                · intro hf; rw [hbs hf]
                                · omega
                        ·
                          -- c6F
                          try contradiction
                          all_goals
                            refine Cd.skip ?_
                            refine blkQ.normal ?_
                            refine seqQ.normal ?_
                            refine Cd.seq ?_
                            refine Cd.region ?_
                            refine Opz.val (R.move rfl) rfl rfl rfl ?_
                            refine Opz.val (R.move rfl) rfl rfl rfl ?_
                            refine Opz.val (by first | exact R.nePN rfl rfl Try.underlying47 | exact R.neNN rfl rfl Try.underlying47 | exact R.nePS rfl rfl Try.underlying47 Try.typeInfo89) rfl rfl rfl ?_
                            refine Opz.nil ?_
                            refine seqQ.normal ?_
                            first | refine Cd.condD rfl (fun hq55 => ?_) (fun hq55 => ?_) | refine Cd.cond rfl (fun hq55 => ?_) (fun hq55 => ?_)
                            ·
                              -- c7T
                              first | exact absurd rfl hq55 | cases hq55
                            ·
                              -- c7F
                              try contradiction
                              all_goals
                                refine Cd.skip ?_
                                refine blkQ.normal ?_
                                refine seqQ.normal ?_
                                refine Cd.region ?_
                                refine Opz.val (R.move rfl) rfl rfl rfl ?_
                                refine Opz.val (by exact R.add rfl rfl (by first | exact ⟨by simp only [loK]; omega, by simp only [hiK]; omega⟩ | exact wr_inR rfl _)) rfl rfl rfl ?_
                                refine Opz.val (R.assign rfl) rfl rfl rfl ?_
                                refine Opz.nil ?_
                                -- round by g16F c1T c2F c3F c5F c6F c7F
                                refine loopQ.round ⟨i + 1, A1, c1, bs, s, wide, fits, rfl, rfl, (by first | assumption | exact Imm.le_refl _ | exact Imm.le.trans (by assumption) (by assumption)), rfl, ?_, ?_, ?_, ?_, ?_, ?_⟩ ?_ ⟨(by first | rfl | (refine look_val rfl ?_; first | rfl | (refine int_congr ?_; first | omega | (simp; done)))), (by first | rfl | (refine look_val rfl ?_; first | rfl | (refine int_congr ?_; first | omega | (simp; done)))), (by first | rfl | (refine look_val rfl ?_; first | rfl | (refine int_congr ?_; first | omega | (simp; done)))), rfl, rfl, trivial⟩ (by repeat (first | exact Have.refl | (refine Have.cons (by repeat (first | exact Rem.head | apply Rem.tail | exact Rem.mid)) ?_) | refine Have.skip ?_ | refine Have.app ?_))
                                · first | assumption | omega | simp
                                · first | assumption | omega | simp
                                · exact Nat.le_trans hbl (Nat.mul_le_mul_right _ (Nat.le_succ i))
                                · exact Nat.le_trans hsl (Nat.mul_le_mul_right _ (Nat.le_succ i))
                                · exact hw
                                · exact hbs
                                · omega
        ·
          -- c1F
          try contradiction
          all_goals
            refine Cd.exit ?_
            refine seqQ.exit ?_
            refine loopQ.exit ?_
            refine blkQ.here ?_
            refine seqQ.normal ?_
            refine Cd.seq ?_
            refine Cd.region ?_
            refine Opz.val (R.move rfl) rfl rfl rfl ?_
            refine Opz.op (by exact W.call rfl rfl Try.call28 (PSeal_spec (b := b11) (wide := wide) bs (by omega)) rfl (Take.cons (by repeat (first | exact Rem.head | apply Rem.tail | exact Rem.mid)) (Take.cons (by repeat (first | exact Rem.head | apply Rem.tail | exact Rem.mid)) Take.nil))) rfl rfl rfl ?_
            rintro v88 I88 _ ⟨hI88, M88, hp88, rfl⟩
            obtain ⟨A88, c88, rfl, rfl, hb88, hc88⟩ := hp88
            have hle := hle.trans hI88
            replace hra := hra.mono hI88
            refine Opz.val (R.move rfl) rfl rfl rfl ?_
            refine Opz.val (R.ext rfl rfl) rfl rfl rfl ?_
            refine Opz.val (R.ext rfl rfl) rfl rfl rfl ?_
            refine Opz.val (R.assign rfl) rfl rfl rfl ?_
            refine Opz.val (R.assign rfl) rfl rfl rfl ?_
            refine Opz.nil ?_
            refine seqQ.normal ?_
            refine Cd.seq ?_
            refine Cd.seq ?_
            refine Cd.region ?_
            refine Opz.val (R.move rfl) rfl rfl rfl ?_
            refine Opz.val (R.not rfl) rfl rfl rfl ?_
            refine Opz.nil ?_
            refine seqQ.normal ?_
            first | refine Cd.condD rfl (fun hq56 => ?_) (fun hq56 => ?_) | refine Cd.cond rfl (fun hq56 => ?_) (fun hq56 => ?_)
            ·
              -- c8T
              try contradiction
              all_goals
                have hf : fits = false := by simpa using hq56
                have hs : sealR wide bs = ([], 4) := by unfold sealR; simp [hw, hf]
                rw [hs]
                refine Cd.seq ?_
                refine Cd.region ?_
                refine Opz.op (by exact W.call rfl rfl Try.call21 awake_spec rfl Take.nil) rfl rfl rfl ?_
                rintro v93 I93 _ ⟨hI93, M93, hp93, rfl⟩
                obtain ⟨rfl, rfl⟩ := hp93
                have hle := hle.trans hI93
                replace hra := hra.mono hI93
                refine Opz.val (R.move rfl) rfl rfl rfl ?_
                first | refine Opz.guardD 94 rfl (fun hq57 => ?_) (fun hq57 => ?_) | refine Opz.guard 94 rfl (fun hq57 => ?_) (fun hq57 => ?_)
                ·
                  -- g94T
                  try contradiction
                  all_goals
                    refine Opz.val (R.move rfl) rfl rfl rfl ?_
                    refine Opz.val (R.eql rfl rfl) rfl rfl rfl ?_
                    refine Opz.val (R.pick rfl rfl) rfl rfl rfl ?_
                    refine Opz.val (R.move rfl) rfl rfl rfl ?_
                    first | refine Opz.guardD 98 rfl (fun hq58 => ?_) (fun hq58 => ?_) | refine Opz.guard 98 rfl (fun hq58 => ?_) (fun hq58 => ?_)
                    ·
                      -- g98T
                      try contradiction
                      all_goals
                        refine Opz.val (R.move rfl) rfl rfl rfl ?_
                        refine Opz.val (R.len rfl rfl Try.underlying27) rfl rfl rfl ?_
                        refine Opz.val (R.eql rfl rfl) rfl rfl rfl ?_
                        refine Opz.val (R.pick rfl rfl) rfl rfl rfl ?_
                        refine Opz.val (R.assign rfl) rfl rfl rfl ?_
                        refine Opz.nil ?_
                        refine seqQ.normal ?_
                        refine Cd.ret ?_
                        refine seqQ.ret ?_
                        -- path g16F c1F c8T g94T g98T
                        refine fin.ret (L' := []) (ResOK.tmp rfl ResOK.nil) (by first | exact hle | exact Imm.le_refl _) ?_ ?_
                        · repeat (first | exact Have.refl | (refine Have.cons (by repeat (first | exact Rem.head | apply Rem.tail | exact Rem.mid)) ?_) | refine Have.skip ?_ | refine Have.app ?_)
                        ·
                          first | exact ⟨rfl, rfl⟩ | exact ⟨(bool_congr (by simp [*])).symm, rfl⟩
                    ·
                      -- g98F
                      first | exact absurd hq58 (by decide) | exact absurd hq58 (by simp)
                ·
                  -- g94F
                  first | exact absurd hq57 (by decide) | exact absurd hq57 (by simp)
            ·
              -- c8F
              try contradiction
              all_goals
                have hf : fits = true := by simpa using hq56
                have hbs2 := hbs hf
                subst hbs2
                refine Cd.skip ?_
                refine seqQ.normal ?_
                refine Cd.seq ?_
                refine Cd.seq ?_
                refine Cd.region ?_
                refine Opz.val (R.move rfl) rfl rfl rfl ?_
                refine Opz.val (R.lenT rfl rfl Try.underlying9) rfl rfl rfl ?_
                refine Opz.val (R.gtr rfl rfl) rfl rfl rfl ?_
                refine Opz.nil ?_
                refine seqQ.normal ?_
                first | refine Cd.condD rfl (fun hq59 => ?_) (fun hq59 => ?_) | refine Cd.cond rfl (fun hq59 => ?_) (fun hq59 => ?_)
                ·
                  -- c9T
                  try contradiction
                  all_goals
                    have hs : sealR wide bs = ([], 6) := by unfold sealR; rw [if_neg (by simp [hw, hf]), if_pos (by omega)]
                    rw [hs]
                    refine Cd.seq ?_
                    refine Cd.region ?_
                    refine Opz.op (by exact W.call rfl rfl Try.call21 awake_spec rfl Take.nil) rfl rfl rfl ?_
                    rintro v106 I106 _ ⟨hI106, M106, hp106, rfl⟩
                    obtain ⟨rfl, rfl⟩ := hp106
                    have hle := hle.trans hI106
                    replace hra := hra.mono hI106
                    refine Opz.val (R.move rfl) rfl rfl rfl ?_
                    first | refine Opz.guardD 107 rfl (fun hq60 => ?_) (fun hq60 => ?_) | refine Opz.guard 107 rfl (fun hq60 => ?_) (fun hq60 => ?_)
                    ·
                      -- g107T
                      try contradiction
                      all_goals
                        refine Opz.val (R.move rfl) rfl rfl rfl ?_
                        refine Opz.val (R.eql rfl rfl) rfl rfl rfl ?_
                        refine Opz.val (R.pick rfl rfl) rfl rfl rfl ?_
                        refine Opz.val (R.move rfl) rfl rfl rfl ?_
                        first | refine Opz.guardD 111 rfl (fun hq61 => ?_) (fun hq61 => ?_) | refine Opz.guard 111 rfl (fun hq61 => ?_) (fun hq61 => ?_)
                        ·
                          -- g111T
                          try contradiction
                          all_goals
                            refine Opz.val (R.move rfl) rfl rfl rfl ?_
                            refine Opz.val (R.len rfl rfl Try.underlying27) rfl rfl rfl ?_
                            refine Opz.val (R.eql rfl rfl) rfl rfl rfl ?_
                            refine Opz.val (R.pick rfl rfl) rfl rfl rfl ?_
                            refine Opz.val (R.assign rfl) rfl rfl rfl ?_
                            refine Opz.nil ?_
                            refine seqQ.normal ?_
                            refine Cd.ret ?_
                            refine seqQ.ret ?_
                            -- path g16F c1F c8F c9T g107T g111T
                            refine fin.ret (L' := []) (ResOK.tmp rfl ResOK.nil) (by first | exact hle | exact Imm.le_refl _) ?_ ?_
                            · repeat (first | exact Have.refl | (refine Have.cons (by repeat (first | exact Rem.head | apply Rem.tail | exact Rem.mid)) ?_) | refine Have.skip ?_ | refine Have.app ?_)
                            ·
                              first | exact ⟨rfl, rfl⟩ | exact ⟨(bool_congr (by simp [*])).symm, rfl⟩
                        ·
                          -- g111F
                          first | exact absurd hq61 (by decide) | exact absurd hq61 (by simp)
                    ·
                      -- g107F
                      first | exact absurd hq60 (by decide) | exact absurd hq60 (by simp)
                ·
                  -- c9F
                  try contradiction
                  all_goals
                    have hs : sealR wide bs = (sealB bs, 0) := by unfold sealR; rw [if_neg (by simp [hw, hf]), if_neg (by omega)]
                    rw [hs]
                    rw [hs] at hb88
                    refine Cd.skip ?_
                    refine seqQ.normal ?_
                    refine Cd.seq ?_
                    refine Cd.pick [4, 9, 10] (Pick.cons rfl (Pick.cons rfl (Pick.cons rfl (Pick.nil)))) ?_
                    refine Cd.draw (by kernel_rfl) ?_
                    refine Pot.step [0] rfl rfl rfl ⟨?_, trivial⟩
                    refine ChainOK.op (ts := []) rfl rfl rfl (Pick.nil) rfl rfl rfl (by exact W.call rfl rfl Try.call21 awake_spec rfl Take.nil) ?_
                    rintro v116 I116 _ ⟨hI116, M116, hp116, rfl⟩
                    obtain ⟨rfl, rfl⟩ := hp116
                    refine ⟨hI116, ?_⟩
                    have hle := hle.trans hI116
                    replace hra := hra.mono hI116
                    refine Pot.pure 1 (ts := [116]) rfl rfl rfl (Pick.cons rfl (Pick.nil)) rfl rfl rfl (fun _ _ _ => (R.move rfl)) rfl ?_
                    refine Pot.guard 117 rfl (fun hq62 => ?_) (fun hq62 => ?_)
                    ·
                      -- g117T
                      try contradiction
                      all_goals
                        try rw [hq62]
                        try replace hq62 := of_decide_eq_true hq62
                        refine Pot.pure 2 (ts := [10, 117]) rfl rfl rfl (Pick.cons rfl (Pick.cons rfl (Pick.nil))) rfl rfl rfl (fun _ _ _ => (R.move rfl)) rfl ?_
                        refine Pot.pure 3 (ts := [118, 117]) rfl rfl rfl (Pick.cons rfl (Pick.cons rfl (Pick.nil))) rfl rfl rfl (fun _ _ _ => (R.eql rfl rfl)) rfl ?_
                        refine Pot.pure 4 (ts := [117, 119]) rfl rfl rfl (Pick.cons rfl (Pick.cons rfl (Pick.nil))) rfl rfl rfl (fun _ _ _ => (R.pick rfl rfl)) rfl ?_
                        refine Pot.pure 5 (ts := [120]) rfl rfl rfl (Pick.cons rfl (Pick.nil)) rfl rfl rfl (fun _ _ _ => (R.move rfl)) rfl ?_
                        refine Pot.guard 121 rfl (fun hq63 => ?_) (fun hq63 => ?_)
                        ·
                          -- g121T
                          try contradiction
                          all_goals
                            try rw [hq63]
                            try replace hq63 := of_decide_eq_true hq63
                            refine Pot.pure 6 (ts := [9, 121]) rfl rfl rfl (Pick.cons rfl (Pick.cons rfl (Pick.nil))) rfl rfl rfl (fun _ _ _ => (R.move rfl)) rfl ?_
                            refine Pot.pure 7 (ts := [122, 121]) rfl rfl rfl (Pick.cons rfl (Pick.cons rfl (Pick.nil))) rfl rfl rfl (fun _ _ _ => (by exact R.bytesT rfl Try.underlying27 Try.underlying5 Try.underlying9 (by first | rfl | assumption | simp) (Rd.cells (hb88.mono (hI116.trans (by assumption)))))) rfl ?_
                            refine Pot.pure 8 (ts := [4, 121]) rfl rfl rfl (Pick.cons rfl (Pick.cons rfl (Pick.nil))) rfl rfl rfl (fun _ _ _ => (R.move rfl)) rfl ?_
                            refine Pot.step [9] rfl rfl rfl ⟨?_, trivial⟩
                            refine ChainOK.op (ts := [124, 121]) rfl rfl rfl (Pick.cons rfl (Pick.cons rfl (Pick.nil))) rfl rfl rfl (by exact W.call rfl rfl Try.call29 (RSealed_spec bs (by omega)) rfl Take.nil) ?_
                            rintro v125 I125 _ ⟨hI125, M125, hp125, rfl⟩
                            obtain ⟨rfl, rfl, rfl⟩ := hp125
                            refine ⟨Imm.le_refl _, ?_⟩
                            refine Pot.pure 10 (ts := [123, 125, 121]) rfl rfl rfl (Pick.cons rfl (Pick.cons rfl (Pick.cons rfl (Pick.nil)))) rfl rfl rfl (fun _ _ _ => (R.eqT rfl rfl)) rfl ?_
                            refine Pot.pure 11 (ts := [121, 126]) rfl rfl rfl (Pick.cons rfl (Pick.cons rfl (Pick.nil))) rfl rfl rfl (fun _ _ _ => (R.pick rfl rfl)) rfl ?_
                            refine Pot.pure 12 (ts := [127]) rfl rfl rfl (Pick.cons rfl (Pick.nil)) rfl rfl rfl (fun _ _ _ => (R.assign rfl)) rfl ?_
                            refine Pot.done rfl rfl ?_
                            refine seqQ.normal ?_
                            refine Cd.ret ?_
                            -- path g16F c1F c8F c9F g117T g121T
                            refine fin.ret (L' := []) (ResOK.tmp rfl ResOK.nil) (by first | exact hle | exact Imm.le_refl _) ?_ ?_
                            · repeat (first | exact Have.refl | (refine Have.cons (by repeat (first | exact Rem.head | apply Rem.tail | exact Rem.mid)) ?_) | refine Have.skip ?_ | refine Have.app ?_)
                            ·
                              first | exact ⟨rfl, rfl⟩ | exact ⟨(bool_congr (by simp [*])).symm, rfl⟩
                        ·
                          -- g121F
                          first | exact absurd hq63 (by decide) | exact absurd hq63 (by simp)
                    ·
                      -- g117F
                      first | exact absurd hq62 (by decide) | exact absurd hq62 (by simp)

end Go.Proofs.Ytdecipfdbkpigaa
