
import Derived.Test.YtdecipfdbkpigaaProg
import Derived.Test.YtdecipfdbkpigaaLetQ
namespace Go.Proofs.Ytdecipfdbkpigaa
open Go.Eng

/-- The reference's fields: what is taken, what is left, what was wrong. -/
def refTake (s : List UInt8) (e : Int) (n : Nat) : List UInt8 × List UInt8 × Int :=
  if e ≠ 0 then ([], s, e) else if s.length < n then ([], [], 3) else (s.take n, s.drop n, 0)
theorem refTake_len (s : List UInt8) (e : Int) (n : Nat) : (refTake s e n).1.length ≤ n := by
  unfold refTake; split <;> (try split) <;> simp [List.length_take] <;> omega
theorem take_same {rest s : List UInt8} {e : Int} (h : e = 0 → rest = s) (n : Nat) : (takeB rest e n).1 = (refTake s e n).1 ∧ (takeB rest e n).2.2 = (refTake s e n).2.2 ∧ ((takeB rest e n).2.2 = 0 → (takeB rest e n).2.1 = (refTake s e n).2.1) := by
  unfold takeB refTake
  by_cases he : e = 0
  · have h2 := h he
    subst h2 he
    by_cases hl : rest.length < n <;> simp [hl]
  · simp [he]
theorem open_same {t d : List UInt8} (hd : d.length = 4) : leB (crc t : Nat) 4 = d ↔ crc t = numB d := by
  constructor
  · intro h; rw [← h, numB_crc]
  · intro h; exact numB_inj _ _ (by rw [leB_len, hd]) (by rw [numB_crc, h])



set_option maxRecDepth 100000 in
set_option maxHeartbeats 400000 in
theorem RTake_spec {I : Imm} (s : List UInt8) (e : Int) (n : Nat) (hs : s.length ≤ 9223372036854775807) (hn : n ≤ 9223372036854775807) :
    Meets Try.prog 35 #[.agg #[.string (strOf s), .int .i64 e], .int .i64 n] I ([]) (Ret I (.tuple #[.string (strOf (refTake s e n).1), .agg #[.string (strOf (refTake s e n).2.1), .int .i64 (refTake s e n).2.2]])) := by
  refine Meets.intro (args := [.agg #[.string (strOf s), .int .i64 e], .int .i64 n]) (N := 25) (rs := [.tmp 4, .cell 5 65]) Try.func35 rfl rfl rfl rfl (fun F => ?_)
  change Cd _ _ _ [(0, .agg #[.string (strOf s), .int .i64 e]), (1, .int .i64 n)] I (F) _
  have hle := Imm.le_refl I
  refine Cd.seq ?_
  refine Cd.region ?_
  refine Opz.op (W.boxA rfl) rfl rfl rfl ?_
  rintro _ _ _ ⟨b2, rfl, rfl, rfl⟩
  refine Opz.val (R.assign rfl) rfl rfl rfl ?_
  refine Opz.op (W.allocA Try.zeroValue65) rfl rfl rfl ?_
  rintro _ _ _ ⟨b5, rfl, rfl, rfl⟩
  refine Opz.nil ?_
  refine seqQ.normal ?_
  refine Cd.seq ?_
  refine Cd.seq ?_
  refine Cd.region ?_
  refine Opz.val (by first | exact R.field (off := 1) rfl Try.underlying65 rfl Try.typeInfo32 rfl rfl | exact R.fieldA rfl Try.underlying65 rfl Try.typeInfo32 rfl) rfl rfl rfl ?_
  refine Opz.val (by exact R.load rfl Try.underlying32 rfl (by first | exact cellL (by repeat (first | exact List.Mem.head _ | apply List.Mem.tail)) rfl | exact cellI (by assumption) | (exact cellRow (by repeat (first | exact List.Mem.head _ | apply List.Mem.tail)) (by assumption) (by assumption)))) rfl rfl rfl ?_
  refine Opz.val (R.neq rfl rfl) rfl rfl rfl ?_
  refine Opz.nil ?_
  refine seqQ.normal ?_
  first | refine Cd.condD rfl (fun hq1 => ?_) (fun hq1 => ?_) | refine Cd.cond rfl (fun hq1 => ?_) (fun hq1 => ?_)
  ·
    -- c1T
    try contradiction
    all_goals
      refine Cd.seq ?_
      refine Cd.pick [2, 5] (Pick.cons rfl (Pick.cons rfl (Pick.nil))) ?_
      refine Cd.draw (by kernel_rfl) ?_
      refine Pot.pure 1 (ts := []) rfl rfl rfl (Pick.nil) rfl rfl rfl (fun _ _ _ => (R.assign rfl)) rfl ?_
      refine Pot.step [0] rfl rfl rfl ⟨?_, trivial⟩
      refine ChainOK.op (ts := [2]) rfl rfl rfl (Pick.cons rfl (Pick.nil)) rfl rfl rfl (RunsTo.acts (by exact R.loadAgg rfl Try.underlying65 rfl Try.typeInfo65 rfl (by first | exact cellsL (by repeat (first | exact List.Mem.head _ | apply List.Mem.tail)) | exact cellsI (by assumption)))) ?_
      rintro _ _ _ ⟨rfl, rfl, rfl⟩
      refine ⟨Imm.le_refl _, ?_⟩
      refine Pot.step [2] rfl rfl rfl ⟨?_, trivial⟩
      refine ChainOK.opU (ts := [5, 9]) rfl rfl (Pick.cons rfl (Pick.cons rfl (Pick.nil))) rfl rfl (by exact W.storeAll rfl rfl Try.typeInfo65 rfl (by repeat (first | exact Upd.head | apply Upd.tail)) (by rfl) (by simp [Value.oneCell'])) ?_
      rintro _ _ _ ⟨rfl, rfl, rfl⟩
      refine ⟨Imm.le_refl _, ?_⟩
      refine Pot.done rfl rfl ?_
      refine seqQ.normal ?_
      refine Cd.ret ?_
      refine seqQ.ret ?_
      -- path c1T
      refine fin.ret (L' := []) (ResOK.tmp rfl (ResOK.agg rfl (by repeat (first | exact List.Mem.head _ | apply List.Mem.tail)) Try.underlying65 rfl Try.typeInfo65 rfl ResOK.nil)) (by first | exact hle | exact Imm.le_refl _) ?_ ?_
      · repeat (first | exact Have.refl | (refine Have.cons (by repeat (first | exact Rem.head | apply Rem.tail | exact Rem.mid)) ?_) | refine Have.skip ?_ | refine Have.app ?_)
      ·
        have he : e ≠ 0 := by simpa using hq1
        have ht : refTake s e n = ([], s, e) := by unfold refTake; simp [he]
        rw [ht]
        exact Ret.mk rfl
  ·
    -- c1F
    try contradiction
    all_goals
      refine Cd.skip ?_
      refine seqQ.normal ?_
      refine Cd.seq ?_
      refine Cd.seq ?_
      refine Cd.region ?_
      refine Opz.val (R.move rfl) rfl rfl rfl ?_
      refine Opz.val (by first | exact R.field (off := 0) rfl Try.underlying65 rfl Try.typeInfo9 rfl rfl | exact R.fieldA rfl Try.underlying65 rfl Try.typeInfo9 rfl) rfl rfl rfl ?_
      refine Opz.val (by exact R.load rfl Try.underlying9 rfl (by first | exact cellL (by repeat (first | exact List.Mem.head _ | apply List.Mem.tail)) rfl | exact cellI (by assumption) | (exact cellRow (by repeat (first | exact List.Mem.head _ | apply List.Mem.tail)) (by assumption) (by assumption)))) rfl rfl rfl ?_
      refine Opz.val (R.lenT rfl rfl Try.underlying9) rfl rfl rfl ?_
      refine Opz.val (R.gtr rfl rfl) rfl rfl rfl ?_
      refine Opz.nil ?_
      refine seqQ.normal ?_
      first | refine Cd.condD rfl (fun hq2 => ?_) (fun hq2 => ?_) | refine Cd.cond rfl (fun hq2 => ?_) (fun hq2 => ?_)
      ·
        -- c2T
        try contradiction
        all_goals
          refine Cd.seq ?_
          refine Cd.region ?_
          refine Opz.val (by exact R.build #[(0, 1), (1, 1)] Try.underlying65 Try.zeroValue65 rfl (fun w => by kernel_rfl) rfl (FillTo.one rfl rfl (by repeat (first | exact SetAt.zero | apply SetAt.succ)) FillTo.nil)) rfl rfl rfl ?_
          refine Opz.val (R.assign rfl) rfl rfl rfl ?_
          refine Opz.opU (by exact W.storeAll rfl rfl Try.typeInfo65 rfl (by repeat (first | exact Upd.head | apply Upd.tail)) (by rfl) (by simp [Value.oneCell'])) rfl rfl ?_
          rintro _ _ _ ⟨rfl, rfl, rfl⟩
          refine Opz.nil ?_
          refine seqQ.normal ?_
          refine Cd.ret ?_
          refine seqQ.ret ?_
          -- path c1F c2T
          refine fin.ret (L' := []) (ResOK.tmp rfl (ResOK.agg rfl (by repeat (first | exact List.Mem.head _ | apply List.Mem.tail)) Try.underlying65 rfl Try.typeInfo65 rfl ResOK.nil)) (by first | exact hle | exact Imm.le_refl _) ?_ ?_
          · repeat (first | exact Have.refl | (refine Have.cons (by repeat (first | exact Rem.head | apply Rem.tail | exact Rem.mid)) ?_) | refine Have.skip ?_ | refine Have.app ?_)
          ·
            have he : e = 0 := by simpa using hq1
            have hl : s.length < n := by omega
            have ht : refTake s e n = ([], [], 3) := by unfold refTake; simp [he, hl]
            rw [ht]
            exact Ret.mk rfl
      ·
        -- c2F
        try contradiction
        all_goals
          refine Cd.skip ?_
          refine seqQ.normal ?_
          refine Cd.seq ?_
          refine Cd.pick [1, 2, 5] (Pick.cons rfl (Pick.cons rfl (Pick.cons rfl (Pick.nil)))) ?_
          refine Cd.draw (by kernel_rfl) ?_
          refine Pot.pure 0 (ts := [2]) rfl rfl rfl (Pick.cons rfl (Pick.nil)) rfl rfl rfl (fun _ _ _ => (by first | exact R.field (off := 0) rfl Try.underlying65 rfl Try.typeInfo9 rfl rfl | exact R.fieldA rfl Try.underlying65 rfl Try.typeInfo9 rfl)) rfl ?_
          refine Pot.pure 2 (ts := [1]) rfl rfl rfl (Pick.cons rfl (Pick.nil)) rfl rfl rfl (fun _ _ _ => (R.move rfl)) rfl ?_
          refine Pot.pure 4 (ts := [2]) rfl rfl rfl (Pick.cons rfl (Pick.nil)) rfl rfl rfl (fun _ _ _ => (by first | exact R.field (off := 0) rfl Try.underlying65 rfl Try.typeInfo9 rfl rfl | exact R.fieldA rfl Try.underlying65 rfl Try.typeInfo9 rfl)) rfl ?_
          refine Pot.pure 6 (ts := [1]) rfl rfl rfl (Pick.cons rfl (Pick.nil)) rfl rfl rfl (fun _ _ _ => (R.move rfl)) rfl ?_
          refine Pot.step [1, 5] rfl rfl rfl ⟨?_, ?_, trivial⟩
          ·
            refine ChainOK.op (ts := [16]) rfl rfl rfl (Pick.cons rfl (Pick.nil)) rfl rfl rfl (RunsTo.acts (by exact R.load rfl Try.underlying9 rfl (by first | exact cellL (by repeat (first | exact List.Mem.head _ | apply List.Mem.tail)) rfl | exact cellI (by assumption) | (exact cellRow (by repeat (first | exact List.Mem.head _ | apply List.Mem.tail)) (by assumption) (by assumption))))) ?_
            rintro _ _ _ ⟨rfl, rfl, rfl⟩
            refine ⟨Imm.le_refl _, ?_⟩
            refine Pot.pure 3 (ts := [17, 18]) rfl rfl rfl (Pick.cons rfl (Pick.cons rfl (Pick.nil))) rfl rfl rfl (fun _ _ _ => (by exact R.stHT rfl rfl Try.underlying9 ⟨by omega, by omega⟩)) rfl ?_
            refine Pot.pure 9 (ts := [19]) rfl rfl rfl (Pick.cons rfl (Pick.nil)) rfl rfl rfl (fun _ _ _ => (R.assign rfl)) rfl ?_
            refine Pot.step [5] rfl rfl rfl ⟨?_, trivial⟩
            refine ChainOK.op (ts := [20]) rfl rfl rfl (Pick.cons rfl (Pick.nil)) rfl rfl rfl (RunsTo.acts (by exact R.load rfl Try.underlying9 rfl (by first | exact cellL (by repeat (first | exact List.Mem.head _ | apply List.Mem.tail)) rfl | exact cellI (by assumption) | (exact cellRow (by repeat (first | exact List.Mem.head _ | apply List.Mem.tail)) (by assumption) (by assumption))))) ?_
            rintro _ _ _ ⟨rfl, rfl, rfl⟩
            refine ⟨Imm.le_refl _, ?_⟩
            refine Pot.pure 7 (ts := [21, 22]) rfl rfl rfl (Pick.cons rfl (Pick.cons rfl (Pick.nil))) rfl rfl rfl (fun _ _ _ => (by exact R.stLT rfl rfl Try.underlying9 ⟨by omega, by omega⟩)) rfl ?_
            refine Pot.pure 8 (ts := [23]) rfl rfl rfl (Pick.cons rfl (Pick.nil)) rfl rfl rfl (fun _ _ _ => (by exact R.build #[(0, 1), (1, 1)] Try.underlying65 Try.zeroValue65 rfl (fun w => by kernel_rfl) rfl (FillTo.one rfl rfl (by repeat (first | exact SetAt.zero | apply SetAt.succ)) FillTo.nil))) rfl ?_
            refine Pot.step [10] rfl rfl rfl ⟨?_, trivial⟩
            refine ChainOK.opU (ts := [5, 24]) rfl rfl (Pick.cons rfl (Pick.cons rfl (Pick.nil))) rfl rfl (by exact W.storeAll rfl rfl Try.typeInfo65 rfl (by repeat (first | exact Upd.head | apply Upd.tail)) (by rfl) (by simp [Value.oneCell'])) ?_
            rintro _ _ _ ⟨rfl, rfl, rfl⟩
            refine ⟨Imm.le_refl _, ?_⟩
            refine Pot.done rfl rfl ?_
            refine seqQ.normal ?_
            refine Cd.ret ?_
            -- path c1F c2F
            refine fin.ret (L' := []) (ResOK.tmp rfl (ResOK.agg rfl (by repeat (first | exact List.Mem.head _ | apply List.Mem.tail)) Try.underlying65 rfl Try.typeInfo65 rfl ResOK.nil)) (by first | exact hle | exact Imm.le_refl _) ?_ ?_
            · repeat (first | exact Have.refl | (refine Have.cons (by repeat (first | exact Rem.head | apply Rem.tail | exact Rem.mid)) ?_) | refine Have.skip ?_ | refine Have.app ?_)
            ·
              have he : e = 0 := by simpa using hq1
              have hl : ¬ s.length < n := by omega
              have ht : refTake s e n = (s.take n, s.drop n, 0) := by unfold refTake; simp [he, hl]
              rw [ht]
              exact Ret.mk rfl
          ·
            refine ChainOK.op (ts := [20]) rfl rfl rfl (Pick.cons rfl (Pick.nil)) rfl rfl rfl (RunsTo.acts (by exact R.load rfl Try.underlying9 rfl (by first | exact cellL (by repeat (first | exact List.Mem.head _ | apply List.Mem.tail)) rfl | exact cellI (by assumption) | (exact cellRow (by repeat (first | exact List.Mem.head _ | apply List.Mem.tail)) (by assumption) (by assumption))))) ?_
            rintro _ _ _ ⟨rfl, rfl, rfl⟩
            refine ⟨Imm.le_refl _, ?_⟩
            refine Pot.pure 7 (ts := [21, 22]) rfl rfl rfl (Pick.cons rfl (Pick.cons rfl (Pick.nil))) rfl rfl rfl (fun _ _ _ => (by exact R.stLT rfl rfl Try.underlying9 ⟨by omega, by omega⟩)) rfl ?_
            refine Pot.pure 8 (ts := [23]) rfl rfl rfl (Pick.cons rfl (Pick.nil)) rfl rfl rfl (fun _ _ _ => (by exact R.build #[(0, 1), (1, 1)] Try.underlying65 Try.zeroValue65 rfl (fun w => by kernel_rfl) rfl (FillTo.one rfl rfl (by repeat (first | exact SetAt.zero | apply SetAt.succ)) FillTo.nil))) rfl ?_
            refine Pot.step [1] rfl rfl rfl ⟨?_, trivial⟩
            refine ChainOK.op (ts := [16]) rfl rfl rfl (Pick.cons rfl (Pick.nil)) rfl rfl rfl (RunsTo.acts (by exact R.load rfl Try.underlying9 rfl (by first | exact cellL (by repeat (first | exact List.Mem.head _ | apply List.Mem.tail)) rfl | exact cellI (by assumption) | (exact cellRow (by repeat (first | exact List.Mem.head _ | apply List.Mem.tail)) (by assumption) (by assumption))))) ?_
            rintro _ _ _ ⟨rfl, rfl, rfl⟩
            refine ⟨Imm.le_refl _, ?_⟩
            refine Pot.pure 3 (ts := [17, 18]) rfl rfl rfl (Pick.cons rfl (Pick.cons rfl (Pick.nil))) rfl rfl rfl (fun _ _ _ => (by exact R.stHT rfl rfl Try.underlying9 ⟨by omega, by omega⟩)) rfl ?_
            refine Pot.pure 9 (ts := [19]) rfl rfl rfl (Pick.cons rfl (Pick.nil)) rfl rfl rfl (fun _ _ _ => (R.assign rfl)) rfl ?_
            refine Pot.step [10] rfl rfl rfl ⟨?_, trivial⟩
            refine ChainOK.opU (ts := [5, 24]) rfl rfl (Pick.cons rfl (Pick.cons rfl (Pick.nil))) rfl rfl (by exact W.storeAll rfl rfl Try.typeInfo65 rfl (by repeat (first | exact Upd.head | apply Upd.tail)) (by rfl) (by simp [Value.oneCell'])) ?_
            rintro _ _ _ ⟨rfl, rfl, rfl⟩
            refine ⟨Imm.le_refl _, ?_⟩
            refine Pot.done rfl rfl ?_
            refine seqQ.normal ?_
            refine Cd.ret ?_
            -- path c1F c2F
            refine fin.ret (L' := []) (ResOK.tmp rfl (ResOK.agg rfl (by repeat (first | exact List.Mem.head _ | apply List.Mem.tail)) Try.underlying65 rfl Try.typeInfo65 rfl ResOK.nil)) (by first | exact hle | exact Imm.le_refl _) ?_ ?_
            · repeat (first | exact Have.refl | (refine Have.cons (by repeat (first | exact Rem.head | apply Rem.tail | exact Rem.mid)) ?_) | refine Have.skip ?_ | refine Have.app ?_)
            ·
              have he : e = 0 := by simpa using hq1
              have hl : ¬ s.length < n := by omega
              have ht : refTake s e n = (s.take n, s.drop n, 0) := by unfold refTake; simp [he, hl]
              rw [ht]
              exact Ret.mk rfl


set_option maxRecDepth 100000 in
set_option maxHeartbeats 400000 in
theorem Rnumber_spec {I : Imm} (s : List UInt8) (hs : s.length ≤ 8) :
    Meets Try.prog 47 #[.string (strOf s)] I ([]) (Ret I (.int .u64 (numB s : Nat))) := by
  refine Meets.intro (args := [.string (strOf s)]) (N := 20) (rs := [.tmp 2]) Try.func47 rfl rfl rfl rfl (fun F => ?_)
  change Cd _ _ _ [(0, .string (strOf s))] I (F) _
  have hle := Imm.le_refl I
  refine Cd.seq ?_
  refine Cd.region ?_
  refine Opz.val (R.assign rfl) rfl rfl rfl ?_
  refine Opz.nil ?_
  refine seqQ.normal ?_
  refine Cd.seq ?_
  refine Cd.region ?_
  refine Opz.val (R.assign rfl) rfl rfl rfl ?_
  refine Opz.nil ?_
  refine seqQ.normal ?_
  refine Cd.seq ?_
  refine Cd.seq ?_
  refine Cd.region ?_
  refine Opz.val (R.move rfl) rfl rfl rfl ?_
  refine Opz.val (R.lenT rfl rfl Try.underlying9) rfl rfl rfl ?_
  refine Opz.val (by exact R.sub rfl rfl (by first | exact ⟨by simp only [loK]; omega, by simp only [hiK]; omega⟩ | exact wr_inR rfl _)) rfl rfl rfl ?_
  refine Opz.val (R.assign rfl) rfl rfl rfl ?_
  refine Opz.nil ?_
  refine seqQ.normal ?_
  refine Cd.block ?_
  -- loop 1: turned [3, 4], kept [0]
  refine Cd.loop [0] (fun nn vs I101 L1 => ∃ (j : Nat), [(3, .int .u64 (numB (s.drop j) : Nat)), (4, .int .i64 ((j : Int) - 1))] = vs ∧ (F) = L1 ∧ I = I101 ∧ j = nn ∧ j ≤ s.length) (Pick.cons rfl (Pick.nil)) ?_ ?_
  ·
    refine ⟨_, _, _, ⟨s.length, rfl, rfl, rfl, rfl, ?_⟩, ⟨(by refine look_val rfl ?_; rw [List.drop_length]; rfl), rfl, trivial⟩, by repeat (first | exact Have.refl | (refine Have.cons (by repeat (first | exact Rem.head | apply Rem.tail | exact Rem.mid)) ?_) | refine Have.skip ?_ | refine Have.app ?_)⟩
    · first | assumption | omega | simp
  ·
    rintro nn1 _ I101 _ ⟨j, rfl, rfl, rfl, hn1, hj⟩
    refine Cd.seq ?_
    refine Cd.seq ?_
    refine Cd.region ?_
    refine Opz.val (R.move rfl) rfl rfl rfl ?_
    refine Opz.val (R.geq rfl rfl) rfl rfl rfl ?_
    refine Opz.nil ?_
    refine seqQ.normal ?_
    first | refine Cd.condD rfl (fun hq1 => ?_) (fun hq1 => ?_) | refine Cd.cond rfl (fun hq1 => ?_) (fun hq1 => ?_)
    ·
      -- c1T
      try (first | contradiction | (exfalso; omega))
      all_goals
        have hj1 : 1 ≤ j := by omega
        obtain ⟨x16, hx16⟩ : ∃ x, s[j - 1]? = some x := ⟨s[j - 1]'(by omega), List.getElem?_eq_getElem _⟩
        have h8 := u8_lt x16
        have hnum : numB (s.drop (j - 1)) = x16.toNat + 256 * numB (s.drop j) := by
          rw [List.drop_eq_getElem_cons (show j - 1 < s.length by omega), show j - 1 + 1 = j from by omega, numB, ← Option.some.inj ((List.getElem?_eq_getElem (show j - 1 < s.length by omega)).symm.trans hx16)]
        have h64 := numB_le (s.drop (j - 1)) (by rw [List.length_drop]; omega)
        rw [hnum] at h64
        have hji : ((j : Int) - 1).toNat = j - 1 := by omega
        refine Cd.skip ?_
        refine seqQ.normal ?_
        refine Cd.seq ?_
        refine Cd.block ?_
        refine Cd.region ?_
        refine Opz.val (R.move rfl) rfl rfl rfl ?_
        refine Opz.val (by first | exact R.mul rfl rfl (by first | exact ⟨by simp only [loK]; omega, by simp only [hiK]; omega⟩ | exact wr_inR rfl _) | exact R.mulW rfl rfl) rfl rfl rfl ?_
        refine Opz.val (R.move rfl) rfl rfl rfl ?_
        refine Opz.val (R.move rfl) rfl rfl rfl ?_
        refine Opz.val (by exact R.ixT rfl rfl Try.underlying9 (by omega) (by rw [hji]; exact hx16)) rfl rfl rfl ?_
        refine Opz.val (by first | exact R.conv rfl Try.underlying5 Try.underlying49 (by first | exact ⟨by simp only [loK]; omega, by simp only [hiK]; omega⟩ | exact wr_inR rfl _) | exact R.convW rfl Try.underlying5 Try.underlying49) rfl rfl rfl ?_
        refine Opz.val (by first | exact R.add rfl rfl (by first | exact ⟨by simp only [loK]; omega, by simp only [hiK]; omega⟩ | exact wr_inR rfl _) | exact R.addW rfl rfl) rfl rfl rfl ?_
        refine Opz.val (R.assign rfl) rfl rfl rfl ?_
        refine Opz.nil ?_
        refine blkQ.normal ?_
        refine seqQ.normal ?_
        refine Cd.region ?_
        refine Opz.val (R.move rfl) rfl rfl rfl ?_
        refine Opz.val (by exact R.sub rfl rfl (by first | exact ⟨by simp only [loK]; omega, by simp only [hiK]; omega⟩ | exact wr_inR rfl _)) rfl rfl rfl ?_
        refine Opz.val (R.assign rfl) rfl rfl rfl ?_
        refine Opz.nil ?_
        refine loopQ.round ⟨j - 1, rfl, rfl, rfl, rfl, ?_⟩ ?_ ⟨(by first | rfl | (refine look_val rfl ?_; refine int_congr ?_; rw [hnum]; omega)), (by first | rfl | (refine look_val rfl ?_; first | rfl | (refine int_congr ?_; first | omega | (simp; done)))), rfl, trivial⟩ (by repeat (first | exact Have.refl | (refine Have.cons (by repeat (first | exact Rem.head | apply Rem.tail | exact Rem.mid)) ?_) | refine Have.skip ?_ | refine Have.app ?_))
        · first | assumption | omega | simp
        · omega
    ·
      -- c1F
      try (first | contradiction | (exfalso; omega))
      all_goals
        have hj0 : j = 0 := by omega
        subst hj0
        rw [List.drop_zero]
        refine Cd.exit ?_
        refine seqQ.exit ?_
        refine loopQ.exit ?_
        refine blkQ.here ?_
        refine seqQ.normal ?_
        refine Cd.seq ?_
        refine Cd.region ?_
        refine Opz.val (R.move rfl) rfl rfl rfl ?_
        refine Opz.val (R.assign rfl) rfl rfl rfl ?_
        refine Opz.nil ?_
        refine seqQ.normal ?_
        refine Cd.ret ?_
        -- path c1F
        refine fin.ret (L' := []) (ResOK.tmp rfl ResOK.nil) (by first | exact hle | exact Imm.le_refl _) ?_ ?_
        · repeat (first | exact Have.refl | (refine Have.cons (by repeat (first | exact Rem.head | apply Rem.tail | exact Rem.mid)) ?_) | refine Have.skip ?_ | refine Have.app ?_)
        ·
          exact Ret.mk rfl


set_option maxRecDepth 100000 in
set_option maxHeartbeats 400000 in
theorem RNumber_spec {I : Imm} (s : List UInt8) (e : Int) (n : Nat) (hs : s.length ≤ 9223372036854775807) (hn : n ≤ 8) :
    Meets Try.prog 32 #[.agg #[.string (strOf s), .int .i64 e], .int .i64 n] I ([]) (Ret I (.tuple #[.int .u64 (numB (refTake s e n).1 : Nat), .agg #[.string (strOf (refTake s e n).2.1), .int .i64 (refTake s e n).2.2]])) := by
  refine Meets.intro (args := [.agg #[.string (strOf s), .int .i64 e], .int .i64 n]) (N := 17) (rs := [.tmp 4, .cell 5 65]) Try.func32 rfl rfl rfl rfl (fun F => ?_)
  change Cd _ _ _ [(0, .agg #[.string (strOf s), .int .i64 e]), (1, .int .i64 n)] I (F) _
  have hle := Imm.le_refl I
  refine Cd.seq ?_
  refine Cd.region ?_
  refine Opz.op (W.boxA rfl) rfl rfl rfl ?_
  rintro _ _ _ ⟨b2, rfl, rfl, rfl⟩
  refine Opz.val (R.assign rfl) rfl rfl rfl ?_
  refine Opz.op (W.allocA Try.zeroValue65) rfl rfl rfl ?_
  rintro _ _ _ ⟨b5, rfl, rfl, rfl⟩
  refine Opz.nil ?_
  refine seqQ.normal ?_
  refine Cd.seq ?_
  refine Cd.region ?_
  refine Opz.val (by exact R.loadAgg rfl Try.underlying65 rfl Try.typeInfo65 rfl (by first | exact cellsL (by repeat (first | exact List.Mem.head _ | apply List.Mem.tail)) | exact cellsI (by assumption))) rfl rfl rfl ?_
  refine Opz.val (R.move rfl) rfl rfl rfl ?_
  refine Opz.op (by exact W.call rfl rfl Try.call35 (RTake_spec s e n hs (by omega)) rfl Take.nil) rfl rfl rfl ?_
  rintro v11 I11 _ ⟨hI11, M11, hp11, rfl⟩
  obtain ⟨rfl, rfl, rfl⟩ := hp11
  refine Opz.val (R.move rfl) rfl rfl rfl ?_
  refine Opz.val (R.ext rfl rfl) rfl rfl rfl ?_
  refine Opz.val (R.ext rfl rfl) rfl rfl rfl ?_
  refine Opz.op (W.allocA Try.zeroValue65) rfl rfl rfl ?_
  rintro _ _ _ ⟨b7, rfl, rfl, rfl⟩
  refine Opz.val (R.assign rfl) rfl rfl rfl ?_
  refine Opz.opU (by exact W.storeAll rfl rfl Try.typeInfo65 rfl (by repeat (first | exact Upd.head | apply Upd.tail)) (by rfl) (by simp [Value.oneCell'])) rfl rfl ?_
  rintro _ _ _ ⟨rfl, rfl, rfl⟩
  refine Opz.nil ?_
  refine seqQ.normal ?_
  refine Cd.seq ?_
  refine Cd.pick [5, 6, 7] (Pick.cons rfl (Pick.cons rfl (Pick.cons rfl (Pick.nil)))) ?_
  refine Cd.draw (by kernel_rfl) ?_
  refine Pot.pure 0 (ts := [6]) rfl rfl rfl (Pick.cons rfl (Pick.nil)) rfl rfl rfl (fun _ _ _ => (R.move rfl)) rfl ?_
  refine Pot.step [1, 2] rfl rfl rfl ⟨?_, ?_, trivial⟩
  ·
    refine ChainOK.op (ts := [14]) rfl rfl rfl (Pick.cons rfl (Pick.nil)) rfl rfl rfl (by exact W.call rfl rfl Try.call47 (Rnumber_spec (refTake s e n).1 (Nat.le_trans (refTake_len s e n) hn)) rfl Take.nil) ?_
    rintro v15 I15 _ ⟨hI15, M15, hp15, rfl⟩
    obtain ⟨rfl, rfl, rfl⟩ := hp15
    refine ⟨Imm.le_refl _, ?_⟩
    refine Pot.pure 3 (ts := [15]) rfl rfl rfl (Pick.cons rfl (Pick.nil)) rfl rfl rfl (fun _ _ _ => (R.assign rfl)) rfl ?_
    refine Pot.step [2] rfl rfl rfl ⟨?_, trivial⟩
    refine ChainOK.op (ts := [7]) rfl rfl rfl (Pick.cons rfl (Pick.nil)) rfl rfl rfl (RunsTo.acts (by exact R.loadAgg rfl Try.underlying65 rfl Try.typeInfo65 rfl (by first | exact cellsL (by repeat (first | exact List.Mem.head _ | apply List.Mem.tail)) | exact cellsI (by assumption)))) ?_
    rintro _ _ _ ⟨rfl, rfl, rfl⟩
    refine ⟨Imm.le_refl _, ?_⟩
    refine Pot.step [4] rfl rfl rfl ⟨?_, trivial⟩
    refine ChainOK.opU (ts := [5, 16]) rfl rfl (Pick.cons rfl (Pick.cons rfl (Pick.nil))) rfl rfl (by exact W.storeAll rfl rfl Try.typeInfo65 rfl (by repeat (first | exact Upd.head | apply Upd.tail)) (by rfl) (by simp [Value.oneCell'])) ?_
    rintro _ _ _ ⟨rfl, rfl, rfl⟩
    refine ⟨Imm.le_refl _, ?_⟩
    refine Pot.done rfl rfl ?_
    refine seqQ.normal ?_
    refine Cd.ret ?_
    -- path 
    refine fin.ret (L' := []) (ResOK.tmp rfl (ResOK.agg rfl (by repeat (first | exact List.Mem.head _ | apply List.Mem.tail)) Try.underlying65 rfl Try.typeInfo65 rfl ResOK.nil)) (by first | exact hle | exact Imm.le_refl _) ?_ ?_
    · repeat (first | exact Have.refl | (refine Have.cons (by repeat (first | exact Rem.head | apply Rem.tail | exact Rem.mid)) ?_) | refine Have.skip ?_ | refine Have.app ?_)
    ·
      exact Ret.mk rfl
  ·
    refine ChainOK.op (ts := [7]) rfl rfl rfl (Pick.cons rfl (Pick.nil)) rfl rfl rfl (RunsTo.acts (by exact R.loadAgg rfl Try.underlying65 rfl Try.typeInfo65 rfl (by first | exact cellsL (by repeat (first | exact List.Mem.head _ | apply List.Mem.tail)) | exact cellsI (by assumption)))) ?_
    rintro _ _ _ ⟨rfl, rfl, rfl⟩
    refine ⟨Imm.le_refl _, ?_⟩
    refine Pot.step [1] rfl rfl rfl ⟨?_, trivial⟩
    refine ChainOK.op (ts := [14]) rfl rfl rfl (Pick.cons rfl (Pick.nil)) rfl rfl rfl (by exact W.call rfl rfl Try.call47 (Rnumber_spec (refTake s e n).1 (Nat.le_trans (refTake_len s e n) hn)) rfl Take.nil) ?_
    rintro v15 I15 _ ⟨hI15, M15, hp15, rfl⟩
    obtain ⟨rfl, rfl, rfl⟩ := hp15
    refine ⟨Imm.le_refl _, ?_⟩
    refine Pot.pure 3 (ts := [15]) rfl rfl rfl (Pick.cons rfl (Pick.nil)) rfl rfl rfl (fun _ _ _ => (R.assign rfl)) rfl ?_
    refine Pot.step [4] rfl rfl rfl ⟨?_, trivial⟩
    refine ChainOK.opU (ts := [5, 16]) rfl rfl (Pick.cons rfl (Pick.cons rfl (Pick.nil))) rfl rfl (by exact W.storeAll rfl rfl Try.typeInfo65 rfl (by repeat (first | exact Upd.head | apply Upd.tail)) (by rfl) (by simp [Value.oneCell'])) ?_
    rintro _ _ _ ⟨rfl, rfl, rfl⟩
    refine ⟨Imm.le_refl _, ?_⟩
    refine Pot.done rfl rfl ?_
    refine seqQ.normal ?_
    refine Cd.ret ?_
    -- path 
    refine fin.ret (L' := []) (ResOK.tmp rfl (ResOK.agg rfl (by repeat (first | exact List.Mem.head _ | apply List.Mem.tail)) Try.underlying65 rfl Try.typeInfo65 rfl ResOK.nil)) (by first | exact hle | exact Imm.le_refl _) ?_ ?_
    · repeat (first | exact Have.refl | (refine Have.cons (by repeat (first | exact Rem.head | apply Rem.tail | exact Rem.mid)) ?_) | refine Have.skip ?_ | refine Have.app ?_)
    ·
      exact Ret.mk rfl


set_option maxRecDepth 100000 in
set_option maxHeartbeats 400000 in
theorem ROpen_spec {I : Imm} {A : Option Addr} {c : Nat} (bs : List UInt8) (hx : Rd eByte I A bs) (hc : bs.length ≤ c) (hb : bs.length ≤ 4611686018427387904) :
    Meets Try.prog 31 #[.slice A bs.length c] I ([]) (Ret I (.agg #[.string (strOf (openB bs).1), .int .i64 (openB bs).2])) := by
  refine Meets.intro (args := [.slice A bs.length c]) (N := 32) (rs := [.cell 2 65]) Try.func31 rfl rfl rfl rfl (fun F => ?_)
  change Cd _ _ _ [(0, .slice A bs.length c)] I (F) _
  have hle := Imm.le_refl I
  refine Cd.seq ?_
  refine Cd.region ?_
  refine Opz.op (W.allocA Try.zeroValue65) rfl rfl rfl ?_
  rintro _ _ _ ⟨b2, rfl, rfl, rfl⟩
  refine Opz.nil ?_
  refine seqQ.normal ?_
  refine Cd.seq ?_
  refine Cd.seq ?_
  refine Cd.region ?_
  refine Opz.val (R.move rfl) rfl rfl rfl ?_
  refine Opz.val (R.len rfl rfl Try.underlying27) rfl rfl rfl ?_
  refine Opz.val (R.lss rfl rfl) rfl rfl rfl ?_
  refine Opz.nil ?_
  refine seqQ.normal ?_
  first | refine Cd.condD rfl (fun hq1 => ?_) (fun hq1 => ?_) | refine Cd.cond rfl (fun hq1 => ?_) (fun hq1 => ?_)
  ·
    -- c1T
    try contradiction
    all_goals
      refine Cd.seq ?_
      refine Cd.region ?_
      refine Opz.val (by exact R.build #[(0, 1), (1, 1)] Try.underlying65 Try.zeroValue65 rfl (fun w => by kernel_rfl) rfl (FillTo.one rfl rfl (by repeat (first | exact SetAt.zero | apply SetAt.succ)) FillTo.nil)) rfl rfl rfl ?_
      refine Opz.opU (by exact W.storeAll rfl rfl Try.typeInfo65 rfl (by repeat (first | exact Upd.head | apply Upd.tail)) (by rfl) (by simp [Value.oneCell'])) rfl rfl ?_
      rintro _ _ _ ⟨rfl, rfl, rfl⟩
      refine Opz.nil ?_
      refine seqQ.normal ?_
      refine Cd.ret ?_
      refine seqQ.ret ?_
      -- path c1T
      refine fin.ret (L' := []) (ResOK.agg rfl (by repeat (first | exact List.Mem.head _ | apply List.Mem.tail)) Try.underlying65 rfl Try.typeInfo65 rfl ResOK.nil) (by first | exact hle | exact Imm.le_refl _) ?_ ?_
      · repeat (first | exact Have.refl | (refine Have.cons (by repeat (first | exact Rem.head | apply Rem.tail | exact Rem.mid)) ?_) | refine Have.skip ?_ | refine Have.app ?_)
      ·
        have ho : openB bs = ([], 3) := by unfold openB; rw [if_pos (by omega)]
        rw [ho]
        exact Ret.mk rfl
  ·
    -- c1F
    try contradiction
    all_goals
      have hge : 4 ≤ bs.length := by omega
      refine Cd.skip ?_
      refine seqQ.normal ?_
      refine Cd.seq ?_
      refine Cd.seq ?_
      refine Cd.region ?_
      refine Opz.val (R.move rfl) rfl rfl rfl ?_
      refine Opz.val (R.len rfl rfl Try.underlying27) rfl rfl rfl ?_
      refine Opz.val (R.gtr rfl rfl) rfl rfl rfl ?_
      refine Opz.nil ?_
      refine seqQ.normal ?_
      first | refine Cd.condD rfl (fun hq2 => ?_) (fun hq2 => ?_) | refine Cd.cond rfl (fun hq2 => ?_) (fun hq2 => ?_)
      ·
        -- c2T
        try contradiction
        all_goals
          refine Cd.seq ?_
          refine Cd.region ?_
          refine Opz.val (by exact R.build #[(0, 1), (1, 1)] Try.underlying65 Try.zeroValue65 rfl (fun w => by kernel_rfl) rfl (FillTo.one rfl rfl (by repeat (first | exact SetAt.zero | apply SetAt.succ)) FillTo.nil)) rfl rfl rfl ?_
          refine Opz.opU (by exact W.storeAll rfl rfl Try.typeInfo65 rfl (by repeat (first | exact Upd.head | apply Upd.tail)) (by rfl) (by simp [Value.oneCell'])) rfl rfl ?_
          rintro _ _ _ ⟨rfl, rfl, rfl⟩
          refine Opz.nil ?_
          refine seqQ.normal ?_
          refine Cd.ret ?_
          refine seqQ.ret ?_
          -- path c1F c2T
          refine fin.ret (L' := []) (ResOK.agg rfl (by repeat (first | exact List.Mem.head _ | apply List.Mem.tail)) Try.underlying65 rfl Try.typeInfo65 rfl ResOK.nil) (by first | exact hle | exact Imm.le_refl _) ?_ ?_
          · repeat (first | exact Have.refl | (refine Have.cons (by repeat (first | exact Rem.head | apply Rem.tail | exact Rem.mid)) ?_) | refine Have.skip ?_ | refine Have.app ?_)
          ·
            have ho : openB bs = ([], 6) := by unfold openB; rw [if_neg (by omega), if_pos (by omega)]
            rw [ho]
            exact Ret.mk rfl
      ·
        -- c2F
        try contradiction
        all_goals
          have hle2 : bs.length ≤ 65540 := by omega
          have hn4 : ((bs.length : Int) - 4).toNat = bs.length - 4 := by omega
          have hd4 : (bs.drop (bs.length - 4)).length = 4 := by rw [List.length_drop]; omega
          have hcr := crc_lt (bs.take (bs.length - 4))
          have hdd : Rd eByte I (if c = bs.length - 4 then A else A.map (·.add (bs.length - 4))) (bs.drop (bs.length - 4)) := Rd.drop hx (bs.length - 4) c hc
          refine Cd.skip ?_
          refine seqQ.normal ?_
          refine Cd.seq ?_
          refine Cd.region ?_
          refine Opz.val (R.move rfl) rfl rfl rfl ?_
          refine Opz.val (R.move rfl) rfl rfl rfl ?_
          refine Opz.val (R.len rfl rfl Try.underlying27) rfl rfl rfl ?_
          refine Opz.val (by exact R.sub rfl rfl (by first | exact ⟨by simp only [loK]; omega, by simp only [hiK]; omega⟩ | exact wr_inR rfl _)) rfl rfl rfl ?_
          refine Opz.val (by exact R.slH rfl rfl Try.underlying27 Try.typeInfo5 ⟨by omega, by omega⟩) rfl rfl rfl ?_
          refine Opz.val (by exact R.bytesT (bs := bs.take (bs.length - 4)) rfl Try.underlying27 Try.underlying5 Try.underlying9 (by rw [List.length_take, hn4]; omega) (Rd.cells (hx.take (bs.length - 4)))) rfl rfl rfl ?_
          refine Opz.val (R.assign rfl) rfl rfl rfl ?_
          refine Opz.nil ?_
          refine seqQ.normal ?_
          refine Cd.seq ?_
          refine Cd.seq ?_
          refine Cd.pick [0, 2, 3] (Pick.cons rfl (Pick.cons rfl (Pick.cons rfl (Pick.nil)))) ?_
          refine Cd.draw (by kernel_rfl) ?_
          refine Pot.pure 0 (ts := [3]) rfl rfl rfl (Pick.cons rfl (Pick.nil)) rfl rfl rfl (fun _ _ _ => (R.move rfl)) rfl ?_
          refine Pot.pure 4 (ts := [0]) rfl rfl rfl (Pick.cons rfl (Pick.nil)) rfl rfl rfl (fun _ _ _ => (R.move rfl)) rfl ?_
          refine Pot.pure 5 (ts := [0]) rfl rfl rfl (Pick.cons rfl (Pick.nil)) rfl rfl rfl (fun _ _ _ => (R.move rfl)) rfl ?_
          refine Pot.pure 6 (ts := [23]) rfl rfl rfl (Pick.cons rfl (Pick.nil)) rfl rfl rfl (fun _ _ _ => (R.len rfl rfl Try.underlying27)) rfl ?_
          refine Pot.pure 7 (ts := [24]) rfl rfl rfl (Pick.cons rfl (Pick.nil)) rfl rfl rfl (fun _ _ _ => (by exact R.sub rfl rfl (by first | exact ⟨by simp only [loK]; omega, by simp only [hiK]; omega⟩ | exact wr_inR rfl _))) rfl ?_
          refine Pot.pure 8 (ts := [22, 25]) rfl rfl rfl (Pick.cons rfl (Pick.cons rfl (Pick.nil))) rfl rfl rfl (fun _ _ _ => (by exact R.slL 1 rfl rfl Try.underlying27 Try.typeInfo5 rfl ⟨by omega, by omega⟩)) rfl ?_
          rw [hn4, Nat.mul_one]
          refine Pot.pure 9 (ts := [26]) rfl rfl rfl (Pick.cons rfl (Pick.nil)) rfl rfl rfl (fun _ _ _ => (by exact R.bytesT (bs := bs.drop (bs.length - 4)) rfl Try.underlying27 Try.underlying5 Try.underlying9 (by rw [hd4]; omega) (Rd.cells (hdd.mono (by assumption))))) rfl ?_
          refine Pot.step [1] rfl rfl rfl ⟨?_, trivial⟩
          refine ChainOK.op (ts := [18]) rfl rfl rfl (Pick.cons rfl (Pick.nil)) rfl rfl rfl (by exact W.call rfl rfl Try.call39 (RCheck_spec (bs.take (bs.length - 4)) (by rw [List.length_take]; omega)) rfl Take.nil) ?_
          rintro v19 I19 _ ⟨hI19, M19, hp19, rfl⟩
          obtain ⟨rfl, rfl, rfl⟩ := hp19
          refine ⟨Imm.le_refl _, ?_⟩
          refine Pot.pure 2 (ts := [19]) rfl rfl rfl (Pick.cons rfl (Pick.nil)) rfl rfl rfl (fun _ _ _ => (by first | exact R.conv rfl Try.underlying76 Try.underlying3 (by first | exact ⟨by simp only [loK]; omega, by simp only [hiK]; omega⟩ | exact wr_inR rfl _) | exact R.convW rfl Try.underlying76 Try.underlying3)) rfl ?_
          refine Pot.step [3] rfl rfl rfl ⟨?_, trivial⟩
          refine ChainOK.op (ts := [20]) rfl rfl rfl (Pick.cons rfl (Pick.nil)) rfl rfl rfl (by exact W.call rfl rfl Try.call23 (RSmall_spec (crc (bs.take (bs.length - 4)) : Nat) (by omega) (by omega)) rfl Take.nil) ?_
          rintro v21 I21 _ ⟨hI21, M21, hp21, rfl⟩
          obtain ⟨rfl, rfl, rfl⟩ := hp21
          refine ⟨Imm.le_refl _, ?_⟩
          refine Pot.pure 10 (ts := [21, 27]) rfl rfl rfl (Pick.cons rfl (Pick.cons rfl (Pick.nil))) rfl rfl rfl (fun _ _ _ => (R.neT rfl rfl)) rfl ?_
          refine Pot.done rfl rfl ?_
          refine seqQ.normal ?_
          first | refine Cd.condD rfl (fun hq3 => ?_) (fun hq3 => ?_) | refine Cd.cond rfl (fun hq3 => ?_) (fun hq3 => ?_)
          ·
            -- c3T
            try contradiction
            all_goals
              refine Cd.seq ?_
              refine Cd.region ?_
              refine Opz.val (by exact R.build #[(0, 1), (1, 1)] Try.underlying65 Try.zeroValue65 rfl (fun w => by kernel_rfl) rfl (FillTo.one rfl rfl (by repeat (first | exact SetAt.zero | apply SetAt.succ)) FillTo.nil)) rfl rfl rfl ?_
              refine Opz.opU (by exact W.storeAll rfl rfl Try.typeInfo65 rfl (by repeat (first | exact Upd.head | apply Upd.tail)) (by rfl) (by simp [Value.oneCell'])) rfl rfl ?_
              rintro _ _ _ ⟨rfl, rfl, rfl⟩
              refine Opz.nil ?_
              refine seqQ.normal ?_
              refine Cd.ret ?_
              refine seqQ.ret ?_
              -- path c1F c2F c3T
              refine fin.ret (L' := []) (ResOK.agg rfl (by repeat (first | exact List.Mem.head _ | apply List.Mem.tail)) Try.underlying65 rfl Try.typeInfo65 rfl ResOK.nil) (by first | exact hle | exact Imm.le_refl _) ?_ ?_
              · repeat (first | exact Have.refl | (refine Have.cons (by repeat (first | exact Rem.head | apply Rem.tail | exact Rem.mid)) ?_) | refine Have.skip ?_ | refine Have.app ?_)
              ·
                have ho : openB bs = ([], 2) := by
                  unfold openB
                  rw [if_neg (by omega), if_neg (by omega), if_pos]
                  intro h2
                  exact hq3 ((open_same hd4).2 h2)
                rw [ho]
                exact Ret.mk rfl
          ·
            -- c3F
            try contradiction
            all_goals
              refine Cd.skip ?_
              refine seqQ.normal ?_
              refine Cd.seq ?_
              refine Cd.region ?_
              refine Opz.val (R.move rfl) rfl rfl rfl ?_
              refine Opz.val (by exact R.build #[(0, 1), (1, 1)] Try.underlying65 Try.zeroValue65 rfl (fun w => by kernel_rfl) rfl (FillTo.one rfl rfl (by repeat (first | exact SetAt.zero | apply SetAt.succ)) FillTo.nil)) rfl rfl rfl ?_
              refine Opz.opU (by exact W.storeAll rfl rfl Try.typeInfo65 rfl (by repeat (first | exact Upd.head | apply Upd.tail)) (by rfl) (by simp [Value.oneCell'])) rfl rfl ?_
              rintro _ _ _ ⟨rfl, rfl, rfl⟩
              refine Opz.nil ?_
              refine seqQ.normal ?_
              refine Cd.ret ?_
              -- path c1F c2F c3F
              refine fin.ret (L' := []) (ResOK.agg rfl (by repeat (first | exact List.Mem.head _ | apply List.Mem.tail)) Try.underlying65 rfl Try.typeInfo65 rfl ResOK.nil) (by first | exact hle | exact Imm.le_refl _) ?_ ?_
              · repeat (first | exact Have.refl | (refine Have.cons (by repeat (first | exact Rem.head | apply Rem.tail | exact Rem.mid)) ?_) | refine Have.skip ?_ | refine Have.app ?_)
              ·
                have ho : openB bs = (bs.take (bs.length - 4), 0) := by
                  unfold openB
                  rw [if_neg (by omega), if_neg (by omega), if_neg]
                  intro h2
                  exact hq3 (fun h3 => h2 ((open_same hd4).1 h3))
                rw [ho]
                exact Ret.mk rfl

end Go.Proofs.Ytdecipfdbkpigaa
