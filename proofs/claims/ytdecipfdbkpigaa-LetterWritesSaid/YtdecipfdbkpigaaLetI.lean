
import Derived.Test.YtdecipfdbkpigaaProg
import Derived.Test.YtdecipfdbkpigaaLetH
namespace Go.Proofs.Ytdecipfdbkpigaa
open Go.Eng

/-- What sealing gives. -/
def sealR (wide : Bool) (bs : List UInt8) : List UInt8 × Int := if wide = true then ([], 4) else if 65536 < bs.length then ([], 6) else (sealB bs, 0)



set_option maxRecDepth 100000 in
set_option maxHeartbeats 400000 in
theorem PSeal_spec {I : Imm} {b c : Nat} {A : Option Addr} {wide : Bool} (bs : List UInt8) (hb : bs.length ≤ 140737488355000) :
    Meets Try.prog 28 #[.pointer (some ⟨b, 0, none⟩)] I ([.blk b 89 [.slice A (bs.length) c, .bool wide], .row (.slice A (bs.length) c) 5 1 (bs.length) (bytesV bs)]) (fun v I' L' => ∃ A1 c1, .tuple #[.slice A1 (sealR wide bs).1.length c1, .int .i64 (sealR wide bs).2] = v ∧ [.blk b 89 [.slice A (bs.length) c, .bool wide], .row (.slice A (bs.length) c) 5 1 (bs.length) (bytesV bs)] = L' ∧ Rd eByte I' A1 (sealR wide bs).1 ∧ (sealR wide bs).1.length ≤ c1) := by
  refine Meets.intro (args := [.pointer (some ⟨b, 0, none⟩)]) (N := 39) (rs := [.tmp 2, .tmp 3]) Try.func28 rfl rfl rfl rfl (fun F => ?_)
  change Cd _ _ _ [(0, .pointer (some ⟨b, 0, none⟩))] I (.blk b 89 [.slice A (bs.length) c, .bool wide] :: .row (.slice A (bs.length) c) 5 1 (bs.length) (bytesV bs) :: F) _
  have hle := Imm.le_refl I
  refine Cd.seq ?_
  refine Cd.region ?_
  refine Opz.val (R.assign rfl) rfl rfl rfl ?_
  refine Opz.val (R.assign rfl) rfl rfl rfl ?_
  refine Opz.nil ?_
  refine seqQ.normal ?_
  refine Cd.seq ?_
  refine Cd.block ?_
  refine Cd.seq ?_
  refine Cd.region ?_
  refine Opz.val (R.move rfl) rfl rfl rfl ?_
  refine Opz.val (by first | exact R.eqPN rfl rfl Try.underlying47 | exact R.eqNN rfl rfl Try.underlying47) rfl rfl rfl ?_
  refine Opz.val (R.assign rfl) rfl rfl rfl ?_
  refine Opz.nil ?_
  refine seqQ.normal ?_
  first | refine Cd.condD rfl (fun hq1 => ?_) (fun hq1 => ?_) | refine Cd.cond rfl (fun hq1 => ?_) (fun hq1 => ?_)
  ·
    -- c1T
    try (first | contradiction | (exfalso; omega))
    all_goals
      refine Cd.seq ?_
      refine Cd.region ?_
      refine Opz.val (R.assign rfl) rfl rfl rfl ?_
      refine Opz.val (R.assign rfl) rfl rfl rfl ?_
      refine Opz.nil ?_
      refine seqQ.normal ?_
      refine Cd.ret ?_
      refine blkQ.ret ?_
      refine seqQ.ret ?_
      -- path c1T
      refine fin.ret (L' := [.blk b 89 [.slice A (bs.length) c, .bool wide], .row (.slice A (bs.length) c) 5 1 (bs.length) (bytesV bs)]) (ResOK.tmp rfl (ResOK.tmp rfl ResOK.nil)) (by first | exact hle | exact Imm.le_refl _) ?_ ?_
      · repeat (first | exact Have.refl | (refine Have.cons (by repeat (first | exact Rem.head | apply Rem.tail | exact Rem.mid)) ?_) | refine Have.skip ?_ | refine Have.app ?_)
      ·
        have hs : sealR wide bs = (sealB bs, 0) := by unfold sealR; rw [if_neg (by simp [hw]), if_neg (by omega)]
        rw [hs]
        exact ⟨A34, bs.length + 4, by rw [sealB_len]; rfl, rfl, Rd.ofBytes hc38, by rw [sealB_len]; exact Nat.le_refl _⟩
  ·
    -- c1F
    try (first | contradiction | (exfalso; omega))
    all_goals
      refine Cd.seq ?_
      refine Cd.region ?_
      refine Opz.val (R.move rfl) rfl rfl rfl ?_
      refine Opz.val (by first | exact R.nilP rfl | exact R.nilF rfl) rfl rfl rfl ?_
      refine Opz.val (by first | exact R.field (off := 1) rfl Try.underlying89 rfl Try.typeInfo4 rfl rfl | exact R.fieldA rfl Try.underlying89 rfl Try.typeInfo4 rfl) rfl rfl rfl ?_
      refine Opz.val (by exact R.load rfl Try.underlying4 rfl (by first | exact cellL (by repeat (first | exact List.Mem.head _ | apply List.Mem.tail)) rfl | exact cellI (by assumption) | (exact cellRow (by repeat (first | exact List.Mem.head _ | apply List.Mem.tail)) (by assumption) (by assumption)))) rfl rfl rfl ?_
      refine Opz.val (R.assign rfl) rfl rfl rfl ?_
      refine Opz.nil ?_
      refine seqQ.normal ?_
      first | refine Cd.condD rfl (fun hq2 => ?_) (fun hq2 => ?_) | refine Cd.cond rfl (fun hq2 => ?_) (fun hq2 => ?_)
      ·
        -- c2T
        try (first | contradiction | (exfalso; omega))
        all_goals
          have hw : wide = true := hq2
          refine Cd.seq ?_
          refine Cd.region ?_
          refine Opz.val (R.assign rfl) rfl rfl rfl ?_
          refine Opz.val (R.assign rfl) rfl rfl rfl ?_
          refine Opz.nil ?_
          refine seqQ.normal ?_
          refine Cd.ret ?_
          refine blkQ.ret ?_
          refine seqQ.ret ?_
          -- path c1F c2T
          refine fin.ret (L' := [.blk b 89 [.slice A (bs.length) c, .bool wide], .row (.slice A (bs.length) c) 5 1 (bs.length) (bytesV bs)]) (ResOK.tmp rfl (ResOK.tmp rfl ResOK.nil)) (by first | exact hle | exact Imm.le_refl _) ?_ ?_
          · repeat (first | exact Have.refl | (refine Have.cons (by repeat (first | exact Rem.head | apply Rem.tail | exact Rem.mid)) ?_) | refine Have.skip ?_ | refine Have.app ?_)
          ·
            have hs : sealR wide bs = ([], 4) := by unfold sealR; rw [if_pos hw]
            rw [hs]
            exact ⟨none, 0, rfl, rfl, Rd.nil, Nat.le_refl _⟩
      ·
        -- c2F
        try (first | contradiction | (exfalso; omega))
        all_goals
          have hw : wide = false := hq2
          refine Cd.seq ?_
          refine Cd.region ?_
          refine Opz.val (R.move rfl) rfl rfl rfl ?_
          refine Opz.val (by first | exact R.nilP rfl | exact R.nilF rfl) rfl rfl rfl ?_
          refine Opz.val (by first | exact R.field (off := 0) rfl Try.underlying89 rfl Try.typeInfo27 rfl rfl | exact R.fieldA rfl Try.underlying89 rfl Try.typeInfo27 rfl) rfl rfl rfl ?_
          refine Opz.val (by exact R.load rfl Try.underlying27 rfl (by first | exact cellL (by repeat (first | exact List.Mem.head _ | apply List.Mem.tail)) rfl | exact cellI (by assumption) | (exact cellRow (by repeat (first | exact List.Mem.head _ | apply List.Mem.tail)) (by assumption) (by assumption)))) rfl rfl rfl ?_
          refine Opz.val (R.len rfl rfl Try.underlying27) rfl rfl rfl ?_
          refine Opz.val (R.gtr rfl rfl) rfl rfl rfl ?_
          refine Opz.val (R.assign rfl) rfl rfl rfl ?_
          refine Opz.nil ?_
          refine seqQ.normal ?_
          first | refine Cd.condD rfl (fun hq3 => ?_) (fun hq3 => ?_) | refine Cd.cond rfl (fun hq3 => ?_) (fun hq3 => ?_)
          ·
            -- c3T
            try (first | contradiction | (exfalso; omega))
            all_goals
              refine Cd.seq ?_
              refine Cd.region ?_
              refine Opz.val (R.assign rfl) rfl rfl rfl ?_
              refine Opz.val (R.assign rfl) rfl rfl rfl ?_
              refine Opz.nil ?_
              refine seqQ.normal ?_
              refine Cd.ret ?_
              refine blkQ.ret ?_
              refine seqQ.ret ?_
              -- path c1F c2F c3T
              refine fin.ret (L' := [.blk b 89 [.slice A (bs.length) c, .bool wide], .row (.slice A (bs.length) c) 5 1 (bs.length) (bytesV bs)]) (ResOK.tmp rfl (ResOK.tmp rfl ResOK.nil)) (by first | exact hle | exact Imm.le_refl _) ?_ ?_
              · repeat (first | exact Have.refl | (refine Have.cons (by repeat (first | exact Rem.head | apply Rem.tail | exact Rem.mid)) ?_) | refine Have.skip ?_ | refine Have.app ?_)
              ·
                have hs : sealR wide bs = ([], 6) := by unfold sealR; rw [if_neg (by simp [hw]), if_pos (by omega)]
                rw [hs]
                exact ⟨none, 0, rfl, rfl, Rd.nil, Nat.le_refl _⟩
          ·
            -- c3F
            try (first | contradiction | (exfalso; omega))
            all_goals
              refine Cd.skip ?_
              refine blkQ.normal ?_
              refine seqQ.normal ?_
              refine Cd.seq ?_
              refine Cd.region ?_
              refine Opz.val (R.move rfl) rfl rfl rfl ?_
              refine Opz.val (by first | exact R.nilP rfl | exact R.nilF rfl) rfl rfl rfl ?_
              refine Opz.val (by first | exact R.field (off := 0) rfl Try.underlying89 rfl Try.typeInfo27 rfl rfl | exact R.fieldA rfl Try.underlying89 rfl Try.typeInfo27 rfl) rfl rfl rfl ?_
              refine Opz.val (by exact R.load rfl Try.underlying27 rfl (by first | exact cellL (by repeat (first | exact List.Mem.head _ | apply List.Mem.tail)) rfl | exact cellI (by assumption) | (exact cellRow (by repeat (first | exact List.Mem.head _ | apply List.Mem.tail)) (by assumption) (by assumption)))) rfl rfl rfl ?_
              refine Opz.op (by exact W.call rfl rfl Try.call44 (Clone_spec (L0 := [.row (.slice A bs.length c) 5 1 bs.length (bytesV bs)]) (bytesV bs) RdC.row (bytesV_len _) (bytesV_one _) (by omega)) rfl (Take.cons (by repeat (first | exact Rem.head | apply Rem.tail | exact Rem.mid)) Take.nil)) rfl rfl rfl ?_
              rintro v24 I24 _ ⟨hI24, M24, hp24, rfl⟩
              obtain ⟨A24, c24, rfl, rfl, rfl⟩ := hp24
              refine Opz.val (by exact R.build #[(0, 1), (1, 1)] Try.underlying89 Try.zeroValue89 rfl (fun w => by kernel_rfl) rfl (FillTo.one rfl rfl (by repeat (first | exact SetAt.zero | apply SetAt.succ)) FillTo.nil)) rfl rfl rfl ?_
              refine Opz.op (W.boxA rfl) rfl rfl rfl ?_
              rintro _ _ _ ⟨b26, rfl, rfl, rfl⟩
              refine Opz.val (R.assign rfl) rfl rfl rfl ?_
              refine Opz.nil ?_
              refine seqQ.normal ?_
              refine Cd.seq ?_
              refine Cd.region ?_
              refine Opz.val (R.move rfl) rfl rfl rfl ?_
              refine Opz.val (R.move rfl) rfl rfl rfl ?_
              refine Opz.val (by first | exact R.nilP rfl | exact R.nilF rfl) rfl rfl rfl ?_
              refine Opz.val (by first | exact R.field (off := 0) rfl Try.underlying89 rfl Try.typeInfo27 rfl rfl | exact R.fieldA rfl Try.underlying89 rfl Try.typeInfo27 rfl) rfl rfl rfl ?_
              refine Opz.val (by exact R.load rfl Try.underlying27 rfl (by first | exact cellL (by repeat (first | exact List.Mem.head _ | apply List.Mem.tail)) rfl | exact cellI (by assumption) | (exact cellRow (by repeat (first | exact List.Mem.head _ | apply List.Mem.tail)) (by assumption) (by assumption)))) rfl rfl rfl ?_
              refine Opz.op (by exact W.call rfl rfl Try.call38 (Check_spec (L0 := [.row (.slice A bs.length c) 5 1 bs.length (bytesV bs)]) bs RdC.row rfl (by omega)) rfl (Take.cons (by repeat (first | exact Rem.head | apply Rem.tail | exact Rem.mid)) Take.nil)) rfl rfl rfl ?_
              rintro v32 I32 _ ⟨hI32, M32, hp32, rfl⟩
              obtain ⟨rfl, rfl, rfl⟩ := hp32
              have hc32 := crc_lt bs
              refine Opz.val (by first | exact R.conv rfl Try.underlying76 Try.underlying49 (by first | exact ⟨by simp only [loK]; omega, by simp only [hiK]; omega⟩ | exact wr_inR rfl _) | exact R.convW rfl Try.underlying76 Try.underlying49) rfl rfl rfl ?_
              refine Opz.op (by exact W.call rfl rfl Try.call43 (Lay_spec (b := b26) (A := A24) (c := c24) (wide := false) bs (crc bs : Nat) 4 (by omega) (by omega) (by omega)) rfl (Take.cons (by repeat (first | exact Rem.head | apply Rem.tail | exact Rem.mid)) (Take.cons (by repeat (first | exact Rem.head | apply Rem.tail | exact Rem.mid)) Take.nil))) rfl rfl rfl ?_
              rintro v34 I34 _ ⟨hI34, M34, hp34, rfl⟩
              obtain ⟨A34, c34, rfl, rfl, rfl⟩ := hp34
              refine Opz.val (by first | exact R.nilP rfl | exact R.nilF rfl) rfl rfl rfl ?_
              refine Opz.val (by first | exact R.field (off := 0) rfl Try.underlying89 rfl Try.typeInfo27 rfl rfl | exact R.fieldA rfl Try.underlying89 rfl Try.typeInfo27 rfl) rfl rfl rfl ?_
              refine Opz.val (by exact R.load rfl Try.underlying27 rfl (by first | exact cellL (by repeat (first | exact List.Mem.head _ | apply List.Mem.tail)) rfl | exact cellI (by assumption) | (exact cellRow (by repeat (first | exact List.Mem.head _ | apply List.Mem.tail)) (by assumption) (by assumption)))) rfl rfl rfl ?_
              refine Opz.rowLen (n := bs.length + 4) (A := A34) (by repeat (first | exact List.Mem.head _ | apply List.Mem.tail)) (fun _ hcl34 => ?_)
              refine Opz.op (by exact W.call rfl rfl Try.call45 (Clip_spec hcl34) rfl Take.nil) rfl rfl rfl ?_
              rintro v38 I38 _ ⟨hI38, M38, hp38, rfl⟩
              obtain ⟨rfl, rfl, rfl⟩ := hp38
              refine Opz.freeze (A := A34) (n := bs.length + 4) (by repeat (first | exact Rem.head | apply Rem.tail | exact Rem.mid)) (fun I38 hI38 hc38 _ _ => ?_)
              have hle := hle.trans hI38
              refine Opz.val (R.assign rfl) rfl rfl rfl ?_
              refine Opz.val (R.assign rfl) rfl rfl rfl ?_
              refine Opz.nil ?_
              refine seqQ.normal ?_
              refine Cd.ret ?_
              -- path c1F c2F c3F
              refine fin.ret (L' := [.blk b 89 [.slice A (bs.length) c, .bool wide], .row (.slice A (bs.length) c) 5 1 (bs.length) (bytesV bs)]) (ResOK.tmp rfl (ResOK.tmp rfl ResOK.nil)) (by first | exact hle | exact Imm.le_refl _) ?_ ?_
              · repeat (first | exact Have.refl | (refine Have.cons (by repeat (first | exact Rem.head | apply Rem.tail | exact Rem.mid)) ?_) | refine Have.skip ?_ | refine Have.app ?_)
              ·
                have hs : sealR wide bs = (sealB bs, 0) := by unfold sealR; rw [if_neg (by simp [hw]), if_neg (by omega)]
                rw [hs]
                exact ⟨A34, bs.length + 4, by rw [sealB_len]; rfl, rfl, Rd.ofBytes hc38, by rw [sealB_len]; exact Nat.le_refl _⟩


set_option maxRecDepth 100000 in
set_option maxHeartbeats 400000 in
theorem PSealM_spec {I : Imm} {b c : Nat} {A : Option Addr} {wide : Bool} (bs : List UInt8) (hw0 : wide = false) (hb : bs.length ≤ 65536) :
    Meets Try.prog 28 #[.pointer (some ⟨b, 0, none⟩)] I ([.blk b 89 [.slice A (bs.length) c, .bool wide], .row (.slice A (bs.length) c) 5 1 (bs.length) (bytesV bs)]) (fun v I' L' => ∃ g spare, .tuple #[.slice (some ⟨g, 0, none⟩) (bs.length + 4) (bs.length + 4), .int .i64 0] = v ∧ I = I' ∧ [.blk g 5 (bytesV (sealB bs) ++ spare), .blk b 89 [.slice A (bs.length) c, .bool wide], .row (.slice A (bs.length) c) 5 1 (bs.length) (bytesV bs)] = L') := by
  refine Meets.intro (args := [.pointer (some ⟨b, 0, none⟩)]) (N := 39) (rs := [.tmp 2, .tmp 3]) Try.func28 rfl rfl rfl rfl (fun F => ?_)
  change Cd _ _ _ [(0, .pointer (some ⟨b, 0, none⟩))] I (.blk b 89 [.slice A (bs.length) c, .bool wide] :: .row (.slice A (bs.length) c) 5 1 (bs.length) (bytesV bs) :: F) _
  have hle := Imm.le_refl I
  refine Cd.seq ?_
  refine Cd.region ?_
  refine Opz.val (R.assign rfl) rfl rfl rfl ?_
  refine Opz.val (R.assign rfl) rfl rfl rfl ?_
  refine Opz.nil ?_
  refine seqQ.normal ?_
  refine Cd.seq ?_
  refine Cd.block ?_
  refine Cd.seq ?_
  refine Cd.region ?_
  refine Opz.val (R.move rfl) rfl rfl rfl ?_
  refine Opz.val (by first | exact R.eqPN rfl rfl Try.underlying47 | exact R.eqNN rfl rfl Try.underlying47) rfl rfl rfl ?_
  refine Opz.val (R.assign rfl) rfl rfl rfl ?_
  refine Opz.nil ?_
  refine seqQ.normal ?_
  first | refine Cd.condD rfl (fun hq1 => ?_) (fun hq1 => ?_) | refine Cd.cond rfl (fun hq1 => ?_) (fun hq1 => ?_)
  ·
    -- c1T
    try (first | contradiction | (exfalso; omega))
    all_goals
      refine Cd.seq ?_
      refine Cd.region ?_
      refine Opz.val (R.assign rfl) rfl rfl rfl ?_
      refine Opz.val (R.assign rfl) rfl rfl rfl ?_
      refine Opz.nil ?_
      refine seqQ.normal ?_
      refine Cd.ret ?_
      refine blkQ.ret ?_
      refine seqQ.ret ?_
      -- path c1T
      refine fin.ret (L' := [.blk g38 5 (bytesV (sealB bs) ++ sp38), .blk b 89 [.slice A (bs.length) c, .bool wide], .row (.slice A (bs.length) c) 5 1 (bs.length) (bytesV bs)]) (ResOK.tmp rfl (ResOK.tmp rfl ResOK.nil)) (by first | exact hle | exact Imm.le_refl _) ?_ ?_
      · repeat (first | exact Have.refl | (refine Have.cons (by repeat (first | exact Rem.head | apply Rem.tail | exact Rem.mid)) ?_) | refine Have.skip ?_ | refine Have.app ?_)
      ·
        exact ⟨g38, sp38, rfl, rfl, rfl⟩
  ·
    -- c1F
    try (first | contradiction | (exfalso; omega))
    all_goals
      refine Cd.seq ?_
      refine Cd.region ?_
      refine Opz.val (R.move rfl) rfl rfl rfl ?_
      refine Opz.val (by first | exact R.nilP rfl | exact R.nilF rfl) rfl rfl rfl ?_
      refine Opz.val (by first | exact R.field (off := 1) rfl Try.underlying89 rfl Try.typeInfo4 rfl rfl | exact R.fieldA rfl Try.underlying89 rfl Try.typeInfo4 rfl) rfl rfl rfl ?_
      refine Opz.val (by exact R.load rfl Try.underlying4 rfl (by first | exact cellL (by repeat (first | exact List.Mem.head _ | apply List.Mem.tail)) rfl | exact cellI (by assumption) | (exact cellRow (by repeat (first | exact List.Mem.head _ | apply List.Mem.tail)) (by assumption) (by assumption)))) rfl rfl rfl ?_
      refine Opz.val (R.assign rfl) rfl rfl rfl ?_
      refine Opz.nil ?_
      refine seqQ.normal ?_
      first | refine Cd.condD rfl (fun hq2 => ?_) (fun hq2 => ?_) | refine Cd.cond rfl (fun hq2 => ?_) (fun hq2 => ?_)
      ·
        -- c2T
        exact absurd hq2 (by simp [hw0])
      ·
        -- c2F
        try (first | contradiction | (exfalso; omega))
        all_goals
          refine Cd.seq ?_
          refine Cd.region ?_
          refine Opz.val (R.move rfl) rfl rfl rfl ?_
          refine Opz.val (by first | exact R.nilP rfl | exact R.nilF rfl) rfl rfl rfl ?_
          refine Opz.val (by first | exact R.field (off := 0) rfl Try.underlying89 rfl Try.typeInfo27 rfl rfl | exact R.fieldA rfl Try.underlying89 rfl Try.typeInfo27 rfl) rfl rfl rfl ?_
          refine Opz.val (by exact R.load rfl Try.underlying27 rfl (by first | exact cellL (by repeat (first | exact List.Mem.head _ | apply List.Mem.tail)) rfl | exact cellI (by assumption) | (exact cellRow (by repeat (first | exact List.Mem.head _ | apply List.Mem.tail)) (by assumption) (by assumption)))) rfl rfl rfl ?_
          refine Opz.val (R.len rfl rfl Try.underlying27) rfl rfl rfl ?_
          refine Opz.val (R.gtr rfl rfl) rfl rfl rfl ?_
          refine Opz.val (R.assign rfl) rfl rfl rfl ?_
          refine Opz.nil ?_
          refine seqQ.normal ?_
          first | refine Cd.condD rfl (fun hq3 => ?_) (fun hq3 => ?_) | refine Cd.cond rfl (fun hq3 => ?_) (fun hq3 => ?_)
          ·
            -- c3T
            omega
          ·
            -- c3F
            try (first | contradiction | (exfalso; omega))
            all_goals
              refine Cd.skip ?_
              refine blkQ.normal ?_
              refine seqQ.normal ?_
              refine Cd.seq ?_
              refine Cd.region ?_
              refine Opz.val (R.move rfl) rfl rfl rfl ?_
              refine Opz.val (by first | exact R.nilP rfl | exact R.nilF rfl) rfl rfl rfl ?_
              refine Opz.val (by first | exact R.field (off := 0) rfl Try.underlying89 rfl Try.typeInfo27 rfl rfl | exact R.fieldA rfl Try.underlying89 rfl Try.typeInfo27 rfl) rfl rfl rfl ?_
              refine Opz.val (by exact R.load rfl Try.underlying27 rfl (by first | exact cellL (by repeat (first | exact List.Mem.head _ | apply List.Mem.tail)) rfl | exact cellI (by assumption) | (exact cellRow (by repeat (first | exact List.Mem.head _ | apply List.Mem.tail)) (by assumption) (by assumption)))) rfl rfl rfl ?_
              refine Opz.op (by exact W.call rfl rfl Try.call44 (Clone_spec (L0 := [.row (.slice A bs.length c) 5 1 bs.length (bytesV bs)]) (bytesV bs) RdC.row (bytesV_len _) (bytesV_one _) (by omega)) rfl (Take.cons (by repeat (first | exact Rem.head | apply Rem.tail | exact Rem.mid)) Take.nil)) rfl rfl rfl ?_
              rintro v24 I24 _ ⟨hI24, M24, hp24, rfl⟩
              obtain ⟨A24, c24, rfl, rfl, rfl⟩ := hp24
              refine Opz.val (by exact R.build #[(0, 1), (1, 1)] Try.underlying89 Try.zeroValue89 rfl (fun w => by kernel_rfl) rfl (FillTo.one rfl rfl (by repeat (first | exact SetAt.zero | apply SetAt.succ)) FillTo.nil)) rfl rfl rfl ?_
              refine Opz.op (W.boxA rfl) rfl rfl rfl ?_
              rintro _ _ _ ⟨b26, rfl, rfl, rfl⟩
              refine Opz.val (R.assign rfl) rfl rfl rfl ?_
              refine Opz.nil ?_
              refine seqQ.normal ?_
              refine Cd.seq ?_
              refine Cd.region ?_
              refine Opz.val (R.move rfl) rfl rfl rfl ?_
              refine Opz.val (R.move rfl) rfl rfl rfl ?_
              refine Opz.val (by first | exact R.nilP rfl | exact R.nilF rfl) rfl rfl rfl ?_
              refine Opz.val (by first | exact R.field (off := 0) rfl Try.underlying89 rfl Try.typeInfo27 rfl rfl | exact R.fieldA rfl Try.underlying89 rfl Try.typeInfo27 rfl) rfl rfl rfl ?_
              refine Opz.val (by exact R.load rfl Try.underlying27 rfl (by first | exact cellL (by repeat (first | exact List.Mem.head _ | apply List.Mem.tail)) rfl | exact cellI (by assumption) | (exact cellRow (by repeat (first | exact List.Mem.head _ | apply List.Mem.tail)) (by assumption) (by assumption)))) rfl rfl rfl ?_
              refine Opz.op (by exact W.call rfl rfl Try.call38 (Check_spec (L0 := [.row (.slice A bs.length c) 5 1 bs.length (bytesV bs)]) bs RdC.row rfl (by omega)) rfl (Take.cons (by repeat (first | exact Rem.head | apply Rem.tail | exact Rem.mid)) Take.nil)) rfl rfl rfl ?_
              rintro v32 I32 _ ⟨hI32, M32, hp32, rfl⟩
              obtain ⟨rfl, rfl, rfl⟩ := hp32
              have hc32 := crc_lt bs
              refine Opz.val (by first | exact R.conv rfl Try.underlying76 Try.underlying49 (by first | exact ⟨by simp only [loK]; omega, by simp only [hiK]; omega⟩ | exact wr_inR rfl _) | exact R.convW rfl Try.underlying76 Try.underlying49) rfl rfl rfl ?_
              refine Opz.op (by exact W.call rfl rfl Try.call43 (Lay_spec (b := b26) (A := A24) (c := c24) (wide := false) bs (crc bs : Nat) 4 (by omega) (by omega) (by omega)) rfl (Take.cons (by repeat (first | exact Rem.head | apply Rem.tail | exact Rem.mid)) (Take.cons (by repeat (first | exact Rem.head | apply Rem.tail | exact Rem.mid)) Take.nil))) rfl rfl rfl ?_
              rintro v34 I34 _ ⟨hI34, M34, hp34, rfl⟩
              obtain ⟨A34, c34, rfl, rfl, rfl⟩ := hp34
              refine Opz.val (by first | exact R.nilP rfl | exact R.nilF rfl) rfl rfl rfl ?_
              refine Opz.val (by first | exact R.field (off := 0) rfl Try.underlying89 rfl Try.typeInfo27 rfl rfl | exact R.fieldA rfl Try.underlying89 rfl Try.typeInfo27 rfl) rfl rfl rfl ?_
              refine Opz.val (by exact R.load rfl Try.underlying27 rfl (by first | exact cellL (by repeat (first | exact List.Mem.head _ | apply List.Mem.tail)) rfl | exact cellI (by assumption) | (exact cellRow (by repeat (first | exact List.Mem.head _ | apply List.Mem.tail)) (by assumption) (by assumption)))) rfl rfl rfl ?_
              refine Opz.rowLen (n := bs.length + 4) (A := A34) (by repeat (first | exact List.Mem.head _ | apply List.Mem.tail)) (fun _ hcl34 => ?_)
              refine Opz.op (by exact W.call rfl rfl Try.call45 (Clip_spec hcl34) rfl Take.nil) rfl rfl rfl ?_
              rintro v38 I38 _ ⟨hI38, M38, hp38, rfl⟩
              obtain ⟨rfl, rfl, rfl⟩ := hp38
              refine Opz.rowBlk (A := A34) (n := bs.length + 4) (by repeat (first | exact Rem.head | apply Rem.tail | exact Rem.mid)) (by omega) (fun g38 sp38 hA38 => ?_)
              subst hA38
              refine Opz.val (R.assign rfl) rfl rfl rfl ?_
              refine Opz.val (R.assign rfl) rfl rfl rfl ?_
              refine Opz.nil ?_
              refine seqQ.normal ?_
              refine Cd.ret ?_
              -- path c1F c2F c3F
              refine fin.ret (L' := [.blk g38 5 (bytesV (sealB bs) ++ sp38), .blk b 89 [.slice A (bs.length) c, .bool wide], .row (.slice A (bs.length) c) 5 1 (bs.length) (bytesV bs)]) (ResOK.tmp rfl (ResOK.tmp rfl ResOK.nil)) (by first | exact hle | exact Imm.le_refl _) ?_ ?_
              · repeat (first | exact Have.refl | (refine Have.cons (by repeat (first | exact Rem.head | apply Rem.tail | exact Rem.mid)) ?_) | refine Have.skip ?_ | refine Have.app ?_)
              ·
                exact ⟨g38, sp38, rfl, rfl, rfl⟩

end Go.Proofs.Ytdecipfdbkpigaa
