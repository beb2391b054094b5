
import Derived.Test.YtdecipfdbkpigaaProg
import Derived.Test.YtdecipfdbkpigaaLetG
namespace Go.Proofs.Ytdecipfdbkpigaa
open Go.Eng

/-- The fields with their check. -/
def sealB (bs : List UInt8) : List UInt8 := bs ++ leB (crc bs : Nat) 4
theorem sealB_len (bs : List UInt8) : (sealB bs).length = bs.length + 4 := by simp [sealB, leB_len]
theorem crc_lt (bs : List UInt8) : crc bs ≤ 4294967295 := by unfold crc; omega



set_option maxRecDepth 100000 in
set_option maxHeartbeats 400000 in
theorem Blank_spec {I : Imm} :
    Meets Try.prog 20 #[] I ([]) (fun v I' L' => ∃ b, .pointer (some ⟨b, 0, none⟩) = v ∧ I = I' ∧ [.blk b 89 [.slice none (0) 0, .bool false], .row (.slice none (0) 0) 5 1 (0) (bytesV [])] = L') := by
  refine Meets.intro (args := []) (N := 3) (rs := [.tmp 0]) Try.func20 rfl rfl rfl rfl (fun F => ?_)
  change Cd _ _ _ [] I (F) _
  have hle := Imm.le_refl I
  refine Cd.addNil 5 1 ?_
  refine Cd.seq ?_
  refine Cd.region ?_
  refine Opz.val (R.assign rfl) rfl rfl rfl ?_
  refine Opz.nil ?_
  refine seqQ.normal ?_
  refine Cd.seq ?_
  refine Cd.region ?_
  refine Opz.val (by exact R.build #[(0, 1), (1, 1)] Try.underlying89 Try.zeroValue89 rfl (fun w => by kernel_rfl) rfl FillTo.nil) rfl rfl rfl ?_
  refine Opz.op (W.boxA rfl) rfl rfl rfl ?_
  rintro _ _ _ ⟨b2, rfl, rfl, rfl⟩
  refine Opz.val (R.assign rfl) rfl rfl rfl ?_
  refine Opz.nil ?_
  refine seqQ.normal ?_
  refine Cd.ret ?_
  -- path 
  refine fin.ret (L' := [.blk b2 89 [.slice none (0) 0, .bool false], .row (.slice none (0) 0) 5 1 (0) (bytesV [])]) (ResOK.tmp rfl ResOK.nil) (by first | exact hle | exact Imm.le_refl _) ?_ ?_
  · repeat (first | exact Have.refl | (refine Have.cons (by repeat (first | exact Rem.head | apply Rem.tail | exact Rem.mid)) ?_) | refine Have.skip ?_ | refine Have.app ?_)
  ·
    exact ⟨b2, rfl, rfl, rfl⟩


set_option maxRecDepth 100000 in
set_option maxHeartbeats 400000 in
theorem Look_spec {I : Imm} {L0 : List Ent} {A : Option Addr} {n c : Nat} (bs : List UInt8) (hr : RdC I L0 A (bytesV bs)) (hl : bs.length = n) (hc : n ≤ c) (hb : n ≤ 4611686018427387904) :
    Meets Try.prog 30 #[.slice A n c] I (L0) (fun v I' L' => ∃ b A1 c1, .pointer (some ⟨b, 0, none⟩) = v ∧ .blk b 93 [.slice A1 (openB bs).1.length c1, .int .i64 (openB bs).2] :: L0 = L' ∧ Rd eByte I' A1 (openB bs).1 ∧ (openB bs).1.length ≤ c1) := by
  subst hl
  refine Meets.intro (args := [.slice A bs.length c]) (N := 39) (rs := [.tmp 2]) Try.func30 rfl rfl rfl rfl (fun F => ?_)
  change Cd _ _ _ [(0, .slice A bs.length c)] I ((L0 ++ F)) _
  have hle := Imm.le_refl I
  refine Cd.seq ?_
  refine Cd.region ?_
  refine Opz.val (R.assign rfl) rfl rfl rfl ?_
  refine Opz.nil ?_
  refine seqQ.normal ?_
  refine Cd.seq ?_
  refine Cd.region ?_
  refine Opz.val (R.move rfl) rfl rfl rfl ?_
  refine Opz.val (R.len rfl rfl Try.underlying27) rfl rfl rfl ?_
  refine Opz.val (by exact R.sub rfl rfl (by first | exact ⟨by simp only [loK]; omega, by simp only [hiK]; omega⟩ | exact wr_inR rfl _)) rfl rfl rfl ?_
  refine Opz.val (R.assign rfl) rfl rfl rfl ?_
  refine Opz.nil ?_
  refine seqQ.normal ?_
  refine Cd.seq ?_
  refine Cd.block ?_
  refine Cd.seq ?_
  refine Cd.region ?_
  refine Opz.val (R.move rfl) rfl rfl rfl ?_
  refine Opz.val (R.lss rfl rfl) rfl rfl rfl ?_
  refine Opz.val (R.assign rfl) rfl rfl rfl ?_
  refine Opz.nil ?_
  refine seqQ.normal ?_
  first | refine Cd.condD rfl (fun hq1 => ?_) (fun hq1 => ?_) | refine Cd.cond rfl (fun hq1 => ?_) (fun hq1 => ?_)
  ·
    -- c1T
    try contradiction
    all_goals
      have ho : openB bs = ([], 3) := by unfold openB; rw [if_pos (by omega)]
      rw [ho]
      refine Cd.seq ?_
      refine Cd.region ?_
      refine Opz.val (by exact R.build #[(0, 1), (1, 1)] Try.underlying93 Try.zeroValue93 rfl (fun w => by kernel_rfl) rfl (FillTo.one rfl rfl (by repeat (first | exact SetAt.zero | apply SetAt.succ)) FillTo.nil)) rfl rfl rfl ?_
      refine Opz.op (W.boxA rfl) rfl rfl rfl ?_
      rintro _ _ _ ⟨b12, rfl, rfl, rfl⟩
      refine Opz.val (R.assign rfl) rfl rfl rfl ?_
      refine Opz.nil ?_
      refine seqQ.normal ?_
      refine Cd.ret ?_
      refine blkQ.ret ?_
      refine seqQ.ret ?_
      -- path c1T
      refine fin.ret (L' := .blk b12 93 [.slice none 0 0, .int .i64 3] :: L0) (ResOK.tmp rfl ResOK.nil) (by first | exact hle | exact Imm.le_refl _) ?_ ?_
      · repeat (first | exact Have.refl | (refine Have.cons (by repeat (first | exact Rem.head | apply Rem.tail | exact Rem.mid)) ?_) | refine Have.skip ?_ | refine Have.app ?_)
      ·
        exact ⟨b12, none, 0, rfl, rfl, Rd.nil, Nat.le_refl _⟩
  ·
    -- c1F
    try contradiction
    all_goals
      have hge : 4 ≤ bs.length := by omega
      refine Cd.seq ?_
      refine Cd.region ?_
      refine Opz.val (R.move rfl) rfl rfl rfl ?_
      refine Opz.val (R.gtr rfl rfl) rfl rfl rfl ?_
      refine Opz.val (R.assign rfl) rfl rfl rfl ?_
      refine Opz.nil ?_
      refine seqQ.normal ?_
      first | refine Cd.condD rfl (fun hq2 => ?_) (fun hq2 => ?_) | refine Cd.cond rfl (fun hq2 => ?_) (fun hq2 => ?_)
      ·
        -- c2T
        try contradiction
        all_goals
          have ho : openB bs = ([], 6) := by unfold openB; rw [if_neg (by omega), if_pos (by omega)]
          rw [ho]
          refine Cd.seq ?_
          refine Cd.region ?_
          refine Opz.val (by exact R.build #[(0, 1), (1, 1)] Try.underlying93 Try.zeroValue93 rfl (fun w => by kernel_rfl) rfl (FillTo.one rfl rfl (by repeat (first | exact SetAt.zero | apply SetAt.succ)) FillTo.nil)) rfl rfl rfl ?_
          refine Opz.op (W.boxA rfl) rfl rfl rfl ?_
          rintro _ _ _ ⟨b17, rfl, rfl, rfl⟩
          refine Opz.val (R.assign rfl) rfl rfl rfl ?_
          refine Opz.nil ?_
          refine seqQ.normal ?_
          refine Cd.ret ?_
          refine blkQ.ret ?_
          refine seqQ.ret ?_
          -- path c1F c2T
          refine fin.ret (L' := .blk b17 93 [.slice none 0 0, .int .i64 6] :: L0) (ResOK.tmp rfl ResOK.nil) (by first | exact hle | exact Imm.le_refl _) ?_ ?_
          · repeat (first | exact Have.refl | (refine Have.cons (by repeat (first | exact Rem.head | apply Rem.tail | exact Rem.mid)) ?_) | refine Have.skip ?_ | refine Have.app ?_)
          ·
            exact ⟨b17, none, 0, rfl, rfl, Rd.nil, Nat.le_refl _⟩
      ·
        -- c2F
        try contradiction
        all_goals
          have hle2 : bs.length ≤ 65540 := by omega
          have hn4 : ((bs.length : Int) - 4).toNat = bs.length - 4 := by omega
          have hdd := hr.drop (bs.length - 4) 1 (by rw [bytesV_len, Nat.mul_one]; exact hc)
          rw [Nat.mul_one, bytesV_drop] at hdd
          have htt := hr.take (bs.length - 4)
          rw [bytesV_take] at htt
          refine Cd.skip ?_
          refine blkQ.normal ?_
          refine seqQ.normal ?_
          refine Cd.seq ?_
          refine Cd.region ?_
          refine Opz.val (R.move rfl) rfl rfl rfl ?_
          refine Opz.val (R.move rfl) rfl rfl rfl ?_
          refine Opz.val (by exact R.slL 1 rfl rfl Try.underlying27 Try.typeInfo5 rfl ⟨by omega, by omega⟩) rfl rfl rfl ?_
          rw [hn4, Nat.mul_one]
          refine Opz.val (by exact R.build #[(0, 1), (1, 1)] Try.underlying93 Try.zeroValue93 rfl (fun w => by kernel_rfl) rfl (FillTo.one rfl rfl (by repeat (first | exact SetAt.zero | apply SetAt.succ)) FillTo.nil)) rfl rfl rfl ?_
          refine Opz.op (W.boxA rfl) rfl rfl rfl ?_
          rintro _ _ _ ⟨b22, rfl, rfl, rfl⟩
          refine Opz.val (R.assign rfl) rfl rfl rfl ?_
          refine Opz.nil ?_
          refine seqQ.normal ?_
          refine Cd.seq ?_
          refine Cd.seq ?_
          refine Cd.region ?_
          refine Opz.val (R.move rfl) rfl rfl rfl ?_
          refine Opz.val (R.move rfl) rfl rfl rfl ?_
          refine Opz.val (by exact R.slH rfl rfl Try.underlying27 Try.typeInfo5 ⟨by omega, by omega⟩) rfl rfl rfl ?_
          rw [hn4]
          refine Opz.op (by exact W.call rfl rfl Try.call38 (Check_spec (L0 := L0) (bs.take (bs.length - 4)) htt (by rw [List.length_take]; omega) (by omega)) rfl (Take.skip (Take.app' L0 _))) rfl rfl rfl ?_
          rintro v26 I26 _ ⟨hI26, M26, hp26, rfl⟩
          obtain ⟨rfl, rfl, rfl⟩ := hp26
          have hc32 := crc_lt (bs.take (bs.length - 4))
          refine Opz.val (by first | exact R.conv rfl Try.underlying76 Try.underlying49 (by first | exact ⟨by simp only [loK]; omega, by simp only [hiK]; omega⟩ | exact wr_inR rfl _) | exact R.convW rfl Try.underlying76 Try.underlying49) rfl rfl rfl ?_
          refine Opz.val (R.move rfl) rfl rfl rfl ?_
          refine Opz.op (by exact W.call rfl rfl Try.call46 (ENumber_spec (L0 := L0) (b := b22) (c := c - (bs.length - 4)) (e := 0) (bs.drop (bs.length - 4)) 4 (by rw [List.length_drop]) hdd (by rw [List.length_drop]; omega) (by omega)) rfl (Take.cons (by repeat (first | exact Rem.head | apply Rem.tail | exact Rem.mid)) (Take.app' L0 _))) rfl rfl rfl ?_
          rintro v29 I29 _ ⟨hI29, M29, hp29, rfl⟩
          obtain ⟨A229, c229, rfl, rfl, rfl, hr29, hc29⟩ := hp29
          have htk : (takeB (bs.drop (bs.length - 4)) 0 4).1 = bs.drop (bs.length - 4) := by unfold takeB; rw [if_pos rfl, if_neg (by rw [List.length_drop]; omega)]; exact List.take_of_length_le (by rw [List.length_drop]; omega)
          refine Opz.val (R.neq rfl rfl) rfl rfl rfl ?_
          refine Opz.nil ?_
          refine seqQ.normal ?_
          first | refine Cd.condD rfl (fun hq3 => ?_) (fun hq3 => ?_) | refine Cd.cond rfl (fun hq3 => ?_) (fun hq3 => ?_)
          ·
            -- c3T
            try contradiction
            all_goals
              have ho : openB bs = ([], 2) := by unfold openB; rw [if_neg (by omega), if_neg (by omega), if_pos ?_]; have h := hq3; rw [htk] at h; intro h2; exact h (by rw [h2])
              rw [ho]
              refine Cd.seq ?_
              refine Cd.region ?_
              refine Opz.val (by exact R.build #[(0, 1), (1, 1)] Try.underlying93 Try.zeroValue93 rfl (fun w => by kernel_rfl) rfl (FillTo.one rfl rfl (by repeat (first | exact SetAt.zero | apply SetAt.succ)) FillTo.nil)) rfl rfl rfl ?_
              refine Opz.op (W.boxA rfl) rfl rfl rfl ?_
              rintro _ _ _ ⟨b32, rfl, rfl, rfl⟩
              refine Opz.val (R.assign rfl) rfl rfl rfl ?_
              refine Opz.nil ?_
              refine seqQ.normal ?_
              refine Cd.ret ?_
              refine seqQ.ret ?_
              -- path c1F c2F c3T
              refine fin.ret (L' := .blk b32 93 [.slice none 0 0, .int .i64 2] :: L0) (ResOK.tmp rfl ResOK.nil) (by first | exact hle | exact Imm.le_refl _) ?_ ?_
              · repeat (first | exact Have.refl | (refine Have.cons (by repeat (first | exact Rem.head | apply Rem.tail | exact Rem.mid)) ?_) | refine Have.skip ?_ | refine Have.app ?_)
              ·
                exact ⟨b32, none, 0, rfl, rfl, Rd.nil, Nat.le_refl _⟩
          ·
            -- c3F
            try contradiction
            all_goals
              have ho : openB bs = (bs.take (bs.length - 4), 0) := by unfold openB; rw [if_neg (by omega), if_neg (by omega), if_neg ?_]; have h := hq3; rw [htk] at h; intro h2; apply h; intro h3; exact h2 (by exact_mod_cast h3)
              rw [ho]
              refine Cd.skip ?_
              refine seqQ.normal ?_
              refine Cd.seq ?_
              refine Cd.region ?_
              refine Opz.val (R.move rfl) rfl rfl rfl ?_
              refine Opz.val (R.move rfl) rfl rfl rfl ?_
              refine Opz.val (by exact R.slH rfl rfl Try.underlying27 Try.typeInfo5 ⟨by omega, by omega⟩) rfl rfl rfl ?_
              rw [hn4]
              refine Opz.op (by exact W.call rfl rfl Try.call44 (Clone_spec (L0 := L0) (bytesV (bs.take (bs.length - 4))) htt (by rw [bytesV_len, List.length_take]; omega) (bytesV_one _) (by omega)) rfl (Take.skip (Take.app' L0 _))) rfl rfl rfl ?_
              rintro v36 I36 _ ⟨hI36, M36, hp36, rfl⟩
              obtain ⟨A36, c36, rfl, rfl, rfl⟩ := hp36
              refine Opz.freeze (by repeat (first | exact Rem.head | apply Rem.tail | exact Rem.mid)) (fun I36 hI36 hc36 _ hcl36 => ?_)
              have hle := hle.trans hI36
              refine Opz.val (by exact R.build #[(0, 1), (1, 1)] Try.underlying93 Try.zeroValue93 rfl (fun w => by kernel_rfl) rfl (FillTo.one rfl rfl (by repeat (first | exact SetAt.zero | apply SetAt.succ)) FillTo.nil)) rfl rfl rfl ?_
              refine Opz.op (W.boxA rfl) rfl rfl rfl ?_
              rintro _ _ _ ⟨b38, rfl, rfl, rfl⟩
              refine Opz.val (R.assign rfl) rfl rfl rfl ?_
              refine Opz.nil ?_
              refine seqQ.normal ?_
              refine Cd.ret ?_
              -- path c1F c2F c3F
              refine fin.ret (L' := .blk b38 93 [.slice A36 (bs.length - 4) c36, .int .i64 0] :: L0) (ResOK.tmp rfl ResOK.nil) (by first | exact hle | exact Imm.le_refl _) ?_ ?_
              · repeat (first | exact Have.refl | (refine Have.cons (by repeat (first | exact Rem.head | apply Rem.tail | exact Rem.mid)) ?_) | refine Have.skip ?_ | refine Have.app ?_)
              ·
                have hlt : (bs.take (bs.length - 4)).length = bs.length - 4 := by rw [List.length_take]; omega
                exact ⟨b38, A36, c36, rfl, by rw [hlt], Rd.ofBytes hc36, by rw [hlt]; exact hcl36⟩

end Go.Proofs.Ytdecipfdbkpigaa
