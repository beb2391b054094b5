
import Derived.Test.YtdecipfdbkpigaaProg
import Derived.Test.YtdecipfdbkpigaaLetF
namespace Go.Proofs.Ytdecipfdbkpigaa
open Go.Eng

theorem take_len (rest : List UInt8) (e : Int) (n : Nat) : (takeB rest e n).1.length ≤ n := by
  unfold takeB; split <;> (try split) <;> simp [List.length_take] <;> omega
theorem numB_lt32 {l : List UInt8} (h : l.length ≤ 4) : numB l < 4294967296 := by
  have h1 := numB_lt l
  have h3 : 256 ^ l.length ≤ 256 ^ 4 := Nat.pow_le_pow_right (by decide) h
  have h4 : (256 : Nat) ^ 4 = 4294967296 := by decide
  omega
/-- The next bytes, told by how many there are. -/
def bytesB (rest : List UInt8) (e : Int) : List UInt8 × List UInt8 × Int :=
  takeB (takeB rest e 4).2.1 (takeB rest e 4).2.2 (numB (takeB rest e 4).1)
def endB (rest : List UInt8) (e : Int) : Int := if e = 0 ∧ 0 < rest.length then 2 else e
/-- What is found in sealed bytes. -/
def openB (bs : List UInt8) : List UInt8 × Int :=
  if bs.length < 4 then ([], 3) else if 65540 < bs.length then ([], 6)
  else if crc (bs.take (bs.length - 4)) ≠ numB (bs.drop (bs.length - 4)) then ([], 2) else (bs.take (bs.length - 4), 0)



set_option maxRecDepth 100000 in
set_option maxHeartbeats 400000 in
theorem EBytes_spec {I : Imm} {L0 : List Ent} {b c : Nat} {A : Option Addr} {e : Int} {m : Nat} (rest : List UInt8) (hm : rest.length = m) (hr : RdC I L0 A (bytesV rest)) (hc : rest.length ≤ c) :
    Meets Try.prog 36 #[.pointer (some ⟨b, 0, none⟩)] I (([.blk b 93 [.slice A m c, .int .i64 e]] ++ L0)) (fun v I' L' => ∃ A1 c1 A2 c2, .slice A1 (bytesB rest e).1.length c1 = v ∧ ([.blk b 93 [.slice A2 (bytesB rest e).2.1.length c2, .int .i64 (bytesB rest e).2.2]] ++ L0) = L' ∧ Rd eByte I' A1 (bytesB rest e).1 ∧ (bytesB rest e).1.length ≤ c1 ∧ RdC I L0 A2 (bytesV (bytesB rest e).2.1) ∧ (bytesB rest e).2.1.length ≤ c2) := by
  subst hm
  refine Meets.intro (args := [.pointer (some ⟨b, 0, none⟩)]) (N := 9) (rs := [.tmp 2]) Try.func36 rfl rfl rfl rfl (fun F => ?_)
  change Cd _ _ _ [(0, .pointer (some ⟨b, 0, none⟩))] I (.blk b 93 [.slice A rest.length c, .int .i64 e] :: (L0 ++ F)) _
  have hle := Imm.le_refl I
  refine Cd.seq ?_
  refine Cd.region ?_
  refine Opz.val (R.assign rfl) rfl rfl rfl ?_
  refine Opz.nil ?_
  refine seqQ.normal ?_
  refine Cd.seq ?_
  refine Cd.region ?_
  refine Opz.val (R.move rfl) rfl rfl rfl ?_
  refine Opz.val (R.move rfl) rfl rfl rfl ?_
  refine Opz.op (by exact W.call rfl rfl Try.call33 (ESmall_spec (L0 := L0) rest rfl hr hc) rfl (Take.cons (by repeat (first | exact Rem.head | apply Rem.tail | exact Rem.mid)) (Take.app' L0 _))) rfl rfl rfl ?_
  rintro v5 I5 _ ⟨hI5, M5, hp5, rfl⟩
  obtain ⟨A25, c25, rfl, rfl, rfl, hr5, hc5⟩ := hp5
  have h4 := take_len rest e 4
  have hn5 := numB_lt32 h4
  refine Opz.op (by exact W.call rfl rfl Try.call48 (ETake_spec (L0 := L0) (takeB rest e 4).2.1 (numB (takeB rest e 4).1) rfl hr5 hc5 (by omega)) rfl (Take.cons (by repeat (first | exact Rem.head | apply Rem.tail | exact Rem.mid)) Take.nil)) rfl rfl rfl ?_
  rintro v6 I6 _ ⟨hI6, M6, hp6, rfl⟩
  obtain ⟨A16, c16, A26, c26, rfl, rfl, rfl, hr16, hc16, hr26, hc26⟩ := hp6
  have hlen6 := take_len (takeB rest e 4).2.1 (takeB rest e 4).2.2 (numB (takeB rest e 4).1)
  have hbB : bytesB rest e = takeB (takeB rest e 4).2.1 (takeB rest e 4).2.2 (numB (takeB rest e 4).1) := rfl
  rw [← hbB] at hr16 hc16 hr26 hc26 hlen6
  rw [← hbB]
  refine Opz.op (by exact W.call rfl rfl Try.call44 (Clone_spec (L0 := L0) (bytesV (bytesB rest e).1) hr16 (bytesV_len _) (bytesV_one _) (by omega)) rfl (Take.skip (Take.app' L0 _))) rfl rfl rfl ?_
  rintro v7 I7 _ ⟨hI7, M7, hp7, rfl⟩
  obtain ⟨A7, c7, rfl, rfl, rfl⟩ := hp7
  refine Opz.rowLen (by repeat (first | exact List.Mem.head _ | apply List.Mem.tail)) (fun _ hcl7 => ?_)
  refine Opz.op (by exact W.call rfl rfl Try.call45 (Clip_spec hcl7) rfl Take.nil) rfl rfl rfl ?_
  rintro v8 I8 _ ⟨hI8, M8, hp8, rfl⟩
  obtain ⟨rfl, rfl, rfl⟩ := hp8
  refine Opz.freeze (by repeat (first | exact Rem.head | apply Rem.tail)) (fun I8 hI8 hc8 _ _ => ?_)
  have hle := hle.trans hI8
  refine Opz.val (R.assign rfl) rfl rfl rfl ?_
  refine Opz.nil ?_
  refine seqQ.normal ?_
  refine Cd.ret ?_
  -- path 
  refine fin.ret (L' := ([.blk b 93 [.slice A26 (bytesB rest e).2.1.length c26, .int .i64 (bytesB rest e).2.2]] ++ L0)) (ResOK.tmp rfl ResOK.nil) (by first | exact hle | exact Imm.le_refl _) ?_ ?_
  · repeat (first | exact Have.refl | (refine Have.cons (by repeat (first | exact Rem.head | apply Rem.tail | exact Rem.mid)) ?_) | refine Have.skip ?_ | refine Have.app ?_)
  ·
    exact ⟨A7, _, A26, c26, rfl, rfl, Rd.ofBytes hc8, Nat.le_refl _, hr26, hc26⟩


set_option maxRecDepth 100000 in
set_option maxHeartbeats 400000 in
theorem EEnd_spec {I : Imm} {b c : Nat} {A : Option Addr} {e : Int} {m : Nat} :
    Meets Try.prog 37 #[.pointer (some ⟨b, 0, none⟩)] I ([.blk b 93 [.slice A m c, .int .i64 e]]) (fun v I' L' => .int .i64 (if e = 0 ∧ 0 < m then 2 else e) = v ∧ I = I' ∧ [.blk b 93 [.slice A m c, .int .i64 (if e = 0 ∧ 0 < m then 2 else e)]] = L') := by
  refine Meets.intro (args := [.pointer (some ⟨b, 0, none⟩)]) (N := 27) (rs := [.tmp 2]) Try.func37 rfl rfl rfl rfl (fun F => ?_)
  change Cd _ _ _ [(0, .pointer (some ⟨b, 0, none⟩))] I (.blk b 93 [.slice A m c, .int .i64 e] :: F) _
  have hle := Imm.le_refl I
  refine Cd.seq ?_
  refine Cd.region ?_
  refine Opz.val (R.assign rfl) rfl rfl rfl ?_
  refine Opz.nil ?_
  refine seqQ.normal ?_
  refine Cd.seq ?_
  refine Cd.block ?_
  refine Cd.seq ?_
  refine Cd.region ?_
  refine Opz.val (R.move rfl) rfl rfl rfl ?_
  refine Opz.val (by first | exact R.eqPN rfl rfl Try.underlying62 | exact R.eqNN rfl rfl Try.underlying62) rfl rfl rfl ?_
  refine Opz.val (R.assign rfl) rfl rfl rfl ?_
  refine Opz.nil ?_
  refine seqQ.normal ?_
  first | refine Cd.condD rfl (fun hq1 => ?_) (fun hq1 => ?_) | refine Cd.cond rfl (fun hq1 => ?_) (fun hq1 => ?_)
  ·
    -- c1T
    try contradiction
    all_goals
      refine Cd.seq ?_
      refine Cd.region ?_
      refine Opz.val (R.assign rfl) rfl rfl rfl ?_
      refine Opz.nil ?_
      refine seqQ.normal ?_
      refine Cd.ret ?_
      refine blkQ.ret ?_
      refine seqQ.ret ?_
      -- path c1T
      refine fin.ret (L' := []) (ResOK.tmp rfl ResOK.nil) (by first | exact hle | exact Imm.le_refl _) ?_ ?_
      · repeat (first | exact Have.refl | (refine Have.cons (by repeat (first | exact Rem.head | apply Rem.tail | exact Rem.mid)) ?_) | refine Have.skip ?_ | refine Have.app ?_)
      ·
        exact ⟨rfl, rfl, rfl⟩
  ·
    -- c1F
    try contradiction
    all_goals
      refine Cd.seq ?_
      refine Cd.region ?_
      refine Opz.val (R.move rfl) rfl rfl rfl ?_
      refine Opz.val (by first | exact R.nilP rfl | exact R.nilF rfl) rfl rfl rfl ?_
      refine Opz.val (by first | exact R.field (off := 1) rfl Try.underlying93 rfl Try.typeInfo32 rfl rfl | exact R.fieldA rfl Try.underlying93 rfl Try.typeInfo32 rfl) rfl rfl rfl ?_
      refine Opz.val (by exact R.load rfl Try.underlying32 rfl (by first | exact cellL (by repeat (first | exact List.Mem.head _ | apply List.Mem.tail)) rfl | exact cellI (by assumption) | (exact cellRow (by repeat (first | exact List.Mem.head _ | apply List.Mem.tail)) (by assumption) (by assumption)))) rfl rfl rfl ?_
      refine Opz.val (R.eql rfl rfl) rfl rfl rfl ?_
      refine Opz.val (R.move rfl) rfl rfl rfl ?_
      first | refine Opz.guardD 12 rfl (fun hq2 => ?_) (fun hq2 => ?_) | refine Opz.guard 12 rfl (fun hq2 => ?_) (fun hq2 => ?_)
      ·
        -- g12T
        try contradiction
        all_goals
          have he : e = 0 := by simpa using hq2
          refine Opz.val (R.move rfl) rfl rfl rfl ?_
          refine Opz.val (by first | exact R.nilP rfl | exact R.nilF rfl) rfl rfl rfl ?_
          refine Opz.val (by first | exact R.field (off := 0) rfl Try.underlying93 rfl Try.typeInfo27 rfl rfl | exact R.fieldA rfl Try.underlying93 rfl Try.typeInfo27 rfl) rfl rfl rfl ?_
          refine Opz.val (by exact R.load rfl Try.underlying27 rfl (by first | exact cellL (by repeat (first | exact List.Mem.head _ | apply List.Mem.tail)) rfl | exact cellI (by assumption) | (exact cellRow (by repeat (first | exact List.Mem.head _ | apply List.Mem.tail)) (by assumption) (by assumption)))) rfl rfl rfl ?_
          refine Opz.val (R.len rfl rfl Try.underlying27) rfl rfl rfl ?_
          refine Opz.val (R.gtr rfl rfl) rfl rfl rfl ?_
          refine Opz.val (R.pick rfl rfl) rfl rfl rfl ?_
          refine Opz.val (R.assign rfl) rfl rfl rfl ?_
          refine Opz.nil ?_
          refine seqQ.normal ?_
          first | refine Cd.condD rfl (fun hq3 => ?_) (fun hq3 => ?_) | refine Cd.cond rfl (fun hq3 => ?_) (fun hq3 => ?_)
          ·
            -- c2T
            try contradiction
            all_goals
              have hm : 0 < m := by simpa using hq3
              refine Cd.region ?_
              refine Opz.val (R.move rfl) rfl rfl rfl ?_
              refine Opz.val (by first | exact R.nilP rfl | exact R.nilF rfl) rfl rfl rfl ?_
              refine Opz.val (by first | exact R.field (off := 1) rfl Try.underlying93 rfl Try.typeInfo32 rfl rfl | exact R.fieldA rfl Try.underlying93 rfl Try.typeInfo32 rfl) rfl rfl rfl ?_
              refine Opz.opU (by exact W.store rfl rfl rfl rfl Try.typeInfo32 rfl (by repeat (first | exact Upd.head | apply Upd.tail)) (by repeat (first | exact SetAt.zero | apply SetAt.succ))) rfl rfl ?_
              rintro _ _ _ ⟨rfl, rfl, rfl⟩
              refine Opz.nil ?_
              refine blkQ.normal ?_
              refine seqQ.normal ?_
              refine Cd.seq ?_
              refine Cd.region ?_
              refine Opz.val (R.move rfl) rfl rfl rfl ?_
              refine Opz.val (by first | exact R.nilP rfl | exact R.nilF rfl) rfl rfl rfl ?_
              refine Opz.val (by first | exact R.field (off := 1) rfl Try.underlying93 rfl Try.typeInfo32 rfl rfl | exact R.fieldA rfl Try.underlying93 rfl Try.typeInfo32 rfl) rfl rfl rfl ?_
              refine Opz.val (by exact R.load rfl Try.underlying32 rfl (by first | exact cellL (by repeat (first | exact List.Mem.head _ | apply List.Mem.tail)) rfl | exact cellI (by assumption) | (exact cellRow (by repeat (first | exact List.Mem.head _ | apply List.Mem.tail)) (by assumption) (by assumption)))) rfl rfl rfl ?_
              refine Opz.val (R.assign rfl) rfl rfl rfl ?_
              refine Opz.nil ?_
              refine seqQ.normal ?_
              refine Cd.ret ?_
              -- path c1F g12T c2T
              refine fin.ret (L' := [.blk b 93 [.slice A m c, .int .i64 2]]) (ResOK.tmp rfl ResOK.nil) (by first | exact hle | exact Imm.le_refl _) ?_ ?_
              · repeat (first | exact Have.refl | (refine Have.cons (by repeat (first | exact Rem.head | apply Rem.tail | exact Rem.mid)) ?_) | refine Have.skip ?_ | refine Have.app ?_)
              ·
                have h1 : e = 0 ∧ 0 < m := ⟨by simpa using he, by simpa using hm⟩
                rw [if_pos h1]
                exact ⟨rfl, rfl, rfl⟩
          ·
            -- c2F
            try contradiction
            all_goals
              refine Cd.skip ?_
              refine blkQ.normal ?_
              refine seqQ.normal ?_
              refine Cd.seq ?_
              refine Cd.region ?_
              refine Opz.val (R.move rfl) rfl rfl rfl ?_
              refine Opz.val (by first | exact R.nilP rfl | exact R.nilF rfl) rfl rfl rfl ?_
              refine Opz.val (by first | exact R.field (off := 1) rfl Try.underlying93 rfl Try.typeInfo32 rfl rfl | exact R.fieldA rfl Try.underlying93 rfl Try.typeInfo32 rfl) rfl rfl rfl ?_
              refine Opz.val (by exact R.load rfl Try.underlying32 rfl (by first | exact cellL (by repeat (first | exact List.Mem.head _ | apply List.Mem.tail)) rfl | exact cellI (by assumption) | (exact cellRow (by repeat (first | exact List.Mem.head _ | apply List.Mem.tail)) (by assumption) (by assumption)))) rfl rfl rfl ?_
              refine Opz.val (R.assign rfl) rfl rfl rfl ?_
              refine Opz.nil ?_
              refine seqQ.normal ?_
              refine Cd.ret ?_
              -- path c1F g12T c2F
              refine fin.ret (L' := [.blk b 93 [.slice A m c, .int .i64 e]]) (ResOK.tmp rfl ResOK.nil) (by first | exact hle | exact Imm.le_refl _) ?_ ?_
              · repeat (first | exact Have.refl | (refine Have.cons (by repeat (first | exact Rem.head | apply Rem.tail | exact Rem.mid)) ?_) | refine Have.skip ?_ | refine Have.app ?_)
              ·
                have h1 : ¬ (e = 0 ∧ 0 < m) := by rintro ⟨ha, hb⟩; simp_all
                rw [if_neg h1]
                exact ⟨rfl, rfl, rfl⟩
      ·
        -- g12F
        try contradiction
        all_goals
          refine Opz.none rfl rfl rfl ?_
          refine Opz.none rfl rfl rfl ?_
          refine Opz.none rfl rfl rfl ?_
          refine Opz.none rfl rfl rfl ?_
          refine Opz.none rfl rfl rfl ?_
          refine Opz.none rfl rfl rfl ?_
          refine Opz.val (R.pick rfl rfl) rfl rfl rfl ?_
          refine Opz.val (R.assign rfl) rfl rfl rfl ?_
          refine Opz.nil ?_
          refine seqQ.normal ?_
          first | refine Cd.condD rfl (fun hq4 => ?_) (fun hq4 => ?_) | refine Cd.cond rfl (fun hq4 => ?_) (fun hq4 => ?_)
          ·
            -- c2T
            try contradiction
            all_goals
              have hm : 0 < m := by simpa using hq4
              refine Cd.region ?_
              refine Opz.val (R.move rfl) rfl rfl rfl ?_
              refine Opz.val (by first | exact R.nilP rfl | exact R.nilF rfl) rfl rfl rfl ?_
              refine Opz.val (by first | exact R.field (off := 1) rfl Try.underlying93 rfl Try.typeInfo32 rfl rfl | exact R.fieldA rfl Try.underlying93 rfl Try.typeInfo32 rfl) rfl rfl rfl ?_
              refine Opz.opU (by exact W.store rfl rfl rfl rfl Try.typeInfo32 rfl (by repeat (first | exact Upd.head | apply Upd.tail)) (by repeat (first | exact SetAt.zero | apply SetAt.succ))) rfl rfl ?_
              rintro _ _ _ ⟨rfl, rfl, rfl⟩
              refine Opz.nil ?_
              refine blkQ.normal ?_
              refine seqQ.normal ?_
              refine Cd.seq ?_
              refine Cd.region ?_
              refine Opz.val (R.move rfl) rfl rfl rfl ?_
              refine Opz.val (by first | exact R.nilP rfl | exact R.nilF rfl) rfl rfl rfl ?_
              refine Opz.val (by first | exact R.field (off := 1) rfl Try.underlying93 rfl Try.typeInfo32 rfl rfl | exact R.fieldA rfl Try.underlying93 rfl Try.typeInfo32 rfl) rfl rfl rfl ?_
              refine Opz.val (by exact R.load rfl Try.underlying32 rfl (by first | exact cellL (by repeat (first | exact List.Mem.head _ | apply List.Mem.tail)) rfl | exact cellI (by assumption) | (exact cellRow (by repeat (first | exact List.Mem.head _ | apply List.Mem.tail)) (by assumption) (by assumption)))) rfl rfl rfl ?_
              refine Opz.val (R.assign rfl) rfl rfl rfl ?_
              refine Opz.nil ?_
              refine seqQ.normal ?_
              refine Cd.ret ?_
              -- path c1F g12F c2T
              refine fin.ret (L' := [.blk b 93 [.slice A m c, .int .i64 2]]) (ResOK.tmp rfl ResOK.nil) (by first | exact hle | exact Imm.le_refl _) ?_ ?_
              · repeat (first | exact Have.refl | (refine Have.cons (by repeat (first | exact Rem.head | apply Rem.tail | exact Rem.mid)) ?_) | refine Have.skip ?_ | refine Have.app ?_)
              ·
                have h1 : e = 0 ∧ 0 < m := ⟨by simpa using he, by simpa using hm⟩
                rw [if_pos h1]
                exact ⟨rfl, rfl, rfl⟩
          ·
            -- c2F
            try contradiction
            all_goals
              refine Cd.skip ?_
              refine blkQ.normal ?_
              refine seqQ.normal ?_
              refine Cd.seq ?_
              refine Cd.region ?_
              refine Opz.val (R.move rfl) rfl rfl rfl ?_
              refine Opz.val (by first | exact R.nilP rfl | exact R.nilF rfl) rfl rfl rfl ?_
              refine Opz.val (by first | exact R.field (off := 1) rfl Try.underlying93 rfl Try.typeInfo32 rfl rfl | exact R.fieldA rfl Try.underlying93 rfl Try.typeInfo32 rfl) rfl rfl rfl ?_
              refine Opz.val (by exact R.load rfl Try.underlying32 rfl (by first | exact cellL (by repeat (first | exact List.Mem.head _ | apply List.Mem.tail)) rfl | exact cellI (by assumption) | (exact cellRow (by repeat (first | exact List.Mem.head _ | apply List.Mem.tail)) (by assumption) (by assumption)))) rfl rfl rfl ?_
              refine Opz.val (R.assign rfl) rfl rfl rfl ?_
              refine Opz.nil ?_
              refine seqQ.normal ?_
              refine Cd.ret ?_
              -- path c1F g12F c2F
              refine fin.ret (L' := [.blk b 93 [.slice A m c, .int .i64 e]]) (ResOK.tmp rfl ResOK.nil) (by first | exact hle | exact Imm.le_refl _) ?_ ?_
              · repeat (first | exact Have.refl | (refine Have.cons (by repeat (first | exact Rem.head | apply Rem.tail | exact Rem.mid)) ?_) | refine Have.skip ?_ | refine Have.app ?_)
              ·
                have h1 : ¬ (e = 0 ∧ 0 < m) := by rintro ⟨ha, hb⟩; simp_all
                rw [if_neg h1]
                exact ⟨rfl, rfl, rfl⟩

end Go.Proofs.Ytdecipfdbkpigaa
