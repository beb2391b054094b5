
import Derived.Test.YtdecipfdbkpigaaProg
import Derived.Test.YtdecipfdbkpigaaLetA
namespace Go.Proofs.Ytdecipfdbkpigaa
open Go.Eng



set_option maxRecDepth 100000 in
set_option maxHeartbeats 400000 in
theorem Clone_spec {I : Imm} {L0 : List Ent} {A : Option Addr} {n c : Nat} (cs : List Value) (hr : RdC I L0 A cs) (hl : cs.length = n) (h1 : ∀ u ∈ cs, u.oneCell' = true) (hb : n ≤ 140737488355328) :
    Meets Try.prog 44 #[.slice A n c] I (L0) (fun v I' L' => ∃ A' c', .slice A' n c' = v ∧ I = I' ∧ .row (.slice A' n c') 5 1 n cs :: L0 = L') := by
  refine Meets.intro (args := [.slice A n c]) (N := 8) (rs := [.tmp 2]) Try.func44 rfl rfl rfl rfl (fun F => ?_)
  change Cd _ _ _ [(0, .slice A n c)] I ((L0 ++ F)) _
  have hle := Imm.le_refl I
  have hrF := hr.app F
  refine Cd.seq ?_
  refine Cd.region ?_
  refine Opz.val (R.assign rfl) rfl rfl rfl ?_
  refine Opz.nil ?_
  refine seqQ.normal ?_
  refine Cd.seq ?_
  refine Cd.seq ?_
  refine Cd.region ?_
  refine Opz.val (R.move rfl) rfl rfl rfl ?_
  refine Opz.val (R.eqSN rfl rfl Try.underlying27) rfl rfl rfl ?_
  refine Opz.nil ?_
  refine seqQ.normal ?_
  first | refine Cd.condD rfl (fun hq1 => ?_) (fun hq1 => ?_) | refine Cd.cond rfl (fun hq1 => ?_) (fun hq1 => ?_)
  ·
    -- c1T
    try contradiction
    all_goals
      have hA : A = none := by simpa using hq1
      refine Cd.rdNone hrF hA (fun hcs => ?_)
      subst hA hcs
      have hn0 : n = 0 := by simpa using hl.symm
      subst hn0
      refine Cd.addNil 5 1 ?_
      refine Cd.seq ?_
      refine Cd.region ?_
      refine Opz.val (R.assign rfl) rfl rfl rfl ?_
      refine Opz.nil ?_
      refine seqQ.normal ?_
      refine Cd.ret ?_
      refine seqQ.ret ?_
      -- path c1T
      refine fin.ret (L' := .row (.slice none 0 0) 5 1 0 [] :: L0) (ResOK.tmp rfl ResOK.nil) (by first | exact hle | exact Imm.le_refl _) ?_ ?_
      · repeat (first | exact Have.refl | (refine Have.cons (by repeat (first | exact Rem.head | apply Rem.tail | exact Rem.mid)) ?_) | refine Have.skip ?_ | refine Have.app ?_)
      ·
        exact ⟨none, 0, rfl, rfl, rfl⟩
  ·
    -- c1F
    try contradiction
    all_goals
      refine Cd.skip ?_
      refine seqQ.normal ?_
      refine Cd.seq ?_
      refine Cd.region ?_
      refine Opz.op (by exact W.buildNone Try.underlying27 Try.typeInfo5 rfl rfl) rfl rfl rfl ?_
      rintro _ _ _ ⟨b5, rfl, rfl, rfl⟩
      refine Opz.val (R.move rfl) rfl rfl rfl ?_
      refine Opz.op (by exact W.append (e := 5) (sz := 1) (by' := 1) rfl rfl Try.underlying27 Try.type5 rfl rfl rfl rfl rfl (by repeat (first | exact Rem.head | apply Rem.tail | exact Rem.mid)) (by simpa using hl) (hrF.cons _) h1 (by omega) rfl) rfl rfl rfl ?_
      rintro _ _ _ ⟨A7, c7, rfl, rfl, rfl⟩
      rw [Nat.zero_add, List.nil_append]
      refine Opz.val (R.assign rfl) rfl rfl rfl ?_
      refine Opz.nil ?_
      refine seqQ.normal ?_
      refine Cd.ret ?_
      -- path c1F
      refine fin.ret (L' := .row (.slice A7 n c7) 5 1 n cs :: L0) (ResOK.tmp rfl ResOK.nil) (by first | exact hle | exact Imm.le_refl _) ?_ ?_
      · repeat (first | exact Have.refl | (refine Have.cons (by repeat (first | exact Rem.head | apply Rem.tail | exact Rem.mid)) ?_) | refine Have.skip ?_ | refine Have.app ?_)
      ·
        exact ⟨A7, c7, rfl, rfl, rfl⟩


set_option maxRecDepth 100000 in
set_option maxHeartbeats 400000 in
theorem Clip_spec {I : Imm} {A : Option Addr} {n c : Nat} (h : n ≤ c) :
    Meets Try.prog 45 #[.slice A n c] I ([]) (Ret I (.slice A n n)) := by
  refine Meets.intro (args := [.slice A n c]) (N := 9) (rs := [.tmp 2]) Try.func45 rfl rfl rfl rfl (fun F => ?_)
  change Cd _ _ _ [(0, .slice A n c)] I (F) _
  have hle := Imm.le_refl I
  refine Cd.seq ?_
  refine Cd.region ?_
  refine Opz.val (R.assign rfl) rfl rfl rfl ?_
  refine Opz.nil ?_
  refine seqQ.normal ?_
  refine Cd.seq ?_
  refine Cd.region ?_
  refine Opz.val (R.move rfl) rfl rfl rfl ?_
  refine Opz.val (R.move rfl) rfl rfl rfl ?_
  refine Opz.val (R.len rfl rfl Try.underlying27) rfl rfl rfl ?_
  refine Opz.val (R.move rfl) rfl rfl rfl ?_
  refine Opz.val (R.len rfl rfl Try.underlying27) rfl rfl rfl ?_
  refine Opz.val (by exact R.slHM rfl rfl rfl Try.underlying27 Try.typeInfo5 ⟨by omega, by omega, by omega⟩) rfl rfl rfl ?_
  refine Opz.val (R.assign rfl) rfl rfl rfl ?_
  refine Opz.nil ?_
  refine seqQ.normal ?_
  refine Cd.ret ?_
  -- path 
  refine fin.ret (L' := []) (ResOK.tmp rfl ResOK.nil) (by first | exact hle | exact Imm.le_refl _) ?_ ?_
  · repeat (first | exact Have.refl | (refine Have.cons (by repeat (first | exact Rem.head | apply Rem.tail | exact Rem.mid)) ?_) | refine Have.skip ?_ | refine Have.app ?_)
  ·
    exact Ret.mk (by simp [tupV])


set_option maxRecDepth 100000 in
set_option maxHeartbeats 400000 in
theorem PSmall_spec {I : Imm} {b c : Nat} {A : Option Addr} {wide : Bool} (bs : List UInt8) (n : Int) (hn : -9223372036854775808 ≤ n ∧ n ≤ 9223372036854775807) (hr : bs.length ≤ 140737488355000) :
    Meets Try.prog 22 #[.pointer (some ⟨b, 0, none⟩), .int .i64 n] I ([.blk b 89 [.slice A (bs.length) c, .bool wide], .row (.slice A (bs.length) c) 5 1 (bs.length) (bytesV bs)]) (fun v I' L' => ∃ A' c', .pointer (some ⟨b, 0, none⟩) = v ∧ I = I' ∧ [.blk b 89 [.slice A' (bs.length + 4) c', .bool (wide || decide (n < 0) || decide (4294967295 < n))], .row (.slice A' (bs.length + 4) c') 5 1 (bs.length + 4) (bytesV (bs ++ leB (wr .u64 n) 4))] = L') := by
  refine Meets.intro (args := [.pointer (some ⟨b, 0, none⟩), .int .i64 n]) (N := 26) (rs := [.tmp 4]) Try.func22 rfl rfl rfl rfl (fun F => ?_)
  change Cd _ _ _ [(0, .pointer (some ⟨b, 0, none⟩)), (1, .int .i64 n)] I (.blk b 89 [.slice A (bs.length) c, .bool wide] :: .row (.slice A (bs.length) c) 5 1 (bs.length) (bytesV bs) :: F) _
  have hle := Imm.le_refl I
  refine Cd.seq ?_
  refine Cd.region ?_
  refine Opz.val (R.assign rfl) rfl rfl rfl ?_
  refine Opz.nil ?_
  refine seqQ.normal ?_
  refine Cd.seq ?_
  refine Cd.seq ?_
  refine Cd.region ?_
  refine Opz.val (R.move rfl) rfl rfl rfl ?_
  refine Opz.val (by first | exact R.eqPN rfl rfl Try.underlying47 | exact R.eqNN rfl rfl Try.underlying47) rfl rfl rfl ?_
  refine Opz.nil ?_
  refine seqQ.normal ?_
  first | refine Cd.condD rfl (fun hq1 => ?_) (fun hq1 => ?_) | refine Cd.cond rfl (fun hq1 => ?_) (fun hq1 => ?_)
  ·
    -- c1T
    try contradiction
    all_goals
      refine Cd.seq ?_
      refine Cd.region ?_
      refine Opz.val (R.assign rfl) rfl rfl rfl ?_
      refine Opz.nil ?_
      refine seqQ.normal ?_
      refine Cd.ret ?_
      refine seqQ.ret ?_
      -- path c1T
      refine fin.ret (L' := [.blk b 89 [.slice A25 (bs.length + 4) c25, .bool (wide || decide (n < 0) || decide (4294967295 < n))], .row (.slice A25 (bs.length + 4) c25) 5 1 (bs.length + 4) (bytesV (bs ++ leB (wr .u64 n) 4))]) (ResOK.tmp rfl ResOK.nil) (by first | exact hle | exact Imm.le_refl _) ?_ ?_
      · exact Have.cons (Rem.eq (congrArg (fun q => Ent.blk b 89 [.slice A25 (bs.length + 4) c25, .bool q]) (by simp [*]))) (Have.cons Rem.head Have.refl)
      ·
        exact ⟨A25, c25, rfl, rfl, rfl⟩
  ·
    -- c1F
    try contradiction
    all_goals
      refine Cd.skip ?_
      refine seqQ.normal ?_
      refine Cd.seq ?_
      refine Cd.region ?_
      refine Opz.val (R.move rfl) rfl rfl rfl ?_
      refine Opz.val (R.move rfl) rfl rfl rfl ?_
      refine Opz.val (by first | exact R.nilP rfl | exact R.nilF rfl) rfl rfl rfl ?_
      refine Opz.val (by first | exact R.field (off := 1) rfl Try.underlying89 rfl Try.typeInfo4 rfl rfl | exact R.fieldA rfl Try.underlying89 rfl Try.typeInfo4 rfl) rfl rfl rfl ?_
      refine Opz.val (by exact R.load rfl Try.underlying4 rfl (by first | exact cellL (by repeat (first | exact List.Mem.head _ | apply List.Mem.tail)) rfl | exact cellI (by assumption) | (exact cellRow (by repeat (first | exact List.Mem.head _ | apply List.Mem.tail)) (by assumption) (by assumption)))) rfl rfl rfl ?_
      refine Opz.val (R.move rfl) rfl rfl rfl ?_
      first | refine Opz.guardD 12 rfl (fun hq2 => ?_) (fun hq2 => ?_) | refine Opz.guard 12 rfl (fun hq2 => ?_) (fun hq2 => ?_)
      ·
        -- g12T
        try contradiction
        all_goals
          refine Opz.none rfl rfl rfl ?_
          refine Opz.none rfl rfl rfl ?_
          refine Opz.val (R.pick rfl rfl) rfl rfl rfl ?_
          refine Opz.val (R.move rfl) rfl rfl rfl ?_
          first | refine Opz.guardD 16 rfl (fun hq3 => ?_) (fun hq3 => ?_) | refine Opz.guard 16 rfl (fun hq3 => ?_) (fun hq3 => ?_)
          ·
            -- g16T
            try contradiction
            all_goals
              refine Opz.none rfl rfl rfl ?_
              refine Opz.none rfl rfl rfl ?_
              refine Opz.val (R.pick rfl rfl) rfl rfl rfl ?_
              refine Opz.val (by first | exact R.nilP rfl | exact R.nilF rfl) rfl rfl rfl ?_
              refine Opz.val (by first | exact R.field (off := 1) rfl Try.underlying89 rfl Try.typeInfo4 rfl rfl | exact R.fieldA rfl Try.underlying89 rfl Try.typeInfo4 rfl) rfl rfl rfl ?_
              refine Opz.opU (by exact W.store rfl rfl rfl rfl Try.typeInfo4 rfl (by repeat (first | exact Upd.head | apply Upd.tail)) (by repeat (first | exact SetAt.zero | apply SetAt.succ))) rfl rfl ?_
              rintro _ _ _ ⟨rfl, rfl, rfl⟩
              refine Opz.nil ?_
              refine seqQ.normal ?_
              refine Cd.seq ?_
              refine Cd.region ?_
              refine Opz.val (R.move rfl) rfl rfl rfl ?_
              refine Opz.val (R.move rfl) rfl rfl rfl ?_
              refine Opz.val (R.convW rfl Try.underlying3 Try.underlying49) rfl rfl rfl ?_
              refine Opz.op (by exact W.call rfl rfl Try.call43 (Lay_spec bs (wr .u64 n) 4 (by omega) (by simp only [wr]; omega) hr) rfl (Take.cons (by repeat (first | exact Rem.head | apply Rem.tail | exact Rem.mid)) (Take.cons (by repeat (first | exact Rem.head | apply Rem.tail | exact Rem.mid)) Take.nil))) rfl rfl rfl ?_
              rintro v25 I25 _ ⟨hI25, M25, hp25, rfl⟩
              obtain ⟨A25, c25, rfl, rfl, rfl⟩ := hp25
              refine Opz.val (R.assign rfl) rfl rfl rfl ?_
              refine Opz.nil ?_
              refine seqQ.normal ?_
              refine Cd.ret ?_
              -- path c1F g12T g16T
              refine fin.ret (L' := [.blk b 89 [.slice A25 (bs.length + 4) c25, .bool (wide || decide (n < 0) || decide (4294967295 < n))], .row (.slice A25 (bs.length + 4) c25) 5 1 (bs.length + 4) (bytesV (bs ++ leB (wr .u64 n) 4))]) (ResOK.tmp rfl ResOK.nil) (by first | exact hle | exact Imm.le_refl _) ?_ ?_
              · exact Have.cons (Rem.eq (congrArg (fun q => Ent.blk b 89 [.slice A25 (bs.length + 4) c25, .bool q]) (by simp [*]))) (Have.cons Rem.head Have.refl)
              ·
                exact ⟨A25, c25, rfl, rfl, rfl⟩
          ·
            -- g16F
            try contradiction
            all_goals
              refine Opz.val (R.move rfl) rfl rfl rfl ?_
              refine Opz.val (R.gtr rfl rfl) rfl rfl rfl ?_
              refine Opz.val (R.pick rfl rfl) rfl rfl rfl ?_
              refine Opz.val (by first | exact R.nilP rfl | exact R.nilF rfl) rfl rfl rfl ?_
              refine Opz.val (by first | exact R.field (off := 1) rfl Try.underlying89 rfl Try.typeInfo4 rfl rfl | exact R.fieldA rfl Try.underlying89 rfl Try.typeInfo4 rfl) rfl rfl rfl ?_
              refine Opz.opU (by exact W.store rfl rfl rfl rfl Try.typeInfo4 rfl (by repeat (first | exact Upd.head | apply Upd.tail)) (by repeat (first | exact SetAt.zero | apply SetAt.succ))) rfl rfl ?_
              rintro _ _ _ ⟨rfl, rfl, rfl⟩
              refine Opz.nil ?_
              refine seqQ.normal ?_
              refine Cd.seq ?_
              refine Cd.region ?_
              refine Opz.val (R.move rfl) rfl rfl rfl ?_
              refine Opz.val (R.move rfl) rfl rfl rfl ?_
              refine Opz.val (R.convW rfl Try.underlying3 Try.underlying49) rfl rfl rfl ?_
              refine Opz.op (by exact W.call rfl rfl Try.call43 (Lay_spec bs (wr .u64 n) 4 (by omega) (by simp only [wr]; omega) hr) rfl (Take.cons (by repeat (first | exact Rem.head | apply Rem.tail | exact Rem.mid)) (Take.cons (by repeat (first | exact Rem.head | apply Rem.tail | exact Rem.mid)) Take.nil))) rfl rfl rfl ?_
              rintro v25 I25 _ ⟨hI25, M25, hp25, rfl⟩
              obtain ⟨A25, c25, rfl, rfl, rfl⟩ := hp25
              refine Opz.val (R.assign rfl) rfl rfl rfl ?_
              refine Opz.nil ?_
              refine seqQ.normal ?_
              refine Cd.ret ?_
              -- path c1F g12T g16F
              refine fin.ret (L' := [.blk b 89 [.slice A25 (bs.length + 4) c25, .bool (wide || decide (n < 0) || decide (4294967295 < n))], .row (.slice A25 (bs.length + 4) c25) 5 1 (bs.length + 4) (bytesV (bs ++ leB (wr .u64 n) 4))]) (ResOK.tmp rfl ResOK.nil) (by first | exact hle | exact Imm.le_refl _) ?_ ?_
              · exact Have.cons (Rem.eq (congrArg (fun q => Ent.blk b 89 [.slice A25 (bs.length + 4) c25, .bool q]) (by simp [*]))) (Have.cons Rem.head Have.refl)
              ·
                exact ⟨A25, c25, rfl, rfl, rfl⟩
      ·
        -- g12F
        try contradiction
        all_goals
          refine Opz.val (R.move rfl) rfl rfl rfl ?_
          refine Opz.val (R.lss rfl rfl) rfl rfl rfl ?_
          refine Opz.val (R.pick rfl rfl) rfl rfl rfl ?_
          refine Opz.val (R.move rfl) rfl rfl rfl ?_
          first | refine Opz.guardD 16 rfl (fun hq4 => ?_) (fun hq4 => ?_) | refine Opz.guard 16 rfl (fun hq4 => ?_) (fun hq4 => ?_)
          ·
            -- g16T
            try contradiction
            all_goals
              refine Opz.none rfl rfl rfl ?_
              refine Opz.none rfl rfl rfl ?_
              refine Opz.val (R.pick rfl rfl) rfl rfl rfl ?_
              refine Opz.val (by first | exact R.nilP rfl | exact R.nilF rfl) rfl rfl rfl ?_
              refine Opz.val (by first | exact R.field (off := 1) rfl Try.underlying89 rfl Try.typeInfo4 rfl rfl | exact R.fieldA rfl Try.underlying89 rfl Try.typeInfo4 rfl) rfl rfl rfl ?_
              refine Opz.opU (by exact W.store rfl rfl rfl rfl Try.typeInfo4 rfl (by repeat (first | exact Upd.head | apply Upd.tail)) (by repeat (first | exact SetAt.zero | apply SetAt.succ))) rfl rfl ?_
              rintro _ _ _ ⟨rfl, rfl, rfl⟩
              refine Opz.nil ?_
              refine seqQ.normal ?_
              refine Cd.seq ?_
              refine Cd.region ?_
              refine Opz.val (R.move rfl) rfl rfl rfl ?_
              refine Opz.val (R.move rfl) rfl rfl rfl ?_
              refine Opz.val (R.convW rfl Try.underlying3 Try.underlying49) rfl rfl rfl ?_
              refine Opz.op (by exact W.call rfl rfl Try.call43 (Lay_spec bs (wr .u64 n) 4 (by omega) (by simp only [wr]; omega) hr) rfl (Take.cons (by repeat (first | exact Rem.head | apply Rem.tail | exact Rem.mid)) (Take.cons (by repeat (first | exact Rem.head | apply Rem.tail | exact Rem.mid)) Take.nil))) rfl rfl rfl ?_
              rintro v25 I25 _ ⟨hI25, M25, hp25, rfl⟩
              obtain ⟨A25, c25, rfl, rfl, rfl⟩ := hp25
              refine Opz.val (R.assign rfl) rfl rfl rfl ?_
              refine Opz.nil ?_
              refine seqQ.normal ?_
              refine Cd.ret ?_
              -- path c1F g12F g16T
              refine fin.ret (L' := [.blk b 89 [.slice A25 (bs.length + 4) c25, .bool (wide || decide (n < 0) || decide (4294967295 < n))], .row (.slice A25 (bs.length + 4) c25) 5 1 (bs.length + 4) (bytesV (bs ++ leB (wr .u64 n) 4))]) (ResOK.tmp rfl ResOK.nil) (by first | exact hle | exact Imm.le_refl _) ?_ ?_
              · exact Have.cons (Rem.eq (congrArg (fun q => Ent.blk b 89 [.slice A25 (bs.length + 4) c25, .bool q]) (by simp [*]))) (Have.cons Rem.head Have.refl)
              ·
                exact ⟨A25, c25, rfl, rfl, rfl⟩
          ·
            -- g16F
            try contradiction
            all_goals
              refine Opz.val (R.move rfl) rfl rfl rfl ?_
              refine Opz.val (R.gtr rfl rfl) rfl rfl rfl ?_
              refine Opz.val (R.pick rfl rfl) rfl rfl rfl ?_
              refine Opz.val (by first | exact R.nilP rfl | exact R.nilF rfl) rfl rfl rfl ?_
              refine Opz.val (by first | exact R.field (off := 1) rfl Try.underlying89 rfl Try.typeInfo4 rfl rfl | exact R.fieldA rfl Try.underlying89 rfl Try.typeInfo4 rfl) rfl rfl rfl ?_
              refine Opz.opU (by exact W.store rfl rfl rfl rfl Try.typeInfo4 rfl (by repeat (first | exact Upd.head | apply Upd.tail)) (by repeat (first | exact SetAt.zero | apply SetAt.succ))) rfl rfl ?_
              rintro _ _ _ ⟨rfl, rfl, rfl⟩
              refine Opz.nil ?_
              refine seqQ.normal ?_
              refine Cd.seq ?_
              refine Cd.region ?_
              refine Opz.val (R.move rfl) rfl rfl rfl ?_
              refine Opz.val (R.move rfl) rfl rfl rfl ?_
              refine Opz.val (R.convW rfl Try.underlying3 Try.underlying49) rfl rfl rfl ?_
              refine Opz.op (by exact W.call rfl rfl Try.call43 (Lay_spec bs (wr .u64 n) 4 (by omega) (by simp only [wr]; omega) hr) rfl (Take.cons (by repeat (first | exact Rem.head | apply Rem.tail | exact Rem.mid)) (Take.cons (by repeat (first | exact Rem.head | apply Rem.tail | exact Rem.mid)) Take.nil))) rfl rfl rfl ?_
              rintro v25 I25 _ ⟨hI25, M25, hp25, rfl⟩
              obtain ⟨A25, c25, rfl, rfl, rfl⟩ := hp25
              refine Opz.val (R.assign rfl) rfl rfl rfl ?_
              refine Opz.nil ?_
              refine seqQ.normal ?_
              refine Cd.ret ?_
              -- path c1F g12F g16F
              refine fin.ret (L' := [.blk b 89 [.slice A25 (bs.length + 4) c25, .bool (wide || decide (n < 0) || decide (4294967295 < n))], .row (.slice A25 (bs.length + 4) c25) 5 1 (bs.length + 4) (bytesV (bs ++ leB (wr .u64 n) 4))]) (ResOK.tmp rfl ResOK.nil) (by first | exact hle | exact Imm.le_refl _) ?_ ?_
              · exact Have.cons (Rem.eq (congrArg (fun q => Ent.blk b 89 [.slice A25 (bs.length + 4) c25, .bool q]) (by simp [*]))) (Have.cons Rem.head Have.refl)
              ·
                exact ⟨A25, c25, rfl, rfl, rfl⟩


set_option maxRecDepth 100000 in
set_option maxHeartbeats 400000 in
theorem PGreat_spec {I : Imm} {b c : Nat} {A : Option Addr} {wide : Bool} (bs : List UInt8) (n : Int) (hn : 0 ≤ n ∧ n ≤ 18446744073709551615) (hr : bs.length ≤ 140737488355000) :
    Meets Try.prog 24 #[.pointer (some ⟨b, 0, none⟩), .int .u64 n] I ([.blk b 89 [.slice A (bs.length) c, .bool wide], .row (.slice A (bs.length) c) 5 1 (bs.length) (bytesV bs)]) (fun v I' L' => ∃ A' c', .pointer (some ⟨b, 0, none⟩) = v ∧ I = I' ∧ [.blk b 89 [.slice A' (bs.length + 8) c', .bool wide], .row (.slice A' (bs.length + 8) c') 5 1 (bs.length + 8) (bytesV (bs ++ leB n 8))] = L') := by
  refine Meets.intro (args := [.pointer (some ⟨b, 0, none⟩), .int .u64 n]) (N := 10) (rs := [.tmp 4]) Try.func24 rfl rfl rfl rfl (fun F => ?_)
  change Cd _ _ _ [(0, .pointer (some ⟨b, 0, none⟩)), (1, .int .u64 n)] I (.blk b 89 [.slice A (bs.length) c, .bool wide] :: .row (.slice A (bs.length) c) 5 1 (bs.length) (bytesV bs) :: F) _
  have hle := Imm.le_refl I
  refine Cd.seq ?_
  refine Cd.region ?_
  refine Opz.val (R.assign rfl) rfl rfl rfl ?_
  refine Opz.nil ?_
  refine seqQ.normal ?_
  refine Cd.seq ?_
  refine Cd.seq ?_
  refine Cd.region ?_
  refine Opz.val (R.move rfl) rfl rfl rfl ?_
  refine Opz.val (by first | exact R.eqPN rfl rfl Try.underlying47 | exact R.eqNN rfl rfl Try.underlying47) rfl rfl rfl ?_
  refine Opz.nil ?_
  refine seqQ.normal ?_
  first | refine Cd.condD rfl (fun hq1 => ?_) (fun hq1 => ?_) | refine Cd.cond rfl (fun hq1 => ?_) (fun hq1 => ?_)
  ·
    -- c1T
    try contradiction
    all_goals
      refine Cd.seq ?_
      refine Cd.region ?_
      refine Opz.val (R.assign rfl) rfl rfl rfl ?_
      refine Opz.nil ?_
      refine seqQ.normal ?_
      refine Cd.ret ?_
      refine seqQ.ret ?_
      -- path c1T
      refine fin.ret (L' := [.blk b 89 [.slice A9 (bs.length + 8) c9, .bool wide], .row (.slice A9 (bs.length + 8) c9) 5 1 (bs.length + 8) (bytesV (bs ++ leB n 8))]) (ResOK.tmp rfl ResOK.nil) (by first | exact hle | exact Imm.le_refl _) ?_ ?_
      · repeat (first | exact Have.refl | (refine Have.cons (by repeat (first | exact Rem.head | apply Rem.tail | exact Rem.mid)) ?_) | refine Have.skip ?_ | refine Have.app ?_)
      ·
        exact ⟨A9, c9, rfl, rfl, rfl⟩
  ·
    -- c1F
    try contradiction
    all_goals
      refine Cd.skip ?_
      refine seqQ.normal ?_
      refine Cd.seq ?_
      refine Cd.region ?_
      refine Opz.val (R.move rfl) rfl rfl rfl ?_
      refine Opz.val (R.move rfl) rfl rfl rfl ?_
      refine Opz.op (by exact W.call rfl rfl Try.call43 (Lay_spec bs n 8 (by omega) hn hr) rfl (Take.cons (by repeat (first | exact Rem.head | apply Rem.tail | exact Rem.mid)) (Take.cons (by repeat (first | exact Rem.head | apply Rem.tail | exact Rem.mid)) Take.nil))) rfl rfl rfl ?_
      rintro v9 I9 _ ⟨hI9, M9, hp9, rfl⟩
      obtain ⟨A9, c9, rfl, rfl, rfl⟩ := hp9
      refine Opz.val (R.assign rfl) rfl rfl rfl ?_
      refine Opz.nil ?_
      refine seqQ.normal ?_
      refine Cd.ret ?_
      -- path c1F
      refine fin.ret (L' := [.blk b 89 [.slice A9 (bs.length + 8) c9, .bool wide], .row (.slice A9 (bs.length + 8) c9) 5 1 (bs.length + 8) (bytesV (bs ++ leB n 8))]) (ResOK.tmp rfl ResOK.nil) (by first | exact hle | exact Imm.le_refl _) ?_ ?_
      · repeat (first | exact Have.refl | (refine Have.cons (by repeat (first | exact Rem.head | apply Rem.tail | exact Rem.mid)) ?_) | refine Have.skip ?_ | refine Have.app ?_)
      ·
        exact ⟨A9, c9, rfl, rfl, rfl⟩


set_option maxRecDepth 100000 in
set_option maxHeartbeats 400000 in
theorem PBytes_spec {I : Imm} {b c : Nat} {A : Option Addr} {wide : Bool} (bs : List UInt8) {B : Option Addr} {d : Nat} (xs : List UInt8) (hx : Rd eByte I B xs) (hr : bs.length + xs.length ≤ 140737488354000) :
    Meets Try.prog 26 #[.pointer (some ⟨b, 0, none⟩), .slice B xs.length d] I ([.blk b 89 [.slice A (bs.length) c, .bool wide], .row (.slice A (bs.length) c) 5 1 (bs.length) (bytesV bs)]) (fun v I' L' => ∃ A' c', .pointer (some ⟨b, 0, none⟩) = v ∧ I = I' ∧ [.blk b 89 [.slice A' (bs.length + 4 + xs.length) c', .bool (wide || decide (4294967295 < (xs.length : Int)))], .row (.slice A' (bs.length + 4 + xs.length) c') 5 1 (bs.length + 4 + xs.length) (bytesV (bs ++ leB xs.length 4 ++ xs))] = L') := by
  refine Meets.intro (args := [.pointer (some ⟨b, 0, none⟩), .slice B xs.length d]) (N := 21) (rs := [.tmp 4]) Try.func26 rfl rfl rfl rfl (fun F => ?_)
  change Cd _ _ _ [(0, .pointer (some ⟨b, 0, none⟩)), (1, .slice B xs.length d)] I (.blk b 89 [.slice A (bs.length) c, .bool wide] :: .row (.slice A (bs.length) c) 5 1 (bs.length) (bytesV bs) :: F) _
  have hle := Imm.le_refl I
  refine Cd.seq ?_
  refine Cd.region ?_
  refine Opz.val (R.assign rfl) rfl rfl rfl ?_
  refine Opz.nil ?_
  refine seqQ.normal ?_
  refine Cd.seq ?_
  refine Cd.seq ?_
  refine Cd.region ?_
  refine Opz.val (R.move rfl) rfl rfl rfl ?_
  refine Opz.val (by first | exact R.eqPN rfl rfl Try.underlying47 | exact R.eqNN rfl rfl Try.underlying47) rfl rfl rfl ?_
  refine Opz.nil ?_
  refine seqQ.normal ?_
  first | refine Cd.condD rfl (fun hq1 => ?_) (fun hq1 => ?_) | refine Cd.cond rfl (fun hq1 => ?_) (fun hq1 => ?_)
  ·
    -- c1T
    try contradiction
    all_goals
      refine Cd.seq ?_
      refine Cd.region ?_
      refine Opz.val (R.assign rfl) rfl rfl rfl ?_
      refine Opz.nil ?_
      refine seqQ.normal ?_
      refine Cd.ret ?_
      refine seqQ.ret ?_
      -- path c1T
      refine fin.ret (L' := [.blk b 89 [.slice A17 (bs.length + 4 + xs.length) c17, .bool (wide || decide (4294967295 < (xs.length : Int)))], .row (.slice A17 (bs.length + 4 + xs.length) c17) 5 1 (bs.length + 4 + xs.length) (bytesV (bs ++ leB xs.length 4 ++ xs))]) (ResOK.tmp rfl ResOK.nil) (by first | exact hle | exact Imm.le_refl _) ?_ ?_
      · repeat (first | exact Have.refl | (refine Have.cons (by repeat (first | exact Rem.head | apply Rem.tail | exact Rem.mid)) ?_) | refine Have.skip ?_ | refine Have.app ?_)
      ·
        exact ⟨A17, c17, rfl, rfl, rfl⟩
  ·
    -- c1F
    try contradiction
    all_goals
      refine Cd.skip ?_
      refine seqQ.normal ?_
      refine Cd.seq ?_
      refine Cd.region ?_
      refine Opz.val (R.move rfl) rfl rfl rfl ?_
      refine Opz.val (R.move rfl) rfl rfl rfl ?_
      refine Opz.val (R.len rfl rfl Try.underlying27) rfl rfl rfl ?_
      refine Opz.op (by exact W.call rfl rfl Try.call22 (PSmall_spec bs xs.length (by omega) (by omega)) rfl (Take.cons (by repeat (first | exact Rem.head | apply Rem.tail | exact Rem.mid)) (Take.cons (by repeat (first | exact Rem.head | apply Rem.tail | exact Rem.mid)) Take.nil))) rfl rfl rfl ?_
      rintro v10 I10 _ ⟨hI10, M10, hp10, rfl⟩
      obtain ⟨A10, c10, rfl, rfl, rfl⟩ := hp10
      rw [show wr .u64 (xs.length : Int) = (xs.length : Int) from by simp only [wr]; omega, show decide ((xs.length : Int) < 0) = false from by simp, Bool.or_false]
      refine Opz.nil ?_
      refine seqQ.normal ?_
      refine Cd.seq ?_
      refine Cd.region ?_
      refine Opz.val (R.move rfl) rfl rfl rfl ?_
      refine Opz.val (R.move rfl) rfl rfl rfl ?_
      refine Opz.val (by first | exact R.nilP rfl | exact R.nilF rfl) rfl rfl rfl ?_
      refine Opz.val (by first | exact R.field (off := 0) rfl Try.underlying89 rfl Try.typeInfo27 rfl rfl | exact R.fieldA rfl Try.underlying89 rfl Try.typeInfo27 rfl) rfl rfl rfl ?_
      refine Opz.val (by exact R.load rfl Try.underlying27 rfl (by first | exact cellL (by repeat (first | exact List.Mem.head _ | apply List.Mem.tail)) rfl | exact cellI (by assumption) | (exact cellRow (by repeat (first | exact List.Mem.head _ | apply List.Mem.tail)) (by assumption) (by assumption)))) rfl rfl rfl ?_
      refine Opz.val (R.move rfl) rfl rfl rfl ?_
      refine Opz.op (by exact W.append (e := 5) (sz := 1) (by' := 1) rfl rfl Try.underlying27 Try.type5 rfl rfl rfl rfl rfl (by repeat (first | exact Rem.head | apply Rem.tail | exact Rem.mid)) (by simp [bytesV_len]) (hx.cells) (bytesV_one xs) (by omega) rfl) rfl rfl rfl ?_
      rintro _ _ _ ⟨A17, c17, rfl, rfl, rfl⟩
      rw [← bytesV_app]
      refine Opz.val (by first | exact R.nilP rfl | exact R.nilF rfl) rfl rfl rfl ?_
      refine Opz.val (by first | exact R.field (off := 0) rfl Try.underlying89 rfl Try.typeInfo27 rfl rfl | exact R.fieldA rfl Try.underlying89 rfl Try.typeInfo27 rfl) rfl rfl rfl ?_
      refine Opz.opU (by exact W.store rfl rfl rfl rfl Try.typeInfo27 rfl (by repeat (first | exact Upd.head | apply Upd.tail)) (by repeat (first | exact SetAt.zero | apply SetAt.succ))) rfl rfl ?_
      rintro _ _ _ ⟨rfl, rfl, rfl⟩
      refine Opz.nil ?_
      refine seqQ.normal ?_
      refine Cd.seq ?_
      refine Cd.region ?_
      refine Opz.val (R.move rfl) rfl rfl rfl ?_
      refine Opz.val (R.assign rfl) rfl rfl rfl ?_
      refine Opz.nil ?_
      refine seqQ.normal ?_
      refine Cd.ret ?_
      -- path c1F
      refine fin.ret (L' := [.blk b 89 [.slice A17 (bs.length + 4 + xs.length) c17, .bool (wide || decide (4294967295 < (xs.length : Int)))], .row (.slice A17 (bs.length + 4 + xs.length) c17) 5 1 (bs.length + 4 + xs.length) (bytesV (bs ++ leB xs.length 4 ++ xs))]) (ResOK.tmp rfl ResOK.nil) (by first | exact hle | exact Imm.le_refl _) ?_ ?_
      · repeat (first | exact Have.refl | (refine Have.cons (by repeat (first | exact Rem.head | apply Rem.tail | exact Rem.mid)) ?_) | refine Have.skip ?_ | refine Have.app ?_)
      ·
        exact ⟨A17, c17, rfl, rfl, rfl⟩

end Go.Proofs.Ytdecipfdbkpigaa
