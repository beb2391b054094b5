
import Derived.Test.YtdecipfdbkpigaaProg
import Derived.Test.YtdecipfdbkpigaaLetJ
namespace Go.Proofs.Ytdecipfdbkpigaa
open Go.Eng



set_option maxRecDepth 100000 in
set_option maxHeartbeats 400000 in
theorem PSmall0_spec {I : Imm} {n : Int} :
    Meets Try.prog 22 #[.pointer none, .int .i64 n] I ([]) (Ret I (.pointer none)) := by
  refine Meets.intro (args := [.pointer none, .int .i64 n]) (N := 26) (rs := [.tmp 4]) Try.func22 rfl rfl rfl rfl (fun F => ?_)
  change Cd _ _ _ [(0, .pointer none), (1, .int .i64 n)] I (F) _
  have hle := Imm.le_refl I
  refine Cd.seq ?_
  refine Cd.region ?_
  refine Opz.val (R.assign rfl) rfl rfl rfl ?_
  refine Opz.nil ?_
  refine seqQ.normal ?_
  refine Cd.seq ?_
  refine Cd.seq ?_
  refine Cd.region ?_
  refine Opz.val (R.move rfl) rfl rfl rfl ?_
  refine Opz.val (by first | exact R.eqPN rfl rfl Try.underlying47 | exact R.eqNN rfl rfl Try.underlying47) rfl rfl rfl ?_
  refine Opz.nil ?_
  refine seqQ.normal ?_
  first | refine Cd.condD rfl (fun hq1 => ?_) (fun hq1 => ?_) | refine Cd.cond rfl (fun hq1 => ?_) (fun hq1 => ?_)
  ·
    -- c1T
    try (first | contradiction | (exfalso; omega))
    all_goals
      refine Cd.seq ?_
      refine Cd.region ?_
      refine Opz.val (R.assign rfl) rfl rfl rfl ?_
      refine Opz.nil ?_
      refine seqQ.normal ?_
      refine Cd.ret ?_
      refine seqQ.ret ?_
      -- path c1T
      refine fin.ret (L' := []) (ResOK.tmp rfl ResOK.nil) (by first | exact hle | exact Imm.le_refl _) ?_ ?_
      · repeat (first | exact Have.refl | (refine Have.cons (by repeat (first | exact Rem.head | apply Rem.tail | exact Rem.mid)) ?_) | refine Have.skip ?_ | refine Have.app ?_)
      ·
        exact Ret.mk rfl
  ·
    -- c1F
    try (first | contradiction | (exfalso; omega))
    all_goals
      refine Cd.skip ?_
      refine seqQ.normal ?_
      refine Cd.seq ?_
      refine Cd.region ?_
      refine Opz.val (R.move rfl) rfl rfl rfl ?_
      refine Opz.val (R.move rfl) rfl rfl rfl ?_
      refine Opz.val (by first | exact R.nilP rfl | exact R.nilF rfl) rfl rfl rfl ?_
      refine Opz.val (by first | exact R.field (off := 1) rfl Try.underlying89 rfl Try.typeInfo4 rfl rfl | exact R.fieldA rfl Try.underlying89 rfl Try.typeInfo4 rfl) rfl rfl rfl ?_
      refine Opz.val (by exact R.load rfl Try.underlying4 rfl (by first | exact cellL (by repeat (first | exact List.Mem.head _ | apply List.Mem.tail)) rfl | exact cellI (by assumption) | (exact cellRow (by repeat (first | exact List.Mem.head _ | apply List.Mem.tail)) (by assumption) (by assumption)))) rfl rfl rfl ?_
      refine Opz.val (R.move rfl) rfl rfl rfl ?_
      first | refine Opz.guardD 12 rfl (fun hq2 => ?_) (fun hq2 => ?_) | refine Opz.guard 12 rfl (fun hq2 => ?_) (fun hq2 => ?_)
      ·
        -- g12T
        try (first | contradiction | (exfalso; omega))
        all_goals
          refine Opz.none rfl rfl rfl ?_
          refine Opz.none rfl rfl rfl ?_
          refine Opz.val (R.pick rfl rfl) rfl rfl rfl ?_
          refine Opz.val (R.move rfl) rfl rfl rfl ?_
          first | refine Opz.guardD 16 rfl (fun hq3 => ?_) (fun hq3 => ?_) | refine Opz.guard 16 rfl (fun hq3 => ?_) (fun hq3 => ?_)
          ·
            -- g16T
            try (first | contradiction | (exfalso; omega))
            all_goals
              refine Opz.none rfl rfl rfl ?_
              refine Opz.none rfl rfl rfl ?_
              refine Opz.val (R.pick rfl rfl) rfl rfl rfl ?_
              refine Opz.val (by first | exact R.nilP rfl | exact R.nilF rfl) rfl rfl rfl ?_
              refine Opz.val (by first | exact R.field (off := 1) rfl Try.underlying89 rfl Try.typeInfo4 rfl rfl | exact R.fieldA rfl Try.underlying89 rfl Try.typeInfo4 rfl) rfl rfl rfl ?_
              refine Opz.opU (by exact W.store rfl rfl rfl rfl Try.typeInfo4 rfl (by repeat (first | exact Upd.head | apply Upd.tail)) (by repeat (first | exact SetAt.zero | apply SetAt.succ))) rfl rfl ?_
              rintro _ _ _ ⟨rfl, rfl, rfl⟩
              refine Opz.nil ?_
              refine seqQ.normal ?_
              refine Cd.seq ?_
              refine Cd.region ?_
              refine Opz.val (R.move rfl) rfl rfl rfl ?_
              refine Opz.val (R.move rfl) rfl rfl rfl ?_
              refine Opz.val (by first | exact R.conv rfl Try.underlying3 Try.underlying49 (by first | exact ⟨by simp only [loK]; omega, by simp only [hiK]; omega⟩ | exact wr_inR rfl _) | exact R.convW rfl Try.underlying3 Try.underlying49) rfl rfl rfl ?_
              refine Opz.op (by exact W.call rfl rfl Try.call43 (Lay_spec) rfl (Take.cons (by repeat (first | exact Rem.head | apply Rem.tail | exact Rem.mid)) (Take.cons (by repeat (first | exact Rem.head | apply Rem.tail | exact Rem.mid)) Take.nil))) rfl rfl rfl ?_
              rintro v25 I25 _ ⟨hI25, M25, hp25, rfl⟩
              obtain ⟨A25, c25, rfl, rfl, rfl⟩ := hp25
              refine Opz.val (R.assign rfl) rfl rfl rfl ?_
              refine Opz.nil ?_
              refine seqQ.normal ?_
              refine Cd.ret ?_
              -- path c1F g12T g16T
              refine fin.ret (L' := []) (ResOK.tmp rfl ResOK.nil) (by first | exact hle | exact Imm.le_refl _) ?_ ?_
              · repeat (first | exact Have.refl | (refine Have.cons (by repeat (first | exact Rem.head | apply Rem.tail | exact Rem.mid)) ?_) | refine Have.skip ?_ | refine Have.app ?_)
              ·
                exact Ret.mk rfl
          ·
            -- g16F
            try (first | contradiction | (exfalso; omega))
            all_goals
              refine Opz.val (R.move rfl) rfl rfl rfl ?_
              refine Opz.val (R.gtr rfl rfl) rfl rfl rfl ?_
              refine Opz.val (R.pick rfl rfl) rfl rfl rfl ?_
              refine Opz.val (by first | exact R.nilP rfl | exact R.nilF rfl) rfl rfl rfl ?_
              refine Opz.val (by first | exact R.field (off := 1) rfl Try.underlying89 rfl Try.typeInfo4 rfl rfl | exact R.fieldA rfl Try.underlying89 rfl Try.typeInfo4 rfl) rfl rfl rfl ?_
              refine Opz.opU (by exact W.store rfl rfl rfl rfl Try.typeInfo4 rfl (by repeat (first | exact Upd.head | apply Upd.tail)) (by repeat (first | exact SetAt.zero | apply SetAt.succ))) rfl rfl ?_
              rintro _ _ _ ⟨rfl, rfl, rfl⟩
              refine Opz.nil ?_
              refine seqQ.normal ?_
              refine Cd.seq ?_
              refine Cd.region ?_
              refine Opz.val (R.move rfl) rfl rfl rfl ?_
              refine Opz.val (R.move rfl) rfl rfl rfl ?_
              refine Opz.val (by first | exact R.conv rfl Try.underlying3 Try.underlying49 (by first | exact ⟨by simp only [loK]; omega, by simp only [hiK]; omega⟩ | exact wr_inR rfl _) | exact R.convW rfl Try.underlying3 Try.underlying49) rfl rfl rfl ?_
              refine Opz.op (by exact W.call rfl rfl Try.call43 (Lay_spec) rfl (Take.cons (by repeat (first | exact Rem.head | apply Rem.tail | exact Rem.mid)) (Take.cons (by repeat (first | exact Rem.head | apply Rem.tail | exact Rem.mid)) Take.nil))) rfl rfl rfl ?_
              rintro v25 I25 _ ⟨hI25, M25, hp25, rfl⟩
              obtain ⟨A25, c25, rfl, rfl, rfl⟩ := hp25
              refine Opz.val (R.assign rfl) rfl rfl rfl ?_
              refine Opz.nil ?_
              refine seqQ.normal ?_
              refine Cd.ret ?_
              -- path c1F g12T g16F
              refine fin.ret (L' := []) (ResOK.tmp rfl ResOK.nil) (by first | exact hle | exact Imm.le_refl _) ?_ ?_
              · repeat (first | exact Have.refl | (refine Have.cons (by repeat (first | exact Rem.head | apply Rem.tail | exact Rem.mid)) ?_) | refine Have.skip ?_ | refine Have.app ?_)
              ·
                exact Ret.mk rfl
      ·
        -- g12F
        try (first | contradiction | (exfalso; omega))
        all_goals
          refine Opz.val (R.move rfl) rfl rfl rfl ?_
          refine Opz.val (R.lss rfl rfl) rfl rfl rfl ?_
          refine Opz.val (R.pick rfl rfl) rfl rfl rfl ?_
          refine Opz.val (R.move rfl) rfl rfl rfl ?_
          first | refine Opz.guardD 16 rfl (fun hq4 => ?_) (fun hq4 => ?_) | refine Opz.guard 16 rfl (fun hq4 => ?_) (fun hq4 => ?_)
          ·
            -- g16T
            try (first | contradiction | (exfalso; omega))
            all_goals
              refine Opz.none rfl rfl rfl ?_
              refine Opz.none rfl rfl rfl ?_
              refine Opz.val (R.pick rfl rfl) rfl rfl rfl ?_
              refine Opz.val (by first | exact R.nilP rfl | exact R.nilF rfl) rfl rfl rfl ?_
              refine Opz.val (by first | exact R.field (off := 1) rfl Try.underlying89 rfl Try.typeInfo4 rfl rfl | exact R.fieldA rfl Try.underlying89 rfl Try.typeInfo4 rfl) rfl rfl rfl ?_
              refine Opz.opU (by exact W.store rfl rfl rfl rfl Try.typeInfo4 rfl (by repeat (first | exact Upd.head | apply Upd.tail)) (by repeat (first | exact SetAt.zero | apply SetAt.succ))) rfl rfl ?_
              rintro _ _ _ ⟨rfl, rfl, rfl⟩
              refine Opz.nil ?_
              refine seqQ.normal ?_
              refine Cd.seq ?_
              refine Cd.region ?_
              refine Opz.val (R.move rfl) rfl rfl rfl ?_
              refine Opz.val (R.move rfl) rfl rfl rfl ?_
              refine Opz.val (by first | exact R.conv rfl Try.underlying3 Try.underlying49 (by first | exact ⟨by simp only [loK]; omega, by simp only [hiK]; omega⟩ | exact wr_inR rfl _) | exact R.convW rfl Try.underlying3 Try.underlying49) rfl rfl rfl ?_
              refine Opz.op (by exact W.call rfl rfl Try.call43 (Lay_spec) rfl (Take.cons (by repeat (first | exact Rem.head | apply Rem.tail | exact Rem.mid)) (Take.cons (by repeat (first | exact Rem.head | apply Rem.tail | exact Rem.mid)) Take.nil))) rfl rfl rfl ?_
              rintro v25 I25 _ ⟨hI25, M25, hp25, rfl⟩
              obtain ⟨A25, c25, rfl, rfl, rfl⟩ := hp25
              refine Opz.val (R.assign rfl) rfl rfl rfl ?_
              refine Opz.nil ?_
              refine seqQ.normal ?_
              refine Cd.ret ?_
              -- path c1F g12F g16T
              refine fin.ret (L' := []) (ResOK.tmp rfl ResOK.nil) (by first | exact hle | exact Imm.le_refl _) ?_ ?_
              · repeat (first | exact Have.refl | (refine Have.cons (by repeat (first | exact Rem.head | apply Rem.tail | exact Rem.mid)) ?_) | refine Have.skip ?_ | refine Have.app ?_)
              ·
                exact Ret.mk rfl
          ·
            -- g16F
            try (first | contradiction | (exfalso; omega))
            all_goals
              refine Opz.val (R.move rfl) rfl rfl rfl ?_
              refine Opz.val (R.gtr rfl rfl) rfl rfl rfl ?_
              refine Opz.val (R.pick rfl rfl) rfl rfl rfl ?_
              refine Opz.val (by first | exact R.nilP rfl | exact R.nilF rfl) rfl rfl rfl ?_
              refine Opz.val (by first | exact R.field (off := 1) rfl Try.underlying89 rfl Try.typeInfo4 rfl rfl | exact R.fieldA rfl Try.underlying89 rfl Try.typeInfo4 rfl) rfl rfl rfl ?_
              refine Opz.opU (by exact W.store rfl rfl rfl rfl Try.typeInfo4 rfl (by repeat (first | exact Upd.head | apply Upd.tail)) (by repeat (first | exact SetAt.zero | apply SetAt.succ))) rfl rfl ?_
              rintro _ _ _ ⟨rfl, rfl, rfl⟩
              refine Opz.nil ?_
              refine seqQ.normal ?_
              refine Cd.seq ?_
              refine Cd.region ?_
              refine Opz.val (R.move rfl) rfl rfl rfl ?_
              refine Opz.val (R.move rfl) rfl rfl rfl ?_
              refine Opz.val (by first | exact R.conv rfl Try.underlying3 Try.underlying49 (by first | exact ⟨by simp only [loK]; omega, by simp only [hiK]; omega⟩ | exact wr_inR rfl _) | exact R.convW rfl Try.underlying3 Try.underlying49) rfl rfl rfl ?_
              refine Opz.op (by exact W.call rfl rfl Try.call43 (Lay_spec) rfl (Take.cons (by repeat (first | exact Rem.head | apply Rem.tail | exact Rem.mid)) (Take.cons (by repeat (first | exact Rem.head | apply Rem.tail | exact Rem.mid)) Take.nil))) rfl rfl rfl ?_
              rintro v25 I25 _ ⟨hI25, M25, hp25, rfl⟩
              obtain ⟨A25, c25, rfl, rfl, rfl⟩ := hp25
              refine Opz.val (R.assign rfl) rfl rfl rfl ?_
              refine Opz.nil ?_
              refine seqQ.normal ?_
              refine Cd.ret ?_
              -- path c1F g12F g16F
              refine fin.ret (L' := []) (ResOK.tmp rfl ResOK.nil) (by first | exact hle | exact Imm.le_refl _) ?_ ?_
              · repeat (first | exact Have.refl | (refine Have.cons (by repeat (first | exact Rem.head | apply Rem.tail | exact Rem.mid)) ?_) | refine Have.skip ?_ | refine Have.app ?_)
              ·
                exact Ret.mk rfl


set_option maxRecDepth 100000 in
set_option maxHeartbeats 400000 in
theorem PGreat0_spec {I : Imm} {n : Int} :
    Meets Try.prog 24 #[.pointer none, .int .u64 n] I ([]) (Ret I (.pointer none)) := by
  refine Meets.intro (args := [.pointer none, .int .u64 n]) (N := 10) (rs := [.tmp 4]) Try.func24 rfl rfl rfl rfl (fun F => ?_)
  change Cd _ _ _ [(0, .pointer none), (1, .int .u64 n)] I (F) _
  have hle := Imm.le_refl I
  refine Cd.seq ?_
  refine Cd.region ?_
  refine Opz.val (R.assign rfl) rfl rfl rfl ?_
  refine Opz.nil ?_
  refine seqQ.normal ?_
  refine Cd.seq ?_
  refine Cd.seq ?_
  refine Cd.region ?_
  refine Opz.val (R.move rfl) rfl rfl rfl ?_
  refine Opz.val (by first | exact R.eqPN rfl rfl Try.underlying47 | exact R.eqNN rfl rfl Try.underlying47) rfl rfl rfl ?_
  refine Opz.nil ?_
  refine seqQ.normal ?_
  first | refine Cd.condD rfl (fun hq1 => ?_) (fun hq1 => ?_) | refine Cd.cond rfl (fun hq1 => ?_) (fun hq1 => ?_)
  ·
    -- c1T
    try (first | contradiction | (exfalso; omega))
    all_goals
      refine Cd.seq ?_
      refine Cd.region ?_
      refine Opz.val (R.assign rfl) rfl rfl rfl ?_
      refine Opz.nil ?_
      refine seqQ.normal ?_
      refine Cd.ret ?_
      refine seqQ.ret ?_
      -- path c1T
      refine fin.ret (L' := []) (ResOK.tmp rfl ResOK.nil) (by first | exact hle | exact Imm.le_refl _) ?_ ?_
      · repeat (first | exact Have.refl | (refine Have.cons (by repeat (first | exact Rem.head | apply Rem.tail | exact Rem.mid)) ?_) | refine Have.skip ?_ | refine Have.app ?_)
      ·
        exact Ret.mk rfl
  ·
    -- c1F
    try (first | contradiction | (exfalso; omega))
    all_goals
      refine Cd.skip ?_
      refine seqQ.normal ?_
      refine Cd.seq ?_
      refine Cd.region ?_
      refine Opz.val (R.move rfl) rfl rfl rfl ?_
      refine Opz.val (R.move rfl) rfl rfl rfl ?_
      refine Opz.op (by exact W.call rfl rfl Try.call43 (Lay_spec) rfl (Take.cons (by repeat (first | exact Rem.head | apply Rem.tail | exact Rem.mid)) (Take.cons (by repeat (first | exact Rem.head | apply Rem.tail | exact Rem.mid)) Take.nil))) rfl rfl rfl ?_
      rintro v9 I9 _ ⟨hI9, M9, hp9, rfl⟩
      obtain ⟨A9, c9, rfl, rfl, rfl⟩ := hp9
      refine Opz.val (R.assign rfl) rfl rfl rfl ?_
      refine Opz.nil ?_
      refine seqQ.normal ?_
      refine Cd.ret ?_
      -- path c1F
      refine fin.ret (L' := []) (ResOK.tmp rfl ResOK.nil) (by first | exact hle | exact Imm.le_refl _) ?_ ?_
      · repeat (first | exact Have.refl | (refine Have.cons (by repeat (first | exact Rem.head | apply Rem.tail | exact Rem.mid)) ?_) | refine Have.skip ?_ | refine Have.app ?_)
      ·
        exact Ret.mk rfl


set_option maxRecDepth 100000 in
set_option maxHeartbeats 400000 in
theorem PBytes0_spec {I : Imm} {v : Value} :
    Meets Try.prog 26 #[.pointer none, v] I ([]) (Ret I (.pointer none)) := by
  refine Meets.intro (args := [.pointer none, v]) (N := 21) (rs := [.tmp 4]) Try.func26 rfl rfl rfl rfl (fun F => ?_)
  change Cd _ _ _ [(0, .pointer none), (1, v)] I (F) _
  have hle := Imm.le_refl I
  refine Cd.seq ?_
  refine Cd.region ?_
  refine Opz.val (R.assign rfl) rfl rfl rfl ?_
  refine Opz.nil ?_
  refine seqQ.normal ?_
  refine Cd.seq ?_
  refine Cd.seq ?_
  refine Cd.region ?_
  refine Opz.val (R.move rfl) rfl rfl rfl ?_
  refine Opz.val (by first | exact R.eqPN rfl rfl Try.underlying47 | exact R.eqNN rfl rfl Try.underlying47) rfl rfl rfl ?_
  refine Opz.nil ?_
  refine seqQ.normal ?_
  first | refine Cd.condD rfl (fun hq1 => ?_) (fun hq1 => ?_) | refine Cd.cond rfl (fun hq1 => ?_) (fun hq1 => ?_)
  ·
    -- c1T
    try (first | contradiction | (exfalso; omega))
    all_goals
      refine Cd.seq ?_
      refine Cd.region ?_
      refine Opz.val (R.assign rfl) rfl rfl rfl ?_
      refine Opz.nil ?_
      refine seqQ.normal ?_
      refine Cd.ret ?_
      refine seqQ.ret ?_
      -- path c1T
      refine fin.ret (L' := []) (ResOK.tmp rfl ResOK.nil) (by first | exact hle | exact Imm.le_refl _) ?_ ?_
      · repeat (first | exact Have.refl | (refine Have.cons (by repeat (first | exact Rem.head | apply Rem.tail | exact Rem.mid)) ?_) | refine Have.skip ?_ | refine Have.app ?_)
      ·
        exact Ret.mk rfl
  ·
    -- c1F
    try (first | contradiction | (exfalso; omega))
    all_goals
      refine Cd.skip ?_
      refine seqQ.normal ?_
      refine Cd.seq ?_
      refine Cd.region ?_
      refine Opz.val (R.move rfl) rfl rfl rfl ?_
      refine Opz.val (R.move rfl) rfl rfl rfl ?_
      refine Opz.val (R.len rfl rfl Try.underlying27) rfl rfl rfl ?_
      refine Opz.op (by exact W.call rfl rfl Try.call22 (PSmall_spec) rfl (Take.cons (by repeat (first | exact Rem.head | apply Rem.tail | exact Rem.mid)) (Take.cons (by repeat (first | exact Rem.head | apply Rem.tail | exact Rem.mid)) Take.nil))) rfl rfl rfl ?_
      rintro v10 I10 _ ⟨hI10, M10, hp10, rfl⟩
      obtain ⟨A10, c10, rfl, rfl, rfl⟩ := hp10
      refine Opz.nil ?_
      refine seqQ.normal ?_
      refine Cd.seq ?_
      refine Cd.region ?_
      refine Opz.val (R.move rfl) rfl rfl rfl ?_
      refine Opz.val (R.move rfl) rfl rfl rfl ?_
      refine Opz.val (by first | exact R.nilP rfl | exact R.nilF rfl) rfl rfl rfl ?_
      refine Opz.val (by first | exact R.field (off := 0) rfl Try.underlying89 rfl Try.typeInfo27 rfl rfl | exact R.fieldA rfl Try.underlying89 rfl Try.typeInfo27 rfl) rfl rfl rfl ?_
      refine Opz.val (by exact R.load rfl Try.underlying27 rfl (by first | exact cellL (by repeat (first | exact List.Mem.head _ | apply List.Mem.tail)) rfl | exact cellI (by assumption) | (exact cellRow (by repeat (first | exact List.Mem.head _ | apply List.Mem.tail)) (by assumption) (by assumption)))) rfl rfl rfl ?_
      refine Opz.val (R.move rfl) rfl rfl rfl ?_
      refine Opz.op (by exact W.append (e := 5) (sz := 1) (by' := 1) rfl rfl Try.underlying27 Try.type5 rfl rfl rfl rfl rfl (by repeat (first | exact Rem.head | apply Rem.tail | exact Rem.mid)) rfl (newsRow (by repeat (first | exact List.Mem.head _ | apply List.Mem.tail))) (by simp [Value.oneCell']) (by omega) rfl) rfl rfl rfl ?_
      rintro _ _ _ ⟨A17, c17, rfl, rfl, rfl⟩
      refine Opz.val (by first | exact R.nilP rfl | exact R.nilF rfl) rfl rfl rfl ?_
      refine Opz.val (by first | exact R.field (off := 0) rfl Try.underlying89 rfl Try.typeInfo27 rfl rfl | exact R.fieldA rfl Try.underlying89 rfl Try.typeInfo27 rfl) rfl rfl rfl ?_
      refine Opz.opU (by exact W.store rfl rfl rfl rfl Try.typeInfo27 rfl (by repeat (first | exact Upd.head | apply Upd.tail)) (by repeat (first | exact SetAt.zero | apply SetAt.succ))) rfl rfl ?_
      rintro _ _ _ ⟨rfl, rfl, rfl⟩
      refine Opz.nil ?_
      refine seqQ.normal ?_
      refine Cd.seq ?_
      refine Cd.region ?_
      refine Opz.val (R.move rfl) rfl rfl rfl ?_
      refine Opz.val (R.assign rfl) rfl rfl rfl ?_
      refine Opz.nil ?_
      refine seqQ.normal ?_
      refine Cd.ret ?_
      -- path c1F
      refine fin.ret (L' := []) (ResOK.tmp rfl ResOK.nil) (by first | exact hle | exact Imm.le_refl _) ?_ ?_
      · repeat (first | exact Have.refl | (refine Have.cons (by repeat (first | exact Rem.head | apply Rem.tail | exact Rem.mid)) ?_) | refine Have.skip ?_ | refine Have.app ?_)
      ·
        exact Ret.mk rfl


set_option maxRecDepth 100000 in
set_option maxHeartbeats 400000 in
theorem PSeal0_spec {I : Imm} :
    Meets Try.prog 28 #[.pointer none] I ([]) (Ret I (.tuple #[.slice none 0 0, .int .i64 1])) := by
  refine Meets.intro (args := [.pointer none]) (N := 39) (rs := [.tmp 2, .tmp 3]) Try.func28 rfl rfl rfl rfl (fun F => ?_)
  change Cd _ _ _ [(0, .pointer none)] I (F) _
  have hle := Imm.le_refl I
  refine Cd.seq ?_
  refine Cd.region ?_
  refine Opz.val (R.assign rfl) rfl rfl rfl ?_
  refine Opz.val (R.assign rfl) rfl rfl rfl ?_
  refine Opz.nil ?_
  refine seqQ.normal ?_
  refine Cd.seq ?_
  refine Cd.block ?_
  refine Cd.seq ?_
  refine Cd.region ?_
  refine Opz.val (R.move rfl) rfl rfl rfl ?_
  refine Opz.val (by first | exact R.eqPN rfl rfl Try.underlying47 | exact R.eqNN rfl rfl Try.underlying47) rfl rfl rfl ?_
  refine Opz.val (R.assign rfl) rfl rfl rfl ?_
  refine Opz.nil ?_
  refine seqQ.normal ?_
  first | refine Cd.condD rfl (fun hq1 => ?_) (fun hq1 => ?_) | refine Cd.cond rfl (fun hq1 => ?_) (fun hq1 => ?_)
  ·
    -- c1T
    try (first | contradiction | (exfalso; omega))
    all_goals
      refine Cd.seq ?_
      refine Cd.region ?_
      refine Opz.val (R.assign rfl) rfl rfl rfl ?_
      refine Opz.val (R.assign rfl) rfl rfl rfl ?_
      refine Opz.nil ?_
      refine seqQ.normal ?_
      refine Cd.ret ?_
      refine blkQ.ret ?_
      refine seqQ.ret ?_
      -- path c1T
      refine fin.ret (L' := []) (ResOK.tmp rfl (ResOK.tmp rfl ResOK.nil)) (by first | exact hle | exact Imm.le_refl _) ?_ ?_
      · repeat (first | exact Have.refl | (refine Have.cons (by repeat (first | exact Rem.head | apply Rem.tail | exact Rem.mid)) ?_) | refine Have.skip ?_ | refine Have.app ?_)
      ·
        exact Ret.mk rfl
  ·
    -- c1F
    try (first | contradiction | (exfalso; omega))
    all_goals
      refine Cd.seq ?_
      refine Cd.region ?_
      refine Opz.val (R.move rfl) rfl rfl rfl ?_
      refine Opz.val (by first | exact R.nilP rfl | exact R.nilF rfl) rfl rfl rfl ?_
      refine Opz.val (by first | exact R.field (off := 1) rfl Try.underlying89 rfl Try.typeInfo4 rfl rfl | exact R.fieldA rfl Try.underlying89 rfl Try.typeInfo4 rfl) rfl rfl rfl ?_
      refine Opz.val (by exact R.load rfl Try.underlying4 rfl (by first | exact cellL (by repeat (first | exact List.Mem.head _ | apply List.Mem.tail)) rfl | exact cellI (by assumption) | (exact cellRow (by repeat (first | exact List.Mem.head _ | apply List.Mem.tail)) (by assumption) (by assumption)))) rfl rfl rfl ?_
      refine Opz.val (R.assign rfl) rfl rfl rfl ?_
      refine Opz.nil ?_
      refine seqQ.normal ?_
      first | refine Cd.condD rfl (fun hq2 => ?_) (fun hq2 => ?_) | refine Cd.cond rfl (fun hq2 => ?_) (fun hq2 => ?_)
      ·
        -- c2T
        try (first | contradiction | (exfalso; omega))
        all_goals
          refine Cd.seq ?_
          refine Cd.region ?_
          refine Opz.val (R.assign rfl) rfl rfl rfl ?_
          refine Opz.val (R.assign rfl) rfl rfl rfl ?_
          refine Opz.nil ?_
          refine seqQ.normal ?_
          refine Cd.ret ?_
          refine blkQ.ret ?_
          refine seqQ.ret ?_
          -- path c1F c2T
          refine fin.ret (L' := []) (ResOK.tmp rfl (ResOK.tmp rfl ResOK.nil)) (by first | exact hle | exact Imm.le_refl _) ?_ ?_
          · repeat (first | exact Have.refl | (refine Have.cons (by repeat (first | exact Rem.head | apply Rem.tail | exact Rem.mid)) ?_) | refine Have.skip ?_ | refine Have.app ?_)
          ·
            exact Ret.mk rfl
      ·
        -- c2F
        try (first | contradiction | (exfalso; omega))
        all_goals
          refine Cd.seq ?_
          refine Cd.region ?_
          refine Opz.val (R.move rfl) rfl rfl rfl ?_
          refine Opz.val (by first | exact R.nilP rfl | exact R.nilF rfl) rfl rfl rfl ?_
          refine Opz.val (by first | exact R.field (off := 0) rfl Try.underlying89 rfl Try.typeInfo27 rfl rfl | exact R.fieldA rfl Try.underlying89 rfl Try.typeInfo27 rfl) rfl rfl rfl ?_
          refine Opz.val (by exact R.load rfl Try.underlying27 rfl (by first | exact cellL (by repeat (first | exact List.Mem.head _ | apply List.Mem.tail)) rfl | exact cellI (by assumption) | (exact cellRow (by repeat (first | exact List.Mem.head _ | apply List.Mem.tail)) (by assumption) (by assumption)))) rfl rfl rfl ?_
          refine Opz.val (R.len rfl rfl Try.underlying27) rfl rfl rfl ?_
          refine Opz.val (R.gtr rfl rfl) rfl rfl rfl ?_
          refine Opz.val (R.assign rfl) rfl rfl rfl ?_
          refine Opz.nil ?_
          refine seqQ.normal ?_
          first | refine Cd.condD rfl (fun hq3 => ?_) (fun hq3 => ?_) | refine Cd.cond rfl (fun hq3 => ?_) (fun hq3 => ?_)
          ·
            -- c3T
            try (first | contradiction | (exfalso; omega))
            all_goals
              refine Cd.seq ?_
              refine Cd.region ?_
              refine Opz.val (R.assign rfl) rfl rfl rfl ?_
              refine Opz.val (R.assign rfl) rfl rfl rfl ?_
              refine Opz.nil ?_
              refine seqQ.normal ?_
              refine Cd.ret ?_
              refine blkQ.ret ?_
              refine seqQ.ret ?_
              -- path c1F c2F c3T
              refine fin.ret (L' := []) (ResOK.tmp rfl (ResOK.tmp rfl ResOK.nil)) (by first | exact hle | exact Imm.le_refl _) ?_ ?_
              · repeat (first | exact Have.refl | (refine Have.cons (by repeat (first | exact Rem.head | apply Rem.tail | exact Rem.mid)) ?_) | refine Have.skip ?_ | refine Have.app ?_)
              ·
                exact Ret.mk rfl
          ·
            -- c3F
            try (first | contradiction | (exfalso; omega))
            all_goals
              refine Cd.skip ?_
              refine blkQ.normal ?_
              refine seqQ.normal ?_
              refine Cd.seq ?_
              refine Cd.region ?_
              refine Opz.val (R.move rfl) rfl rfl rfl ?_
              refine Opz.val (by first | exact R.nilP rfl | exact R.nilF rfl) rfl rfl rfl ?_
              refine Opz.val (by first | exact R.field (off := 0) rfl Try.underlying89 rfl Try.typeInfo27 rfl rfl | exact R.fieldA rfl Try.underlying89 rfl Try.typeInfo27 rfl) rfl rfl rfl ?_
              refine Opz.val (by exact R.load rfl Try.underlying27 rfl (by first | exact cellL (by repeat (first | exact List.Mem.head _ | apply List.Mem.tail)) rfl | exact cellI (by assumption) | (exact cellRow (by repeat (first | exact List.Mem.head _ | apply List.Mem.tail)) (by assumption) (by assumption)))) rfl rfl rfl ?_
              refine Opz.op (by exact W.call rfl rfl Try.call44 (Clone_spec) rfl (Take.app' L0 _)) rfl rfl rfl ?_
              rintro v24 I24 _ ⟨hI24, M24, hp24, rfl⟩
              obtain ⟨A24, c24, rfl, rfl, rfl⟩ := hp24
              refine Opz.val (by exact R.build #[(0, 1), (1, 1)] Try.underlying89 Try.zeroValue89 rfl (fun w => by kernel_rfl) rfl (FillTo.one rfl rfl (by repeat (first | exact SetAt.zero | apply SetAt.succ)) FillTo.nil)) rfl rfl rfl ?_
              refine Opz.op (W.boxA rfl) rfl rfl rfl ?_
              rintro _ _ _ ⟨b26, rfl, rfl, rfl⟩
              refine Opz.val (R.assign rfl) rfl rfl rfl ?_
              refine Opz.nil ?_
              refine seqQ.normal ?_
              refine Cd.seq ?_
              refine Cd.region ?_
              refine Opz.val (R.move rfl) rfl rfl rfl ?_
              refine Opz.val (R.move rfl) rfl rfl rfl ?_
              refine Opz.val (by first | exact R.nilP rfl | exact R.nilF rfl) rfl rfl rfl ?_
              refine Opz.val (by first | exact R.field (off := 0) rfl Try.underlying89 rfl Try.typeInfo27 rfl rfl | exact R.fieldA rfl Try.underlying89 rfl Try.typeInfo27 rfl) rfl rfl rfl ?_
              refine Opz.val (by exact R.load rfl Try.underlying27 rfl (by first | exact cellL (by repeat (first | exact List.Mem.head _ | apply List.Mem.tail)) rfl | exact cellI (by assumption) | (exact cellRow (by repeat (first | exact List.Mem.head _ | apply List.Mem.tail)) (by assumption) (by assumption)))) rfl rfl rfl ?_
              refine Opz.op (by exact W.call rfl rfl Try.call38 (Check_spec) rfl (Take.app' L0 _)) rfl rfl rfl ?_
              rintro v32 I32 _ ⟨hI32, M32, hp32, rfl⟩
              obtain ⟨rfl, rfl, rfl⟩ := hp32
              refine Opz.val (by first | exact R.conv rfl Try.underlying76 Try.underlying49 (by first | exact ⟨by simp only [loK]; omega, by simp only [hiK]; omega⟩ | exact wr_inR rfl _) | exact R.convW rfl Try.underlying76 Try.underlying49) rfl rfl rfl ?_
              refine Opz.op (by exact W.call rfl rfl Try.call43 (Lay_spec) rfl (Take.cons (by repeat (first | exact Rem.head | apply Rem.tail | exact Rem.mid)) (Take.cons (by repeat (first | exact Rem.head | apply Rem.tail | exact Rem.mid)) Take.nil))) rfl rfl rfl ?_
              rintro v34 I34 _ ⟨hI34, M34, hp34, rfl⟩
              obtain ⟨A34, c34, rfl, rfl, rfl⟩ := hp34
              refine Opz.val (by first | exact R.nilP rfl | exact R.nilF rfl) rfl rfl rfl ?_
              refine Opz.val (by first | exact R.field (off := 0) rfl Try.underlying89 rfl Try.typeInfo27 rfl rfl | exact R.fieldA rfl Try.underlying89 rfl Try.typeInfo27 rfl) rfl rfl rfl ?_
              refine Opz.val (by exact R.load rfl Try.underlying27 rfl (by first | exact cellL (by repeat (first | exact List.Mem.head _ | apply List.Mem.tail)) rfl | exact cellI (by assumption) | (exact cellRow (by repeat (first | exact List.Mem.head _ | apply List.Mem.tail)) (by assumption) (by assumption)))) rfl rfl rfl ?_
              refine Opz.op (by exact W.call rfl rfl Try.call45 (Clip_spec) rfl Take.nil) rfl rfl rfl ?_
              rintro v38 I38 _ ⟨hI38, M38, hp38, rfl⟩
              obtain ⟨rfl, rfl, rfl⟩ := hp38
              refine Opz.val (R.assign rfl) rfl rfl rfl ?_
              refine Opz.val (R.assign rfl) rfl rfl rfl ?_
              refine Opz.nil ?_
              refine seqQ.normal ?_
              refine Cd.ret ?_
              -- path c1F c2F c3F
              refine fin.ret (L' := []) (ResOK.tmp rfl (ResOK.tmp rfl ResOK.nil)) (by first | exact hle | exact Imm.le_refl _) ?_ ?_
              · repeat (first | exact Have.refl | (refine Have.cons (by repeat (first | exact Rem.head | apply Rem.tail | exact Rem.mid)) ?_) | refine Have.skip ?_ | refine Have.app ?_)
              ·
                exact Ret.mk rfl


set_option maxRecDepth 100000 in
set_option maxHeartbeats 400000 in
theorem ETake0_spec {I : Imm} {n : Int} :
    Meets Try.prog 48 #[.pointer none, .int .i64 n] I ([]) (Ret I (.slice none 0 0)) := by
  refine Meets.intro (args := [.pointer none, .int .i64 n]) (N := 42) (rs := [.tmp 4]) Try.func48 rfl rfl rfl rfl (fun F => ?_)
  change Cd _ _ _ [(0, .pointer none), (1, .int .i64 n)] I (F) _
  have hle := Imm.le_refl I
  refine Cd.seq ?_
  refine Cd.region ?_
  refine Opz.val (R.assign rfl) rfl rfl rfl ?_
  refine Opz.nil ?_
  refine seqQ.normal ?_
  refine Cd.seq ?_
  refine Cd.seq ?_
  refine Cd.region ?_
  refine Opz.val (R.move rfl) rfl rfl rfl ?_
  refine Opz.val (by first | exact R.eqPN rfl rfl Try.underlying62 | exact R.eqNN rfl rfl Try.underlying62) rfl rfl rfl ?_
  refine Opz.val (R.move rfl) rfl rfl rfl ?_
  first | refine Opz.guardD 8 rfl (fun hq1 => ?_) (fun hq1 => ?_) | refine Opz.guard 8 rfl (fun hq1 => ?_) (fun hq1 => ?_)
  ·
    -- g8T
    try (first | contradiction | (exfalso; omega))
    all_goals
      refine Opz.none rfl rfl rfl ?_
      refine Opz.none rfl rfl rfl ?_
      refine Opz.none rfl rfl rfl ?_
      refine Opz.none rfl rfl rfl ?_
      refine Opz.none rfl rfl rfl ?_
      refine Opz.val (R.pick rfl rfl) rfl rfl rfl ?_
      refine Opz.nil ?_
      refine seqQ.normal ?_
      first | refine Cd.condD rfl (fun hq2 => ?_) (fun hq2 => ?_) | refine Cd.cond rfl (fun hq2 => ?_) (fun hq2 => ?_)
      ·
        -- c1T
        try (first | contradiction | (exfalso; omega))
        all_goals
          refine Cd.seq ?_
          refine Cd.region ?_
          refine Opz.val (R.assign rfl) rfl rfl rfl ?_
          refine Opz.nil ?_
          refine seqQ.normal ?_
          refine Cd.ret ?_
          refine seqQ.ret ?_
          -- path g8T c1T
          refine fin.ret (L' := []) (ResOK.tmp rfl ResOK.nil) (by first | exact hle | exact Imm.le_refl _) ?_ ?_
          · repeat (first | exact Have.refl | (refine Have.cons (by repeat (first | exact Rem.head | apply Rem.tail | exact Rem.mid)) ?_) | refine Have.skip ?_ | refine Have.app ?_)
          ·
            exact Ret.mk rfl
      ·
        -- c1F
        try (first | contradiction | (exfalso; omega))
        all_goals
          refine Cd.skip ?_
          refine seqQ.normal ?_
          refine Cd.seq ?_
          refine Cd.seq ?_
          refine Cd.region ?_
          refine Opz.val (R.move rfl) rfl rfl rfl ?_
          refine Opz.val (R.move rfl) rfl rfl rfl ?_
          refine Opz.val (by first | exact R.nilP rfl | exact R.nilF rfl) rfl rfl rfl ?_
          refine Opz.val (by first | exact R.field (off := 0) rfl Try.underlying93 rfl Try.typeInfo27 rfl rfl | exact R.fieldA rfl Try.underlying93 rfl Try.typeInfo27 rfl) rfl rfl rfl ?_
          refine Opz.val (by exact R.load rfl Try.underlying27 rfl (by first | exact cellL (by repeat (first | exact List.Mem.head _ | apply List.Mem.tail)) rfl | exact cellI (by assumption) | (exact cellRow (by repeat (first | exact List.Mem.head _ | apply List.Mem.tail)) (by assumption) (by assumption)))) rfl rfl rfl ?_
          refine Opz.val (R.len rfl rfl Try.underlying27) rfl rfl rfl ?_
          refine Opz.val (R.gtr rfl rfl) rfl rfl rfl ?_
          refine Opz.nil ?_
          refine seqQ.normal ?_
          first | refine Cd.condD rfl (fun hq3 => ?_) (fun hq3 => ?_) | refine Cd.cond rfl (fun hq3 => ?_) (fun hq3 => ?_)
          ·
            -- c2T
            try (first | contradiction | (exfalso; omega))
            all_goals
              refine Cd.seq ?_
              refine Cd.region ?_
              refine Opz.val (R.move rfl) rfl rfl rfl ?_
              refine Opz.val (by first | exact R.nilP rfl | exact R.nilF rfl) rfl rfl rfl ?_
              refine Opz.val (by first | exact R.field (off := 1) rfl Try.underlying93 rfl Try.typeInfo32 rfl rfl | exact R.fieldA rfl Try.underlying93 rfl Try.typeInfo32 rfl) rfl rfl rfl ?_
              refine Opz.opU (by exact W.store rfl rfl rfl rfl Try.typeInfo32 rfl (by repeat (first | exact Upd.head | apply Upd.tail)) (by repeat (first | exact SetAt.zero | apply SetAt.succ))) rfl rfl ?_
              rintro _ _ _ ⟨rfl, rfl, rfl⟩
              refine Opz.nil ?_
              refine seqQ.normal ?_
              refine Cd.seq ?_
              refine Cd.region ?_
              refine Opz.val (R.assign rfl) rfl rfl rfl ?_
              refine Opz.nil ?_
              refine seqQ.normal ?_
              refine Cd.ret ?_
              refine seqQ.ret ?_
              -- path g8T c1F c2T
              refine fin.ret (L' := []) (ResOK.tmp rfl ResOK.nil) (by first | exact hle | exact Imm.le_refl _) ?_ ?_
              · repeat (first | exact Have.refl | (refine Have.cons (by repeat (first | exact Rem.head | apply Rem.tail | exact Rem.mid)) ?_) | refine Have.skip ?_ | refine Have.app ?_)
              ·
                exact Ret.mk rfl
          ·
            -- c2F
            try (first | contradiction | (exfalso; omega))
            all_goals
              refine Cd.skip ?_
              refine seqQ.normal ?_
              refine Cd.seq ?_
              refine Cd.region ?_
              refine Opz.val (R.move rfl) rfl rfl rfl ?_
              refine Opz.val (by first | exact R.nilP rfl | exact R.nilF rfl) rfl rfl rfl ?_
              refine Opz.val (by first | exact R.field (off := 0) rfl Try.underlying93 rfl Try.typeInfo27 rfl rfl | exact R.fieldA rfl Try.underlying93 rfl Try.typeInfo27 rfl) rfl rfl rfl ?_
              refine Opz.val (by exact R.load rfl Try.underlying27 rfl (by first | exact cellL (by repeat (first | exact List.Mem.head _ | apply List.Mem.tail)) rfl | exact cellI (by assumption) | (exact cellRow (by repeat (first | exact List.Mem.head _ | apply List.Mem.tail)) (by assumption) (by assumption)))) rfl rfl rfl ?_
              refine Opz.val (R.move rfl) rfl rfl rfl ?_
              refine Opz.val (R.move rfl) rfl rfl rfl ?_
              refine Opz.val (by exact R.slHM rfl rfl rfl Try.underlying27 Try.typeInfo5 ⟨by omega, by omega, by omega⟩) rfl rfl rfl ?_
              refine Opz.val (R.assign rfl) rfl rfl rfl ?_
              refine Opz.nil ?_
              refine seqQ.normal ?_
              refine Cd.seq ?_
              refine Cd.region ?_
              refine Opz.val (R.move rfl) rfl rfl rfl ?_
              refine Opz.val (R.move rfl) rfl rfl rfl ?_
              refine Opz.val (by first | exact R.nilP rfl | exact R.nilF rfl) rfl rfl rfl ?_
              refine Opz.val (by first | exact R.field (off := 0) rfl Try.underlying93 rfl Try.typeInfo27 rfl rfl | exact R.fieldA rfl Try.underlying93 rfl Try.typeInfo27 rfl) rfl rfl rfl ?_
              refine Opz.val (by exact R.load rfl Try.underlying27 rfl (by first | exact cellL (by repeat (first | exact List.Mem.head _ | apply List.Mem.tail)) rfl | exact cellI (by assumption) | (exact cellRow (by repeat (first | exact List.Mem.head _ | apply List.Mem.tail)) (by assumption) (by assumption)))) rfl rfl rfl ?_
              refine Opz.val (R.move rfl) rfl rfl rfl ?_
              refine Opz.val (by exact R.slL 1 rfl rfl Try.underlying27 Try.typeInfo5 rfl ⟨by omega, by omega⟩) rfl rfl rfl ?_
              refine Opz.val (by first | exact R.nilP rfl | exact R.nilF rfl) rfl rfl rfl ?_
              refine Opz.val (by first | exact R.field (off := 0) rfl Try.underlying93 rfl Try.typeInfo27 rfl rfl | exact R.fieldA rfl Try.underlying93 rfl Try.typeInfo27 rfl) rfl rfl rfl ?_
              refine Opz.opU (by exact W.store rfl rfl rfl rfl Try.typeInfo27 rfl (by repeat (first | exact Upd.head | apply Upd.tail)) (by repeat (first | exact SetAt.zero | apply SetAt.succ))) rfl rfl ?_
              rintro _ _ _ ⟨rfl, rfl, rfl⟩
              refine Opz.nil ?_
              refine seqQ.normal ?_
              refine Cd.seq ?_
              refine Cd.region ?_
              refine Opz.val (R.move rfl) rfl rfl rfl ?_
              refine Opz.val (R.assign rfl) rfl rfl rfl ?_
              refine Opz.nil ?_
              refine seqQ.normal ?_
              refine Cd.ret ?_
              -- path g8T c1F c2F
              refine fin.ret (L' := []) (ResOK.tmp rfl ResOK.nil) (by first | exact hle | exact Imm.le_refl _) ?_ ?_
              · repeat (first | exact Have.refl | (refine Have.cons (by repeat (first | exact Rem.head | apply Rem.tail | exact Rem.mid)) ?_) | refine Have.skip ?_ | refine Have.app ?_)
              ·
                exact Ret.mk rfl
  ·
    -- g8F
    try (first | contradiction | (exfalso; omega))
    all_goals
      refine Opz.val (R.move rfl) rfl rfl rfl ?_
      refine Opz.val (by first | exact R.nilP rfl | exact R.nilF rfl) rfl rfl rfl ?_
      refine Opz.val (by first | exact R.field (off := 1) rfl Try.underlying93 rfl Try.typeInfo32 rfl rfl | exact R.fieldA rfl Try.underlying93 rfl Try.typeInfo32 rfl) rfl rfl rfl ?_
      refine Opz.val (by exact R.load rfl Try.underlying32 rfl (by first | exact cellL (by repeat (first | exact List.Mem.head _ | apply List.Mem.tail)) rfl | exact cellI (by assumption) | (exact cellRow (by repeat (first | exact List.Mem.head _ | apply List.Mem.tail)) (by assumption) (by assumption)))) rfl rfl rfl ?_
      refine Opz.val (R.neq rfl rfl) rfl rfl rfl ?_
      refine Opz.val (R.pick rfl rfl) rfl rfl rfl ?_
      refine Opz.nil ?_
      refine seqQ.normal ?_
      first | refine Cd.condD rfl (fun hq4 => ?_) (fun hq4 => ?_) | refine Cd.cond rfl (fun hq4 => ?_) (fun hq4 => ?_)
      ·
        -- c1T
        try (first | contradiction | (exfalso; omega))
        all_goals
          refine Cd.seq ?_
          refine Cd.region ?_
          refine Opz.val (R.assign rfl) rfl rfl rfl ?_
          refine Opz.nil ?_
          refine seqQ.normal ?_
          refine Cd.ret ?_
          refine seqQ.ret ?_
          -- path g8F c1T
          refine fin.ret (L' := []) (ResOK.tmp rfl ResOK.nil) (by first | exact hle | exact Imm.le_refl _) ?_ ?_
          · repeat (first | exact Have.refl | (refine Have.cons (by repeat (first | exact Rem.head | apply Rem.tail | exact Rem.mid)) ?_) | refine Have.skip ?_ | refine Have.app ?_)
          ·
            exact Ret.mk rfl
      ·
        -- c1F
        try (first | contradiction | (exfalso; omega))
        all_goals
          refine Cd.skip ?_
          refine seqQ.normal ?_
          refine Cd.seq ?_
          refine Cd.seq ?_
          refine Cd.region ?_
          refine Opz.val (R.move rfl) rfl rfl rfl ?_
          refine Opz.val (R.move rfl) rfl rfl rfl ?_
          refine Opz.val (by first | exact R.nilP rfl | exact R.nilF rfl) rfl rfl rfl ?_
          refine Opz.val (by first | exact R.field (off := 0) rfl Try.underlying93 rfl Try.typeInfo27 rfl rfl | exact R.fieldA rfl Try.underlying93 rfl Try.typeInfo27 rfl) rfl rfl rfl ?_
          refine Opz.val (by exact R.load rfl Try.underlying27 rfl (by first | exact cellL (by repeat (first | exact List.Mem.head _ | apply List.Mem.tail)) rfl | exact cellI (by assumption) | (exact cellRow (by repeat (first | exact List.Mem.head _ | apply List.Mem.tail)) (by assumption) (by assumption)))) rfl rfl rfl ?_
          refine Opz.val (R.len rfl rfl Try.underlying27) rfl rfl rfl ?_
          refine Opz.val (R.gtr rfl rfl) rfl rfl rfl ?_
          refine Opz.nil ?_
          refine seqQ.normal ?_
          first | refine Cd.condD rfl (fun hq5 => ?_) (fun hq5 => ?_) | refine Cd.cond rfl (fun hq5 => ?_) (fun hq5 => ?_)
          ·
            -- c2T
            try (first | contradiction | (exfalso; omega))
            all_goals
              refine Cd.seq ?_
              refine Cd.region ?_
              refine Opz.val (R.move rfl) rfl rfl rfl ?_
              refine Opz.val (by first | exact R.nilP rfl | exact R.nilF rfl) rfl rfl rfl ?_
              refine Opz.val (by first | exact R.field (off := 1) rfl Try.underlying93 rfl Try.typeInfo32 rfl rfl | exact R.fieldA rfl Try.underlying93 rfl Try.typeInfo32 rfl) rfl rfl rfl ?_
              refine Opz.opU (by exact W.store rfl rfl rfl rfl Try.typeInfo32 rfl (by repeat (first | exact Upd.head | apply Upd.tail)) (by repeat (first | exact SetAt.zero | apply SetAt.succ))) rfl rfl ?_
              rintro _ _ _ ⟨rfl, rfl, rfl⟩
              refine Opz.nil ?_
              refine seqQ.normal ?_
              refine Cd.seq ?_
              refine Cd.region ?_
              refine Opz.val (R.assign rfl) rfl rfl rfl ?_
              refine Opz.nil ?_
              refine seqQ.normal ?_
              refine Cd.ret ?_
              refine seqQ.ret ?_
              -- path g8F c1F c2T
              refine fin.ret (L' := []) (ResOK.tmp rfl ResOK.nil) (by first | exact hle | exact Imm.le_refl _) ?_ ?_
              · repeat (first | exact Have.refl | (refine Have.cons (by repeat (first | exact Rem.head | apply Rem.tail | exact Rem.mid)) ?_) | refine Have.skip ?_ | refine Have.app ?_)
              ·
                exact Ret.mk rfl
          ·
            -- c2F
            try (first | contradiction | (exfalso; omega))
            all_goals
              refine Cd.skip ?_
              refine seqQ.normal ?_
              refine Cd.seq ?_
              refine Cd.region ?_
              refine Opz.val (R.move rfl) rfl rfl rfl ?_
              refine Opz.val (by first | exact R.nilP rfl | exact R.nilF rfl) rfl rfl rfl ?_
              refine Opz.val (by first | exact R.field (off := 0) rfl Try.underlying93 rfl Try.typeInfo27 rfl rfl | exact R.fieldA rfl Try.underlying93 rfl Try.typeInfo27 rfl) rfl rfl rfl ?_
              refine Opz.val (by exact R.load rfl Try.underlying27 rfl (by first | exact cellL (by repeat (first | exact List.Mem.head _ | apply List.Mem.tail)) rfl | exact cellI (by assumption) | (exact cellRow (by repeat (first | exact List.Mem.head _ | apply List.Mem.tail)) (by assumption) (by assumption)))) rfl rfl rfl ?_
              refine Opz.val (R.move rfl) rfl rfl rfl ?_
              refine Opz.val (R.move rfl) rfl rfl rfl ?_
              refine Opz.val (by exact R.slHM rfl rfl rfl Try.underlying27 Try.typeInfo5 ⟨by omega, by omega, by omega⟩) rfl rfl rfl ?_
              refine Opz.val (R.assign rfl) rfl rfl rfl ?_
              refine Opz.nil ?_
              refine seqQ.normal ?_
              refine Cd.seq ?_
              refine Cd.region ?_
              refine Opz.val (R.move rfl) rfl rfl rfl ?_
              refine Opz.val (R.move rfl) rfl rfl rfl ?_
              refine Opz.val (by first | exact R.nilP rfl | exact R.nilF rfl) rfl rfl rfl ?_
              refine Opz.val (by first | exact R.field (off := 0) rfl Try.underlying93 rfl Try.typeInfo27 rfl rfl | exact R.fieldA rfl Try.underlying93 rfl Try.typeInfo27 rfl) rfl rfl rfl ?_
              refine Opz.val (by exact R.load rfl Try.underlying27 rfl (by first | exact cellL (by repeat (first | exact List.Mem.head _ | apply List.Mem.tail)) rfl | exact cellI (by assumption) | (exact cellRow (by repeat (first | exact List.Mem.head _ | apply List.Mem.tail)) (by assumption) (by assumption)))) rfl rfl rfl ?_
              refine Opz.val (R.move rfl) rfl rfl rfl ?_
              refine Opz.val (by exact R.slL 1 rfl rfl Try.underlying27 Try.typeInfo5 rfl ⟨by omega, by omega⟩) rfl rfl rfl ?_
              refine Opz.val (by first | exact R.nilP rfl | exact R.nilF rfl) rfl rfl rfl ?_
              refine Opz.val (by first | exact R.field (off := 0) rfl Try.underlying93 rfl Try.typeInfo27 rfl rfl | exact R.fieldA rfl Try.underlying93 rfl Try.typeInfo27 rfl) rfl rfl rfl ?_
              refine Opz.opU (by exact W.store rfl rfl rfl rfl Try.typeInfo27 rfl (by repeat (first | exact Upd.head | apply Upd.tail)) (by repeat (first | exact SetAt.zero | apply SetAt.succ))) rfl rfl ?_
              rintro _ _ _ ⟨rfl, rfl, rfl⟩
              refine Opz.nil ?_
              refine seqQ.normal ?_
              refine Cd.seq ?_
              refine Cd.region ?_
              refine Opz.val (R.move rfl) rfl rfl rfl ?_
              refine Opz.val (R.assign rfl) rfl rfl rfl ?_
              refine Opz.nil ?_
              refine seqQ.normal ?_
              refine Cd.ret ?_
              -- path g8F c1F c2F
              refine fin.ret (L' := []) (ResOK.tmp rfl ResOK.nil) (by first | exact hle | exact Imm.le_refl _) ?_ ?_
              · repeat (first | exact Have.refl | (refine Have.cons (by repeat (first | exact Rem.head | apply Rem.tail | exact Rem.mid)) ?_) | refine Have.skip ?_ | refine Have.app ?_)
              ·
                exact Ret.mk rfl


set_option maxRecDepth 100000 in
set_option maxHeartbeats 400000 in
theorem ENumber0_spec {I : Imm} {n : Int} :
    Meets Try.prog 46 #[.pointer none, .int .i64 n] I ([]) (Ret I (.int .u64 0)) := by
  refine Meets.intro (args := [.pointer none, .int .i64 n]) (N := 26) (rs := [.tmp 4]) Try.func46 rfl rfl rfl rfl (fun F => ?_)
  change Cd _ _ _ [(0, .pointer none), (1, .int .i64 n)] I (F) _
  have hle := Imm.le_refl I
  refine Cd.seq ?_
  refine Cd.region ?_
  refine Opz.val (R.assign rfl) rfl rfl rfl ?_
  refine Opz.nil ?_
  refine seqQ.normal ?_
  refine Cd.seq ?_
  refine Cd.region ?_
  refine Opz.val (R.assign rfl) rfl rfl rfl ?_
  refine Opz.nil ?_
  refine seqQ.normal ?_
  refine Cd.seq ?_
  refine Cd.seq ?_
  refine Cd.region ?_
  refine Opz.val (R.move rfl) rfl rfl rfl ?_
  refine Opz.val (R.move rfl) rfl rfl rfl ?_
  refine Opz.op (by exact W.call rfl rfl Try.call48 ETake0_spec rfl Take.nil) rfl rfl rfl ?_
  rintro v10 I10 _ ⟨hI10, M10, hp10, rfl⟩
  obtain ⟨rfl, rfl, rfl⟩ := hp10
  refine Opz.val (R.len rfl rfl Try.underlying27) rfl rfl rfl ?_
  refine Opz.val (R.move rfl) rfl rfl rfl ?_
  refine Opz.nil ?_
  refine seqQ.normal ?_
  refine Cd.block ?_
  -- loop 1: turned [5, 12], kept [10, 11]
  refine Cd.loop [10, 11] (fun nn vs I101 L1 => [(5, .int .u64 0), (12, .int .i64 0)] = vs ∧ (F) = L1 ∧ I = I101 ∧ 0 = nn) (Pick.cons rfl (Pick.cons rfl (Pick.nil))) ?_ ?_
  ·
    refine ⟨_, _, _, ⟨rfl, rfl, rfl, rfl⟩, ⟨rfl, rfl, trivial⟩, by repeat (first | exact Have.refl | (refine Have.cons (by repeat (first | exact Rem.head | apply Rem.tail | exact Rem.mid)) ?_) | refine Have.skip ?_ | refine Have.app ?_)⟩
  ·
    rintro nn1 _ I101 _ ⟨rfl, rfl, rfl, hn1⟩
    refine Cd.seq ?_
    refine Cd.region ?_
    refine Opz.val (R.lss rfl rfl) rfl rfl rfl ?_
    refine Opz.nil ?_
    refine seqQ.normal ?_
    refine Cd.seq ?_
    first | refine Cd.condD rfl (fun hq1 => ?_) (fun hq1 => ?_) | refine Cd.cond rfl (fun hq1 => ?_) (fun hq1 => ?_)
    ·
      -- c1T
      try (first | contradiction | (exfalso; omega))
      all_goals
        refine Cd.skip ?_
        refine seqQ.normal ?_
        refine Cd.seq ?_
        refine Cd.block ?_
        refine Cd.seq ?_
        refine Cd.region ?_
        refine Opz.val (R.move rfl) rfl rfl rfl ?_
        refine Opz.val (by first | exact R.ixA rfl rfl Try.underlying27 Try.typeInfo5 ⟨by omega, by omega⟩ rfl | exact R.ixO rfl (by assumption) rfl Try.underlying27 Try.typeInfo5 ⟨by omega, by omega⟩ rfl) rfl rfl rfl ?_
        refine Opz.val (by exact R.load rfl Try.underlying5 rfl (by first | exact cellL (by repeat (first | exact List.Mem.head _ | apply List.Mem.tail)) rfl | exact cellI (by assumption) | (exact cellRow (by repeat (first | exact List.Mem.head _ | apply List.Mem.tail)) (by assumption) (by assumption)))) rfl rfl rfl ?_
        refine Opz.val (R.assign rfl) rfl rfl rfl ?_
        refine Opz.val (R.assign rfl) rfl rfl rfl ?_
        refine Opz.nil ?_
        refine seqQ.normal ?_
        refine Cd.region ?_
        refine Opz.val (R.move rfl) rfl rfl rfl ?_
        refine Opz.val (R.move rfl) rfl rfl rfl ?_
        refine Opz.val (by first | exact R.conv rfl Try.underlying5 Try.underlying49 (by first | exact ⟨by simp only [loK]; omega, by simp only [hiK]; omega⟩ | exact wr_inR rfl _) | exact R.convW rfl Try.underlying5 Try.underlying49) rfl rfl rfl ?_
        refine Opz.val (R.move rfl) rfl rfl rfl ?_
        refine Opz.val (by exact R.mul rfl rfl (by first | exact ⟨by simp only [loK]; omega, by simp only [hiK]; omega⟩ | exact wr_inR rfl _)) rfl rfl rfl ?_
        refine Opz.val (by exact R.shl rfl rfl (by omega)) rfl rfl rfl ?_
        refine Opz.val (by exact R.or rfl rfl (by first | exact ⟨by omega, by simp only [hiK]; omega⟩ | exact wr_uns rfl _) (by first | exact ⟨by omega, by simp only [hiK]; omega⟩ | exact wr_uns rfl _)) rfl rfl rfl ?_
        refine Opz.val (R.assign rfl) rfl rfl rfl ?_
        refine Opz.nil ?_
        refine blkQ.normal ?_
        refine seqQ.normal ?_
        refine Cd.region ?_
        refine Opz.val (by exact R.add rfl rfl (by first | exact ⟨by simp only [loK]; omega, by simp only [hiK]; omega⟩ | exact wr_inR rfl _)) rfl rfl rfl ?_
        refine Opz.val (R.move rfl) rfl rfl rfl ?_
        refine Opz.nil ?_
        refine loopQ.round ⟨rfl, rfl, rfl, rfl⟩ ?_ ⟨(by first | rfl | (refine look_val rfl ?_; first | rfl | (refine int_congr ?_; first | omega | (simp; done)))), (by first | rfl | (refine look_val rfl ?_; first | rfl | (refine int_congr ?_; first | omega | (simp; done)))), rfl, rfl, trivial⟩ (by repeat (first | exact Have.refl | (refine Have.cons (by repeat (first | exact Rem.head | apply Rem.tail | exact Rem.mid)) ?_) | refine Have.skip ?_ | refine Have.app ?_))
        · omega
    ·
      -- c1F
      try (first | contradiction | (exfalso; omega))
      all_goals
        refine Cd.exit ?_
        refine seqQ.exit ?_
        refine loopQ.exit ?_
        refine blkQ.here ?_
        refine seqQ.normal ?_
        refine Cd.seq ?_
        refine Cd.region ?_
        refine Opz.val (R.move rfl) rfl rfl rfl ?_
        refine Opz.val (R.assign rfl) rfl rfl rfl ?_
        refine Opz.nil ?_
        refine seqQ.normal ?_
        refine Cd.ret ?_
        -- path c1F
        refine fin.ret (L' := []) (ResOK.tmp rfl ResOK.nil) (by first | exact hle | exact Imm.le_refl _) ?_ ?_
        · repeat (first | exact Have.refl | (refine Have.cons (by repeat (first | exact Rem.head | apply Rem.tail | exact Rem.mid)) ?_) | refine Have.skip ?_ | refine Have.app ?_)
        ·
          exact Ret.mk rfl


set_option maxRecDepth 100000 in
set_option maxHeartbeats 400000 in
theorem ESmall0_spec {I : Imm} :
    Meets Try.prog 33 #[.pointer none] I ([]) (Ret I (.int .i64 0)) := by
  refine Meets.intro (args := [.pointer none]) (N := 6) (rs := [.tmp 2]) Try.func33 rfl rfl rfl rfl (fun F => ?_)
  change Cd _ _ _ [(0, .pointer none)] I (F) _
  have hle := Imm.le_refl I
  refine Cd.seq ?_
  refine Cd.region ?_
  refine Opz.val (R.assign rfl) rfl rfl rfl ?_
  refine Opz.nil ?_
  refine seqQ.normal ?_
  refine Cd.seq ?_
  refine Cd.region ?_
  refine Opz.val (R.move rfl) rfl rfl rfl ?_
  refine Opz.op (by exact W.call rfl rfl Try.call46 ENumber0_spec rfl Take.nil) rfl rfl rfl ?_
  rintro v4 I4 _ ⟨hI4, M4, hp4, rfl⟩
  obtain ⟨rfl, rfl, rfl⟩ := hp4
  refine Opz.val (by first | exact R.conv rfl Try.underlying49 Try.underlying3 (by first | exact ⟨by simp only [loK]; omega, by simp only [hiK]; omega⟩ | exact wr_inR rfl _) | exact R.convW rfl Try.underlying49 Try.underlying3) rfl rfl rfl ?_
  refine Opz.val (R.assign rfl) rfl rfl rfl ?_
  refine Opz.nil ?_
  refine seqQ.normal ?_
  refine Cd.ret ?_
  -- path 
  refine fin.ret (L' := []) (ResOK.tmp rfl ResOK.nil) (by first | exact hle | exact Imm.le_refl _) ?_ ?_
  · repeat (first | exact Have.refl | (refine Have.cons (by repeat (first | exact Rem.head | apply Rem.tail | exact Rem.mid)) ?_) | refine Have.skip ?_ | refine Have.app ?_)
  ·
    exact Ret.mk rfl


set_option maxRecDepth 100000 in
set_option maxHeartbeats 400000 in
theorem EGreat0_spec {I : Imm} :
    Meets Try.prog 34 #[.pointer none] I ([]) (Ret I (.int .u64 0)) := by
  refine Meets.intro (args := [.pointer none]) (N := 5) (rs := [.tmp 2]) Try.func34 rfl rfl rfl rfl (fun F => ?_)
  change Cd _ _ _ [(0, .pointer none)] I (F) _
  have hle := Imm.le_refl I
  refine Cd.seq ?_
  refine Cd.region ?_
  refine Opz.val (R.assign rfl) rfl rfl rfl ?_
  refine Opz.nil ?_
  refine seqQ.normal ?_
  refine Cd.seq ?_
  refine Cd.region ?_
  refine Opz.val (R.move rfl) rfl rfl rfl ?_
  refine Opz.op (by exact W.call rfl rfl Try.call46 ENumber0_spec rfl Take.nil) rfl rfl rfl ?_
  rintro v4 I4 _ ⟨hI4, M4, hp4, rfl⟩
  obtain ⟨rfl, rfl, rfl⟩ := hp4
  refine Opz.val (R.assign rfl) rfl rfl rfl ?_
  refine Opz.nil ?_
  refine seqQ.normal ?_
  refine Cd.ret ?_
  -- path 
  refine fin.ret (L' := []) (ResOK.tmp rfl ResOK.nil) (by first | exact hle | exact Imm.le_refl _) ?_ ?_
  · repeat (first | exact Have.refl | (refine Have.cons (by repeat (first | exact Rem.head | apply Rem.tail | exact Rem.mid)) ?_) | refine Have.skip ?_ | refine Have.app ?_)
  ·
    exact Ret.mk rfl


set_option maxRecDepth 100000 in
set_option maxHeartbeats 400000 in
theorem EEnd0_spec {I : Imm} :
    Meets Try.prog 37 #[.pointer none] I ([]) (Ret I (.int .i64 1)) := by
  refine Meets.intro (args := [.pointer none]) (N := 27) (rs := [.tmp 2]) Try.func37 rfl rfl rfl rfl (fun F => ?_)
  change Cd _ _ _ [(0, .pointer none)] I (F) _
  have hle := Imm.le_refl I
  refine Cd.seq ?_
  refine Cd.region ?_
  refine Opz.val (R.assign rfl) rfl rfl rfl ?_
  refine Opz.nil ?_
  refine seqQ.normal ?_
  refine Cd.seq ?_
  refine Cd.block ?_
  refine Cd.seq ?_
  refine Cd.region ?_
  refine Opz.val (R.move rfl) rfl rfl rfl ?_
  refine Opz.val (by first | exact R.eqPN rfl rfl Try.underlying62 | exact R.eqNN rfl rfl Try.underlying62) rfl rfl rfl ?_
  refine Opz.val (R.assign rfl) rfl rfl rfl ?_
  refine Opz.nil ?_
  refine seqQ.normal ?_
  first | refine Cd.condD rfl (fun hq1 => ?_) (fun hq1 => ?_) | refine Cd.cond rfl (fun hq1 => ?_) (fun hq1 => ?_)
  ·
    -- c1T
    try (first | contradiction | (exfalso; omega))
    all_goals
      refine Cd.seq ?_
      refine Cd.region ?_
      refine Opz.val (R.assign rfl) rfl rfl rfl ?_
      refine Opz.nil ?_
      refine seqQ.normal ?_
      refine Cd.ret ?_
      refine blkQ.ret ?_
      refine seqQ.ret ?_
      -- path c1T
      refine fin.ret (L' := []) (ResOK.tmp rfl ResOK.nil) (by first | exact hle | exact Imm.le_refl _) ?_ ?_
      · repeat (first | exact Have.refl | (refine Have.cons (by repeat (first | exact Rem.head | apply Rem.tail | exact Rem.mid)) ?_) | refine Have.skip ?_ | refine Have.app ?_)
      ·
        exact Ret.mk rfl
  ·
    -- c1F
    try (first | contradiction | (exfalso; omega))
    all_goals
      refine Cd.seq ?_
      refine Cd.region ?_
      refine Opz.val (R.move rfl) rfl rfl rfl ?_
      refine Opz.val (by first | exact R.nilP rfl | exact R.nilF rfl) rfl rfl rfl ?_
      refine Opz.val (by first | exact R.field (off := 1) rfl Try.underlying93 rfl Try.typeInfo32 rfl rfl | exact R.fieldA rfl Try.underlying93 rfl Try.typeInfo32 rfl) rfl rfl rfl ?_
      refine Opz.val (by exact R.load rfl Try.underlying32 rfl (by first | exact cellL (by repeat (first | exact List.Mem.head _ | apply List.Mem.tail)) rfl | exact cellI (by assumption) | (exact cellRow (by repeat (first | exact List.Mem.head _ | apply List.Mem.tail)) (by assumption) (by assumption)))) rfl rfl rfl ?_
      refine Opz.val (R.eql rfl rfl) rfl rfl rfl ?_
      refine Opz.val (R.move rfl) rfl rfl rfl ?_
      first | refine Opz.guardD 12 rfl (fun hq2 => ?_) (fun hq2 => ?_) | refine Opz.guard 12 rfl (fun hq2 => ?_) (fun hq2 => ?_)
      ·
        -- g12T
        try (first | contradiction | (exfalso; omega))
        all_goals
          refine Opz.val (R.move rfl) rfl rfl rfl ?_
          refine Opz.val (by first | exact R.nilP rfl | exact R.nilF rfl) rfl rfl rfl ?_
          refine Opz.val (by first | exact R.field (off := 0) rfl Try.underlying93 rfl Try.typeInfo27 rfl rfl | exact R.fieldA rfl Try.underlying93 rfl Try.typeInfo27 rfl) rfl rfl rfl ?_
          refine Opz.val (by exact R.load rfl Try.underlying27 rfl (by first | exact cellL (by repeat (first | exact List.Mem.head _ | apply List.Mem.tail)) rfl | exact cellI (by assumption) | (exact cellRow (by repeat (first | exact List.Mem.head _ | apply List.Mem.tail)) (by assumption) (by assumption)))) rfl rfl rfl ?_
          refine Opz.val (R.len rfl rfl Try.underlying27) rfl rfl rfl ?_
          refine Opz.val (R.gtr rfl rfl) rfl rfl rfl ?_
          refine Opz.val (R.pick rfl rfl) rfl rfl rfl ?_
          refine Opz.val (R.assign rfl) rfl rfl rfl ?_
          refine Opz.nil ?_
          refine seqQ.normal ?_
          first | refine Cd.condD rfl (fun hq3 => ?_) (fun hq3 => ?_) | refine Cd.cond rfl (fun hq3 => ?_) (fun hq3 => ?_)
          ·
            -- c2T
            try (first | contradiction | (exfalso; omega))
            all_goals
              refine Cd.region ?_
              refine Opz.val (R.move rfl) rfl rfl rfl ?_
              refine Opz.val (by first | exact R.nilP rfl | exact R.nilF rfl) rfl rfl rfl ?_
              refine Opz.val (by first | exact R.field (off := 1) rfl Try.underlying93 rfl Try.typeInfo32 rfl rfl | exact R.fieldA rfl Try.underlying93 rfl Try.typeInfo32 rfl) rfl rfl rfl ?_
              refine Opz.opU (by exact W.store rfl rfl rfl rfl Try.typeInfo32 rfl (by repeat (first | exact Upd.head | apply Upd.tail)) (by repeat (first | exact SetAt.zero | apply SetAt.succ))) rfl rfl ?_
              rintro _ _ _ ⟨rfl, rfl, rfl⟩
              refine Opz.nil ?_
              refine blkQ.normal ?_
              refine seqQ.normal ?_
              refine Cd.seq ?_
              refine Cd.region ?_
              refine Opz.val (R.move rfl) rfl rfl rfl ?_
              refine Opz.val (by first | exact R.nilP rfl | exact R.nilF rfl) rfl rfl rfl ?_
              refine Opz.val (by first | exact R.field (off := 1) rfl Try.underlying93 rfl Try.typeInfo32 rfl rfl | exact R.fieldA rfl Try.underlying93 rfl Try.typeInfo32 rfl) rfl rfl rfl ?_
              refine Opz.val (by exact R.load rfl Try.underlying32 rfl (by first | exact cellL (by repeat (first | exact List.Mem.head _ | apply List.Mem.tail)) rfl | exact cellI (by assumption) | (exact cellRow (by repeat (first | exact List.Mem.head _ | apply List.Mem.tail)) (by assumption) (by assumption)))) rfl rfl rfl ?_
              refine Opz.val (R.assign rfl) rfl rfl rfl ?_
              refine Opz.nil ?_
              refine seqQ.normal ?_
              refine Cd.ret ?_
              -- path c1F g12T c2T
              refine fin.ret (L' := []) (ResOK.tmp rfl ResOK.nil) (by first | exact hle | exact Imm.le_refl _) ?_ ?_
              · repeat (first | exact Have.refl | (refine Have.cons (by repeat (first | exact Rem.head | apply Rem.tail | exact Rem.mid)) ?_) | refine Have.skip ?_ | refine Have.app ?_)
              ·
                exact Ret.mk rfl
          ·
            -- c2F
            try (first | contradiction | (exfalso; omega))
            all_goals
              refine Cd.skip ?_
              refine blkQ.normal ?_
              refine seqQ.normal ?_
              refine Cd.seq ?_
              refine Cd.region ?_
              refine Opz.val (R.move rfl) rfl rfl rfl ?_
              refine Opz.val (by first | exact R.nilP rfl | exact R.nilF rfl) rfl rfl rfl ?_
              refine Opz.val (by first | exact R.field (off := 1) rfl Try.underlying93 rfl Try.typeInfo32 rfl rfl | exact R.fieldA rfl Try.underlying93 rfl Try.typeInfo32 rfl) rfl rfl rfl ?_
              refine Opz.val (by exact R.load rfl Try.underlying32 rfl (by first | exact cellL (by repeat (first | exact List.Mem.head _ | apply List.Mem.tail)) rfl | exact cellI (by assumption) | (exact cellRow (by repeat (first | exact List.Mem.head _ | apply List.Mem.tail)) (by assumption) (by assumption)))) rfl rfl rfl ?_
              refine Opz.val (R.assign rfl) rfl rfl rfl ?_
              refine Opz.nil ?_
              refine seqQ.normal ?_
              refine Cd.ret ?_
              -- path c1F g12T c2F
              refine fin.ret (L' := []) (ResOK.tmp rfl ResOK.nil) (by first | exact hle | exact Imm.le_refl _) ?_ ?_
              · repeat (first | exact Have.refl | (refine Have.cons (by repeat (first | exact Rem.head | apply Rem.tail | exact Rem.mid)) ?_) | refine Have.skip ?_ | refine Have.app ?_)
              ·
                exact Ret.mk rfl
      ·
        -- g12F
        try (first | contradiction | (exfalso; omega))
        all_goals
          refine Opz.none rfl rfl rfl ?_
          refine Opz.none rfl rfl rfl ?_
          refine Opz.none rfl rfl rfl ?_
          refine Opz.none rfl rfl rfl ?_
          refine Opz.none rfl rfl rfl ?_
          refine Opz.none rfl rfl rfl ?_
          refine Opz.val (R.pick rfl rfl) rfl rfl rfl ?_
          refine Opz.val (R.assign rfl) rfl rfl rfl ?_
          refine Opz.nil ?_
          refine seqQ.normal ?_
          first | refine Cd.condD rfl (fun hq4 => ?_) (fun hq4 => ?_) | refine Cd.cond rfl (fun hq4 => ?_) (fun hq4 => ?_)
          ·
            -- c2T
            try (first | contradiction | (exfalso; omega))
            all_goals
              refine Cd.region ?_
              refine Opz.val (R.move rfl) rfl rfl rfl ?_
              refine Opz.val (by first | exact R.nilP rfl | exact R.nilF rfl) rfl rfl rfl ?_
              refine Opz.val (by first | exact R.field (off := 1) rfl Try.underlying93 rfl Try.typeInfo32 rfl rfl | exact R.fieldA rfl Try.underlying93 rfl Try.typeInfo32 rfl) rfl rfl rfl ?_
              refine Opz.opU (by exact W.store rfl rfl rfl rfl Try.typeInfo32 rfl (by repeat (first | exact Upd.head | apply Upd.tail)) (by repeat (first | exact SetAt.zero | apply SetAt.succ))) rfl rfl ?_
              rintro _ _ _ ⟨rfl, rfl, rfl⟩
              refine Opz.nil ?_
              refine blkQ.normal ?_
              refine seqQ.normal ?_
              refine Cd.seq ?_
              refine Cd.region ?_
              refine Opz.val (R.move rfl) rfl rfl rfl ?_
              refine Opz.val (by first | exact R.nilP rfl | exact R.nilF rfl) rfl rfl rfl ?_
              refine Opz.val (by first | exact R.field (off := 1) rfl Try.underlying93 rfl Try.typeInfo32 rfl rfl | exact R.fieldA rfl Try.underlying93 rfl Try.typeInfo32 rfl) rfl rfl rfl ?_
              refine Opz.val (by exact R.load rfl Try.underlying32 rfl (by first | exact cellL (by repeat (first | exact List.Mem.head _ | apply List.Mem.tail)) rfl | exact cellI (by assumption) | (exact cellRow (by repeat (first | exact List.Mem.head _ | apply List.Mem.tail)) (by assumption) (by assumption)))) rfl rfl rfl ?_
              refine Opz.val (R.assign rfl) rfl rfl rfl ?_
              refine Opz.nil ?_
              refine seqQ.normal ?_
              refine Cd.ret ?_
              -- path c1F g12F c2T
              refine fin.ret (L' := []) (ResOK.tmp rfl ResOK.nil) (by first | exact hle | exact Imm.le_refl _) ?_ ?_
              · repeat (first | exact Have.refl | (refine Have.cons (by repeat (first | exact Rem.head | apply Rem.tail | exact Rem.mid)) ?_) | refine Have.skip ?_ | refine Have.app ?_)
              ·
                exact Ret.mk rfl
          ·
            -- c2F
            try (first | contradiction | (exfalso; omega))
            all_goals
              refine Cd.skip ?_
              refine blkQ.normal ?_
              refine seqQ.normal ?_
              refine Cd.seq ?_
              refine Cd.region ?_
              refine Opz.val (R.move rfl) rfl rfl rfl ?_
              refine Opz.val (by first | exact R.nilP rfl | exact R.nilF rfl) rfl rfl rfl ?_
              refine Opz.val (by first | exact R.field (off := 1) rfl Try.underlying93 rfl Try.typeInfo32 rfl rfl | exact R.fieldA rfl Try.underlying93 rfl Try.typeInfo32 rfl) rfl rfl rfl ?_
              refine Opz.val (by exact R.load rfl Try.underlying32 rfl (by first | exact cellL (by repeat (first | exact List.Mem.head _ | apply List.Mem.tail)) rfl | exact cellI (by assumption) | (exact cellRow (by repeat (first | exact List.Mem.head _ | apply List.Mem.tail)) (by assumption) (by assumption)))) rfl rfl rfl ?_
              refine Opz.val (R.assign rfl) rfl rfl rfl ?_
              refine Opz.nil ?_
              refine seqQ.normal ?_
              refine Cd.ret ?_
              -- path c1F g12F c2F
              refine fin.ret (L' := []) (ResOK.tmp rfl ResOK.nil) (by first | exact hle | exact Imm.le_refl _) ?_ ?_
              · repeat (first | exact Have.refl | (refine Have.cons (by repeat (first | exact Rem.head | apply Rem.tail | exact Rem.mid)) ?_) | refine Have.skip ?_ | refine Have.app ?_)
              ·
                exact Ret.mk rfl


set_option maxRecDepth 100000 in
set_option maxHeartbeats 400000 in
theorem CloneN_spec {I : Imm} :
    Meets Try.prog 44 #[.slice none 0 0] I ([]) (Ret I (.slice none 0 0)) := by
  refine Meets.intro (args := [.slice none 0 0]) (N := 8) (rs := [.tmp 2]) Try.func44 rfl rfl rfl rfl (fun F => ?_)
  change Cd _ _ _ [(0, .slice none 0 0)] I (F) _
  have hle := Imm.le_refl I
  refine Cd.seq ?_
  refine Cd.region ?_
  refine Opz.val (R.assign rfl) rfl rfl rfl ?_
  refine Opz.nil ?_
  refine seqQ.normal ?_
  refine Cd.seq ?_
  refine Cd.seq ?_
  refine Cd.region ?_
  refine Opz.val (R.move rfl) rfl rfl rfl ?_
  refine Opz.val (R.eqSN rfl rfl Try.underlying27) rfl rfl rfl ?_
  refine Opz.nil ?_
  refine seqQ.normal ?_
  first | refine Cd.condD rfl (fun hq1 => ?_) (fun hq1 => ?_) | refine Cd.cond rfl (fun hq1 => ?_) (fun hq1 => ?_)
  ·
    -- c1T
    try (first | contradiction | (exfalso; omega))
    all_goals
      refine Cd.seq ?_
      refine Cd.region ?_
      refine Opz.val (R.assign rfl) rfl rfl rfl ?_
      refine Opz.nil ?_
      refine seqQ.normal ?_
      refine Cd.ret ?_
      refine seqQ.ret ?_
      -- path c1T
      refine fin.ret (L' := []) (ResOK.tmp rfl ResOK.nil) (by first | exact hle | exact Imm.le_refl _) ?_ ?_
      · repeat (first | exact Have.refl | (refine Have.cons (by repeat (first | exact Rem.head | apply Rem.tail | exact Rem.mid)) ?_) | refine Have.skip ?_ | refine Have.app ?_)
      ·
        exact Ret.mk rfl
  ·
    -- c1F
    try (first | contradiction | (exfalso; omega))
    all_goals
      refine Cd.skip ?_
      refine seqQ.normal ?_
      refine Cd.seq ?_
      refine Cd.region ?_
      refine Opz.op (by exact W.buildNone Try.underlying27 Try.typeInfo5 rfl rfl) rfl rfl rfl ?_
      rintro _ _ _ ⟨b5, rfl, rfl, rfl⟩
      refine Opz.val (R.move rfl) rfl rfl rfl ?_
      refine Opz.op (by exact W.append (e := 5) (sz := 1) (by' := 1) rfl rfl Try.underlying27 Try.type5 rfl rfl rfl rfl rfl (by repeat (first | exact Rem.head | apply Rem.tail | exact Rem.mid)) rfl (newsRow (by repeat (first | exact List.Mem.head _ | apply List.Mem.tail))) (by simp [Value.oneCell']) (by omega) rfl) rfl rfl rfl ?_
      rintro _ _ _ ⟨A7, c7, rfl, rfl, rfl⟩
      refine Opz.val (R.assign rfl) rfl rfl rfl ?_
      refine Opz.nil ?_
      refine seqQ.normal ?_
      refine Cd.ret ?_
      -- path c1F
      refine fin.ret (L' := []) (ResOK.tmp rfl ResOK.nil) (by first | exact hle | exact Imm.le_refl _) ?_ ?_
      · repeat (first | exact Have.refl | (refine Have.cons (by repeat (first | exact Rem.head | apply Rem.tail | exact Rem.mid)) ?_) | refine Have.skip ?_ | refine Have.app ?_)
      ·
        exact Ret.mk rfl


set_option maxRecDepth 100000 in
set_option maxHeartbeats 400000 in
theorem EBytes0_spec {I : Imm} :
    Meets Try.prog 36 #[.pointer none] I ([]) (Ret I (.slice none 0 0)) := by
  refine Meets.intro (args := [.pointer none]) (N := 9) (rs := [.tmp 2]) Try.func36 rfl rfl rfl rfl (fun F => ?_)
  change Cd _ _ _ [(0, .pointer none)] I (F) _
  have hle := Imm.le_refl I
  refine Cd.seq ?_
  refine Cd.region ?_
  refine Opz.val (R.assign rfl) rfl rfl rfl ?_
  refine Opz.nil ?_
  refine seqQ.normal ?_
  refine Cd.seq ?_
  refine Cd.region ?_
  refine Opz.val (R.move rfl) rfl rfl rfl ?_
  refine Opz.val (R.move rfl) rfl rfl rfl ?_
  refine Opz.op (by exact W.call rfl rfl Try.call33 ESmall0_spec rfl Take.nil) rfl rfl rfl ?_
  rintro v5 I5 _ ⟨hI5, M5, hp5, rfl⟩
  obtain ⟨rfl, rfl, rfl⟩ := hp5
  refine Opz.op (by exact W.call rfl rfl Try.call48 ETake0_spec rfl Take.nil) rfl rfl rfl ?_
  rintro v6 I6 _ ⟨hI6, M6, hp6, rfl⟩
  obtain ⟨rfl, rfl, rfl⟩ := hp6
  refine Opz.op (by exact W.call rfl rfl Try.call44 CloneN_spec rfl Take.nil) rfl rfl rfl ?_
  rintro v7 I7 _ ⟨hI7, M7, hp7, rfl⟩
  obtain ⟨rfl, rfl, rfl⟩ := hp7
  refine Opz.op (by exact W.call rfl rfl Try.call45 (Clip_spec (Nat.le_refl 0)) rfl Take.nil) rfl rfl rfl ?_
  rintro v8 I8 _ ⟨hI8, M8, hp8, rfl⟩
  obtain ⟨rfl, rfl, rfl⟩ := hp8
  refine Opz.val (R.assign rfl) rfl rfl rfl ?_
  refine Opz.nil ?_
  refine seqQ.normal ?_
  refine Cd.ret ?_
  -- path 
  refine fin.ret (L' := []) (ResOK.tmp rfl ResOK.nil) (by first | exact hle | exact Imm.le_refl _) ?_ ?_
  · repeat (first | exact Have.refl | (refine Have.cons (by repeat (first | exact Rem.head | apply Rem.tail | exact Rem.mid)) ?_) | refine Have.skip ?_ | refine Have.app ?_)
  ·
    exact Ret.mk rfl

end Go.Proofs.Ytdecipfdbkpigaa
