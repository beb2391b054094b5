
import Derived.Test.YtdecipfdbkpigaaProg
import Derived.Test.YtdecipfdbkpigaaLetL
namespace Go.Proofs.Ytdecipfdbkpigaa
open Go.Eng



set_option maxRecDepth 100000 in
set_option maxHeartbeats 400000 in
theorem LNone_spec {I : Imm} {n g : Int} {v : Value} :
    Meets Try.prog 11 #[.int .i64 n, .int .u64 g, v] I ([]) (fun v I' L' => .bool true = v ∧ [] = L') := by
  refine Meets.intro (args := [.int .i64 n, .int .u64 g, v]) (N := 60) (rs := [.tmp 6]) Try.func11 rfl rfl rfl rfl (fun F => ?_)
  change Cd _ _ _ [(0, .int .i64 n), (1, .int .u64 g), (2, v)] I (F) _
  have hle := Imm.le_refl I
  refine Cd.seq ?_
  refine Cd.region ?_
  refine Opz.val (R.assign rfl) rfl rfl rfl ?_
  refine Opz.nil ?_
  refine seqQ.normal ?_
  refine Cd.seq ?_
  refine Cd.region ?_
  refine Opz.val (R.assign rfl) rfl rfl rfl ?_
  refine Opz.nil ?_
  refine seqQ.normal ?_
  refine Cd.seq ?_
  refine Cd.region ?_
  refine Opz.val (R.assign rfl) rfl rfl rfl ?_
  refine Opz.nil ?_
  refine seqQ.normal ?_
  refine Cd.seq ?_
  refine Cd.region ?_
  refine Opz.val (R.move rfl) rfl rfl rfl ?_
  refine Opz.op (by exact W.call rfl rfl Try.call28 PSeal0_spec rfl Take.nil) rfl rfl rfl ?_
  rintro v13 I13 _ ⟨hI13, M13, hp13, rfl⟩
  obtain ⟨rfl, rfl, rfl⟩ := hp13
  refine Opz.val (R.move rfl) rfl rfl rfl ?_
  refine Opz.val (R.ext rfl rfl) rfl rfl rfl ?_
  refine Opz.val (R.ext rfl rfl) rfl rfl rfl ?_
  refine Opz.val (R.assign rfl) rfl rfl rfl ?_
  refine Opz.val (R.assign rfl) rfl rfl rfl ?_
  refine Opz.nil ?_
  refine seqQ.normal ?_
  refine Cd.seq ?_
  refine Cd.region ?_
  refine Opz.op (by exact W.call rfl rfl Try.call21 (awake_spec) rfl Take.nil) rfl rfl rfl ?_
  rintro v16 I16 _ ⟨hI16, M16, hp16, rfl⟩
  obtain ⟨rfl, rfl⟩ := hp16
  have hle := hle.trans hI16
  refine Opz.val (R.move rfl) rfl rfl rfl ?_
  first | refine Opz.guardD 17 rfl (fun hq1 => ?_) (fun hq1 => ?_) | refine Opz.guard 17 rfl (fun hq1 => ?_) (fun hq1 => ?_)
  ·
    -- g17T
    try contradiction
    all_goals
      refine Opz.val (R.move rfl) rfl rfl rfl ?_
      refine Opz.val (R.move rfl) rfl rfl rfl ?_
      refine Opz.op (by exact W.call rfl rfl Try.call22 PSmall0_spec rfl Take.nil) rfl rfl rfl ?_
      rintro v20 I20 _ ⟨hI20, M20, hp20, rfl⟩
      obtain ⟨rfl, rfl, rfl⟩ := hp20
      refine Opz.val (by first | exact R.eqPN rfl rfl Try.underlying47 | exact R.eqNN rfl rfl Try.underlying47) rfl rfl rfl ?_
      refine Opz.val (R.pick rfl rfl) rfl rfl rfl ?_
      refine Opz.val (R.move rfl) rfl rfl rfl ?_
      first | refine Opz.guardD 23 rfl (fun hq2 => ?_) (fun hq2 => ?_) | refine Opz.guard 23 rfl (fun hq2 => ?_) (fun hq2 => ?_)
      ·
        -- g23T
        try contradiction
        all_goals
          refine Opz.val (R.move rfl) rfl rfl rfl ?_
          refine Opz.val (R.move rfl) rfl rfl rfl ?_
          refine Opz.op (by exact W.call rfl rfl Try.call24 PGreat0_spec rfl Take.nil) rfl rfl rfl ?_
          rintro v26 I26 _ ⟨hI26, M26, hp26, rfl⟩
          obtain ⟨rfl, rfl, rfl⟩ := hp26
          refine Opz.val (by first | exact R.eqPN rfl rfl Try.underlying47 | exact R.eqNN rfl rfl Try.underlying47) rfl rfl rfl ?_
          refine Opz.val (R.pick rfl rfl) rfl rfl rfl ?_
          refine Opz.val (R.move rfl) rfl rfl rfl ?_
          first | refine Opz.guardD 29 rfl (fun hq3 => ?_) (fun hq3 => ?_) | refine Opz.guard 29 rfl (fun hq3 => ?_) (fun hq3 => ?_)
          ·
            -- g29T
            try contradiction
            all_goals
              refine Opz.val (R.move rfl) rfl rfl rfl ?_
              refine Opz.val (R.move rfl) rfl rfl rfl ?_
              refine Opz.op (by exact W.call rfl rfl Try.call26 PBytes0_spec rfl Take.nil) rfl rfl rfl ?_
              rintro v32 I32 _ ⟨hI32, M32, hp32, rfl⟩
              obtain ⟨rfl, rfl, rfl⟩ := hp32
              refine Opz.val (by first | exact R.eqPN rfl rfl Try.underlying47 | exact R.eqNN rfl rfl Try.underlying47) rfl rfl rfl ?_
              refine Opz.val (R.pick rfl rfl) rfl rfl rfl ?_
              refine Opz.val (R.move rfl) rfl rfl rfl ?_
              first | refine Opz.guardD 35 rfl (fun hq4 => ?_) (fun hq4 => ?_) | refine Opz.guard 35 rfl (fun hq4 => ?_) (fun hq4 => ?_)
              ·
                -- g35T
                try contradiction
                all_goals
                  refine Opz.val (R.move rfl) rfl rfl rfl ?_
                  refine Opz.val (R.eql rfl rfl) rfl rfl rfl ?_
                  refine Opz.val (R.pick rfl rfl) rfl rfl rfl ?_
                  refine Opz.val (R.move rfl) rfl rfl rfl ?_
                  first | refine Opz.guardD 39 rfl (fun hq5 => ?_) (fun hq5 => ?_) | refine Opz.guard 39 rfl (fun hq5 => ?_) (fun hq5 => ?_)
                  ·
                    -- g39T
                    try contradiction
                    all_goals
                      refine Opz.val (R.move rfl) rfl rfl rfl ?_
                      refine Opz.op (by exact W.call rfl rfl Try.call33 ESmall0_spec rfl Take.nil) rfl rfl rfl ?_
                      rintro v41 I41 _ ⟨hI41, M41, hp41, rfl⟩
                      obtain ⟨rfl, rfl, rfl⟩ := hp41
                      refine Opz.val (R.eql rfl rfl) rfl rfl rfl ?_
                      refine Opz.val (R.pick rfl rfl) rfl rfl rfl ?_
                      refine Opz.val (R.move rfl) rfl rfl rfl ?_
                      first | refine Opz.guardD 44 rfl (fun hq6 => ?_) (fun hq6 => ?_) | refine Opz.guard 44 rfl (fun hq6 => ?_) (fun hq6 => ?_)
                      ·
                        -- g44T
                        try contradiction
                        all_goals
                          refine Opz.val (R.move rfl) rfl rfl rfl ?_
                          refine Opz.op (by exact W.call rfl rfl Try.call34 EGreat0_spec rfl Take.nil) rfl rfl rfl ?_
                          rintro v46 I46 _ ⟨hI46, M46, hp46, rfl⟩
                          obtain ⟨rfl, rfl, rfl⟩ := hp46
                          refine Opz.val (R.eql rfl rfl) rfl rfl rfl ?_
                          refine Opz.val (R.pick rfl rfl) rfl rfl rfl ?_
                          refine Opz.val (R.move rfl) rfl rfl rfl ?_
                          first | refine Opz.guardD 49 rfl (fun hq7 => ?_) (fun hq7 => ?_) | refine Opz.guard 49 rfl (fun hq7 => ?_) (fun hq7 => ?_)
                          ·
                            -- g49T
                            try contradiction
                            all_goals
                              refine Opz.val (R.move rfl) rfl rfl rfl ?_
                              refine Opz.op (by exact W.call rfl rfl Try.call36 EBytes0_spec rfl Take.nil) rfl rfl rfl ?_
                              rintro v51 I51 _ ⟨hI51, M51, hp51, rfl⟩
                              obtain ⟨rfl, rfl, rfl⟩ := hp51
                              refine Opz.val (R.len rfl rfl Try.underlying27) rfl rfl rfl ?_
                              refine Opz.val (R.eql rfl rfl) rfl rfl rfl ?_
                              refine Opz.val (R.pick rfl rfl) rfl rfl rfl ?_
                              refine Opz.val (R.move rfl) rfl rfl rfl ?_
                              first | refine Opz.guardD 55 rfl (fun hq8 => ?_) (fun hq8 => ?_) | refine Opz.guard 55 rfl (fun hq8 => ?_) (fun hq8 => ?_)
                              ·
                                -- g55T
                                try contradiction
                                all_goals
                                  refine Opz.val (R.move rfl) rfl rfl rfl ?_
                                  refine Opz.op (by exact W.call rfl rfl Try.call37 EEnd0_spec rfl Take.nil) rfl rfl rfl ?_
                                  rintro v57 I57 _ ⟨hI57, M57, hp57, rfl⟩
                                  obtain ⟨rfl, rfl, rfl⟩ := hp57
                                  refine Opz.val (R.eql rfl rfl) rfl rfl rfl ?_
                                  refine Opz.val (R.pick rfl rfl) rfl rfl rfl ?_
                                  refine Opz.val (R.assign rfl) rfl rfl rfl ?_
                                  refine Opz.nil ?_
                                  refine seqQ.normal ?_
                                  refine Cd.ret ?_
                                  -- path g17T g23T g29T g35T g39T g44T g49T g55T
                                  refine fin.ret (L' := []) (ResOK.tmp rfl ResOK.nil) (by first | exact hle | exact Imm.le_refl _) ?_ ?_
                                  · repeat (first | exact Have.refl | (refine Have.cons (by repeat (first | exact Rem.head | apply Rem.tail | exact Rem.mid)) ?_) | refine Have.skip ?_ | refine Have.app ?_)
                                  ·
                                    exact ⟨rfl, rfl⟩
                              ·
                                -- g55F
                                exact absurd hq8 (by decide)
                          ·
                            -- g49F
                            exact absurd hq7 (by decide)
                      ·
                        -- g44F
                        exact absurd hq6 (by decide)
                  ·
                    -- g39F
                    exact absurd hq5 (by decide)
              ·
                -- g35F
                exact absurd hq4 (by decide)
          ·
            -- g29F
            exact absurd hq3 (by decide)
      ·
        -- g23F
        exact absurd hq2 (by decide)
  ·
    -- g17F
    exact absurd hq1 (by decide)

end Go.Proofs.Ytdecipfdbkpigaa
