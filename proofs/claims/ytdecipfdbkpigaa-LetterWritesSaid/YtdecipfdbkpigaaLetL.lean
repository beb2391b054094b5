
import Derived.Test.YtdecipfdbkpigaaProg
import Derived.Test.YtdecipfdbkpigaaLetK
import Derived.Test.YtdecipfdbkpigaaEngI
namespace Go.Proofs.Ytdecipfdbkpigaa
open Go.Eng

def awP : List UInt8 := [2, 1, 0, 0, 3, 0, 0, 0, 0, 0, 0, 0, 2, 0, 0, 0, 97, 98]
def awS : List UInt8 := sealB awP
theorem aw_paper : ([] ++ leB (wr .u64 258) 4 ++ leB 3 8 ++ leB (2 : Nat) 4 ++ [97, 98] : List UInt8) = awP := by decide +kernel
theorem aw_seal : sealR false awP = (awS, 0) := by decide +kernel
theorem aw_len : awS.length = 22 := by decide +kernel
theorem aw_open : openB awS = (awP, 0) := by decide +kernel
theorem aw_crc : crc [49, 50, 51, 52, 53, 54, 55, 56, 57] = 3421780262 := by decide +kernel
theorem aw_t1 : takeB awP 0 4 = ([2, 1, 0, 0], awP.drop 4, 0) := by decide +kernel
theorem aw_n1 : numB [2, 1, 0, 0] = 258 := by decide +kernel
theorem aw_t2 : takeB (awP.drop 4) 0 8 = ([3, 0, 0, 0, 0, 0, 0, 0], awP.drop 12, 0) := by decide +kernel
theorem aw_n2 : numB [3, 0, 0, 0, 0, 0, 0, 0] = 3 := by decide +kernel
theorem aw_b : bytesB (awP.drop 12) 0 = ([97, 98], [], 0) := by decide +kernel



set_option maxRecDepth 100000 in
set_option maxHeartbeats 400000 in
theorem awake_spec {I : Imm} :
    Meets Try.prog 21 #[] I ([]) (fun v I' L' => .bool true = v ∧ [] = L') := by
  refine Meets.intro (args := []) (N := 50) (rs := [.tmp 0]) Try.func21 rfl rfl rfl rfl (fun F => ?_)
  change Cd _ _ _ [] I (F) _
  have hle := Imm.le_refl I
  refine Cd.seq ?_
  refine Cd.region ?_
  refine Opz.val (R.assign rfl) rfl rfl rfl ?_
  refine Opz.nil ?_
  refine seqQ.normal ?_
  refine Cd.seq ?_
  refine Cd.region ?_
  refine Opz.op (by exact W.call rfl rfl Try.call20 (Blank_spec) rfl Take.nil) rfl rfl rfl ?_
  rintro v5 I5 _ ⟨hI5, M5, hp5, rfl⟩
  obtain ⟨b5, rfl, rfl, rfl⟩ := hp5
  refine Opz.op (by exact W.call rfl rfl Try.call22 (PSmall_spec (b := b5) (A := none) (c := 0) (wide := false) [] 258 (by omega) (by decide)) rfl (Take.cons (by repeat (first | exact Rem.head | apply Rem.tail | exact Rem.mid)) (Take.cons (by repeat (first | exact Rem.head | apply Rem.tail | exact Rem.mid)) Take.nil))) rfl rfl rfl ?_
  rintro v6 I6 _ ⟨hI6, M6, hp6, rfl⟩
  obtain ⟨A6, c6, rfl, rfl, rfl⟩ := hp6
  rw [show (false || decide ((258 : Int) < 0) || decide ((4294967295 : Int) < 258)) = false from rfl]
  refine Opz.op (by exact W.call rfl rfl Try.call24 (PGreat_spec (b := b5) (wide := false) ([] ++ leB (wr .u64 258) 4) 3 (by omega) (by decide)) rfl (Take.cons (by repeat (first | exact Rem.head | apply Rem.tail | exact Rem.mid)) (Take.cons (by repeat (first | exact Rem.head | apply Rem.tail | exact Rem.mid)) Take.nil))) rfl rfl rfl ?_
  rintro v7 I7 _ ⟨hI7, M7, hp7, rfl⟩
  obtain ⟨A7, c7, rfl, rfl, rfl⟩ := hp7
  refine Opz.op (by exact W.build1 (e := 5) Try.underlying27 Try.typeInfo5 rfl Try.zeroValue5 rfl rfl rfl (by omega) (by omega) (by simp [Value.cells])) rfl rfl rfl ?_
  rintro _ _ _ ⟨b8, rfl, rfl, rfl⟩
  refine Opz.op (by exact W.mark rfl Try.underlying27 Try.underlying5 (by repeat (first | exact Rem.head | apply Rem.tail | exact Rem.mid)) (by decide)) rfl rfl rfl ?_
  rintro _ I9 _ ⟨rfl, hI9, hc9, rfl⟩
  have hle := hle.trans hI9
  refine Opz.op (by exact W.call rfl rfl Try.call26 (PBytes_spec (b := b5) (wide := false) ([] ++ leB (wr .u64 258) 4 ++ leB 3 8) (B := some ⟨b8, 0, none⟩) (d := 2) [97, 98] (Rd.ofBytes (bs := [97, 98]) hc9) (by decide)) rfl (Take.cons (by repeat (first | exact Rem.head | apply Rem.tail | exact Rem.mid)) (Take.cons (by repeat (first | exact Rem.head | apply Rem.tail | exact Rem.mid)) Take.nil))) rfl rfl rfl ?_
  rintro v10 I10 _ ⟨hI10, M10, hp10, rfl⟩
  obtain ⟨A10, c10, rfl, rfl, rfl⟩ := hp10
  rw [show (false || decide ((4294967295 : Int) < (([97, 98] : List UInt8).length : Int))) = false from rfl, show ([] ++ leB (wr .u64 258) 4 ++ leB 3 8 ++ leB ((([97, 98] : List UInt8).length : Nat) : Int) 4 ++ [97, 98] : List UInt8) = awP from aw_paper]
  refine Opz.op (by exact W.call rfl rfl Try.call28 (PSeal_spec (b := b5) (wide := false) awP (by decide)) rfl (Take.cons (by repeat (first | exact Rem.head | apply Rem.tail | exact Rem.mid)) (Take.cons (by repeat (first | exact Rem.head | apply Rem.tail | exact Rem.mid)) Take.nil))) rfl rfl rfl ?_
  rintro v11 I11 _ ⟨hI11, M11, hp11, rfl⟩
  obtain ⟨A11, c11, rfl, rfl, hb11, hc11⟩ := hp11
  rw [aw_seal] at hb11 hc11
  rw [aw_seal]
  have hle := hle.trans hI11
  refine Opz.val (R.move rfl) rfl rfl rfl ?_
  refine Opz.val (R.ext rfl rfl) rfl rfl rfl ?_
  refine Opz.val (R.ext rfl rfl) rfl rfl rfl ?_
  refine Opz.val (R.assign rfl) rfl rfl rfl ?_
  refine Opz.val (R.assign rfl) rfl rfl rfl ?_
  refine Opz.nil ?_
  refine seqQ.normal ?_
  refine Cd.seq ?_
  refine Cd.region ?_
  refine Opz.val (R.move rfl) rfl rfl rfl ?_
  refine Opz.op (by exact W.call rfl rfl Try.call30 (Look_spec (L0 := []) awS (Rd.cells (L := []) hb11) rfl hc11 (by rw [aw_len]; decide)) rfl Take.nil) rfl rfl rfl ?_
  rintro v15 I15 _ ⟨hI15, M15, hp15, rfl⟩
  obtain ⟨b15, A15, c15, rfl, rfl, hb15, hc15⟩ := hp15
  rw [aw_open] at hb15 hc15
  rw [aw_open]
  have hr15 := Rd.cells (L := []) hb15
  have hle := hle.trans hI15
  refine Opz.val (R.assign rfl) rfl rfl rfl ?_
  refine Opz.nil ?_
  refine seqQ.normal ?_
  refine Cd.seq ?_
  refine Cd.region ?_
  refine Opz.val (R.move rfl) rfl rfl rfl ?_
  refine Opz.val (R.eql rfl rfl) rfl rfl rfl ?_
  refine Opz.val (R.move rfl) rfl rfl rfl ?_
  first | refine Opz.guardD 18 rfl (fun hq1 => ?_) (fun hq1 => ?_) | refine Opz.guard 18 rfl (fun hq1 => ?_) (fun hq1 => ?_)
  ·
    -- g18T
    try contradiction
    all_goals
      refine Opz.op (by exact W.build1 (e := 5) Try.underlying27 Try.typeInfo5 rfl Try.zeroValue5 rfl rfl rfl (by omega) (by omega) (by simp [Value.cells])) rfl rfl rfl ?_
      rintro _ _ _ ⟨b19, rfl, rfl, rfl⟩
      refine Opz.op (by exact W.mark rfl Try.underlying27 Try.underlying5 (by repeat (first | exact Rem.head | apply Rem.tail | exact Rem.mid)) (by decide)) rfl rfl rfl ?_
      rintro _ I20 _ ⟨rfl, hI20, hc20, rfl⟩
      have hle := hle.trans hI20
      have hr15 := hr15.mono hI20
      refine Opz.op (by exact W.call rfl rfl Try.call38 (Check_spec (L0 := []) [49, 50, 51, 52, 53, 54, 55, 56, 57] (Rd.cells (Rd.ofBytes hc20)) rfl (by decide)) rfl Take.nil) rfl rfl rfl ?_
      rintro v21 I21 _ ⟨hI21, M21, hp21, rfl⟩
      obtain ⟨rfl, rfl, rfl⟩ := hp21
      rw [aw_crc]
      refine Opz.val (R.eql rfl rfl) rfl rfl rfl ?_
      refine Opz.val (R.pick rfl rfl) rfl rfl rfl ?_
      refine Opz.val (R.move rfl) rfl rfl rfl ?_
      first | refine Opz.guardD 24 rfl (fun hq2 => ?_) (fun hq2 => ?_) | refine Opz.guard 24 rfl (fun hq2 => ?_) (fun hq2 => ?_)
      ·
        -- g24T
        try contradiction
        all_goals
          refine Opz.val (R.move rfl) rfl rfl rfl ?_
          refine Opz.op (by exact W.call rfl rfl Try.call33 (ESmall_spec (L0 := []) awP rfl hr15 hc15) rfl (Take.cons (by repeat (first | exact Rem.head | apply Rem.tail | exact Rem.mid)) Take.nil)) rfl rfl rfl ?_
          rintro v26 I26 _ ⟨hI26, M26, hp26, rfl⟩
          obtain ⟨A226, c226, rfl, rfl, rfl, hr26, hc26⟩ := hp26
          rw [aw_t1, aw_n1]
          rw [aw_t1] at hr26 hc26
          refine Opz.val (R.eql rfl rfl) rfl rfl rfl ?_
          refine Opz.val (R.pick rfl rfl) rfl rfl rfl ?_
          refine Opz.val (R.move rfl) rfl rfl rfl ?_
          first | refine Opz.guardD 29 rfl (fun hq3 => ?_) (fun hq3 => ?_) | refine Opz.guard 29 rfl (fun hq3 => ?_) (fun hq3 => ?_)
          ·
            -- g29T
            try contradiction
            all_goals
              refine Opz.val (R.move rfl) rfl rfl rfl ?_
              refine Opz.op (by exact W.call rfl rfl Try.call34 (EGreat_spec (L0 := []) (awP.drop 4) rfl hr26 hc26) rfl (Take.cons (by repeat (first | exact Rem.head | apply Rem.tail | exact Rem.mid)) Take.nil)) rfl rfl rfl ?_
              rintro v31 I31 _ ⟨hI31, M31, hp31, rfl⟩
              obtain ⟨A231, c231, rfl, rfl, rfl, hr31, hc31⟩ := hp31
              rw [aw_t2, aw_n2]
              rw [aw_t2] at hr31 hc31
              refine Opz.val (R.eql rfl rfl) rfl rfl rfl ?_
              refine Opz.val (R.pick rfl rfl) rfl rfl rfl ?_
              refine Opz.val (R.move rfl) rfl rfl rfl ?_
              first | refine Opz.guardD 34 rfl (fun hq4 => ?_) (fun hq4 => ?_) | refine Opz.guard 34 rfl (fun hq4 => ?_) (fun hq4 => ?_)
              ·
                -- g34T
                try contradiction
                all_goals
                  refine Opz.val (R.move rfl) rfl rfl rfl ?_
                  refine Opz.op (by exact W.call rfl rfl Try.call36 (EBytes_spec (L0 := []) (awP.drop 12) rfl hr31 hc31) rfl (Take.cons (by repeat (first | exact Rem.head | apply Rem.tail | exact Rem.mid)) Take.nil)) rfl rfl rfl ?_
                  rintro v36 I36 _ ⟨hI36, M36, hp36, rfl⟩
                  obtain ⟨A136, c136, A236, c236, rfl, rfl, hb36, hcb36, hr36, hc36⟩ := hp36
                  rw [aw_b]
                  rw [aw_b] at hb36 hcb36 hr36 hc36
                  have hle := hle.trans hI36
                  refine Opz.val (by exact R.bytesT rfl Try.underlying27 Try.underlying5 Try.underlying9 (by first | rfl | assumption | simp) (Rd.cells hb36)) rfl rfl rfl ?_
                  refine Opz.val (R.eqT rfl rfl) rfl rfl rfl ?_
                  refine Opz.val (R.pick rfl rfl) rfl rfl rfl ?_
                  refine Opz.val (R.move rfl) rfl rfl rfl ?_
                  first | refine Opz.guardD 40 rfl (fun hq5 => ?_) (fun hq5 => ?_) | refine Opz.guard 40 rfl (fun hq5 => ?_) (fun hq5 => ?_)
                  ·
                    -- g40T
                    try contradiction
                    all_goals
                      refine Opz.val (R.move rfl) rfl rfl rfl ?_
                      refine Opz.op (by exact W.call rfl rfl Try.call37 EEnd_spec rfl (Take.cons (by repeat (first | exact Rem.head | apply Rem.tail | exact Rem.mid)) Take.nil)) rfl rfl rfl ?_
                      rintro v42 I42 _ ⟨hI42, M42, hp42, rfl⟩
                      obtain ⟨rfl, rfl, rfl⟩ := hp42
                      refine Opz.val (R.eql rfl rfl) rfl rfl rfl ?_
                      refine Opz.val (R.pick rfl rfl) rfl rfl rfl ?_
                      refine Opz.val (R.move rfl) rfl rfl rfl ?_
                      first | refine Opz.guardD 45 rfl (fun hq6 => ?_) (fun hq6 => ?_) | refine Opz.guard 45 rfl (fun hq6 => ?_) (fun hq6 => ?_)
                      ·
                        -- g45T
                        try contradiction
                        all_goals
                          refine Opz.val (R.move rfl) rfl rfl rfl ?_
                          refine Opz.val (R.len rfl rfl Try.underlying27) rfl rfl rfl ?_
                          refine Opz.val (R.eql rfl rfl) rfl rfl rfl ?_
                          refine Opz.val (R.pick rfl rfl) rfl rfl rfl ?_
                          refine Opz.val (R.assign rfl) rfl rfl rfl ?_
                          refine Opz.nil ?_
                          refine seqQ.normal ?_
                          refine Cd.ret ?_
                          -- path g18T g24T g29T g34T g40T g45T
                          refine fin.ret (L' := []) (ResOK.tmp rfl ResOK.nil) (by first | exact hle | exact Imm.le_refl _) ?_ ?_
                          · repeat (first | exact Have.refl | (refine Have.cons (by repeat (first | exact Rem.head | apply Rem.tail | exact Rem.mid)) ?_) | refine Have.skip ?_ | refine Have.app ?_)
                          ·
                            exact ⟨rfl, rfl⟩
                      ·
                        -- g45F
                        exact absurd hq6 (by decide)
                  ·
                    -- g40F
                    exact absurd hq5 (by decide)
              ·
                -- g34F
                exact absurd hq4 (by decide)
          ·
            -- g29F
            exact absurd hq3 (by decide)
      ·
        -- g24F
        exact absurd hq2 (by decide)
  ·
    -- g18F
    exact absurd hq1 (by decide)

end Go.Proofs.Ytdecipfdbkpigaa
