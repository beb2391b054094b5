
import Derived.Test.YtdecipfdbkpigaaProg
import Derived.Test.YtdecipfdbkpigaaLetN
namespace Go.Proofs.Ytdecipfdbkpigaa
open Go.Eng



set_option maxRecDepth 100000 in
set_option maxHeartbeats 400000 in
theorem LChecks_spec {I : Imm} {A : Option Addr} {c : Nat} (bs : List UInt8) (hr : Rd eByte I A bs) (hc : bs.length ≤ c) :
    Meets Try.prog 9 #[.slice A bs.length c] I ([]) (fun v I' L' => .bool true = v ∧ [] = L') := by
  refine Meets.intro (args := [.slice A bs.length c]) (N := 17) (rs := [.tmp 2]) Try.func9 rfl rfl rfl rfl (fun F => ?_)
  change Cd _ _ _ [(0, .slice A bs.length c)] I (F) _
  have hle := Imm.le_refl I
  refine Cd.seq ?_
  refine Cd.region ?_
  refine Opz.val (R.assign rfl) rfl rfl rfl ?_
  refine Opz.nil ?_
  refine seqQ.normal ?_
  refine Cd.seq ?_
  refine Cd.seq ?_
  refine Cd.region ?_
  refine Opz.val (R.move rfl) rfl rfl rfl ?_
  refine Opz.val (R.len rfl rfl Try.underlying27) rfl rfl rfl ?_
  refine Opz.val (R.gtr rfl rfl) rfl rfl rfl ?_
  refine Opz.nil ?_
  refine seqQ.normal ?_
  first | refine Cd.condD rfl (fun hq1 => ?_) (fun hq1 => ?_) | refine Cd.cond rfl (fun hq1 => ?_) (fun hq1 => ?_)
  ·
    -- c1T
    try contradiction
    all_goals
      obtain ⟨q, hq⟩ : ∃ q : List UInt8, q = bs.take 5000 := ⟨_, rfl⟩
      have hql : q.length = 5000 := by rw [hq, List.length_take]; omega
      have hqr : Rd eByte I A q := by rw [hq]; exact hr.take 5000
      have hq5 : q.length ≤ 5000 := by omega
      refine Cd.region ?_
      refine Opz.val (R.move rfl) rfl rfl rfl ?_
      refine Opz.val (by exact R.slH rfl rfl Try.underlying27 Try.typeInfo5 ⟨by omega, by omega⟩) rfl rfl rfl ?_
      refine Opz.val (R.assign rfl) rfl rfl rfl ?_
      refine Opz.nil ?_
      refine seqQ.normal ?_
      refine Cd.seq ?_
      refine Cd.pick [0] (Pick.cons rfl (Pick.nil)) ?_
      refine Cd.draw (by kernel_rfl) ?_
      refine Pot.step [0] rfl rfl rfl ⟨?_, trivial⟩
      refine ChainOK.op (ts := []) rfl rfl rfl (Pick.nil) rfl rfl rfl (by exact W.call rfl rfl Try.call21 awake_spec rfl Take.nil) ?_
      rintro v8 I8 _ ⟨hI8, M8, hp8, rfl⟩
      obtain ⟨rfl, rfl⟩ := hp8
      refine ⟨hI8, ?_⟩
      have hle := hle.trans hI8
      refine Pot.pure 1 (ts := [8]) rfl rfl rfl (Pick.cons rfl (Pick.nil)) rfl rfl rfl (fun _ _ _ => (R.move rfl)) rfl ?_
      refine Pot.guard 9 rfl (fun hq2 => ?_) (fun hq2 => ?_)
      ·
        -- g9T
        try contradiction
        all_goals
          rw [hq2]
          try replace hq2 := of_decide_eq_true hq2
          refine Pot.pure 2 (ts := [0, 9]) rfl rfl rfl (Pick.cons rfl (Pick.cons rfl (Pick.nil))) rfl rfl rfl (fun _ _ _ => (R.move rfl)) rfl ?_
          refine Pot.pure 4 (ts := [0, 9]) rfl rfl rfl (Pick.cons rfl (Pick.cons rfl (Pick.nil))) rfl rfl rfl (fun _ _ _ => (R.move rfl)) rfl ?_
          refine Pot.pure 5 (ts := [12, 9]) rfl rfl rfl (Pick.cons rfl (Pick.cons rfl (Pick.nil))) rfl rfl rfl (fun _ _ _ => (by exact R.bytesT rfl Try.underlying27 Try.underlying5 Try.underlying9 (by first | rfl | assumption | simp) (Rd.cells (hqr.mono (hle.trans (by assumption)))))) rfl ?_
          refine Pot.step [3] rfl rfl rfl ⟨?_, trivial⟩
          refine ChainOK.op (ts := [10, 9]) rfl rfl rfl (Pick.cons rfl (Pick.cons rfl (Pick.nil))) rfl rfl rfl (by exact W.call rfl rfl Try.call38 (Check_spec (L0 := []) q (Rd.cells (hqr.mono hle)) hql (by omega)) rfl Take.nil) ?_
          rintro v11 I11 _ ⟨hI11, M11, hp11, rfl⟩
          obtain ⟨rfl, rfl, rfl⟩ := hp11
          refine ⟨Imm.le_refl _, ?_⟩
          refine Pot.step [6] rfl rfl rfl ⟨?_, trivial⟩
          refine ChainOK.op (ts := [13, 9]) rfl rfl rfl (Pick.cons rfl (Pick.cons rfl (Pick.nil))) rfl rfl rfl (by exact W.call rfl rfl Try.call39 (RCheck_spec q (by omega)) rfl Take.nil) ?_
          rintro v14 I14 _ ⟨hI14, M14, hp14, rfl⟩
          obtain ⟨rfl, rfl, rfl⟩ := hp14
          refine ⟨Imm.le_refl _, ?_⟩
          refine Pot.pure 7 (ts := [11, 14, 9]) rfl rfl rfl (Pick.cons rfl (Pick.cons rfl (Pick.cons rfl (Pick.nil)))) rfl rfl rfl (fun _ _ _ => (R.eql rfl rfl)) rfl ?_
          refine Pot.pure 8 (ts := [9, 15]) rfl rfl rfl (Pick.cons rfl (Pick.cons rfl (Pick.nil))) rfl rfl rfl (fun _ _ _ => (R.pick rfl rfl)) rfl ?_
          refine Pot.pure 9 (ts := [16]) rfl rfl rfl (Pick.cons rfl (Pick.nil)) rfl rfl rfl (fun _ _ _ => (R.assign rfl)) rfl ?_
          refine Pot.done rfl rfl ?_
          refine seqQ.normal ?_
          refine Cd.ret ?_
          -- path c1T g9T
          refine fin.ret (L' := []) (ResOK.tmp rfl ResOK.nil) (by first | exact hle | exact Imm.le_refl _) ?_ ?_
          · repeat (first | exact Have.refl | (refine Have.cons (by repeat (first | exact Rem.head | apply Rem.tail | exact Rem.mid)) ?_) | refine Have.skip ?_ | refine Have.app ?_)
          ·
            exact ⟨(bool_congr (by simp)).symm, rfl⟩
      ·
        -- g9F
        exact absurd hq2 (by decide)
  ·
    -- c1F
    try contradiction
    all_goals
      obtain ⟨q, hq⟩ : ∃ q : List UInt8, q = bs := ⟨_, rfl⟩
      have hql : q.length = bs.length := by rw [hq]
      have hqr : Rd eByte I A q := by rw [hq]; exact hr
      have hq5 : q.length ≤ 5000 := by omega
      refine Cd.skip ?_
      refine seqQ.normal ?_
      refine Cd.seq ?_
      refine Cd.pick [0] (Pick.cons rfl (Pick.nil)) ?_
      refine Cd.draw (by kernel_rfl) ?_
      refine Pot.step [0] rfl rfl rfl ⟨?_, trivial⟩
      refine ChainOK.op (ts := []) rfl rfl rfl (Pick.nil) rfl rfl rfl (by exact W.call rfl rfl Try.call21 awake_spec rfl Take.nil) ?_
      rintro v8 I8 _ ⟨hI8, M8, hp8, rfl⟩
      obtain ⟨rfl, rfl⟩ := hp8
      refine ⟨hI8, ?_⟩
      have hle := hle.trans hI8
      refine Pot.pure 1 (ts := [8]) rfl rfl rfl (Pick.cons rfl (Pick.nil)) rfl rfl rfl (fun _ _ _ => (R.move rfl)) rfl ?_
      refine Pot.guard 9 rfl (fun hq3 => ?_) (fun hq3 => ?_)
      ·
        -- g9T
        try contradiction
        all_goals
          rw [hq3]
          try replace hq3 := of_decide_eq_true hq3
          refine Pot.pure 2 (ts := [0, 9]) rfl rfl rfl (Pick.cons rfl (Pick.cons rfl (Pick.nil))) rfl rfl rfl (fun _ _ _ => (R.move rfl)) rfl ?_
          refine Pot.pure 4 (ts := [0, 9]) rfl rfl rfl (Pick.cons rfl (Pick.cons rfl (Pick.nil))) rfl rfl rfl (fun _ _ _ => (R.move rfl)) rfl ?_
          refine Pot.pure 5 (ts := [12, 9]) rfl rfl rfl (Pick.cons rfl (Pick.cons rfl (Pick.nil))) rfl rfl rfl (fun _ _ _ => (by exact R.bytesT rfl Try.underlying27 Try.underlying5 Try.underlying9 (by first | rfl | assumption | simp) (Rd.cells (hqr.mono (hle.trans (by assumption)))))) rfl ?_
          refine Pot.step [3] rfl rfl rfl ⟨?_, trivial⟩
          refine ChainOK.op (ts := [10, 9]) rfl rfl rfl (Pick.cons rfl (Pick.cons rfl (Pick.nil))) rfl rfl rfl (by exact W.call rfl rfl Try.call38 (Check_spec (L0 := []) q (Rd.cells (hqr.mono hle)) hql (by omega)) rfl Take.nil) ?_
          rintro v11 I11 _ ⟨hI11, M11, hp11, rfl⟩
          obtain ⟨rfl, rfl, rfl⟩ := hp11
          refine ⟨Imm.le_refl _, ?_⟩
          refine Pot.step [6] rfl rfl rfl ⟨?_, trivial⟩
          refine ChainOK.op (ts := [13, 9]) rfl rfl rfl (Pick.cons rfl (Pick.cons rfl (Pick.nil))) rfl rfl rfl (by exact W.call rfl rfl Try.call39 (RCheck_spec q (by omega)) rfl Take.nil) ?_
          rintro v14 I14 _ ⟨hI14, M14, hp14, rfl⟩
          obtain ⟨rfl, rfl, rfl⟩ := hp14
          refine ⟨Imm.le_refl _, ?_⟩
          refine Pot.pure 7 (ts := [11, 14, 9]) rfl rfl rfl (Pick.cons rfl (Pick.cons rfl (Pick.cons rfl (Pick.nil)))) rfl rfl rfl (fun _ _ _ => (R.eql rfl rfl)) rfl ?_
          refine Pot.pure 8 (ts := [9, 15]) rfl rfl rfl (Pick.cons rfl (Pick.cons rfl (Pick.nil))) rfl rfl rfl (fun _ _ _ => (R.pick rfl rfl)) rfl ?_
          refine Pot.pure 9 (ts := [16]) rfl rfl rfl (Pick.cons rfl (Pick.nil)) rfl rfl rfl (fun _ _ _ => (R.assign rfl)) rfl ?_
          refine Pot.done rfl rfl ?_
          refine seqQ.normal ?_
          refine Cd.ret ?_
          -- path c1F g9T
          refine fin.ret (L' := []) (ResOK.tmp rfl ResOK.nil) (by first | exact hle | exact Imm.le_refl _) ?_ ?_
          · repeat (first | exact Have.refl | (refine Have.cons (by repeat (first | exact Rem.head | apply Rem.tail | exact Rem.mid)) ?_) | refine Have.skip ?_ | refine Have.app ?_)
          ·
            exact ⟨(bool_congr (by simp)).symm, rfl⟩
      ·
        -- g9F
        exact absurd hq3 (by decide)

end Go.Proofs.Ytdecipfdbkpigaa
