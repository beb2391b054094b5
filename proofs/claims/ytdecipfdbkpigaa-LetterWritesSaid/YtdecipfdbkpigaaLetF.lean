
import Derived.Test.YtdecipfdbkpigaaProg
import Derived.Test.YtdecipfdbkpigaaLetE
namespace Go.Proofs.Ytdecipfdbkpigaa
open Go.Eng



set_option maxRecDepth 100000 in
set_option maxHeartbeats 400000 in
theorem ESmall_spec {I : Imm} {L0 : List Ent} {b c : Nat} {A : Option Addr} {e : Int} {m : Nat} (rest : List UInt8) (hm : rest.length = m) (hr : RdC I L0 A (bytesV rest)) (hc : rest.length ≤ c) :
    Meets Try.prog 33 #[.pointer (some ⟨b, 0, none⟩)] I (([.blk b 93 [.slice A m c, .int .i64 e]] ++ L0)) (fun v I' L' => ∃ A2 c2, .int .i64 (numB (takeB rest e 4).1 : Nat) = v ∧ I = I' ∧ ([.blk b 93 [.slice A2 (takeB rest e 4).2.1.length c2, .int .i64 (takeB rest e 4).2.2]] ++ L0) = L' ∧ RdC I L0 A2 (bytesV (takeB rest e 4).2.1) ∧ (takeB rest e 4).2.1.length ≤ c2) := by
  subst hm
  refine Meets.intro (args := [.pointer (some ⟨b, 0, none⟩)]) (N := 6) (rs := [.tmp 2]) Try.func33 rfl rfl rfl rfl (fun F => ?_)
  change Cd _ _ _ [(0, .pointer (some ⟨b, 0, none⟩))] I (.blk b 93 [.slice A rest.length c, .int .i64 e] :: (L0 ++ F)) _
  have hle := Imm.le_refl I
  refine Cd.seq ?_
  refine Cd.region ?_
  refine Opz.val (R.assign rfl) rfl rfl rfl ?_
  refine Opz.nil ?_
  refine seqQ.normal ?_
  refine Cd.seq ?_
  refine Cd.region ?_
  refine Opz.val (R.move rfl) rfl rfl rfl ?_
  refine Opz.op (by exact W.call rfl rfl Try.call46 (ENumber_spec (L0 := L0) rest 4 rfl hr hc (by omega)) rfl (Take.cons (by repeat (first | exact Rem.head | apply Rem.tail | exact Rem.mid)) (Take.app' L0 _))) rfl rfl rfl ?_
  rintro v4 I4 _ ⟨hI4, M4, hp4, rfl⟩
  obtain ⟨A24, c24, rfl, rfl, rfl, hr4, hc4⟩ := hp4
  have h32 : numB (takeB rest e 4).1 < 4294967296 := by
    have h1 := numB_lt (takeB rest e 4).1
    have h2 : (takeB rest e 4).1.length ≤ 4 := by unfold takeB; split <;> (try split) <;> simp [List.length_take] <;> omega
    have h3 : 256 ^ (takeB rest e 4).1.length ≤ 256 ^ 4 := Nat.pow_le_pow_right (by decide) h2
    have h4 : (256 : Nat) ^ 4 = 4294967296 := by decide
    omega
  refine Opz.val (by first | exact R.conv rfl Try.underlying49 Try.underlying3 (by first | exact ⟨by simp only [loK]; omega, by simp only [hiK]; omega⟩ | exact wr_inR rfl _) | exact R.convW rfl Try.underlying49 Try.underlying3) rfl rfl rfl ?_
  refine Opz.val (R.assign rfl) rfl rfl rfl ?_
  refine Opz.nil ?_
  refine seqQ.normal ?_
  refine Cd.ret ?_
  -- path 
  refine fin.ret (L' := ([.blk b 93 [.slice A24 (takeB rest e 4).2.1.length c24, .int .i64 (takeB rest e 4).2.2]] ++ L0)) (ResOK.tmp rfl ResOK.nil) (by first | exact hle | exact Imm.le_refl _) ?_ ?_
  · repeat (first | exact Have.refl | (refine Have.cons (by repeat (first | exact Rem.head | apply Rem.tail | exact Rem.mid)) ?_) | refine Have.skip ?_ | refine Have.app ?_)
  ·
    exact ⟨A24, c24, rfl, rfl, rfl, hr4, hc4⟩


set_option maxRecDepth 100000 in
set_option maxHeartbeats 400000 in
theorem EGreat_spec {I : Imm} {L0 : List Ent} {b c : Nat} {A : Option Addr} {e : Int} {m : Nat} (rest : List UInt8) (hm : rest.length = m) (hr : RdC I L0 A (bytesV rest)) (hc : rest.length ≤ c) :
    Meets Try.prog 34 #[.pointer (some ⟨b, 0, none⟩)] I (([.blk b 93 [.slice A m c, .int .i64 e]] ++ L0)) (fun v I' L' => ∃ A2 c2, .int .u64 (numB (takeB rest e 8).1 : Nat) = v ∧ I = I' ∧ ([.blk b 93 [.slice A2 (takeB rest e 8).2.1.length c2, .int .i64 (takeB rest e 8).2.2]] ++ L0) = L' ∧ RdC I L0 A2 (bytesV (takeB rest e 8).2.1) ∧ (takeB rest e 8).2.1.length ≤ c2) := by
  subst hm
  refine Meets.intro (args := [.pointer (some ⟨b, 0, none⟩)]) (N := 5) (rs := [.tmp 2]) Try.func34 rfl rfl rfl rfl (fun F => ?_)
  change Cd _ _ _ [(0, .pointer (some ⟨b, 0, none⟩))] I (.blk b 93 [.slice A rest.length c, .int .i64 e] :: (L0 ++ F)) _
  have hle := Imm.le_refl I
  refine Cd.seq ?_
  refine Cd.region ?_
  refine Opz.val (R.assign rfl) rfl rfl rfl ?_
  refine Opz.nil ?_
  refine seqQ.normal ?_
  refine Cd.seq ?_
  refine Cd.region ?_
  refine Opz.val (R.move rfl) rfl rfl rfl ?_
  refine Opz.op (by exact W.call rfl rfl Try.call46 (ENumber_spec (L0 := L0) rest 8 rfl hr hc (by omega)) rfl (Take.cons (by repeat (first | exact Rem.head | apply Rem.tail | exact Rem.mid)) (Take.app' L0 _))) rfl rfl rfl ?_
  rintro v4 I4 _ ⟨hI4, M4, hp4, rfl⟩
  obtain ⟨A24, c24, rfl, rfl, rfl, hr4, hc4⟩ := hp4
  refine Opz.val (R.assign rfl) rfl rfl rfl ?_
  refine Opz.nil ?_
  refine seqQ.normal ?_
  refine Cd.ret ?_
  -- path 
  refine fin.ret (L' := ([.blk b 93 [.slice A24 (takeB rest e 8).2.1.length c24, .int .i64 (takeB rest e 8).2.2]] ++ L0)) (ResOK.tmp rfl ResOK.nil) (by first | exact hle | exact Imm.le_refl _) ?_ ?_
  · repeat (first | exact Have.refl | (refine Have.cons (by repeat (first | exact Rem.head | apply Rem.tail | exact Rem.mid)) ?_) | refine Have.skip ?_ | refine Have.app ?_)
  ·
    exact ⟨A24, c24, rfl, rfl, rfl, hr4, hc4⟩

end Go.Proofs.Ytdecipfdbkpigaa
