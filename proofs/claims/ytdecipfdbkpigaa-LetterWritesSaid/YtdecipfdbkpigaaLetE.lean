
import Derived.Test.YtdecipfdbkpigaaProg
import Derived.Test.YtdecipfdbkpigaaLetD
namespace Go.Proofs.Ytdecipfdbkpigaa
open Go.Eng



set_option maxRecDepth 100000 in
set_option maxHeartbeats 400000 in
theorem ENumber_spec {I : Imm} {L0 : List Ent} {b c : Nat} {A : Option Addr} {e : Int} {m : Nat} (rest : List UInt8) (n : Nat) (hm : rest.length = m) (hr : RdC I L0 A (bytesV rest)) (hc : rest.length ≤ c) (hn : n ≤ 8) :
    Meets Try.prog 46 #[.pointer (some ⟨b, 0, none⟩), .int .i64 n] I (([.blk b 93 [.slice A m c, .int .i64 e]] ++ L0)) (fun v I' L' => ∃ A2 c2, .int .u64 (numB (takeB rest e n).1 : Nat) = v ∧ I = I' ∧ [.blk b 93 [.slice A2 (takeB rest e n).2.1.length c2, .int .i64 (takeB rest e n).2.2]] ++ L0 = L' ∧ RdC I L0 A2 (bytesV (takeB rest e n).2.1) ∧ (takeB rest e n).2.1.length ≤ c2) := by
  subst hm
  refine Meets.intro (args := [.pointer (some ⟨b, 0, none⟩), .int .i64 n]) (N := 26) (rs := [.tmp 4]) Try.func46 rfl rfl rfl rfl (fun F => ?_)
  change Cd _ _ _ [(0, .pointer (some ⟨b, 0, none⟩)), (1, .int .i64 n)] I (.blk b 93 [.slice A rest.length c, .int .i64 e] :: (L0 ++ F)) _
  have hle := Imm.le_refl I
  refine Cd.seq ?_
  refine Cd.region ?_
  refine Opz.val (R.assign rfl) rfl rfl rfl ?_
  refine Opz.nil ?_
  refine seqQ.normal ?_
  refine Cd.seq ?_
  refine Cd.region ?_
  refine Opz.val (R.assign rfl) rfl rfl rfl ?_
  refine Opz.nil ?_
  refine seqQ.normal ?_
  refine Cd.seq ?_
  refine Cd.seq ?_
  refine Cd.region ?_
  refine Opz.val (R.move rfl) rfl rfl rfl ?_
  refine Opz.val (R.move rfl) rfl rfl rfl ?_
  refine Opz.op (by exact W.call rfl rfl Try.call48 (ETake_spec (L0 := L0) rest n rfl hr hc (by omega)) rfl (Take.cons (by repeat (first | exact Rem.head | apply Rem.tail | exact Rem.mid)) Take.nil)) rfl rfl rfl ?_
  rintro v10 I10 _ ⟨hI10, M10, hp10, rfl⟩
  obtain ⟨A110, c110, A210, c210, rfl, rfl, rfl, hr110, hc110, hr210, hc210⟩ := hp10
  have hl8 : (takeB rest e n).1.length ≤ 8 := by unfold takeB; split <;> (try split) <;> simp [List.length_take] <;> omega
  have hrF := hr110.app F
  generalize (takeB rest e n).1 = out at *
  generalize (takeB rest e n).2.1 = rest2 at *
  generalize (takeB rest e n).2.2 = e2 at *
  refine Opz.val (R.len rfl rfl Try.underlying27) rfl rfl rfl ?_
  refine Opz.val (R.move rfl) rfl rfl rfl ?_
  refine Opz.nil ?_
  refine seqQ.normal ?_
  refine Cd.block ?_
  -- loop 1: turned [5, 12], kept [10, 11]
  refine Cd.loop [10, 11] (fun nn vs I101 L1 => ∃ (k : Nat), [(5, .int .u64 (numB (out.take k) : Nat)), (12, .int .i64 k)] = vs ∧ (.blk b 93 [.slice A210 rest2.length c210, .int .i64 e2] :: (L0 ++ F)) = L1 ∧ I = I101 ∧ out.length - k = nn ∧ k ≤ out.length) (Pick.cons rfl (Pick.cons rfl (Pick.nil))) ?_ ?_
  ·
    refine ⟨_, _, _, ⟨0, rfl, rfl, rfl, rfl, ?_⟩, ⟨rfl, rfl, trivial⟩, by repeat (first | exact Have.refl | (refine Have.cons (by repeat (first | exact Rem.head | apply Rem.tail | exact Rem.mid)) ?_) | refine Have.skip ?_ | refine Have.app ?_)⟩
    · first | assumption | omega | simp
  ·
    rintro nn1 _ I101 _ ⟨k, rfl, rfl, rfl, hn1, hk⟩
    have h64 := numB_le (out.take k) (by rw [List.length_take]; omega)
    refine Cd.seq ?_
    refine Cd.region ?_
    refine Opz.val (R.lss rfl rfl) rfl rfl rfl ?_
    refine Opz.nil ?_
    refine seqQ.normal ?_
    refine Cd.seq ?_
    first | refine Cd.condD rfl (fun hq1 => ?_) (fun hq1 => ?_) | refine Cd.cond rfl (fun hq1 => ?_) (fun hq1 => ?_)
    ·
      -- c1T
      try (first | contradiction | (exfalso; omega))
      all_goals
        refine Cd.skip ?_
        refine seqQ.normal ?_
        refine Cd.seq ?_
        refine Cd.block ?_
        refine Cd.seq ?_
        refine Cd.region ?_
        refine Opz.val (R.move rfl) rfl rfl rfl ?_
        refine Opz.rdSome (hrF.cons _) (by rw [bytesV_len]; omega) (fun a hA => ?_)
        obtain ⟨x15, hx15⟩ : ∃ x, out[k]? = some x := ⟨out[k], List.getElem?_eq_getElem (by omega)⟩
        have hc15 := (hrF.cons (.blk b 93 [.slice A210 rest2.length c210, .int .i64 e2])).at hA (j := k) (u := .int .u8 x15.toNat) (by rw [bytesV_get, hx15]; rfl)
        have h8 := u8_lt x15
        refine Opz.val (by first | exact R.ixA rfl rfl Try.underlying27 Try.typeInfo5 ⟨by omega, by omega⟩ rfl | exact R.ixO rfl (by assumption) rfl Try.underlying27 Try.typeInfo5 ⟨by omega, by omega⟩ rfl) rfl rfl rfl ?_
        refine Opz.val (by exact R.load rfl Try.underlying5 rfl hc15) rfl rfl rfl ?_
        refine Opz.val (R.assign rfl) rfl rfl rfl ?_
        refine Opz.val (R.assign rfl) rfl rfl rfl ?_
        refine Opz.nil ?_
        refine seqQ.normal ?_
        refine Cd.region ?_
        refine Opz.val (R.move rfl) rfl rfl rfl ?_
        refine Opz.val (R.move rfl) rfl rfl rfl ?_
        refine Opz.val (by first | exact R.conv rfl Try.underlying5 Try.underlying49 (by first | exact ⟨by simp only [loK]; omega, by simp only [hiK]; omega⟩ | exact wr_inR rfl _) | exact R.convW rfl Try.underlying5 Try.underlying49) rfl rfl rfl ?_
        refine Opz.val (R.move rfl) rfl rfl rfl ?_
        refine Opz.val (by exact R.mul rfl rfl (by first | exact ⟨by simp only [loK]; omega, by simp only [hiK]; omega⟩ | exact wr_inR rfl _)) rfl rfl rfl ?_
        refine Opz.val (by exact R.shl rfl rfl (by omega)) rfl rfl rfl ?_
        refine Opz.val (by exact R.or rfl rfl (by first | exact ⟨by omega, by simp only [hiK]; omega⟩ | exact wr_uns rfl _) (by first | exact ⟨by omega, by simp only [hiK]; omega⟩ | exact wr_uns rfl _)) rfl rfl rfl ?_
        refine Opz.val (R.assign rfl) rfl rfl rfl ?_
        refine Opz.nil ?_
        refine blkQ.normal ?_
        refine seqQ.normal ?_
        refine Cd.region ?_
        refine Opz.val (by exact R.add rfl rfl (by first | exact ⟨by simp only [loK]; omega, by simp only [hiK]; omega⟩ | exact wr_inR rfl _)) rfl rfl rfl ?_
        refine Opz.val (R.move rfl) rfl rfl rfl ?_
        refine Opz.nil ?_
        refine loopQ.round ⟨k + 1, rfl, rfl, rfl, rfl, ?_⟩ ?_ ⟨(by first | rfl | (refine look_val rfl ?_; refine int_congr ?_; rw [numB_or (by rw [List.length_take]; omega) (by omega), List.take_add_one, hx15]; rfl)), (by first | rfl | (refine look_val rfl ?_; first | rfl | (refine int_congr ?_; first | omega | (simp; done)))), rfl, rfl, trivial⟩ (by repeat (first | exact Have.refl | (refine Have.cons (by repeat (first | exact Rem.head | apply Rem.tail | exact Rem.mid)) ?_) | refine Have.skip ?_ | refine Have.app ?_))
        · first | assumption | omega | simp
        · omega
    ·
      -- c1F
      try (first | contradiction | (exfalso; omega))
      all_goals
        have hkn : k = out.length := by omega
        subst hkn
        rw [List.take_of_length_le (Nat.le_refl _)]
        refine Cd.exit ?_
        refine seqQ.exit ?_
        refine loopQ.exit ?_
        refine blkQ.here ?_
        refine seqQ.normal ?_
        refine Cd.seq ?_
        refine Cd.region ?_
        refine Opz.val (R.move rfl) rfl rfl rfl ?_
        refine Opz.val (R.assign rfl) rfl rfl rfl ?_
        refine Opz.nil ?_
        refine seqQ.normal ?_
        refine Cd.ret ?_
        -- path c1F
        refine fin.ret (L' := ([.blk b 93 [.slice A210 rest2.length c210, .int .i64 e2]] ++ L0)) (ResOK.tmp rfl ResOK.nil) (by first | exact hle | exact Imm.le_refl _) ?_ ?_
        · repeat (first | exact Have.refl | (refine Have.cons (by repeat (first | exact Rem.head | apply Rem.tail | exact Rem.mid)) ?_) | refine Have.skip ?_ | refine Have.app ?_)
        ·
          exact ⟨A210, c210, rfl, rfl, rfl, hr210, hc210⟩

end Go.Proofs.Ytdecipfdbkpigaa
