
import Derived.Test.YtdecipfdbkpigaaProg
import Derived.Test.YtdecipfdbkpigaaLetC
namespace Go.Proofs.Ytdecipfdbkpigaa
open Go.Eng

/-- What is taken, what is left, and what was wrong. -/
def takeB (rest : List UInt8) (e : Int) (n : Nat) : List UInt8 × List UInt8 × Int :=
  if e = 0 then (if rest.length < n then ([], rest, 3) else (rest.take n, rest.drop n, 0)) else ([], rest, e)
/-- Bytes as a number, the lowest first. -/
def numB : List UInt8 → Nat
  | [] => 0
  | b :: l => b.toNat + 256 * numB l
theorem numB_app (l : List UInt8) (b : UInt8) : numB (l ++ [b]) = numB l + b.toNat * 256 ^ l.length := by
  induction l with
  | nil => simp [numB]
  | cons a l ih => simp only [List.cons_append, numB, ih, List.length_cons, Nat.pow_succ]; grind
theorem numB_lt (l : List UInt8) : numB l < 256 ^ l.length := by
  induction l with
  | nil => simp [numB]
  | cons a l ih => have := u8_lt a; simp only [numB, List.length_cons, Nat.pow_succ]; omega
theorem numB_le (l : List UInt8) (h : l.length ≤ 8) : numB l ≤ 18446744073709551615 := by
  have h1 := numB_lt l
  have h2 : 256 ^ l.length ≤ 256 ^ 8 := Nat.pow_le_pow_right (by decide) h
  have h3 : (256 : Nat) ^ 8 = 18446744073709551616 := by decide
  omega
/-- One byte more, laid above those that are there. -/
theorem numB_or {l : List UInt8} {b : UInt8} {k : Nat} (hk : l.length = k) (h8 : k < 8) :
    ((((numB l : Nat) : Int).toNat ||| (wr .u64 (((b.toNat : Nat) : Int) * 2 ^ (min ((8 : Int) * (k : Int)).toNat IntKind.u64.bits))).toNat : Nat) : Int) = ((numB (l ++ [b]) : Nat) : Int) := by
  have e : min ((8 : Int) * (k : Int)).toNat IntKind.u64.bits = 8 * k := by
    have : IntKind.u64.bits = 64 := rfl
    omega
  rw [e]
  have h1 : ((b.toNat : Nat) : Int) * 2 ^ (8 * k) = ((b.toNat * 2 ^ (8 * k) : Nat) : Int) := by simp
  have h2 : b.toNat * 2 ^ (8 * k) < 18446744073709551616 := by
    have hb := u8_lt b
    have : b.toNat * 2 ^ (8 * k) < 256 * 2 ^ (8 * k) := Nat.mul_lt_mul_of_pos_right hb (Nat.two_pow_pos _)
    have h3 : 256 * 2 ^ (8 * k) ≤ 256 * 2 ^ 56 := Nat.mul_le_mul_left _ (Nat.pow_le_pow_right (by decide) (by omega))
    have h4 : (256 : Nat) * 2 ^ 56 = 18446744073709551616 := by decide
    omega
  have h3 : (wr .u64 (((b.toNat : Nat) : Int) * 2 ^ (8 * k))).toNat = b.toNat * 2 ^ (8 * k) := by
    rw [h1]; simp only [wr]; omega
  rw [h3]
  have hl := numB_lt l
  rw [hk] at hl
  have h256 : (256 : Nat) ^ k = 2 ^ (8 * k) := by rw [Nat.pow_mul]
  rw [numB_app, hk, h256]
  rw [h256] at hl
  have h5 : b.toNat * 2 ^ (8 * k) = 2 ^ (8 * k) * b.toNat := Nat.mul_comm _ _
  show ((numB l ||| b.toNat * 2 ^ (8 * k) : Nat) : Int) = _
  rw [h5, Nat.or_comm, ← Nat.two_pow_add_eq_or_of_lt hl, Nat.add_comm]



set_option maxRecDepth 100000 in
set_option maxHeartbeats 400000 in
theorem ETake_spec {I : Imm} {L0 : List Ent} {b c : Nat} {A : Option Addr} {e : Int} {m : Nat} (rest : List UInt8) (n : Nat) (hm : rest.length = m) (hr : RdC I L0 A (bytesV rest)) (hc : rest.length ≤ c) (hn : n ≤ 9223372036854775807) :
    Meets Try.prog 48 #[.pointer (some ⟨b, 0, none⟩), .int .i64 n] I ([.blk b 93 [.slice A m c, .int .i64 e]]) (fun v I' L' => ∃ A1 c1 A2 c2, .slice A1 (takeB rest e n).1.length c1 = v ∧ I = I' ∧ [.blk b 93 [.slice A2 (takeB rest e n).2.1.length c2, .int .i64 (takeB rest e n).2.2]] = L' ∧ RdC I L0 A1 (bytesV (takeB rest e n).1) ∧ (takeB rest e n).1.length ≤ c1 ∧ RdC I L0 A2 (bytesV (takeB rest e n).2.1) ∧ (takeB rest e n).2.1.length ≤ c2) := by
  subst hm
  refine Meets.intro (args := [.pointer (some ⟨b, 0, none⟩), .int .i64 n]) (N := 42) (rs := [.tmp 4]) Try.func48 rfl rfl rfl rfl (fun F => ?_)
  change Cd _ _ _ [(0, .pointer (some ⟨b, 0, none⟩)), (1, .int .i64 n)] I (.blk b 93 [.slice A rest.length c, .int .i64 e] :: F) _
  have hle := Imm.le_refl I
  refine Cd.seq ?_
  refine Cd.region ?_
  refine Opz.val (R.assign rfl) rfl rfl rfl ?_
  refine Opz.nil ?_
  refine seqQ.normal ?_
  refine Cd.seq ?_
  refine Cd.seq ?_
  refine Cd.region ?_
  refine Opz.val (R.move rfl) rfl rfl rfl ?_
  refine Opz.val (by first | exact R.eqPN rfl rfl Try.underlying62 | exact R.eqNN rfl rfl Try.underlying62) rfl rfl rfl ?_
  refine Opz.val (R.move rfl) rfl rfl rfl ?_
  first | refine Opz.guardD 8 rfl (fun hq1 => ?_) (fun hq1 => ?_) | refine Opz.guard 8 rfl (fun hq1 => ?_) (fun hq1 => ?_)
  ·
    -- g8T
    try contradiction
    all_goals
      refine Opz.none rfl rfl rfl ?_
      refine Opz.none rfl rfl rfl ?_
      refine Opz.none rfl rfl rfl ?_
      refine Opz.none rfl rfl rfl ?_
      refine Opz.none rfl rfl rfl ?_
      refine Opz.val (R.pick rfl rfl) rfl rfl rfl ?_
      refine Opz.nil ?_
      refine seqQ.normal ?_
      first | refine Cd.condD rfl (fun hq2 => ?_) (fun hq2 => ?_) | refine Cd.cond rfl (fun hq2 => ?_) (fun hq2 => ?_)
      ·
        -- c1T
        try contradiction
        all_goals
          have he1 : e ≠ 0 := by simpa using hq2
          refine Cd.seq ?_
          refine Cd.region ?_
          refine Opz.val (R.assign rfl) rfl rfl rfl ?_
          refine Opz.nil ?_
          refine seqQ.normal ?_
          refine Cd.ret ?_
          refine seqQ.ret ?_
          -- path g8T c1T
          refine fin.ret (L' := [.blk b 93 [.slice A rest.length c, .int .i64 e]]) (ResOK.tmp rfl ResOK.nil) (by first | exact hle | exact Imm.le_refl _) ?_ ?_
          · repeat (first | exact Have.refl | (refine Have.cons (by repeat (first | exact Rem.head | apply Rem.tail | exact Rem.mid)) ?_) | refine Have.skip ?_ | refine Have.app ?_)
          ·
            have ht : takeB rest e n = ([], rest, e) := by unfold takeB; rw [if_neg he1]
            rw [ht]
            exact ⟨none, 0, A, c, rfl, rfl, rfl, fun _ _ j u hj => by simp [bytesV] at hj, by simp, hr, hc⟩
      ·
        -- c1F
        try contradiction
        all_goals
          have he0 : e = 0 := by simpa using hq2
          refine Cd.skip ?_
          refine seqQ.normal ?_
          refine Cd.seq ?_
          refine Cd.seq ?_
          refine Cd.region ?_
          refine Opz.val (R.move rfl) rfl rfl rfl ?_
          refine Opz.val (R.move rfl) rfl rfl rfl ?_
          refine Opz.val (by first | exact R.nilP rfl | exact R.nilF rfl) rfl rfl rfl ?_
          refine Opz.val (by first | exact R.field (off := 0) rfl Try.underlying93 rfl Try.typeInfo27 rfl rfl | exact R.fieldA rfl Try.underlying93 rfl Try.typeInfo27 rfl) rfl rfl rfl ?_
          refine Opz.val (by exact R.load rfl Try.underlying27 rfl (by first | exact cellL (by repeat (first | exact List.Mem.head _ | apply List.Mem.tail)) rfl | exact cellI (by assumption) | (exact cellRow (by repeat (first | exact List.Mem.head _ | apply List.Mem.tail)) (by assumption) (by assumption)))) rfl rfl rfl ?_
          refine Opz.val (R.len rfl rfl Try.underlying27) rfl rfl rfl ?_
          refine Opz.val (R.gtr rfl rfl) rfl rfl rfl ?_
          refine Opz.nil ?_
          refine seqQ.normal ?_
          first | refine Cd.condD rfl (fun hq3 => ?_) (fun hq3 => ?_) | refine Cd.cond rfl (fun hq3 => ?_) (fun hq3 => ?_)
          ·
            -- c2T
            try contradiction
            all_goals
              have hlt : rest.length < n := by omega
              refine Cd.seq ?_
              refine Cd.region ?_
              refine Opz.val (R.move rfl) rfl rfl rfl ?_
              refine Opz.val (by first | exact R.nilP rfl | exact R.nilF rfl) rfl rfl rfl ?_
              refine Opz.val (by first | exact R.field (off := 1) rfl Try.underlying93 rfl Try.typeInfo32 rfl rfl | exact R.fieldA rfl Try.underlying93 rfl Try.typeInfo32 rfl) rfl rfl rfl ?_
              refine Opz.opU (by exact W.store rfl rfl rfl rfl Try.typeInfo32 rfl (by repeat (first | exact Upd.head | apply Upd.tail)) (by repeat (first | exact SetAt.zero | apply SetAt.succ))) rfl rfl ?_
              rintro _ _ _ ⟨rfl, rfl, rfl⟩
              refine Opz.nil ?_
              refine seqQ.normal ?_
              refine Cd.seq ?_
              refine Cd.region ?_
              refine Opz.val (R.assign rfl) rfl rfl rfl ?_
              refine Opz.nil ?_
              refine seqQ.normal ?_
              refine Cd.ret ?_
              refine seqQ.ret ?_
              -- path g8T c1F c2T
              refine fin.ret (L' := [.blk b 93 [.slice A rest.length c, .int .i64 3]]) (ResOK.tmp rfl ResOK.nil) (by first | exact hle | exact Imm.le_refl _) ?_ ?_
              · repeat (first | exact Have.refl | (refine Have.cons (by repeat (first | exact Rem.head | apply Rem.tail | exact Rem.mid)) ?_) | refine Have.skip ?_ | refine Have.app ?_)
              ·
                have ht : takeB rest e n = ([], rest, 3) := by unfold takeB; rw [if_pos he0, if_pos hlt]
                rw [ht]
                exact ⟨none, 0, A, c, rfl, rfl, rfl, fun _ _ j u hj => by simp [bytesV] at hj, by simp, hr, hc⟩
          ·
            -- c2F
            try contradiction
            all_goals
              have hge : n ≤ rest.length := by omega
              refine Cd.skip ?_
              refine seqQ.normal ?_
              refine Cd.seq ?_
              refine Cd.region ?_
              refine Opz.val (R.move rfl) rfl rfl rfl ?_
              refine Opz.val (by first | exact R.nilP rfl | exact R.nilF rfl) rfl rfl rfl ?_
              refine Opz.val (by first | exact R.field (off := 0) rfl Try.underlying93 rfl Try.typeInfo27 rfl rfl | exact R.fieldA rfl Try.underlying93 rfl Try.typeInfo27 rfl) rfl rfl rfl ?_
              refine Opz.val (by exact R.load rfl Try.underlying27 rfl (by first | exact cellL (by repeat (first | exact List.Mem.head _ | apply List.Mem.tail)) rfl | exact cellI (by assumption) | (exact cellRow (by repeat (first | exact List.Mem.head _ | apply List.Mem.tail)) (by assumption) (by assumption)))) rfl rfl rfl ?_
              refine Opz.val (R.move rfl) rfl rfl rfl ?_
              refine Opz.val (R.move rfl) rfl rfl rfl ?_
              refine Opz.val (by exact R.slHM rfl rfl rfl Try.underlying27 Try.typeInfo5 ⟨by omega, by omega, by omega⟩) rfl rfl rfl ?_
              refine Opz.val (R.assign rfl) rfl rfl rfl ?_
              refine Opz.nil ?_
              refine seqQ.normal ?_
              refine Cd.seq ?_
              refine Cd.region ?_
              refine Opz.val (R.move rfl) rfl rfl rfl ?_
              refine Opz.val (R.move rfl) rfl rfl rfl ?_
              refine Opz.val (by first | exact R.nilP rfl | exact R.nilF rfl) rfl rfl rfl ?_
              refine Opz.val (by first | exact R.field (off := 0) rfl Try.underlying93 rfl Try.typeInfo27 rfl rfl | exact R.fieldA rfl Try.underlying93 rfl Try.typeInfo27 rfl) rfl rfl rfl ?_
              refine Opz.val (by exact R.load rfl Try.underlying27 rfl (by first | exact cellL (by repeat (first | exact List.Mem.head _ | apply List.Mem.tail)) rfl | exact cellI (by assumption) | (exact cellRow (by repeat (first | exact List.Mem.head _ | apply List.Mem.tail)) (by assumption) (by assumption)))) rfl rfl rfl ?_
              refine Opz.val (R.move rfl) rfl rfl rfl ?_
              refine Opz.val (by exact R.slL 1 rfl rfl Try.underlying27 Try.typeInfo5 rfl ⟨by omega, by omega⟩) rfl rfl rfl ?_
              refine Opz.val (by first | exact R.nilP rfl | exact R.nilF rfl) rfl rfl rfl ?_
              refine Opz.val (by first | exact R.field (off := 0) rfl Try.underlying93 rfl Try.typeInfo27 rfl rfl | exact R.fieldA rfl Try.underlying93 rfl Try.typeInfo27 rfl) rfl rfl rfl ?_
              refine Opz.opU (by exact W.store rfl rfl rfl rfl Try.typeInfo27 rfl (by repeat (first | exact Upd.head | apply Upd.tail)) (by repeat (first | exact SetAt.zero | apply SetAt.succ))) rfl rfl ?_
              rintro _ _ _ ⟨rfl, rfl, rfl⟩
              refine Opz.nil ?_
              refine seqQ.normal ?_
              refine Cd.seq ?_
              refine Cd.region ?_
              refine Opz.val (R.move rfl) rfl rfl rfl ?_
              refine Opz.val (R.assign rfl) rfl rfl rfl ?_
              refine Opz.nil ?_
              refine seqQ.normal ?_
              refine Cd.ret ?_
              -- path g8T c1F c2F
              refine fin.ret (L' := [.blk b 93 [.slice (if c = n then A else A.map (·.add (n * 1))) (rest.length - n) (c - n), .int .i64 e]]) (ResOK.tmp rfl ResOK.nil) (by first | exact hle | exact Imm.le_refl _) ?_ ?_
              · repeat (first | exact Have.refl | (refine Have.cons (by repeat (first | exact Rem.head | apply Rem.tail | exact Rem.mid)) ?_) | refine Have.skip ?_ | refine Have.app ?_)
              ·
                have ht : takeB rest e n = (rest.take n, rest.drop n, 0) := by unfold takeB; rw [if_pos he0, if_neg (by omega)]
                rw [ht]
                have hd := hr.drop n 1 (by rw [bytesV_len, Nat.mul_one]; exact hc)
                rw [Nat.mul_one, bytesV_drop] at hd
                refine ⟨A, n, _, c - n, ?_, rfl, ?_, by rw [← bytesV_take]; exact hr.take n, ?_, hd, ?_⟩
                · simp [tupV, List.length_take, Nat.min_eq_left hge]
                · simp [he0]
                · simp [List.length_take]; omega
                · simp [List.length_drop]; omega
  ·
    -- g8F
    try contradiction
    all_goals
      refine Opz.val (R.move rfl) rfl rfl rfl ?_
      refine Opz.val (by first | exact R.nilP rfl | exact R.nilF rfl) rfl rfl rfl ?_
      refine Opz.val (by first | exact R.field (off := 1) rfl Try.underlying93 rfl Try.typeInfo32 rfl rfl | exact R.fieldA rfl Try.underlying93 rfl Try.typeInfo32 rfl) rfl rfl rfl ?_
      refine Opz.val (by exact R.load rfl Try.underlying32 rfl (by first | exact cellL (by repeat (first | exact List.Mem.head _ | apply List.Mem.tail)) rfl | exact cellI (by assumption) | (exact cellRow (by repeat (first | exact List.Mem.head _ | apply List.Mem.tail)) (by assumption) (by assumption)))) rfl rfl rfl ?_
      refine Opz.val (R.neq rfl rfl) rfl rfl rfl ?_
      refine Opz.val (R.pick rfl rfl) rfl rfl rfl ?_
      refine Opz.nil ?_
      refine seqQ.normal ?_
      first | refine Cd.condD rfl (fun hq4 => ?_) (fun hq4 => ?_) | refine Cd.cond rfl (fun hq4 => ?_) (fun hq4 => ?_)
      ·
        -- c1T
        try contradiction
        all_goals
          have he1 : e ≠ 0 := by simpa using hq4
          refine Cd.seq ?_
          refine Cd.region ?_
          refine Opz.val (R.assign rfl) rfl rfl rfl ?_
          refine Opz.nil ?_
          refine seqQ.normal ?_
          refine Cd.ret ?_
          refine seqQ.ret ?_
          -- path g8F c1T
          refine fin.ret (L' := [.blk b 93 [.slice A rest.length c, .int .i64 e]]) (ResOK.tmp rfl ResOK.nil) (by first | exact hle | exact Imm.le_refl _) ?_ ?_
          · repeat (first | exact Have.refl | (refine Have.cons (by repeat (first | exact Rem.head | apply Rem.tail | exact Rem.mid)) ?_) | refine Have.skip ?_ | refine Have.app ?_)
          ·
            have ht : takeB rest e n = ([], rest, e) := by unfold takeB; rw [if_neg he1]
            rw [ht]
            exact ⟨none, 0, A, c, rfl, rfl, rfl, fun _ _ j u hj => by simp [bytesV] at hj, by simp, hr, hc⟩
      ·
        -- c1F
        try contradiction
        all_goals
          have he0 : e = 0 := by simpa using hq4
          refine Cd.skip ?_
          refine seqQ.normal ?_
          refine Cd.seq ?_
          refine Cd.seq ?_
          refine Cd.region ?_
          refine Opz.val (R.move rfl) rfl rfl rfl ?_
          refine Opz.val (R.move rfl) rfl rfl rfl ?_
          refine Opz.val (by first | exact R.nilP rfl | exact R.nilF rfl) rfl rfl rfl ?_
          refine Opz.val (by first | exact R.field (off := 0) rfl Try.underlying93 rfl Try.typeInfo27 rfl rfl | exact R.fieldA rfl Try.underlying93 rfl Try.typeInfo27 rfl) rfl rfl rfl ?_
          refine Opz.val (by exact R.load rfl Try.underlying27 rfl (by first | exact cellL (by repeat (first | exact List.Mem.head _ | apply List.Mem.tail)) rfl | exact cellI (by assumption) | (exact cellRow (by repeat (first | exact List.Mem.head _ | apply List.Mem.tail)) (by assumption) (by assumption)))) rfl rfl rfl ?_
          refine Opz.val (R.len rfl rfl Try.underlying27) rfl rfl rfl ?_
          refine Opz.val (R.gtr rfl rfl) rfl rfl rfl ?_
          refine Opz.nil ?_
          refine seqQ.normal ?_
          first | refine Cd.condD rfl (fun hq5 => ?_) (fun hq5 => ?_) | refine Cd.cond rfl (fun hq5 => ?_) (fun hq5 => ?_)
          ·
            -- c2T
            try contradiction
            all_goals
              have hlt : rest.length < n := by omega
              refine Cd.seq ?_
              refine Cd.region ?_
              refine Opz.val (R.move rfl) rfl rfl rfl ?_
              refine Opz.val (by first | exact R.nilP rfl | exact R.nilF rfl) rfl rfl rfl ?_
              refine Opz.val (by first | exact R.field (off := 1) rfl Try.underlying93 rfl Try.typeInfo32 rfl rfl | exact R.fieldA rfl Try.underlying93 rfl Try.typeInfo32 rfl) rfl rfl rfl ?_
              refine Opz.opU (by exact W.store rfl rfl rfl rfl Try.typeInfo32 rfl (by repeat (first | exact Upd.head | apply Upd.tail)) (by repeat (first | exact SetAt.zero | apply SetAt.succ))) rfl rfl ?_
              rintro _ _ _ ⟨rfl, rfl, rfl⟩
              refine Opz.nil ?_
              refine seqQ.normal ?_
              refine Cd.seq ?_
              refine Cd.region ?_
              refine Opz.val (R.assign rfl) rfl rfl rfl ?_
              refine Opz.nil ?_
              refine seqQ.normal ?_
              refine Cd.ret ?_
              refine seqQ.ret ?_
              -- path g8F c1F c2T
              refine fin.ret (L' := [.blk b 93 [.slice A rest.length c, .int .i64 3]]) (ResOK.tmp rfl ResOK.nil) (by first | exact hle | exact Imm.le_refl _) ?_ ?_
              · repeat (first | exact Have.refl | (refine Have.cons (by repeat (first | exact Rem.head | apply Rem.tail | exact Rem.mid)) ?_) | refine Have.skip ?_ | refine Have.app ?_)
              ·
                have ht : takeB rest e n = ([], rest, 3) := by unfold takeB; rw [if_pos he0, if_pos hlt]
                rw [ht]
                exact ⟨none, 0, A, c, rfl, rfl, rfl, fun _ _ j u hj => by simp [bytesV] at hj, by simp, hr, hc⟩
          ·
            -- c2F
            try contradiction
            all_goals
              have hge : n ≤ rest.length := by omega
              refine Cd.skip ?_
              refine seqQ.normal ?_
              refine Cd.seq ?_
              refine Cd.region ?_
              refine Opz.val (R.move rfl) rfl rfl rfl ?_
              refine Opz.val (by first | exact R.nilP rfl | exact R.nilF rfl) rfl rfl rfl ?_
              refine Opz.val (by first | exact R.field (off := 0) rfl Try.underlying93 rfl Try.typeInfo27 rfl rfl | exact R.fieldA rfl Try.underlying93 rfl Try.typeInfo27 rfl) rfl rfl rfl ?_
              refine Opz.val (by exact R.load rfl Try.underlying27 rfl (by first | exact cellL (by repeat (first | exact List.Mem.head _ | apply List.Mem.tail)) rfl | exact cellI (by assumption) | (exact cellRow (by repeat (first | exact List.Mem.head _ | apply List.Mem.tail)) (by assumption) (by assumption)))) rfl rfl rfl ?_
              refine Opz.val (R.move rfl) rfl rfl rfl ?_
              refine Opz.val (R.move rfl) rfl rfl rfl ?_
              refine Opz.val (by exact R.slHM rfl rfl rfl Try.underlying27 Try.typeInfo5 ⟨by omega, by omega, by omega⟩) rfl rfl rfl ?_
              refine Opz.val (R.assign rfl) rfl rfl rfl ?_
              refine Opz.nil ?_
              refine seqQ.normal ?_
              refine Cd.seq ?_
              refine Cd.region ?_
              refine Opz.val (R.move rfl) rfl rfl rfl ?_
              refine Opz.val (R.move rfl) rfl rfl rfl ?_
              refine Opz.val (by first | exact R.nilP rfl | exact R.nilF rfl) rfl rfl rfl ?_
              refine Opz.val (by first | exact R.field (off := 0) rfl Try.underlying93 rfl Try.typeInfo27 rfl rfl | exact R.fieldA rfl Try.underlying93 rfl Try.typeInfo27 rfl) rfl rfl rfl ?_
              refine Opz.val (by exact R.load rfl Try.underlying27 rfl (by first | exact cellL (by repeat (first | exact List.Mem.head _ | apply List.Mem.tail)) rfl | exact cellI (by assumption) | (exact cellRow (by repeat (first | exact List.Mem.head _ | apply List.Mem.tail)) (by assumption) (by assumption)))) rfl rfl rfl ?_
              refine Opz.val (R.move rfl) rfl rfl rfl ?_
              refine Opz.val (by exact R.slL 1 rfl rfl Try.underlying27 Try.typeInfo5 rfl ⟨by omega, by omega⟩) rfl rfl rfl ?_
              refine Opz.val (by first | exact R.nilP rfl | exact R.nilF rfl) rfl rfl rfl ?_
              refine Opz.val (by first | exact R.field (off := 0) rfl Try.underlying93 rfl Try.typeInfo27 rfl rfl | exact R.fieldA rfl Try.underlying93 rfl Try.typeInfo27 rfl) rfl rfl rfl ?_
              refine Opz.opU (by exact W.store rfl rfl rfl rfl Try.typeInfo27 rfl (by repeat (first | exact Upd.head | apply Upd.tail)) (by repeat (first | exact SetAt.zero | apply SetAt.succ))) rfl rfl ?_
              rintro _ _ _ ⟨rfl, rfl, rfl⟩
              refine Opz.nil ?_
              refine seqQ.normal ?_
              refine Cd.seq ?_
              refine Cd.region ?_
              refine Opz.val (R.move rfl) rfl rfl rfl ?_
              refine Opz.val (R.assign rfl) rfl rfl rfl ?_
              refine Opz.nil ?_
              refine seqQ.normal ?_
              refine Cd.ret ?_
              -- path g8F c1F c2F
              refine fin.ret (L' := [.blk b 93 [.slice (if c = n then A else A.map (·.add (n * 1))) (rest.length - n) (c - n), .int .i64 e]]) (ResOK.tmp rfl ResOK.nil) (by first | exact hle | exact Imm.le_refl _) ?_ ?_
              · repeat (first | exact Have.refl | (refine Have.cons (by repeat (first | exact Rem.head | apply Rem.tail | exact Rem.mid)) ?_) | refine Have.skip ?_ | refine Have.app ?_)
              ·
                have ht : takeB rest e n = (rest.take n, rest.drop n, 0) := by unfold takeB; rw [if_pos he0, if_neg (by omega)]
                rw [ht]
                have hd := hr.drop n 1 (by rw [bytesV_len, Nat.mul_one]; exact hc)
                rw [Nat.mul_one, bytesV_drop] at hd
                refine ⟨A, n, _, c - n, ?_, rfl, ?_, by rw [← bytesV_take]; exact hr.take n, ?_, hd, ?_⟩
                · simp [tupV, List.length_take, Nat.min_eq_left hge]
                · simp [he0]
                · simp [List.length_take]; omega
                · simp [List.length_drop]; omega

end Go.Proofs.Ytdecipfdbkpigaa
