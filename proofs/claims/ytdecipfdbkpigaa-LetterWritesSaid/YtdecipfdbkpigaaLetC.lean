
import Derived.Test.YtdecipfdbkpigaaProg
import Derived.Test.YtdecipfdbkpigaaLetB
namespace Go.Proofs.Ytdecipfdbkpigaa
open Go.Eng

/-- The check: one bit, eight bits, a byte. -/
def crcBit (n : Nat) : Nat := if n % 2 = 1 then (n / 2) ^^^ 3988292384 else n / 2
def crcIt : Nat → Nat → Nat
  | 0, n => n
  | k + 1, n => crcBit (crcIt k n)
def crcStep (n : Nat) (c : UInt8) : Nat := crcIt 8 (n ^^^ c.toNat)
def crcL (bs : List UInt8) : Nat := bs.foldl crcStep 4294967295
def crc (bs : List UInt8) : Nat := 4294967295 - crcL bs

theorem crcBit_lt {n : Nat} (h : n < 4294967296) : crcBit n < 4294967296 := by
  unfold crcBit
  split
  · exact Nat.xor_lt_two_pow (n := 32) (by omega) (by decide)
  · omega
theorem crcIt_lt {n : Nat} (h : n < 4294967296) : ∀ k, crcIt k n < 4294967296
  | 0 => h
  | k + 1 => crcBit_lt (crcIt_lt h k)
theorem crcStep_lt {n : Nat} (h : n < 4294967296) (c : UInt8) : crcStep n c < 4294967296 :=
  crcIt_lt (Nat.xor_lt_two_pow (n := 32) h (Nat.lt_of_lt_of_le c.toNat_lt (by decide))) 8
theorem crcL_lt (bs : List UInt8) : crcL bs < 4294967296 := by
  unfold crcL
  have : ∀ (l : List UInt8) (n : Nat), n < 4294967296 → l.foldl crcStep n < 4294967296 := by
    intro l
    induction l with
    | nil => intro n h; exact h
    | cons c l ih => intro n h; exact ih _ (crcStep_lt h c)
  exact this bs _ (by decide)
theorem crcL_snoc (bs : List UInt8) (c : UInt8) : crcL (bs ++ [c]) = crcIt 8 (crcL bs ^^^ c.toNat) := by simp [crcL, crcStep]
theorem crcL_take {bs : List UInt8} {k : Nat} {c : UInt8} (h : bs[k]? = some c) : crcL (bs.take (k + 1)) = crcIt 8 (crcL (bs.take k) ^^^ c.toNat) := by
  rw [List.take_add_one, h]; exact crcL_snoc _ _
theorem crcBit_odd {m : Nat} (h : (((m : Int).toNat &&& (1 : Int).toNat : Nat) : Int) = 1) : (((((m : Int) / 2).toNat ^^^ (3988292384 : Int).toNat : Nat)) : Int) = (crcBit m : Nat) := by
  have e1 : m % 2 = 1 := by
    have h2 : ((m &&& 1 : Nat) : Int) = 1 := h
    rw [Nat.and_one_is_mod] at h2; omega
  have e2 : ((m : Int) / 2).toNat = m / 2 := by omega
  rw [e2, crcBit, if_pos e1]; rfl
theorem crcBit_even {m : Nat} (h : ¬ (((m : Int).toNat &&& (1 : Int).toNat : Nat) : Int) = 1) : ((m : Int) / 2) = (crcBit m : Nat) := by
  have e1 : ¬ m % 2 = 1 := by
    intro e
    apply h
    show ((m &&& 1 : Nat) : Int) = 1
    rw [Nat.and_one_is_mod]; omega
  rw [crcBit, if_neg e1]; omega
theorem u8_lt (c : UInt8) : c.toNat < 256 := c.toNat_lt



set_option maxRecDepth 100000 in
set_option maxHeartbeats 400000 in
theorem Check_spec {I : Imm} {L0 : List Ent} {A : Option Addr} {n c : Nat} (bs : List UInt8) (hr : RdC I L0 A (bytesV bs)) (hl : bs.length = n) (hb : n ≤ 4611686018427387904) :
    Meets Try.prog 38 #[.slice A n c] I (L0) (fun v I' L' => .int .u32 (crc bs : Nat) = v ∧ I = I' ∧ L0 = L') := by
  refine Meets.intro (args := [.slice A n c]) (N := 31) (rs := [.tmp 2]) Try.func38 rfl rfl rfl rfl (fun F => ?_)
  change Cd _ _ _ [(0, .slice A n c)] I ((L0 ++ F)) _
  have hle := Imm.le_refl I
  have hrF := hr.app F
  refine Cd.seq ?_
  refine Cd.region ?_
  refine Opz.val (R.assign rfl) rfl rfl rfl ?_
  refine Opz.nil ?_
  refine seqQ.normal ?_
  refine Cd.seq ?_
  refine Cd.region ?_
  refine Opz.val (R.assign rfl) rfl rfl rfl ?_
  refine Opz.nil ?_
  refine seqQ.normal ?_
  refine Cd.seq ?_
  refine Cd.seq ?_
  refine Cd.region ?_
  refine Opz.val (R.move rfl) rfl rfl rfl ?_
  refine Opz.val (R.len rfl rfl Try.underlying27) rfl rfl rfl ?_
  refine Opz.val (R.move rfl) rfl rfl rfl ?_
  refine Opz.nil ?_
  refine seqQ.normal ?_
  refine Cd.block ?_
  -- loop 1: turned [3, 9], kept [7, 8]
  refine Cd.loop [7, 8] (fun nn vs I101 L1 => ∃ (k : Nat), [(3, .int .u32 (crcL (bs.take k) : Nat)), (9, .int .i64 k)] = vs ∧ ((L0 ++ F)) = L1 ∧ I = I101 ∧ n - k = nn ∧ k ≤ n) (Pick.cons rfl (Pick.cons rfl (Pick.nil))) ?_ ?_
  ·
    refine ⟨_, _, _, ⟨0, rfl, rfl, rfl, rfl, ?_⟩, ⟨rfl, rfl, trivial⟩, by repeat (first | exact Have.refl | (refine Have.cons (by repeat (first | exact Rem.head | apply Rem.tail | exact Rem.mid)) ?_) | refine Have.skip ?_ | refine Have.app ?_)⟩
    · first | assumption | omega | simp
  ·
    rintro nn1 _ I101 _ ⟨k, rfl, rfl, rfl, hn1, hk⟩
    have h32 := crcL_lt (bs.take k)
    refine Cd.seq ?_
    refine Cd.region ?_
    refine Opz.val (R.lss rfl rfl) rfl rfl rfl ?_
    refine Opz.nil ?_
    refine seqQ.normal ?_
    refine Cd.seq ?_
    first | refine Cd.condD rfl (fun hq1 => ?_) (fun hq1 => ?_) | refine Cd.cond rfl (fun hq1 => ?_) (fun hq1 => ?_)
    ·
      -- c1T
      try (first | contradiction | (exfalso; omega))
      all_goals
        refine Cd.skip ?_
        refine seqQ.normal ?_
        refine Cd.seq ?_
        refine Cd.block ?_
        refine Cd.seq ?_
        refine Cd.region ?_
        refine Opz.rdSome hrF (by rw [bytesV_len]; omega) (fun a hA => ?_)
        obtain ⟨x11, hx11⟩ : ∃ x, bs[k]? = some x := ⟨bs[k], List.getElem?_eq_getElem (by omega)⟩
        have hc11 := hrF.at hA (j := k) (u := .int .u8 x11.toNat) (by rw [bytesV_get, hx11]; rfl)
        have h8 := u8_lt x11
        refine Opz.val (by first | exact R.ixA rfl rfl Try.underlying27 Try.typeInfo5 ⟨by omega, by omega⟩ rfl | exact R.ixO rfl (by assumption) rfl Try.underlying27 Try.typeInfo5 ⟨by omega, by omega⟩ rfl) rfl rfl rfl ?_
        refine Opz.val (by exact R.load rfl Try.underlying5 rfl hc11) rfl rfl rfl ?_
        refine Opz.val (R.assign rfl) rfl rfl rfl ?_
        refine Opz.nil ?_
        refine seqQ.normal ?_
        refine Cd.seq ?_
        refine Cd.region ?_
        refine Opz.val (R.move rfl) rfl rfl rfl ?_
        refine Opz.val (R.move rfl) rfl rfl rfl ?_
        refine Opz.val (by first | exact R.conv rfl Try.underlying5 Try.underlying76 (by first | exact ⟨by simp only [loK]; omega, by simp only [hiK]; omega⟩ | exact wr_inR rfl _) | exact R.convW rfl Try.underlying5 Try.underlying76) rfl rfl rfl ?_
        refine Opz.val (by exact R.xor rfl rfl (by first | exact ⟨by omega, by simp only [hiK]; omega⟩ | exact wr_uns rfl _) (by first | exact ⟨by omega, by simp only [hiK]; omega⟩ | exact wr_uns rfl _)) rfl rfl rfl ?_
        refine Opz.val (R.assign rfl) rfl rfl rfl ?_
        refine Opz.nil ?_
        refine seqQ.normal ?_
        refine Cd.seq ?_
        rw [show ((((crcL (bs.take k) : Nat) : Int).toNat ^^^ ((x11.toNat : Nat) : Int).toNat : Nat) : Int) = ((crcL (bs.take k) ^^^ x11.toNat : Nat) : Int) from rfl]
        refine Cd.region ?_
        refine Opz.val (R.move rfl) rfl rfl rfl ?_
        refine Opz.nil ?_
        refine seqQ.normal ?_
        refine Cd.block ?_
        -- loop 2: turned [3, 17], kept [7, 8, 9]
        refine Cd.loop [7, 8, 9] (fun nn vs I102 L1 => ∃ (j : Nat) (m : Nat), [(3, .int .u32 (m : Nat)), (17, .int .i64 j)] = vs ∧ ((L0 ++ F)) = L1 ∧ I = I102 ∧ 8 - j = nn ∧ j ≤ 8 ∧ m < 4294967296 ∧ m = crcIt j (crcL (bs.take k) ^^^ x11.toNat)) (Pick.cons rfl (Pick.cons rfl (Pick.cons rfl (Pick.nil)))) ?_ ?_
        ·
          refine ⟨_, _, _, ⟨0, (crcL (bs.take k) ^^^ x11.toNat), rfl, rfl, rfl, rfl, ?_, ?_, ?_⟩, ⟨rfl, rfl, trivial⟩, by repeat (first | exact Have.refl | (refine Have.cons (by repeat (first | exact Rem.head | apply Rem.tail | exact Rem.mid)) ?_) | refine Have.skip ?_ | refine Have.app ?_)⟩
          · first | assumption | omega | simp
          · exact Nat.xor_lt_two_pow (n := 32) h32 (by have := u8_lt x11; omega)
          · rfl
        ·
          rintro nn2 _ I102 _ ⟨j, m, rfl, rfl, rfl, hn2, hj, hm32, hm⟩
          refine Cd.seq ?_
          refine Cd.region ?_
          refine Opz.val (R.lss rfl rfl) rfl rfl rfl ?_
          refine Opz.nil ?_
          refine seqQ.normal ?_
          refine Cd.seq ?_
          first | refine Cd.condD rfl (fun hq2 => ?_) (fun hq2 => ?_) | refine Cd.cond rfl (fun hq2 => ?_) (fun hq2 => ?_)
          ·
            -- c2T
            try (first | contradiction | (exfalso; omega))
            all_goals
              refine Cd.skip ?_
              refine seqQ.normal ?_
              refine Cd.seq ?_
              refine Cd.block ?_
              refine Cd.seq ?_
              refine Cd.region ?_
              refine Opz.val (R.move rfl) rfl rfl rfl ?_
              refine Opz.val (by exact R.and rfl rfl (by first | exact ⟨by omega, by simp only [hiK]; omega⟩ | exact wr_uns rfl _) (by first | exact ⟨by omega, by simp only [hiK]; omega⟩ | exact wr_uns rfl _)) rfl rfl rfl ?_
              refine Opz.val (R.assign rfl) rfl rfl rfl ?_
              refine Opz.nil ?_
              refine seqQ.normal ?_
              refine Cd.seq ?_
              refine Cd.region ?_
              refine Opz.val (R.move rfl) rfl rfl rfl ?_
              refine Opz.val (by exact R.shrC (n := 1) (m := 2) rfl rfl rfl rfl (by decide) (by decide)) rfl rfl rfl ?_
              refine Opz.val (R.assign rfl) rfl rfl rfl ?_
              refine Opz.nil ?_
              refine seqQ.normal ?_
              refine Cd.seq ?_
              refine Cd.region ?_
              refine Opz.val (R.move rfl) rfl rfl rfl ?_
              refine Opz.val (R.eql rfl rfl) rfl rfl rfl ?_
              refine Opz.nil ?_
              refine seqQ.normal ?_
              first | refine Cd.condD rfl (fun hq3 => ?_) (fun hq3 => ?_) | refine Cd.cond rfl (fun hq3 => ?_) (fun hq3 => ?_)
              ·
                -- c3T
                try (first | contradiction | (exfalso; omega))
                all_goals
                  refine Cd.region ?_
                  refine Opz.val (R.move rfl) rfl rfl rfl ?_
                  refine Opz.val (by exact R.xor rfl rfl (by first | exact ⟨by omega, by simp only [hiK]; omega⟩ | exact wr_uns rfl _) (by first | exact ⟨by omega, by simp only [hiK]; omega⟩ | exact wr_uns rfl _)) rfl rfl rfl ?_
                  refine Opz.val (R.assign rfl) rfl rfl rfl ?_
                  refine Opz.nil ?_
                  refine blkQ.normal ?_
                  refine seqQ.normal ?_
                  refine Cd.region ?_
                  refine Opz.val (by exact R.add rfl rfl (by first | exact ⟨by simp only [loK]; omega, by simp only [hiK]; omega⟩ | exact wr_inR rfl _)) rfl rfl rfl ?_
                  refine Opz.val (R.move rfl) rfl rfl rfl ?_
                  refine Opz.nil ?_
                  refine loopQ.round ⟨j + 1, crcBit m, rfl, rfl, rfl, rfl, ?_, ?_, ?_⟩ ?_ ⟨(by first | rfl | (refine look_val rfl ?_; exact int_congr (by first | exact crcBit_odd (by assumption) | exact crcBit_even (by assumption)))), (by first | rfl | (refine look_val rfl ?_; first | rfl | (refine int_congr ?_; first | omega | (simp; done)))), rfl, rfl, rfl, trivial⟩ (by repeat (first | exact Have.refl | (refine Have.cons (by repeat (first | exact Rem.head | apply Rem.tail | exact Rem.mid)) ?_) | refine Have.skip ?_ | refine Have.app ?_))
                  · first | assumption | omega | simp
                  · exact crcBit_lt hm32
                  · rw [hm]; rfl
                  · omega
              ·
                -- c3F
                try (first | contradiction | (exfalso; omega))
                all_goals
                  refine Cd.skip ?_
                  refine blkQ.normal ?_
                  refine seqQ.normal ?_
                  refine Cd.region ?_
                  refine Opz.val (by exact R.add rfl rfl (by first | exact ⟨by simp only [loK]; omega, by simp only [hiK]; omega⟩ | exact wr_inR rfl _)) rfl rfl rfl ?_
                  refine Opz.val (R.move rfl) rfl rfl rfl ?_
                  refine Opz.nil ?_
                  refine loopQ.round ⟨j + 1, crcBit m, rfl, rfl, rfl, rfl, ?_, ?_, ?_⟩ ?_ ⟨(by first | rfl | (refine look_val rfl ?_; exact int_congr (by first | exact crcBit_odd (by assumption) | exact crcBit_even (by assumption)))), (by first | rfl | (refine look_val rfl ?_; first | rfl | (refine int_congr ?_; first | omega | (simp; done)))), rfl, rfl, rfl, trivial⟩ (by repeat (first | exact Have.refl | (refine Have.cons (by repeat (first | exact Rem.head | apply Rem.tail | exact Rem.mid)) ?_) | refine Have.skip ?_ | refine Have.app ?_))
                  · first | assumption | omega | simp
                  · exact crcBit_lt hm32
                  · rw [hm]; rfl
                  · omega
          ·
            -- c2F
            try (first | contradiction | (exfalso; omega))
            all_goals
              have hj8 : j = 8 := by omega
              subst hj8
              have hm8 := hm
              refine Cd.exit ?_
              refine seqQ.exit ?_
              refine loopQ.exit ?_
              refine blkQ.here ?_
              refine blkQ.normal ?_
              refine seqQ.normal ?_
              refine Cd.region ?_
              refine Opz.val (by exact R.add rfl rfl (by first | exact ⟨by simp only [loK]; omega, by simp only [hiK]; omega⟩ | exact wr_inR rfl _)) rfl rfl rfl ?_
              refine Opz.val (R.move rfl) rfl rfl rfl ?_
              refine Opz.nil ?_
              refine loopQ.round ⟨k + 1, rfl, rfl, rfl, rfl, ?_⟩ ?_ ⟨(by first | rfl | (refine look_val rfl ?_; refine int_congr ?_; rw [crcL_take hx11]; exact_mod_cast congrArg Nat.cast hm8)), (by first | rfl | (refine look_val rfl ?_; first | rfl | (refine int_congr ?_; first | omega | (simp; done)))), rfl, rfl, trivial⟩ (by repeat (first | exact Have.refl | (refine Have.cons (by repeat (first | exact Rem.head | apply Rem.tail | exact Rem.mid)) ?_) | refine Have.skip ?_ | refine Have.app ?_))
              · first | assumption | omega | simp
              · omega
    ·
      -- c1F
      try (first | contradiction | (exfalso; omega))
      all_goals
        have hkn : k = n := by omega
        subst hkn
        have hbt : bs.take k = bs := List.take_of_length_le (by omega)
        rw [hbt]
        rw [hbt] at h32
        refine Cd.exit ?_
        refine seqQ.exit ?_
        refine loopQ.exit ?_
        refine blkQ.here ?_
        refine seqQ.normal ?_
        refine Cd.seq ?_
        refine Cd.region ?_
        refine Opz.val (R.move rfl) rfl rfl rfl ?_
        refine Opz.val (by exact R.com rfl rfl (by first | exact ⟨by omega, by simp only [hiK]; omega⟩ | exact wr_uns rfl _)) rfl rfl rfl ?_
        refine Opz.val (R.assign rfl) rfl rfl rfl ?_
        refine Opz.nil ?_
        refine seqQ.normal ?_
        refine Cd.ret ?_
        -- path c1F
        refine fin.ret (L' := L0) (ResOK.tmp rfl ResOK.nil) (by first | exact hle | exact Imm.le_refl _) ?_ ?_
        · repeat (first | exact Have.refl | (refine Have.cons (by repeat (first | exact Rem.head | apply Rem.tail | exact Rem.mid)) ?_) | refine Have.skip ?_ | refine Have.app ?_)
        ·
          refine ⟨int_congr ?_, rfl, rfl⟩
          have h32 := crcL_lt bs
          simp only [hiK, crc]
          omega

end Go.Proofs.Ytdecipfdbkpigaa
