
import Derived.Test.YtdecipfdbkpigaaProg
import Derived.Test.YtdecipfdbkpigaaLetM
namespace Go.Proofs.Ytdecipfdbkpigaa
open Go.Eng

/-- The check, the highest bit first: one bit. -/
def refBit (n b : Nat) : Nat := if (2 * n ^^^ b * 4294967296) / 4294967296 = 1 then (2 * n ^^^ b * 4294967296) ^^^ 4374732215 else 2 * n ^^^ b * 4294967296
/-- Two numbers of 32 bits, the one the other one turned round. -/
structure Turned (n s : Nat) : Prop where
  ln : n < 4294967296
  ls : s < 4294967296
  bits : ∀ i, i < 32 → n.testBit i = s.testBit (31 - i)
theorem poly_bits : ∀ i, i < 32 → (4374732215 : Nat).testBit i = (3988292384 : Nat).testBit (31 - i) := by decide
theorem crcBit_bits (x i : Nat) : (crcBit x).testBit i = (x.testBit (i + 1) ^^ (x.testBit 0 && (3988292384 : Nat).testBit i)) := by
  unfold crcBit
  have h0 : x.testBit 0 = decide (x % 2 = 1) := by rw [Nat.testBit_zero]
  rw [h0]
  split
  · next h => rw [Nat.testBit_xor, Nat.testBit_div_two]; simp [h]
  · next h => rw [Nat.testBit_div_two]; simp [h]
theorem dbl_bits (n i : Nat) : (2 * n).testBit i = (decide (1 ≤ i) && n.testBit (i - 1)) := by
  have := Nat.testBit_two_pow_mul (i := 1) (a := n) (j := i)
  simpa using this
theorem refBit_turned {n s b : Nat} (h : Turned n s) (hb : b < 2) : Turned (refBit n b) (crcBit (s ^^^ b)) := by
  have hm : 2 * n ^^^ b * 4294967296 < 8589934592 := Nat.xor_lt_two_pow (n := 33) (by have := h.ln; omega) (by omega)
  have hb0 : ∀ i, i < 32 → (b * 4294967296).testBit i = false := fun i hi => by
    rw [show b * 4294967296 = 2 ^ 32 * b from Nat.mul_comm _ _, Nat.testBit_two_pow_mul]; simp; omega
  have hb1 : ∀ i, (b.testBit (i + 1)) = false := fun i => Nat.testBit_lt_two_pow (Nat.lt_of_lt_of_le hb (by rw [Nat.pow_succ]; have := Nat.two_pow_pos i; omega))
  have hsb : s ^^^ b < 4294967296 := Nat.xor_lt_two_pow (n := 32) h.ls (by omega)
  have t32 : (2 * n ^^^ b * 4294967296).testBit 32 = (s ^^^ b).testBit 0 := by
    rw [Nat.testBit_xor, Nat.testBit_xor, show b * 4294967296 = 2 ^ 32 * b from Nat.mul_comm _ _, Nat.testBit_two_pow_mul, dbl_bits, h.bits 31 (by decide)]
    simp
  have hq : ((2 * n ^^^ b * 4294967296) / 4294967296 = 1) ↔ (2 * n ^^^ b * 4294967296).testBit 32 = true := by
    rw [Nat.testBit_eq_decide_div_mod_eq]; simp; omega
  have low : ∀ i, i < 32 → (refBit n b).testBit i = (crcBit (s ^^^ b)).testBit (31 - i) := by
    intro i hi
    rw [crcBit_bits, ← t32, ← poly_bits i hi]
    have e1 : (2 * n ^^^ b * 4294967296).testBit i = (s ^^^ b).testBit (31 - i + 1) := by
      rw [Nat.testBit_xor, hb0 i hi, Nat.testBit_xor, hb1, Bool.xor_false, Bool.xor_false, dbl_bits]
      cases i with
      | zero => rw [show decide (1 ≤ 0) = false from rfl, Bool.false_and]; exact (Nat.testBit_lt_two_pow (Nat.lt_of_lt_of_le h.ls (by decide))).symm
      | succ i => rw [Nat.add_sub_cancel, h.bits i (by omega)]; simp; congr 1; omega
    unfold refBit
    split
    · next hc => rw [Nat.testBit_xor, e1, hq.1 hc]; simp
    · next hc => rw [e1]; rw [hq] at hc; simp [hc]
  refine ⟨?_, crcBit_lt hsb, low⟩
  refine Nat.lt_pow_two_of_testBit (n := 32) _ fun i hi => ?_
  unfold refBit
  split
  · next hc =>
    rw [Nat.testBit_xor]
    by_cases h2 : i = 32
    · subst h2; rw [hq.1 hc]; decide
    · rw [Nat.testBit_lt_two_pow (Nat.lt_of_lt_of_le hm (Nat.pow_le_pow_right (by decide : 0 < 2) (show 33 ≤ i by omega))), Nat.testBit_lt_two_pow (Nat.lt_of_lt_of_le (by decide : (4374732215 : Nat) < 2 ^ 33) (Nat.pow_le_pow_right (by decide) (by omega)))]; rfl
  · next hc =>
    refine Nat.testBit_lt_two_pow (Nat.lt_of_lt_of_le ?_ (Nat.pow_le_pow_right (n := 2) (by decide) hi))
    omega

def bq (x : UInt8) (k : Nat) : Nat := x.toNat / 2 ^ k % 2
theorem bq_lt (x : UInt8) (k : Nat) : bq x k < 2 := Nat.mod_lt _ (by decide)
def refB (n : Nat) (x : UInt8) : Nat → Nat
  | 0 => n
  | k + 1 => refBit (refB n x k) (bq x k)
def crcB (s : Nat) (x : UInt8) : Nat → Nat
  | 0 => s
  | k + 1 => crcBit (crcB s x k ^^^ bq x k)
theorem turned_byte {n s : Nat} (h : Turned n s) (x : UInt8) : ∀ k, Turned (refB n x k) (crcB s x k)
  | 0 => h
  | k + 1 => refBit_turned (turned_byte h x k) (bq_lt x k)
theorem crcBit_lin (a y : Nat) : crcBit (a ^^^ 2 * y) = crcBit a ^^^ y := by
  apply Nat.eq_of_testBit_eq
  intro i
  rw [Nat.testBit_xor, crcBit_bits, crcBit_bits, Nat.testBit_xor, Nat.testBit_xor, dbl_bits, dbl_bits, Nat.add_sub_cancel, show decide (1 ≤ 0) = false from rfl, show decide (1 ≤ i + 1) = true from by simp]
  cases a.testBit (i + 1) <;> cases a.testBit 0 <;> cases y.testBit i <;> cases Nat.testBit 3988292384 i <;> rfl
theorem bit_split (x k : Nat) : x / 2 ^ k = (x / 2 ^ k % 2) ^^^ 2 * (x / 2 ^ (k + 1)) := by
  apply Nat.eq_of_testBit_eq
  intro i
  have e : x / 2 ^ (k + 1) = x / 2 ^ k / 2 := by rw [Nat.pow_succ, Nat.div_div_eq_div_mul]
  rw [Nat.testBit_xor, dbl_bits, e]
  generalize x / 2 ^ k = y
  cases i with
  | zero => rw [show decide (1 ≤ 0) = false from rfl, Bool.false_and, Bool.xor_false, Nat.testBit_zero, Nat.testBit_zero, Nat.mod_mod]
  | succ i =>
    rw [Nat.add_sub_cancel, Nat.testBit_div_two, show decide (1 ≤ i + 1) = true from by simp, Bool.true_and]
    have h2 := Nat.two_pow_pos i
    rw [Nat.testBit_lt_two_pow (x := y % 2) (i := i + 1) (by rw [Nat.pow_succ]; omega), Bool.false_xor]
theorem crcIt_byte (s : Nat) (x : UInt8) : ∀ k, crcIt k (s ^^^ x.toNat) = crcB s x k ^^^ (x.toNat / 2 ^ k)
  | 0 => by simp [crcIt, crcB]
  | k + 1 => by
    show crcBit (crcIt k (s ^^^ x.toNat)) = crcBit (crcB s x k ^^^ bq x k) ^^^ _
    rw [crcIt_byte s x k, bit_split x.toNat k, ← Nat.xor_assoc, crcBit_lin]; rfl
theorem crcIt_8 (s : Nat) (x : UInt8) : crcIt 8 (s ^^^ x.toNat) = crcB s x 8 := by
  have h := u8_lt x
  rw [crcIt_byte, show x.toNat / 2 ^ 8 = 0 from by omega, Nat.xor_zero]
theorem shr_nat (a : Nat) {k b : Nat} (h : k ≤ b) : (a : Int) / 2 ^ (min (k : Int).toNat b) = ((a / 2 ^ k : Nat) : Int) := by
  rw [Int.toNat_natCast, Nat.min_eq_left h]; simp
theorem xor33 (m r : Nat) : ((((m : Int) * 2).toNat ^^^ ((r : Int) * 4294967296).toNat : Nat) : Int) = ((2 * m ^^^ r * 4294967296 : Nat) : Int) := by
  have e1 : (m : Int) * 2 = ((2 * m : Nat) : Int) := by omega
  have e2 : (r : Int) * 4294967296 = ((r * 4294967296 : Nat) : Int) := by simp
  rw [e1, e2, Int.toNat_natCast, Int.toNat_natCast]
theorem and1 (q : Nat) : (((q : Int).toNat &&& (1 : Int).toNat : Nat) : Int) = ((q % 2 : Nat) : Int) := by
  show ((q &&& 1 : Nat) : Int) = _
  rw [Nat.and_one_is_mod]
theorem or1 (q r : Nat) : ((((q : Int) * 2).toNat ||| ((r % 2 : Nat) : Int).toNat : Nat) : Int) = ((2 * q + r % 2 : Nat) : Int) := by
  have e : ((q : Int) * 2).toNat = 2 * q := by omega
  rw [e, Int.toNat_natCast]
  have h := Nat.two_pow_add_eq_or_of_lt (i := 1) (b := r % 2) (Nat.mod_lt _ (by decide)) q
  rw [Nat.pow_one] at h
  rw [h]
/-- One bit more of a number that is turned round. -/
theorem turned_next {n s i : Nat} (h : Turned n s) (hi : i < 32) : s / 2 ^ (32 - (i + 1)) = 2 * (s / 2 ^ (32 - i)) + n / 2 ^ i % 2 := by
  have e1 : s / 2 ^ (32 - i) = s / 2 ^ (31 - i) / 2 := by
    rw [show 32 - i = 31 - i + 1 from by omega, Nat.pow_succ, Nat.div_div_eq_div_mul]
  have e2 := h.bits i hi
  rw [Nat.testBit_eq_decide_div_mod_eq, Nat.testBit_eq_decide_div_mod_eq] at e2
  have e3 : n / 2 ^ i % 2 = s / 2 ^ (31 - i) % 2 := by
    have := decide_eq_decide.1 e2
    omega
  rw [e1, e3, show 32 - (i + 1) = 31 - i from by omega]
  omega



set_option maxRecDepth 100000 in
set_option maxHeartbeats 400000 in
theorem RCheck_spec {I : Imm} (bs : List UInt8) (hb : bs.length ≤ 4611686018427387904) :
    Meets Try.prog 39 #[.string (strOf bs)] I ([]) (Ret I (.int .u32 (crc bs : Nat))) := by
  refine Meets.intro (args := [.string (strOf bs)]) (N := 50) (rs := [.tmp 2]) Try.func39 rfl rfl rfl rfl (fun F => ?_)
  change Cd _ _ _ [(0, .string (strOf bs))] I (F) _
  have hle := Imm.le_refl I
  have h32 := crcL_lt bs
  refine Cd.seq ?_
  refine Cd.region ?_
  refine Opz.val (R.assign rfl) rfl rfl rfl ?_
  refine Opz.nil ?_
  refine seqQ.normal ?_
  refine Cd.seq ?_
  refine Cd.region ?_
  refine Opz.val (R.assign rfl) rfl rfl rfl ?_
  refine Opz.nil ?_
  refine seqQ.normal ?_
  refine Cd.seq ?_
  refine Cd.seq ?_
  refine Cd.region ?_
  refine Opz.val (R.assign rfl) rfl rfl rfl ?_
  refine Opz.nil ?_
  refine seqQ.normal ?_
  refine Cd.block ?_
  -- loop 1: turned [3, 4], kept [0]
  refine Cd.loop [0] (fun nn vs I101 L1 => ∃ (i : Nat) (n : Nat), [(3, .int .u64 (n : Nat)), (4, .int .i64 i)] = vs ∧ (F) = L1 ∧ I = I101 ∧ bs.length - i = nn ∧ i ≤ bs.length ∧ Turned n (crcL (bs.take i))) (Pick.cons rfl (Pick.nil)) ?_ ?_
  ·
    refine ⟨_, _, _, ⟨0, 4294967295, rfl, rfl, rfl, rfl, ?_, ?_⟩, ⟨rfl, rfl, trivial⟩, by repeat (first | exact Have.refl | (refine Have.cons (by repeat (first | exact Rem.head | apply Rem.tail | exact Rem.mid)) ?_) | refine Have.skip ?_ | refine Have.app ?_)⟩
    · first | assumption | omega | simp
    · show Turned 4294967295 4294967295; exact ⟨by decide, by decide, by decide +kernel⟩
  ·
    rintro nn1 _ I101 _ ⟨i, n, rfl, rfl, rfl, hn1, hi, ht⟩
    have hn32 := ht.ln
    refine Cd.seq ?_
    refine Cd.seq ?_
    refine Cd.region ?_
    refine Opz.val (R.move rfl) rfl rfl rfl ?_
    refine Opz.val (R.move rfl) rfl rfl rfl ?_
    refine Opz.val (R.lenT rfl rfl Try.underlying9) rfl rfl rfl ?_
    refine Opz.val (R.lss rfl rfl) rfl rfl rfl ?_
    refine Opz.nil ?_
    refine seqQ.normal ?_
    first | refine Cd.condD rfl (fun hq1 => ?_) (fun hq1 => ?_) | refine Cd.cond rfl (fun hq1 => ?_) (fun hq1 => ?_)
    ·
      -- c1T
      try (first | contradiction | (exfalso; omega))
      all_goals
        obtain ⟨x22, hx22⟩ : ∃ x, bs[i]? = some x := ⟨bs[i], List.getElem?_eq_getElem (by omega)⟩
        have h8 := u8_lt x22
        refine Cd.skip ?_
        refine seqQ.normal ?_
        refine Cd.seq ?_
        refine Cd.block ?_
        refine Cd.seq ?_
        refine Cd.region ?_
        refine Opz.val (R.assign rfl) rfl rfl rfl ?_
        refine Opz.nil ?_
        refine seqQ.normal ?_
        refine Cd.block ?_
        -- loop 2: turned [3, 5], kept [0, 4]
        refine Cd.loop [0, 4] (fun nn vs I102 L1 => ∃ (k : Nat) (m : Nat), [(3, .int .u64 (m : Nat)), (5, .int .i64 k)] = vs ∧ (F) = L1 ∧ I = I102 ∧ 8 - k = nn ∧ k ≤ 8 ∧ m = refB n x22 k) (Pick.cons rfl (Pick.cons rfl (Pick.nil))) ?_ ?_
        ·
          refine ⟨_, _, _, ⟨0, n, rfl, rfl, rfl, rfl, ?_, ?_⟩, ⟨rfl, rfl, trivial⟩, by repeat (first | exact Have.refl | (refine Have.cons (by repeat (first | exact Rem.head | apply Rem.tail | exact Rem.mid)) ?_) | refine Have.skip ?_ | refine Have.app ?_)⟩
          · first | assumption | omega | simp
          · rfl
        ·
          rintro nn2 _ I102 _ ⟨k, m, rfl, rfl, rfl, hn2, hk, hm⟩
          have hm32 := (turned_byte ht x22 k).ln
          rw [← hm] at hm32
          refine Cd.seq ?_
          refine Cd.seq ?_
          refine Cd.region ?_
          refine Opz.val (R.move rfl) rfl rfl rfl ?_
          refine Opz.val (R.lss rfl rfl) rfl rfl rfl ?_
          refine Opz.nil ?_
          refine seqQ.normal ?_
          first | refine Cd.condD rfl (fun hq2 => ?_) (fun hq2 => ?_) | refine Cd.cond rfl (fun hq2 => ?_) (fun hq2 => ?_)
          ·
            -- c2T
            try (first | contradiction | (exfalso; omega))
            all_goals
              refine Cd.skip ?_
              refine seqQ.normal ?_
              refine Cd.seq ?_
              refine Cd.block ?_
              refine Cd.seq ?_
              refine Cd.region ?_
              refine Opz.val (R.move rfl) rfl rfl rfl ?_
              refine Opz.val (by first | exact R.shlC (n := 1) (m := 2) rfl rfl rfl rfl (by decide) (by decide) (by first | exact ⟨by simp only [loK]; omega, by simp only [hiK]; omega⟩ | exact wr_inR rfl _) | exact R.shlCW (n := 1) (m := 2) rfl rfl rfl rfl (by decide) (by decide)) rfl rfl rfl ?_
              refine Opz.val (R.move rfl) rfl rfl rfl ?_
              refine Opz.val (R.move rfl) rfl rfl rfl ?_
              refine Opz.val (by exact R.ixT rfl rfl Try.underlying9 (by omega) (by exact hx22)) rfl rfl rfl ?_
              refine Opz.val (R.move rfl) rfl rfl rfl ?_
              refine Opz.val (by first | exact R.conv rfl Try.underlying3 Try.underlying39 (by first | exact ⟨by simp only [loK]; omega, by simp only [hiK]; omega⟩ | exact wr_inR rfl _) | exact R.convW rfl Try.underlying3 Try.underlying39) rfl rfl rfl ?_
              refine Opz.val (by first | exact R.shrC rfl rfl rfl rfl (by decide) rfl | exact R.shr rfl rfl (by omega)) rfl rfl rfl ?_
              obtain ⟨q, hq⟩ : ∃ q, q = x22.toNat / 2 ^ k := ⟨_, rfl⟩
              have hq8 : q < 256 := by rw [hq]; exact Nat.lt_of_le_of_lt (Nat.div_le_self _ _) h8
              rw [shr_nat x22.toNat (show k ≤ IntKind.u8.bits from by show k ≤ 8; omega), ← hq]
              refine Opz.val (by exact R.and rfl rfl (by first | exact ⟨by omega, by simp only [hiK]; omega⟩ | exact wr_uns rfl _) (by first | exact ⟨by omega, by simp only [hiK]; omega⟩ | exact wr_uns rfl _)) rfl rfl rfl ?_
              rw [and1]
              have hb2 : q % 2 = bq x22 k := by rw [hq]; rfl
              have hb3 : q % 2 < 2 := Nat.mod_lt _ (by decide)
              refine Opz.val (by first | exact R.conv rfl Try.underlying5 Try.underlying49 (by first | exact ⟨by simp only [loK]; omega, by simp only [hiK]; omega⟩ | exact wr_inR rfl _) | exact R.convW rfl Try.underlying5 Try.underlying49) rfl rfl rfl ?_
              refine Opz.val (by first | exact R.shlC (n := 32) (m := 4294967296) rfl rfl rfl rfl (by decide) (by decide) (by first | exact ⟨by simp only [loK]; omega, by simp only [hiK]; omega⟩ | exact wr_inR rfl _) | exact R.shlCW (n := 32) (m := 4294967296) rfl rfl rfl rfl (by decide) (by decide)) rfl rfl rfl ?_
              refine Opz.val (by exact R.xor rfl rfl (by first | exact ⟨by omega, by simp only [hiK]; omega⟩ | exact wr_uns rfl _) (by first | exact ⟨by omega, by simp only [hiK]; omega⟩ | exact wr_uns rfl _)) rfl rfl rfl ?_
              refine Opz.val (R.assign rfl) rfl rfl rfl ?_
              refine Opz.nil ?_
              refine seqQ.normal ?_
              refine Cd.seq ?_
              obtain ⟨w, hw⟩ : ∃ w, w = 2 * m ^^^ (q % 2) * 4294967296 := ⟨_, rfl⟩
              have hw33 : w < 8589934592 := by rw [hw]; exact Nat.xor_lt_two_pow (n := 33) (by omega) (by omega)
              rw [xor33, ← hw]
              have hkey : refB n x22 (k + 1) = if w / 4294967296 = 1 then w ^^^ 4374732215 else w := by rw [hw, hb2, hm]; rfl
              refine Cd.region ?_
              refine Opz.val (R.move rfl) rfl rfl rfl ?_
              refine Opz.val (by exact R.shrC (n := 32) (m := 4294967296) rfl rfl rfl rfl (by decide) (by decide)) rfl rfl rfl ?_
              refine Opz.val (R.eql rfl rfl) rfl rfl rfl ?_
              refine Opz.nil ?_
              refine seqQ.normal ?_
              first | refine Cd.condD rfl (fun hq3 => ?_) (fun hq3 => ?_) | refine Cd.cond rfl (fun hq3 => ?_) (fun hq3 => ?_)
              ·
                -- c3T
                try (first | contradiction | (exfalso; omega))
                all_goals
                  refine Cd.region ?_
                  refine Opz.val (R.move rfl) rfl rfl rfl ?_
                  refine Opz.val (by exact R.xor rfl rfl (by first | exact ⟨by omega, by simp only [hiK]; omega⟩ | exact wr_uns rfl _) (by first | exact ⟨by omega, by simp only [hiK]; omega⟩ | exact wr_uns rfl _)) rfl rfl rfl ?_
                  refine Opz.val (R.assign rfl) rfl rfl rfl ?_
                  refine Opz.nil ?_
                  refine blkQ.normal ?_
                  refine seqQ.normal ?_
                  refine Cd.region ?_
                  refine Opz.val (R.move rfl) rfl rfl rfl ?_
                  refine Opz.val (by exact R.add rfl rfl (by first | exact ⟨by simp only [loK]; omega, by simp only [hiK]; omega⟩ | exact wr_inR rfl _)) rfl rfl rfl ?_
                  refine Opz.val (R.assign rfl) rfl rfl rfl ?_
                  refine Opz.nil ?_
                  refine loopQ.round ⟨k + 1, refB n x22 (k + 1), rfl, rfl, rfl, rfl, ?_, ?_⟩ ?_ ⟨(by first | rfl | (refine look_val rfl ?_; exact int_congr (by rw [hkey]; first | (rw [if_pos (by omega)]; rfl) | rw [if_neg (by omega)]))), (by first | rfl | (refine look_val rfl ?_; first | rfl | (refine int_congr ?_; first | omega | (simp; done)))), rfl, rfl, trivial⟩ (by repeat (first | exact Have.refl | (refine Have.cons (by repeat (first | exact Rem.head | apply Rem.tail | exact Rem.mid)) ?_) | refine Have.skip ?_ | refine Have.app ?_))
                  · first | assumption | omega | simp
                  · rfl
                  · omega
              ·
                -- c3F
                try (first | contradiction | (exfalso; omega))
                all_goals
                  refine Cd.skip ?_
                  refine blkQ.normal ?_
                  refine seqQ.normal ?_
                  refine Cd.region ?_
                  refine Opz.val (R.move rfl) rfl rfl rfl ?_
                  refine Opz.val (by exact R.add rfl rfl (by first | exact ⟨by simp only [loK]; omega, by simp only [hiK]; omega⟩ | exact wr_inR rfl _)) rfl rfl rfl ?_
                  refine Opz.val (R.assign rfl) rfl rfl rfl ?_
                  refine Opz.nil ?_
                  refine loopQ.round ⟨k + 1, refB n x22 (k + 1), rfl, rfl, rfl, rfl, ?_, ?_⟩ ?_ ⟨(by first | rfl | (refine look_val rfl ?_; exact int_congr (by rw [hkey]; first | (rw [if_pos (by omega)]; rfl) | rw [if_neg (by omega)]))), (by first | rfl | (refine look_val rfl ?_; first | rfl | (refine int_congr ?_; first | omega | (simp; done)))), rfl, rfl, trivial⟩ (by repeat (first | exact Have.refl | (refine Have.cons (by repeat (first | exact Rem.head | apply Rem.tail | exact Rem.mid)) ?_) | refine Have.skip ?_ | refine Have.app ?_))
                  · first | assumption | omega | simp
                  · rfl
                  · omega
          ·
            -- c2F
            try (first | contradiction | (exfalso; omega))
            all_goals
              have hk8 : k = 8 := by omega
              subst hk8
              refine Cd.exit ?_
              refine seqQ.exit ?_
              refine loopQ.exit ?_
              refine blkQ.here ?_
              refine blkQ.normal ?_
              refine seqQ.normal ?_
              refine Cd.region ?_
              refine Opz.val (R.move rfl) rfl rfl rfl ?_
              refine Opz.val (by exact R.add rfl rfl (by first | exact ⟨by simp only [loK]; omega, by simp only [hiK]; omega⟩ | exact wr_inR rfl _)) rfl rfl rfl ?_
              refine Opz.val (R.assign rfl) rfl rfl rfl ?_
              refine Opz.nil ?_
              refine loopQ.round ⟨i + 1, refB n x22 8, rfl, rfl, rfl, rfl, ?_, ?_⟩ ?_ ⟨(by first | rfl | (refine look_val rfl ?_; exact int_congr (by rw [hm]))), (by first | rfl | (refine look_val rfl ?_; first | rfl | (refine int_congr ?_; first | omega | (simp; done)))), rfl, trivial⟩ (by repeat (first | exact Have.refl | (refine Have.cons (by repeat (first | exact Rem.head | apply Rem.tail | exact Rem.mid)) ?_) | refine Have.skip ?_ | refine Have.app ?_))
              · first | assumption | omega | simp
              · rw [crcL_take hx22, crcIt_8]; exact turned_byte ht x22 8
              · omega
    ·
      -- c1F
      try (first | contradiction | (exfalso; omega))
      all_goals
        have hib : i = bs.length := by omega
        rw [hib, List.take_of_length_le (Nat.le_refl _)] at ht
        refine Cd.exit ?_
        refine seqQ.exit ?_
        refine loopQ.exit ?_
        refine blkQ.here ?_
        refine seqQ.normal ?_
        refine Cd.seq ?_
        refine Cd.region ?_
        refine Opz.val (R.assign rfl) rfl rfl rfl ?_
        refine Opz.nil ?_
        refine seqQ.normal ?_
        refine Cd.seq ?_
        refine Cd.seq ?_
        refine Cd.region ?_
        refine Opz.val (R.assign rfl) rfl rfl rfl ?_
        refine Opz.nil ?_
        refine seqQ.normal ?_
        refine Cd.block ?_
        -- loop 3: turned [6, 7], kept [3]
        refine Cd.loop [3] (fun nn vs I103 L1 => ∃ (j : Nat) (q : Nat), [(6, .int .u32 (q : Nat)), (7, .int .i64 j)] = vs ∧ (F) = L1 ∧ I = I103 ∧ 32 - j = nn ∧ j ≤ 32 ∧ q = crcL bs / 2 ^ (32 - j)) (Pick.cons rfl (Pick.nil)) ?_ ?_
        ·
          refine ⟨_, _, _, ⟨0, 0, rfl, rfl, rfl, rfl, ?_, ?_⟩, ⟨rfl, rfl, trivial⟩, by repeat (first | exact Have.refl | (refine Have.cons (by repeat (first | exact Rem.head | apply Rem.tail | exact Rem.mid)) ?_) | refine Have.skip ?_ | refine Have.app ?_)⟩
          · first | assumption | omega | simp
          · exact (Nat.div_eq_of_lt h32).symm
        ·
          rintro nn3 _ I103 _ ⟨j, q, rfl, rfl, rfl, hn3, hj, hq⟩
          refine Cd.seq ?_
          refine Cd.seq ?_
          refine Cd.region ?_
          refine Opz.val (R.move rfl) rfl rfl rfl ?_
          refine Opz.val (R.lss rfl rfl) rfl rfl rfl ?_
          refine Opz.nil ?_
          refine seqQ.normal ?_
          first | refine Cd.condD rfl (fun hq4 => ?_) (fun hq4 => ?_) | refine Cd.cond rfl (fun hq4 => ?_) (fun hq4 => ?_)
          ·
            -- c4T
            try (first | contradiction | (exfalso; omega))
            all_goals
              have hq31 : q < 2147483648 := by
                rw [hq]
                refine Nat.div_lt_of_lt_mul (Nat.lt_of_lt_of_le h32 ?_)
                have : 2 ^ 1 ≤ 2 ^ (32 - j) := Nat.pow_le_pow_right (by decide) (by omega)
                omega
              refine Cd.skip ?_
              refine seqQ.normal ?_
              refine Cd.seq ?_
              refine Cd.block ?_
              refine Cd.region ?_
              refine Opz.val (R.move rfl) rfl rfl rfl ?_
              refine Opz.val (by first | exact R.shlC (n := 1) (m := 2) rfl rfl rfl rfl (by decide) (by decide) (by first | exact ⟨by simp only [loK]; omega, by simp only [hiK]; omega⟩ | exact wr_inR rfl _) | exact R.shlCW (n := 1) (m := 2) rfl rfl rfl rfl (by decide) (by decide)) rfl rfl rfl ?_
              refine Opz.val (R.move rfl) rfl rfl rfl ?_
              refine Opz.val (R.move rfl) rfl rfl rfl ?_
              refine Opz.val (by first | exact R.conv rfl Try.underlying3 Try.underlying39 (by first | exact ⟨by simp only [loK]; omega, by simp only [hiK]; omega⟩ | exact wr_inR rfl _) | exact R.convW rfl Try.underlying3 Try.underlying39) rfl rfl rfl ?_
              refine Opz.val (by first | exact R.shrC rfl rfl rfl rfl (by decide) rfl | exact R.shr rfl rfl (by omega)) rfl rfl rfl ?_
              obtain ⟨r, hr⟩ : ∃ r, r = n / 2 ^ j := ⟨_, rfl⟩
              have hr8 : r < 4294967296 := by rw [hr]; exact Nat.lt_of_le_of_lt (Nat.div_le_self _ _) hn32
              rw [shr_nat n (show j ≤ IntKind.u64.bits from by show j ≤ 64; omega), ← hr]
              refine Opz.val (by exact R.and rfl rfl (by first | exact ⟨by omega, by simp only [hiK]; omega⟩ | exact wr_uns rfl _) (by first | exact ⟨by omega, by simp only [hiK]; omega⟩ | exact wr_uns rfl _)) rfl rfl rfl ?_
              rw [and1]
              have hr2 : r % 2 < 2 := Nat.mod_lt _ (by decide)
              refine Opz.val (by first | exact R.conv rfl Try.underlying49 Try.underlying76 (by first | exact ⟨by simp only [loK]; omega, by simp only [hiK]; omega⟩ | exact wr_inR rfl _) | exact R.convW rfl Try.underlying49 Try.underlying76) rfl rfl rfl ?_
              refine Opz.val (by exact R.or rfl rfl (by first | exact ⟨by omega, by simp only [hiK]; omega⟩ | exact wr_uns rfl _) (by first | exact ⟨by omega, by simp only [hiK]; omega⟩ | exact wr_uns rfl _)) rfl rfl rfl ?_
              refine Opz.val (R.assign rfl) rfl rfl rfl ?_
              refine Opz.nil ?_
              refine blkQ.normal ?_
              refine seqQ.normal ?_
              refine Cd.region ?_
              refine Opz.val (R.move rfl) rfl rfl rfl ?_
              refine Opz.val (by exact R.add rfl rfl (by first | exact ⟨by simp only [loK]; omega, by simp only [hiK]; omega⟩ | exact wr_inR rfl _)) rfl rfl rfl ?_
              refine Opz.val (R.assign rfl) rfl rfl rfl ?_
              refine Opz.nil ?_
              refine loopQ.round ⟨j + 1, crcL bs / 2 ^ (32 - (j + 1)), rfl, rfl, rfl, rfl, ?_, ?_⟩ ?_ ⟨(by first | rfl | (refine look_val rfl ?_; exact int_congr (by rw [turned_next ht (by omega), ← hq, ← hr]; exact or1 q r))), (by first | rfl | (refine look_val rfl ?_; first | rfl | (refine int_congr ?_; first | omega | (simp; done)))), rfl, trivial⟩ (by repeat (first | exact Have.refl | (refine Have.cons (by repeat (first | exact Rem.head | apply Rem.tail | exact Rem.mid)) ?_) | refine Have.skip ?_ | refine Have.app ?_))
              · first | assumption | omega | simp
              · rfl
              · omega
          ·
            -- c4F
            try (first | contradiction | (exfalso; omega))
            all_goals
              have hj32 : j = 32 := by omega
              subst hj32
              rw [Nat.sub_self, Nat.pow_zero, Nat.div_one] at hq
              subst hq
              refine Cd.exit ?_
              refine seqQ.exit ?_
              refine loopQ.exit ?_
              refine blkQ.here ?_
              refine seqQ.normal ?_
              refine Cd.seq ?_
              refine Cd.region ?_
              refine Opz.val (R.move rfl) rfl rfl rfl ?_
              refine Opz.val (by exact R.com rfl rfl (by first | exact ⟨by omega, by simp only [hiK]; omega⟩ | exact wr_uns rfl _)) rfl rfl rfl ?_
              refine Opz.val (R.assign rfl) rfl rfl rfl ?_
              refine Opz.nil ?_
              refine seqQ.normal ?_
              refine Cd.ret ?_
              -- path c1F c4F
              refine fin.ret (L' := []) (ResOK.tmp rfl ResOK.nil) (by first | exact hle | exact Imm.le_refl _) ?_ ?_
              · repeat (first | exact Have.refl | (refine Have.cons (by repeat (first | exact Rem.head | apply Rem.tail | exact Rem.mid)) ?_) | refine Have.skip ?_ | refine Have.app ?_)
              ·
                exact Ret.mk (int_congr (by simp only [hiK, crc]; omega))

end Go.Proofs.Ytdecipfdbkpigaa
