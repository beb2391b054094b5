/- Numbers modulo 2^61 - 1: what the program's calls give. No function of the program is proved here. -/
import Derived.Test.YtidelnccggfmgaaJuD
import Derived.Test.YtidelnccggfmgaaJuE
set_option linter.unusedVariables false
set_option linter.unusedSimpArgs false
set_option linter.unnecessarySimpa false
set_option linter.unusedSectionVars false
set_option linter.all false
/- Numbers modulo 2^61 - 1: what the program's calls give. No function of the program is proved here. -/
namespace Go.Num

def pwF : Nat → Int → Nat → Int
  | 0, _, _ => 1
  | k + 1, a, n => if n = 0 then 1 else if n % 2 = 1 then (pwF k (a * a % 2305843009213693951) (n / 2) * a) % 2305843009213693951 else pwF k (a * a % 2305843009213693951) (n / 2)
/-- A power, modulo 2^61 - 1. -/
def pw (a : Int) (n : Nat) : Int := pwF 64 a n

theorem emod_mul_l (a b : Int) : (a % 2305843009213693951 * b) % 2305843009213693951 = (a * b) % 2305843009213693951 := by rw [Int.mul_emod, Int.emod_emod_of_dvd _ (Int.dvd_refl _), ← Int.mul_emod]
theorem emod_mul_r (a b : Int) : (a * (b % 2305843009213693951)) % 2305843009213693951 = (a * b) % 2305843009213693951 := by rw [Int.mul_emod, Int.emod_emod_of_dvd _ (Int.dvd_refl _), ← Int.mul_emod]

theorem pow_mod (a : Int) (n : Nat) : (a % 2305843009213693951) ^ n % 2305843009213693951 = a ^ n % 2305843009213693951 := by
  induction n with
  | zero => simp
  | succ n ih => rw [Int.pow_succ, Int.pow_succ, emod_mul_r, ← emod_mul_l, ih, emod_mul_l]

theorem pwF_eq : ∀ (k : Nat) (a : Int) (n : Nat), n < 2 ^ k → pwF k a n = a ^ n % 2305843009213693951
  | 0, a, n, h => by
    have : n = 0 := by omega
    subst this; simp [pwF]
  | k + 1, a, n, h => by
    unfold pwF
    by_cases h0 : n = 0
    · subst h0; simp
    · rw [if_neg h0]
      have hk : n / 2 < 2 ^ k := by rw [Nat.pow_succ] at h; omega
      rw [pwF_eq k _ _ hk, pow_mod]
      have e2 : (a * a) ^ (n / 2) = a ^ (2 * (n / 2)) := by rw [Int.pow_mul]; congr 1; rw [Int.pow_succ, Int.pow_succ, Int.pow_zero, Int.one_mul]
      split
      · rw [emod_mul_l, e2, ← Int.pow_succ]; congr 2; omega
      · rw [e2]; congr 2; omega
theorem pw_eq (a : Int) {n : Nat} (h : n < 2 ^ 64) : pw a n = a ^ n % 2305843009213693951 := pwF_eq 64 a n h
theorem pwF_rng : ∀ (k : Nat) (a : Int) (n : Nat), 0 ≤ pwF k a n ∧ pwF k a n < 2305843009213693951
  | 0, a, n => by simp [pwF]
  | k + 1, a, n => by
    unfold pwF
    split
    · omega
    · split
      · omega
      · exact pwF_rng k _ _
theorem pw_rng (a : Int) (n : Nat) : 0 ≤ pw a n ∧ pw a n < 2305843009213693951 := pwF_rng 64 a n
def inv (a : Int) : Int := pw a 2305843009213693949
end Go.Num

/- Package prime and its reference: sums, differences, products, powers. -/
namespace Go.Proofs.Ytidelnccggfmgaa
open Go.V Go.Num
open Go.Eng (wr)
set_option maxRecDepth 100000
abbrev u64 (n : Int) : AV := .d (.int .u64 n)
abbrev i64 (n : Int) : AV := .d (.int .i64 n)
theorem shr_step {b : Int} (hb : 0 ≤ b) {i : Nat} : b / 2 ^ i = 2 * (b / 2 ^ (i + 1)) + (b / 2 ^ i) % 2 := by
  have : b / 2 ^ (i + 1) = (b / 2 ^ i) / 2 := by rw [Int.pow_succ, Int.ediv_ediv_of_nonneg (by exact Int.pow_nonneg (by decide))]
  omega
theorem bit_i {x : Int} (hx : 0 ≤ x) : (((x.toNat &&& (1 : Int).toNat : Nat) : Int)) = x % 2 := by
  have : x.toNat &&& (1 : Int).toNat = x.toNat % 2 := Nat.and_one_is_mod _
  rw [this]; omega
theorem wr_small {x : Int} (h : 0 ≤ x ∧ x < 18446744073709551616) : wr .u64 x = x := by simp only [wr]; omega
theorem dbl (x : Int) : wr .u64 (x % 2305843009213693951 + x % 2305843009213693951) % 2305843009213693951 = (2 * x) % 2305843009213693951 := by rw [wr_small (by omega)]; omega
theorem dbl1 (x a : Int) : wr .u64 (x % 2305843009213693951 + a % 2305843009213693951) % 2305843009213693951 = (x + a) % 2305843009213693951 := by rw [wr_small (by omega)]; omega
theorem and_low (k : Nat) {x : Int} (hx : 0 ≤ x) : ((x.toNat &&& (2 ^ k - 1) : Nat) : Int) = x % 2 ^ k := by
  rw [Nat.and_two_pow_sub_one_eq_mod]
  obtain ⟨n, rfl⟩ := Int.eq_ofNat_of_zero_le hx
  simp
theorem and32 {x : Int} (hx : 0 ≤ x) : ((x.toNat &&& (4294967295 : Int).toNat : Nat) : Int) = x % 4294967296 := and_low 32 hx
theorem andP {x : Int} (hx : 0 ≤ x) : ((x.toNat &&& (2305843009213693951 : Int).toNat : Nat) : Int) = x % 2305843009213693952 := and_low 61 hx
theorem mulB {x y : Int} (hx : 0 ≤ x ∧ x ≤ 4294967295) (hy : 0 ≤ y ∧ y ≤ 4294967295) : 0 ≤ x * y ∧ x * y ≤ 18446744065119617025 := by
  refine ⟨Int.mul_nonneg hx.1 hy.1, ?_⟩
  have h1 := Int.mul_le_mul_of_nonneg_right hx.2 hy.1
  have h2 : 4294967295 * y ≤ 4294967295 * 4294967295 := by omega
  omega
theorem p32 : (2 : Int) ^ min (Int.toNat 32) IntKind.u64.bits = 4294967296 := rfl
theorem mul64_pure {x0 x1 y0 y1 : Int} (hx0 : 0 ≤ x0 ∧ x0 ≤ 4294967295) (hx1 : 0 ≤ x1 ∧ x1 ≤ 4294967295) (hy0 : 0 ≤ y0 ∧ y0 ≤ 4294967295) (hy1 : 0 ≤ y1 ∧ y1 ≤ 4294967295) :
    wr .u64 (wr .u64 (wr .u64 (x1 * y1) + wr .u64 (wr .u64 (x1 * y0) + wr .u64 (x0 * y0) / 4294967296) / 4294967296) + wr .u64 (wr .u64 (wr .u64 (x1 * y0) + wr .u64 (x0 * y0) / 4294967296) % 4294967296 + wr .u64 (x0 * y1)) / 4294967296) =
      ((4294967296 * x1 + x0) * (4294967296 * y1 + y0)) / 18446744073709551616 := by
  have e : (4294967296 * x1 + x0) * (4294967296 * y1 + y0) = 18446744073709551616 * (x1 * y1) + 4294967296 * (x1 * y0 + x0 * y1) + x0 * y0 := by grind
  have b11 := mulB hx1 hy1; have b10 := mulB hx1 hy0; have b01 := mulB hx0 hy1; have b00 := mulB hx0 hy0
  rw [e]
  generalize x1 * y1 = p11 at *
  generalize x1 * y0 = p10 at *
  generalize x0 * y1 = p01 at *
  generalize x0 * y0 = p00 at *
  rw [wr_small (x := p11) (by omega), wr_small (x := p10) (by omega), wr_small (x := p00) (by omega), wr_small (x := p01) (by omega), wr_small (x := p10 + p00 / 4294967296) (by omega),
    wr_small (x := p11 + (p10 + p00 / 4294967296) / 4294967296) (by omega), wr_small (x := (p10 + p00 / 4294967296) % 4294967296 + p01) (by omega), wr_small (by omega)]
  omega
theorem p61 : (2 : Int) ^ min (Int.toNat 61) IntKind.u64.bits = 2305843009213693952 := rfl
theorem p58 : (2 : Int) ^ min (Int.toNat 58) IntKind.u64.bits = 288230376151711744 := rfl
theorem p3 : (2 : Int) ^ min (Int.toNat 3) IntKind.u64.bits = 8 := rfl
theorem or_low {a b : Int} (ha : 0 ≤ a ∧ a < 8) (hb : 0 ≤ b) : ((a.toNat ||| (8 * b).toNat : Nat) : Int) = a + 8 * b := by
  obtain ⟨m, rfl⟩ := Int.eq_ofNat_of_zero_le ha.1
  obtain ⟨n, rfl⟩ := Int.eq_ofNat_of_zero_le hb
  have h := Nat.shiftLeft_add_eq_or_of_lt (b := m) (i := 3) (by omega) n
  rw [Nat.shiftLeft_eq] at h
  have e1 : ((m : Int)).toNat = m := rfl
  have e2 : (8 * (n : Int)).toNat = n * 2 ^ 3 := by omega
  rw [e1, e2, Nat.or_comm, ← h]; omega
theorem whole_pure {hi lo : Int} (hh : 0 ≤ hi ∧ hi < 18446744073709551616) (hl : 0 ≤ lo ∧ lo < 18446744073709551616) : (lo % 2305843009213693952 + (lo / 2305843009213693952 + 8 * (hi % 2305843009213693952)) % 2305843009213693952 + hi / 288230376151711744) % 2305843009213693951 = (hi * 18446744073709551616 + lo) % 2305843009213693951 := by
  have h1 : (lo / 2305843009213693952 + 8 * (hi % 2305843009213693952)) % 2305843009213693952 = (lo / 2305843009213693952 + 8 * hi) % 2305843009213693952 := by omega
  have h2 : (lo / 2305843009213693952 + 8 * hi) / 2305843009213693952 = hi / 288230376151711744 := by omega
  have h3 : hi * 18446744073709551616 + lo = lo % 2305843009213693952 + 2305843009213693952 * (lo / 2305843009213693952 + 8 * hi) := by omega
  rw [h1, ← h2, h3]
  generalize lo / 2305843009213693952 + 8 * hi = q
  generalize lo % 2305843009213693952 = l
  have h4 : l + 2305843009213693952 * q = (l + q % 2305843009213693952 + q / 2305843009213693952) + 2305843009213693951 * (q % 2305843009213693952 + 2305843009213693953 * (q / 2305843009213693952)) := by omega
  rw [h4, Int.add_mul_emod_self_left]
end Go.Proofs.Ytidelnccggfmgaa

/- Package letter, in plain Lean: numbers as bytes, the check, sealed bytes. No function of the program is proved here. -/
namespace Go.Proofs.Ytidelnccggfmgaa.Let
open Go.V Go.Num
open Go.Eng (wr)
set_option maxRecDepth 100000
def bt (n : Int) (i : Nat) : UInt8 := UInt8.ofNat ((n / 2 ^ (8 * i)) % 256).toNat
def leB (n : Int) : Nat → List UInt8
  | 0 => []
  | k + 1 => leB n k ++ [bt n k]
theorem leB_len (n : Int) (k : Nat) : (leB n k).length = k := by
  induction k with
  | zero => rfl
  | succ k ih => simp [leB, ih]
theorem bt_val {n : Int} {i : Nat} (hi : i < 8) : wr .u8 (n / 2 ^ (min (8 * (i : Int)).toNat IntKind.u64.bits)) = ((bt n i).toNat : Int) := by
  have e : min (8 * (i : Int)).toNat IntKind.u64.bits = 8 * i := by
    have : IntKind.u64.bits = 64 := rfl
    omega
  rw [e]
  simp only [bt, wr]
  have h := Int.emod_nonneg (n / 2 ^ (8 * i)) (show (256 : Int) ≠ 0 by decide)
  have h2 := Int.emod_lt_of_pos (n / 2 ^ (8 * i)) (show (0 : Int) < 256 by decide)
  rw [UInt8.toNat_ofNat_of_lt' (by show _ < 256; omega)]
  omega
def crcBit (n : Nat) : Nat := if n % 2 = 1 then (n / 2) ^^^ 3988292384 else n / 2
def crcIt : Nat → Nat → Nat
  | 0, n => n
  | k + 1, n => crcBit (crcIt k n)
def crcStep (n : Nat) (c : UInt8) : Nat := crcIt 8 (n ^^^ c.toNat)
def crcL (bs : List UInt8) : Nat := bs.foldl crcStep 4294967295
def crc (bs : List UInt8) : Nat := 4294967295 - crcL bs
theorem crcBit_lt {n : Nat} (h : n < 4294967296) : crcBit n < 4294967296 := by
  unfold crcBit
  split
  · exact Nat.xor_lt_two_pow (n := 32) (by omega) (by decide)
  · omega
theorem crcIt_lt {n : Nat} (h : n < 4294967296) : ∀ k, crcIt k n < 4294967296
  | 0 => h
  | k + 1 => crcBit_lt (crcIt_lt h k)
theorem crcStep_lt {n : Nat} (h : n < 4294967296) (c : UInt8) : crcStep n c < 4294967296 :=
  crcIt_lt (Nat.xor_lt_two_pow (n := 32) h (Nat.lt_of_lt_of_le c.toNat_lt (by decide))) 8
theorem crcL_lt (bs : List UInt8) : crcL bs < 4294967296 := by
  unfold crcL
  have : ∀ (l : List UInt8) (n : Nat), n < 4294967296 → l.foldl crcStep n < 4294967296 := by
    intro l
    induction l with
    | nil => intro n h; exact h
    | cons c l ih => intro n h; exact ih _ (crcStep_lt h c)
  exact this bs _ (by decide)
theorem crcL_snoc (bs : List UInt8) (c : UInt8) : crcL (bs ++ [c]) = crcIt 8 (crcL bs ^^^ c.toNat) := by simp [crcL, crcStep]
theorem crcL_take {bs : List UInt8} {k : Nat} {c : UInt8} (h : bs[k]? = some c) : crcL (bs.take (k + 1)) = crcIt 8 (crcL (bs.take k) ^^^ c.toNat) := by
  rw [List.take_add_one, h]; exact crcL_snoc _ _
theorem crcBit_odd {m : Nat} (h : (((m : Int).toNat &&& (1 : Int).toNat : Nat) : Int) = 1) : (((((m : Int) / 2).toNat ^^^ (3988292384 : Int).toNat : Nat)) : Int) = (crcBit m : Nat) := by
  have e1 : m % 2 = 1 := by
    have h2 : ((m &&& 1 : Nat) : Int) = 1 := h
    rw [Nat.and_one_is_mod] at h2; omega
  have e2 : ((m : Int) / 2).toNat = m / 2 := by omega
  rw [e2, crcBit, if_pos e1]; rfl
theorem crcBit_even {m : Nat} (h : ¬ (((m : Int).toNat &&& (1 : Int).toNat : Nat) : Int) = 1) : ((m : Int) / 2) = (crcBit m : Nat) := by
  have e1 : ¬ m % 2 = 1 := by
    intro e
    apply h
    show ((m &&& 1 : Nat) : Int) = 1
    rw [Nat.and_one_is_mod]; omega
  rw [crcBit, if_neg e1]; omega
theorem u8_lt (c : UInt8) : c.toNat < 256 := c.toNat_lt
def takeB (rest : List UInt8) (e : Int) (n : Nat) : List UInt8 × List UInt8 × Int :=
  if e = 0 then (if rest.length < n then ([], rest, 3) else (rest.take n, rest.drop n, 0)) else ([], rest, e)
def numB : List UInt8 → Nat
  | [] => 0
  | b :: l => b.toNat + 256 * numB l
theorem numB_app (l : List UInt8) (b : UInt8) : numB (l ++ [b]) = numB l + b.toNat * 256 ^ l.length := by
  induction l with
  | nil => simp [numB]
  | cons a l ih => simp only [List.cons_append, numB, ih, List.length_cons, Nat.pow_succ]; grind
theorem numB_lt (l : List UInt8) : numB l < 256 ^ l.length := by
  induction l with
  | nil => simp [numB]
  | cons a l ih => have := u8_lt a; simp only [numB, List.length_cons, Nat.pow_succ]; omega
theorem numB_le (l : List UInt8) (h : l.length ≤ 8) : numB l ≤ 18446744073709551615 := by
  have h1 := numB_lt l
  have h2 : 256 ^ l.length ≤ 256 ^ 8 := Nat.pow_le_pow_right (by decide) h
  have h3 : (256 : Nat) ^ 8 = 18446744073709551616 := by decide
  omega
theorem numB_or {l : List UInt8} {b : UInt8} {k : Nat} (hk : l.length = k) (h8 : k < 8) :
    ((((numB l : Nat) : Int).toNat ||| (wr .u64 (((b.toNat : Nat) : Int) * 2 ^ (min ((8 : Int) * (k : Int)).toNat IntKind.u64.bits))).toNat : Nat) : Int) = ((numB (l ++ [b]) : Nat) : Int) := by
  have e : min ((8 : Int) * (k : Int)).toNat IntKind.u64.bits = 8 * k := by
    have : IntKind.u64.bits = 64 := rfl
    omega
  rw [e]
  have h1 : ((b.toNat : Nat) : Int) * 2 ^ (8 * k) = ((b.toNat * 2 ^ (8 * k) : Nat) : Int) := by simp
  have h2 : b.toNat * 2 ^ (8 * k) < 18446744073709551616 := by
    have hb := u8_lt b
    have : b.toNat * 2 ^ (8 * k) < 256 * 2 ^ (8 * k) := Nat.mul_lt_mul_of_pos_right hb (Nat.two_pow_pos _)
    have h3 : 256 * 2 ^ (8 * k) ≤ 256 * 2 ^ 56 := Nat.mul_le_mul_left _ (Nat.pow_le_pow_right (by decide) (by omega))
    have h4 : (256 : Nat) * 2 ^ 56 = 18446744073709551616 := by decide
    omega
  have h3 : (wr .u64 (((b.toNat : Nat) : Int) * 2 ^ (8 * k))).toNat = b.toNat * 2 ^ (8 * k) := by
    rw [h1]; simp only [wr]; omega
  rw [h3]
  have hl := numB_lt l
  rw [hk] at hl
  have h256 : (256 : Nat) ^ k = 2 ^ (8 * k) := by rw [Nat.pow_mul]
  rw [numB_app, hk, h256]
  rw [h256] at hl
  have h5 : b.toNat * 2 ^ (8 * k) = 2 ^ (8 * k) * b.toNat := Nat.mul_comm _ _
  show ((numB l ||| b.toNat * 2 ^ (8 * k) : Nat) : Int) = _
  rw [h5, Nat.or_comm, ← Nat.two_pow_add_eq_or_of_lt hl, Nat.add_comm]
theorem take_len (rest : List UInt8) (e : Int) (n : Nat) : (takeB rest e n).1.length ≤ n := by
  unfold takeB; split <;> (try split) <;> simp [List.length_take] <;> omega
theorem numB_lt32 {l : List UInt8} (h : l.length ≤ 4) : numB l < 4294967296 := by
  have h1 := numB_lt l
  have h3 : 256 ^ l.length ≤ 256 ^ 4 := Nat.pow_le_pow_right (by decide) h
  have h4 : (256 : Nat) ^ 4 = 4294967296 := by decide
  omega
def bytesB (rest : List UInt8) (e : Int) : List UInt8 × List UInt8 × Int :=
  takeB (takeB rest e 4).2.1 (takeB rest e 4).2.2 (numB (takeB rest e 4).1)
def endB (rest : List UInt8) (e : Int) : Int := if e = 0 ∧ 0 < rest.length then 2 else e
def openB (bs : List UInt8) : List UInt8 × Int :=
  if bs.length < 4 then ([], 3) else if 65540 < bs.length then ([], 6)
  else if crc (bs.take (bs.length - 4)) ≠ numB (bs.drop (bs.length - 4)) then ([], 2) else (bs.take (bs.length - 4), 0)
def sealB (bs : List UInt8) : List UInt8 := bs ++ leB (crc bs : Nat) 4
theorem sealB_len (bs : List UInt8) : (sealB bs).length = bs.length + 4 := by simp [sealB, leB_len]
theorem crc_lt (bs : List UInt8) : crc bs ≤ 4294967295 := by unfold crc; omega
def sealR (wide : Bool) (bs : List UInt8) : List UInt8 × Int := if wide = true then ([], 4) else if 65536 < bs.length then ([], 6) else (sealB bs, 0)
theorem bt_mod (n : Int) (i : Nat) (hi : i < 4) : bt (n % 4294967296) i = bt n i := by
  have : i = 0 ∨ i = 1 ∨ i = 2 ∨ i = 3 := by omega
  unfold bt
  rcases this with rfl | rfl | rfl | rfl <;> (congr 2; simp only [Nat.mul_zero, Nat.reduceMul]; omega)
theorem bt_div (n : Int) (i : Nat) : bt (n / 4294967296) i = bt n (i + 4) := by
  unfold bt
  rw [Int.ediv_ediv_of_nonneg (by decide), show (2 : Int) ^ (8 * (i + 4)) = 4294967296 * 2 ^ (8 * i) from by rw [Nat.mul_add, Int.pow_add, Int.mul_comm]; rfl]
theorem leB8 (n : Int) : leB (n % 4294967296) 4 ++ leB (n / 4294967296) 4 = leB n 8 := by
  simp only [leB, List.nil_append, List.cons_append, bt_mod _ _ (show 0 < 4 by decide), bt_mod _ _ (show 1 < 4 by decide), bt_mod _ _ (show 2 < 4 by decide), bt_mod _ _ (show 3 < 4 by decide), bt_div]
def refBit (n b : Nat) : Nat := if (2 * n ^^^ b * 4294967296) / 4294967296 = 1 then (2 * n ^^^ b * 4294967296) ^^^ 4374732215 else 2 * n ^^^ b * 4294967296
structure Turned (n s : Nat) : Prop where
  ln : n < 4294967296
  ls : s < 4294967296
  bits : ∀ i, i < 32 → n.testBit i = s.testBit (31 - i)
theorem poly_bits : ∀ i, i < 32 → (4374732215 : Nat).testBit i = (3988292384 : Nat).testBit (31 - i) := by decide
theorem crcBit_bits (x i : Nat) : (crcBit x).testBit i = (x.testBit (i + 1) ^^ (x.testBit 0 && (3988292384 : Nat).testBit i)) := by
  unfold crcBit
  have h0 : x.testBit 0 = decide (x % 2 = 1) := by rw [Nat.testBit_zero]
  rw [h0]
  split
  · next h => rw [Nat.testBit_xor, Nat.testBit_div_two]; simp [h]
  · next h => rw [Nat.testBit_div_two]; simp [h]
theorem dbl_bits (n i : Nat) : (2 * n).testBit i = (decide (1 ≤ i) && n.testBit (i - 1)) := by
  have := Nat.testBit_two_pow_mul (i := 1) (a := n) (j := i)
  simpa using this
theorem refBit_turned {n s b : Nat} (h : Turned n s) (hb : b < 2) : Turned (refBit n b) (crcBit (s ^^^ b)) := by
  have hm : 2 * n ^^^ b * 4294967296 < 8589934592 := Nat.xor_lt_two_pow (n := 33) (by have := h.ln; omega) (by omega)
  have hb0 : ∀ i, i < 32 → (b * 4294967296).testBit i = false := fun i hi => by
    rw [show b * 4294967296 = 2 ^ 32 * b from Nat.mul_comm _ _, Nat.testBit_two_pow_mul]; simp; omega
  have hb1 : ∀ i, (b.testBit (i + 1)) = false := fun i => Nat.testBit_lt_two_pow (Nat.lt_of_lt_of_le hb (by rw [Nat.pow_succ]; have := Nat.two_pow_pos i; omega))
  have hsb : s ^^^ b < 4294967296 := Nat.xor_lt_two_pow (n := 32) h.ls (by omega)
  have t32 : (2 * n ^^^ b * 4294967296).testBit 32 = (s ^^^ b).testBit 0 := by
    rw [Nat.testBit_xor, Nat.testBit_xor, show b * 4294967296 = 2 ^ 32 * b from Nat.mul_comm _ _, Nat.testBit_two_pow_mul, dbl_bits, h.bits 31 (by decide)]
    simp
  have hq : ((2 * n ^^^ b * 4294967296) / 4294967296 = 1) ↔ (2 * n ^^^ b * 4294967296).testBit 32 = true := by
    rw [Nat.testBit_eq_decide_div_mod_eq]; simp; omega
  have low : ∀ i, i < 32 → (refBit n b).testBit i = (crcBit (s ^^^ b)).testBit (31 - i) := by
    intro i hi
    rw [crcBit_bits, ← t32, ← poly_bits i hi]
    have e1 : (2 * n ^^^ b * 4294967296).testBit i = (s ^^^ b).testBit (31 - i + 1) := by
      rw [Nat.testBit_xor, hb0 i hi, Nat.testBit_xor, hb1, Bool.xor_false, Bool.xor_false, dbl_bits]
      cases i with
      | zero => rw [show decide (1 ≤ 0) = false from rfl, Bool.false_and]; exact (Nat.testBit_lt_two_pow (Nat.lt_of_lt_of_le h.ls (by decide))).symm
      | succ i => rw [Nat.add_sub_cancel, h.bits i (by omega)]; simp; congr 1; omega
    unfold refBit
    split
    · next hc => rw [Nat.testBit_xor, e1, hq.1 hc]; simp
    · next hc => rw [e1]; rw [hq] at hc; simp [hc]
  refine ⟨?_, crcBit_lt hsb, low⟩
  refine Nat.lt_pow_two_of_testBit (n := 32) _ fun i hi => ?_
  unfold refBit
  split
  · next hc =>
    rw [Nat.testBit_xor]
    by_cases h2 : i = 32
    · subst h2; rw [hq.1 hc]; decide
    · rw [Nat.testBit_lt_two_pow (Nat.lt_of_lt_of_le hm (Nat.pow_le_pow_right (by decide : 0 < 2) (show 33 ≤ i by omega))), Nat.testBit_lt_two_pow (Nat.lt_of_lt_of_le (by decide : (4374732215 : Nat) < 2 ^ 33) (Nat.pow_le_pow_right (by decide) (by omega)))]; rfl
  · next hc =>
    refine Nat.testBit_lt_two_pow (Nat.lt_of_lt_of_le ?_ (Nat.pow_le_pow_right (n := 2) (by decide) hi))
    omega
def bq (x : UInt8) (k : Nat) : Nat := x.toNat / 2 ^ k % 2
theorem bq_lt (x : UInt8) (k : Nat) : bq x k < 2 := Nat.mod_lt _ (by decide)
def refB (n : Nat) (x : UInt8) : Nat → Nat
  | 0 => n
  | k + 1 => refBit (refB n x k) (bq x k)
def crcB (s : Nat) (x : UInt8) : Nat → Nat
  | 0 => s
  | k + 1 => crcBit (crcB s x k ^^^ bq x k)
theorem turned_byte {n s : Nat} (h : Turned n s) (x : UInt8) : ∀ k, Turned (refB n x k) (crcB s x k)
  | 0 => h
  | k + 1 => refBit_turned (turned_byte h x k) (bq_lt x k)
theorem crcBit_lin (a y : Nat) : crcBit (a ^^^ 2 * y) = crcBit a ^^^ y := by
  apply Nat.eq_of_testBit_eq
  intro i
  rw [Nat.testBit_xor, crcBit_bits, crcBit_bits, Nat.testBit_xor, Nat.testBit_xor, dbl_bits, dbl_bits, Nat.add_sub_cancel, show decide (1 ≤ 0) = false from rfl, show decide (1 ≤ i + 1) = true from by simp]
  cases a.testBit (i + 1) <;> cases a.testBit 0 <;> cases y.testBit i <;> cases Nat.testBit 3988292384 i <;> rfl
theorem bit_split (x k : Nat) : x / 2 ^ k = (x / 2 ^ k % 2) ^^^ 2 * (x / 2 ^ (k + 1)) := by
  apply Nat.eq_of_testBit_eq
  intro i
  have e : x / 2 ^ (k + 1) = x / 2 ^ k / 2 := by rw [Nat.pow_succ, Nat.div_div_eq_div_mul]
  rw [Nat.testBit_xor, dbl_bits, e]
  generalize x / 2 ^ k = y
  cases i with
  | zero => rw [show decide (1 ≤ 0) = false from rfl, Bool.false_and, Bool.xor_false, Nat.testBit_zero, Nat.testBit_zero, Nat.mod_mod]
  | succ i =>
    rw [Nat.add_sub_cancel, Nat.testBit_div_two, show decide (1 ≤ i + 1) = true from by simp, Bool.true_and]
    have h2 := Nat.two_pow_pos i
    rw [Nat.testBit_lt_two_pow (x := y % 2) (i := i + 1) (by rw [Nat.pow_succ]; omega), Bool.false_xor]
theorem crcIt_byte (s : Nat) (x : UInt8) : ∀ k, crcIt k (s ^^^ x.toNat) = crcB s x k ^^^ (x.toNat / 2 ^ k)
  | 0 => by simp [crcIt, crcB]
  | k + 1 => by
    show crcBit (crcIt k (s ^^^ x.toNat)) = crcBit (crcB s x k ^^^ bq x k) ^^^ _
    rw [crcIt_byte s x k, bit_split x.toNat k, ← Nat.xor_assoc, crcBit_lin]; rfl
theorem crcIt_8 (s : Nat) (x : UInt8) : crcIt 8 (s ^^^ x.toNat) = crcB s x 8 := by
  have h := u8_lt x
  rw [crcIt_byte, show x.toNat / 2 ^ 8 = 0 from by omega, Nat.xor_zero]
theorem shr_nat (a : Nat) {k b : Nat} (h : k ≤ b) : (a : Int) / 2 ^ (min (k : Int).toNat b) = ((a / 2 ^ k : Nat) : Int) := by
  rw [Int.toNat_natCast, Nat.min_eq_left h]; simp
theorem xor33 (m r : Nat) : ((((m : Int) * 2).toNat ^^^ ((r : Int) * 4294967296).toNat : Nat) : Int) = ((2 * m ^^^ r * 4294967296 : Nat) : Int) := by
  have e1 : (m : Int) * 2 = ((2 * m : Nat) : Int) := by omega
  have e2 : (r : Int) * 4294967296 = ((r * 4294967296 : Nat) : Int) := by simp
  rw [e1, e2, Int.toNat_natCast, Int.toNat_natCast]
theorem and1 (q : Nat) : (((q : Int).toNat &&& (1 : Int).toNat : Nat) : Int) = ((q % 2 : Nat) : Int) := by
  show ((q &&& 1 : Nat) : Int) = _
  rw [Nat.and_one_is_mod]
theorem or1 (q r : Nat) : ((((q : Int) * 2).toNat ||| ((r % 2 : Nat) : Int).toNat : Nat) : Int) = ((2 * q + r % 2 : Nat) : Int) := by
  have e : ((q : Int) * 2).toNat = 2 * q := by omega
  rw [e, Int.toNat_natCast]
  have h := Nat.two_pow_add_eq_or_of_lt (i := 1) (b := r % 2) (Nat.mod_lt _ (by decide)) q
  rw [Nat.pow_one] at h
  rw [h]
theorem turned_next {n s i : Nat} (h : Turned n s) (hi : i < 32) : s / 2 ^ (32 - (i + 1)) = 2 * (s / 2 ^ (32 - i)) + n / 2 ^ i % 2 := by
  have e1 : s / 2 ^ (32 - i) = s / 2 ^ (31 - i) / 2 := by
    rw [show 32 - i = 31 - i + 1 from by omega, Nat.pow_succ, Nat.div_div_eq_div_mul]
  have e2 := h.bits i hi
  rw [Nat.testBit_eq_decide_div_mod_eq, Nat.testBit_eq_decide_div_mod_eq] at e2
  have e3 : n / 2 ^ i % 2 = s / 2 ^ (31 - i) % 2 := by
    have := decide_eq_decide.1 e2
    omega
  rw [e1, e3, show 32 - (i + 1) = 31 - i from by omega]
  omega
theorem numB_inj : ∀ (a b : List UInt8), a.length = b.length → numB a = numB b → a = b
  | [], [], _, _ => rfl
  | [], _ :: _, h, _ => by simp at h
  | _ :: _, [], h, _ => by simp at h
  | x :: a, y :: b, h, e => by
    simp only [numB] at e
    have hx := u8_lt x
    have hy := u8_lt y
    have h1 : x.toNat = y.toNat := by omega
    have h2 : numB a = numB b := by omega
    rw [UInt8.toNat_inj.1 h1, numB_inj a b (by simpa using h) h2]
theorem numB_leB (n : Nat) : ∀ k, numB (leB n k) = n % 256 ^ k
  | 0 => by simp [leB, numB]; omega
  | k + 1 => by
    simp only [leB]
    rw [numB_app, numB_leB n k, leB_len]
    have e : (bt n k).toNat = n / 256 ^ k % 256 := by
      unfold bt
      have h1 : (n : Int) / 2 ^ (8 * k) % 256 = ((n / 256 ^ k % 256 : Nat) : Int) := by
        rw [Nat.pow_mul (a := 2) (m := 8) (n := k) |> fun h => (by rw [show (256 : Nat) ^ k = 2 ^ (8 * k) from by rw [Nat.pow_mul]] : (256 : Nat) ^ k = 2 ^ (8 * k))]
        simp
      rw [h1, Int.toNat_natCast, UInt8.toNat_ofNat_of_lt' (by show _ < 256; exact Nat.mod_lt _ (by decide))]
    rw [e, Nat.pow_succ, Nat.mod_mul, Nat.mul_comm (n / 256 ^ k % 256)]
theorem numB_crc (bs : List UInt8) : numB (leB (crc bs : Nat) 4) = crc bs := by
  rw [numB_leB, Nat.mod_eq_of_lt (by have h1 := crc_lt bs; have h2 : (256 : Nat) ^ 4 = 4294967296 := (by decide); omega)]
theorem crcBit_inj {x y : Nat} (hx : x < 4294967296) (hy : y < 4294967296) (h : crcBit x = crcBit y) : x = y := by
  have hb : ∀ z, z < 4294967296 → (crcBit z).testBit 31 = z.testBit 0 := fun z hz => by
    rw [crcBit_bits, Nat.testBit_lt_two_pow (x := z) (i := 31 + 1) hz, show (3988292384 : Nat).testBit 31 = true from by decide]; simp
  have h0 : x.testBit 0 = y.testBit 0 := by rw [← hb x hx, ← hb y hy, h]
  apply Nat.eq_of_testBit_eq
  intro i
  cases i with
  | zero => exact h0
  | succ i =>
    have h1 := crcBit_bits x i
    rw [h, crcBit_bits y i, h0] at h1
    generalize (y.testBit 0 && Nat.testBit 3988292384 i) = t at h1
    generalize x.testBit (i + 1) = a at *
    generalize y.testBit (i + 1) = b at *
    cases a <;> cases b <;> cases t <;> first | rfl | exact h1 | exact h1.symm
theorem crcIt_inj {x y : Nat} (hx : x < 4294967296) (hy : y < 4294967296) : ∀ k, crcIt k x = crcIt k y → x = y
  | 0, h => h
  | k + 1, h => crcIt_inj hx hy k (crcBit_inj (crcIt_lt hx k) (crcIt_lt hy k) h)
theorem crcStep_inj {x y : Nat} (hx : x < 4294967296) (hy : y < 4294967296) {c : UInt8} (h : crcStep x c = crcStep y c) : x = y := by
  have hc := u8_lt c
  have h2 := crcIt_inj (Nat.xor_lt_two_pow (n := 32) hx (by omega)) (Nat.xor_lt_two_pow (n := 32) hy (by omega)) 8 h
  have h3 := congrArg (fun q => q ^^^ c.toNat) h2
  simpa [Nat.xor_assoc] using h3
theorem crcStep_ne {x : Nat} (hx : x < 4294967296) {c d : UInt8} (h : crcStep x c = crcStep x d) : c = d := by
  have hc := u8_lt c
  have hd := u8_lt d
  have h2 := crcIt_inj (Nat.xor_lt_two_pow (n := 32) hx (by omega)) (Nat.xor_lt_two_pow (n := 32) hx (by omega)) 8 h
  have h3 := congrArg (fun q => x ^^^ q) h2
  simp only [← Nat.xor_assoc, Nat.xor_self, Nat.zero_xor] at h3
  exact UInt8.toNat_inj.1 h3
theorem foldl_inj : ∀ (l : List UInt8) {x y : Nat}, x < 4294967296 → y < 4294967296 → l.foldl crcStep x = l.foldl crcStep y → x = y
  | [], _, _, _, _, h => h
  | c :: l, _, _, hx, hy, h => crcStep_inj hx hy (foldl_inj l (crcStep_lt hx c) (crcStep_lt hy c) h)
theorem foldl_set : ∀ (l : List UInt8) (i : Nat) (y : UInt8) {s : Nat}, s < 4294967296 → i < l.length → (l.set i y).foldl crcStep s = l.foldl crcStep s → l[i]? = some y
  | [], _, _, _, _, h, _ => by simp at h
  | c :: l, 0, y, s, hs, _, h => by
    have := foldl_inj l (crcStep_lt hs y) (crcStep_lt hs c) h
    rw [crcStep_ne hs this]; rfl
  | c :: l, i + 1, y, s, hs, hi, h => by
    have := foldl_set l i y (crcStep_lt hs c) (by simpa using hi) h
    simpa using this
theorem crc_set {l : List UInt8} {i : Nat} {y : UInt8} (hi : i < l.length) (h : crc (l.set i y) = crc l) : l[i]? = some y := by
  have h1 := crcL_lt l
  have h2 := crcL_lt (l.set i y)
  unfold crc at h
  exact foldl_set l i y (by decide) hi (show crcL (l.set i y) = crcL l by omega)
theorem open_bent {p : List UInt8} {i : Nat} {y : UInt8} (hp : p.length ≤ 65536) (hi : i < p.length + 4) (hy : (sealB p)[i]? ≠ some y) : openB ((sealB p).set i y) = ([], 2) := by
  have hl : ((sealB p).set i y).length = p.length + 4 := by rw [List.length_set, sealB_len]
  unfold openB
  rw [if_neg (by omega), if_neg (by omega), if_pos]
  rw [hl, Nat.add_sub_cancel]
  rcases Nat.lt_or_ge i p.length with h | h
  · have e1 : ((sealB p).set i y).take p.length = p.set i y := by
      unfold sealB
      rw [List.set_append_left _ _ h, List.take_append_of_le_length (by simp), List.take_of_length_le (by simp)]
    have e2 : ((sealB p).set i y).drop p.length = leB (crc p : Nat) 4 := by
      unfold sealB
      rw [List.set_append_left _ _ h, List.drop_append, List.drop_of_length_le (by simp)]
      simp
    rw [e1, e2, numB_crc]
    intro hc
    apply hy
    unfold sealB
    rw [List.getElem?_append_left h]
    exact crc_set h hc
  · have e1 : ((sealB p).set i y).take p.length = p := by
      unfold sealB
      rw [List.set_append_right _ _ h, List.take_append_of_le_length (Nat.le_refl _), List.take_of_length_le (Nat.le_refl _)]
    have e2 : ((sealB p).set i y).drop p.length = (leB (crc p : Nat) 4).set (i - p.length) y := by
      unfold sealB
      rw [List.set_append_right _ _ h, List.drop_append, List.drop_of_length_le (Nat.le_refl _)]
      simp
    rw [e1, e2]
    intro hc
    apply hy
    have hc2 : numB ((leB (crc p : Nat) 4).set (i - p.length) y) = numB (leB (crc p : Nat) 4) := by rw [numB_crc]; exact hc.symm
    have e3 := numB_inj _ _ (by simp) hc2
    have hi4 : i - p.length < (leB (crc p : Nat) 4).length := by rw [leB_len]; omega
    unfold sealB
    rw [List.getElem?_append_right h, ← e3, List.getElem?_set_self hi4]
def flip (x : UInt8) (k : Nat) : UInt8 := UInt8.ofNat (x.toNat ^^^ 2 ^ k)
theorem flip_val {x : UInt8} {k : Nat} (hk : k < 8) : (((x.toNat : Int).toNat ^^^ (wr .u8 ((1 : Int) * 2 ^ (min (k : Int).toNat IntKind.u8.bits))).toNat : Nat) : Int) = ((flip x k).toNat : Int) := by
  have h8 : IntKind.u8.bits = 8 := rfl
  have hx := u8_lt x
  have e : min (k : Int).toNat IntKind.u8.bits = k := by rw [h8, Int.toNat_natCast]; omega
  have hp : 2 ^ k < 256 := Nat.lt_of_lt_of_le (Nat.pow_lt_pow_right (by decide) hk) (by decide)
  have e2 : (wr .u8 ((1 : Int) * 2 ^ k)).toNat = 2 ^ k := by
    have : ((1 : Int) * 2 ^ k) = ((2 ^ k : Nat) : Int) := by simp
    rw [this]
    simp only [wr]
    generalize 2 ^ k = z at *
    omega
  rw [e, e2, Int.toNat_natCast]
  unfold flip
  rw [UInt8.toNat_ofNat_of_lt' (Nat.xor_lt_two_pow (n := 8) hx hp)]
theorem flip_ne {x : UInt8} {k : Nat} (hk : k < 8) : x ≠ flip x k := by
  intro h
  have hx := u8_lt x
  have hp : 2 ^ k < 256 := Nat.lt_of_lt_of_le (Nat.pow_lt_pow_right (by decide) hk) (by decide)
  have h2 := congrArg UInt8.toNat h
  unfold flip at h2
  rw [UInt8.toNat_ofNat_of_lt' (Nat.xor_lt_two_pow (n := 8) hx hp)] at h2
  have h3 := congrArg (fun q => x.toNat ^^^ q) h2
  simp only [← Nat.xor_assoc, Nat.xor_self, Nat.zero_xor] at h3
  have := Nat.two_pow_pos k
  omega
end Go.Proofs.Ytidelnccggfmgaa.Let

/- 2^61 - 1 is a prime, and 37 generates: each number that is not 0 has an inverse. No function of the program is proved here. -/
namespace Go.Num

theorem nmul_l (a b : Nat) : (a % 2305843009213693951 * b) % 2305843009213693951 = (a * b) % 2305843009213693951 := by rw [Nat.mul_mod, Nat.mod_mod, ← Nat.mul_mod]
theorem nmul_r (a b : Nat) : (a * (b % 2305843009213693951)) % 2305843009213693951 = (a * b) % 2305843009213693951 := by rw [Nat.mul_mod, Nat.mod_mod, ← Nat.mul_mod]
/-- Is a power of 37 equal to 1? -/
def One (n : Nat) : Prop := 37 ^ n % 2305843009213693951 = 1

theorem One.add {m n : Nat} (h : One m) : 37 ^ (m + n) % 2305843009213693951 = 37 ^ n % 2305843009213693951 := by
  rw [Nat.pow_add, ← nmul_l, h, Nat.one_mul]
theorem One.mul {m : Nat} (h : One m) (k : Nat) : One (m * k) := by
  induction k with
  | zero => rfl
  | succ k ih => unfold One; rw [Nat.mul_succ, Nat.add_comm, h.add]; exact ih
theorem One.mod {m n : Nat} (h : One m) (k : One n) : One (n % m) := by
  have e : m * (n / m) + n % m = n := Nat.div_add_mod n m
  have := (h.mul (n / m)).add (n := n % m)
  rw [e] at this
  unfold One at *
  rw [← this]; exact k
theorem One.gcd (m n : Nat) : One m → One n → One (Nat.gcd m n) := by
  induction m, n using Nat.gcd.induction with
  | H0 n => intro _ h; rw [Nat.gcd_zero_left]; exact h
  | H1 m n hm ih => intro h k; rw [Nat.gcd_rec]; exact ih (h.mod k) h

theorem pw_nat (n : Nat) (h : n < 2 ^ 64) : pw 37 n = ((37 ^ n % 2305843009213693951 : Nat) : Int) := by
  rw [pw_eq 37 h]
  rw [Int.natCast_emod, Int.natCast_pow]; rfl
theorem one_of {n : Nat} (h : n < 2 ^ 64) (k : pw 37 n = 1) : One n := by
  rw [pw_nat n h] at k
  exact_mod_cast k
theorem one_top : One 2305843009213693950 := one_of (by decide) (by decide +kernel)
theorem not_one {n : Nat} (h : n < 2 ^ 64) (k : pw 37 n ≠ 1) : ¬ One n := by
  intro e
  apply k
  rw [pw_nat n h]
  exact_mod_cast e

/-- Numbers that nothing divides. -/
def prm (q : Nat) : Bool := Nat.blt 1 q && (List.range q).all fun d => Nat.ble d 1 || !(Nat.beq (q % d) 0)
theorem prm_ok {q d : Nat} (h : prm q = true) (hd : d ∣ q) : d = 1 ∨ d = q := by
  unfold prm at h
  simp only [Bool.and_eq_true, Nat.blt_eq, List.all_eq_true, Bool.or_eq_true, Bool.not_eq_true'] at h
  have hle := Nat.le_of_dvd (by omega) hd
  by_cases e : d = q
  · exact .inr e
  · left
    have := h.2 d (List.mem_range.2 (by omega))
    rcases this with h1 | h1
    · have := Nat.le_of_ble_eq_true h1
      have h0 : d ≠ 0 := by rintro rfl; have := Nat.eq_zero_of_zero_dvd hd; omega
      omega
    · have h2 := Nat.mod_eq_zero_of_dvd hd
      rw [h2] at h1; cases h1
theorem cop {m q : Nat} (h : prm q = true) (hn : ¬ q ∣ m) : Nat.gcd m q = 1 := by
  rcases prm_ok h (Nat.gcd_dvd_right m q) with h1 | h1
  · exact h1
  · exact absurd (h1 ▸ Nat.gcd_dvd_left m q) hn

theorem not_mid {d : Nat} (h0 : 0 < d) (h1 : d < 2305843009213693950) : ¬ One d := by
  intro h
  have hg := One.gcd _ _ h one_top
  generalize hh : Nat.gcd d 2305843009213693950 = g at hg
  have hgd : g ∣ 2305843009213693950 := hh ▸ Nat.gcd_dvd_right _ _
  have hgl : g ≤ d := hh ▸ Nat.le_of_dvd h0 (Nat.gcd_dvd_left _ _)
  obtain ⟨m, hm⟩ := hgd
  have hm1 : m ≠ 1 := by rintro rfl; omega
  have key : ∀ q c : Nat, q * c = 2305843009213693950 → ¬ One c → ¬ q ∣ m := by
    intro q c hqc hc ⟨k, hk⟩
    apply hc
    have : c = g * k := by
      have hq : 0 < q := Nat.pos_of_ne_zero (by rintro rfl; omega)
      apply Nat.eq_of_mul_eq_mul_left hq
      rw [hqc, hm, hk, Nat.mul_left_comm]
    rw [this]; exact hg.mul k
  have c2 := cop (q := 2) (m := m) (by decide) (key 2 1152921504606846975 (by decide) (not_one (by decide) (by decide +kernel)))
  have c3 := cop (q := 3) (m := m) (by decide) (key 3 768614336404564650 (by decide) (not_one (by decide) (by decide +kernel)))
  have c5 := cop (q := 5) (m := m) (by decide) (key 5 461168601842738790 (by decide) (not_one (by decide) (by decide +kernel)))
  have c7 := cop (q := 7) (m := m) (by decide) (key 7 329406144173384850 (by decide) (not_one (by decide) (by decide +kernel)))
  have c11 := cop (q := 11) (m := m) (by decide) (key 11 209622091746699450 (by decide) (not_one (by decide) (by decide +kernel)))
  have c13 := cop (q := 13) (m := m) (by decide) (key 13 177372539170284150 (by decide) (not_one (by decide) (by decide +kernel)))
  have c31 := cop (q := 31) (m := m) (by decide) (key 31 74382032555280450 (by decide) (not_one (by decide) (by decide +kernel)))
  have c41 := cop (q := 41) (m := m) (by decide) (key 41 56240073395455950 (by decide) (not_one (by decide) (by decide +kernel)))
  have c61 := cop (q := 61) (m := m) (by decide) (key 61 37800705069076950 (by decide) (not_one (by decide) (by decide +kernel)))
  have c151 := cop (q := 151) (m := m) (by decide +kernel) (key 151 15270483504726450 (by decide) (not_one (by decide) (by decide +kernel)))
  have c331 := cop (q := 331) (m := m) (by decide +kernel) (key 331 6966293079195450 (by decide) (not_one (by decide) (by decide +kernel)))
  have c1321 := cop (q := 1321) (m := m) (by decide +kernel) (key 1321 1745528394559950 (by decide) (not_one (by decide) (by decide +kernel)))
  have cm : ∀ {a b : Nat}, Nat.gcd m a = 1 → Nat.gcd m b = 1 → Nat.gcd m (a * b) = 1 := fun ha hb => Nat.Coprime.mul_right ha hb
  have hall := cm c2 (cm c3 (cm c3 (cm c5 (cm c5 (cm c7 (cm c11 (cm c13 (cm c31 (cm c41 (cm c61 (cm c151 (cm c331 c1321))))))))))))
  have hd : m ∣ 2305843009213693950 := ⟨g, by rw [hm, Nat.mul_comm]⟩
  have : Nat.gcd m 2305843009213693950 = m := Nat.gcd_eq_left hd
  have e : (2 * (3 * (3 * (5 * (5 * (7 * (11 * (13 * (31 * (41 * (61 * (151 * (331 * 1321)))))))))))) : Nat) = 2305843009213693950 := by decide
  rw [e, this] at hall
  exact hm1 hall

theorem inj_gen {T : Nat} (hT : One T) (hm : ∀ d, 0 < d → d < T → ¬ One d) {i j : Nat} (hi : i < T) (hj : j < T) (h : 37 ^ i % 2305843009213693951 = 37 ^ j % 2305843009213693951) : i = j := by
  have key : ∀ i j : Nat, i < j → j < T → 37 ^ i % 2305843009213693951 = 37 ^ j % 2305843009213693951 → False := by
    intro i j hij hj h
    refine hm (j - i) (by omega) (by omega) ?_
    have h1 : (37 ^ (T - i) * 37 ^ i) % 2305843009213693951 = (37 ^ (T - i) * 37 ^ j) % 2305843009213693951 := by rw [← nmul_r, h, nmul_r]
    rw [← Nat.pow_add, ← Nat.pow_add, show T - i + i = T from by omega, show T - i + j = T + (j - i) from by omega, hT.add] at h1
    unfold One; rw [← h1]; exact hT
  rcases Nat.lt_trichotomy i j with h1 | h1 | h1
  · exact (key i j h1 hj h).elim
  · exact h1
  · exact (key j i h1 hi h.symm).elim
theorem inj {i j : Nat} (hi : i < 2305843009213693950) (hj : j < 2305843009213693950) (h : 37 ^ i % 2305843009213693951 = 37 ^ j % 2305843009213693951) : i = j := inj_gen one_top (fun _ h0 h1 => not_mid h0 h1) hi hj h

theorem nonzero_gen {T : Nat} (hT : One (T + 1)) (i : Nat) : 37 ^ i % 2305843009213693951 ≠ 0 := by
  intro h
  have h1 : 37 ^ ((T + 1) * i) % 2305843009213693951 = 1 := hT.mul i
  have e : (T + 1) * i = i + T * i := by rw [Nat.add_mul]; omega
  rw [e, Nat.pow_add, ← nmul_l, h, Nat.zero_mul] at h1
  cases h1
theorem nonzero (i : Nat) : 37 ^ i % 2305843009213693951 ≠ 0 := nonzero_gen (T := 2305843009213693949) one_top i

theorem pigeon : ∀ (n : Nat) (f : Nat → Nat), (∀ i, i < n → f i < n) → (∀ i j, i < n → j < n → f i = f j → i = j) → ∀ y, y < n → ∃ i, i < n ∧ f i = y
  | 0, _, _, _, y, h => by omega
  | n + 1, f, hr, hi, y, hy => by
    have hv := hr n (by omega)
    have ih := pigeon n (fun i => if f i = n then f n else f i) (fun i h => by
      try simp only
      split
      · rename_i e
        have : f n ≠ n := fun e2 => by have := hi i n (by omega) (by omega) (by rw [e, e2]); omega
        omega
      · have := hr i (by omega); omega) (fun i j hi' hj' h => by
      try simp only at h
      split at h <;> split at h
      · rename_i a b; exact hi i j (by omega) (by omega) (by rw [a, b])
      · rename_i a b; have := hi n j (by omega) (by omega) h; omega
      · rename_i a b; have := hi i n (by omega) (by omega) h; omega
      · exact hi i j (by omega) (by omega) h)
    by_cases e1 : y = f n
    · exact ⟨n, by omega, e1.symm⟩
    · by_cases e2 : y = n
      · have hvn : f n < n := by omega
        obtain ⟨i, h1, h2⟩ := ih (f n) hvn
        try simp only at h2
        split at h2
        · rename_i e; exact ⟨i, by omega, by rw [e, e2]⟩
        · have := hi i n (by omega) (by omega) h2; omega
      · obtain ⟨i, h1, h2⟩ := ih y (by omega)
        try simp only at h2
        split at h2
        · exact absurd h2.symm e1
        · exact ⟨i, by omega, h2⟩

theorem fermat_gen {T : Nat} (hT1 : T + 1 = 2305843009213693951) (hT : One T) (inj : ∀ {i j : Nat}, i < T → j < T → 37 ^ i % 2305843009213693951 = 37 ^ j % 2305843009213693951 → i = j) {a : Nat} (h : a % 2305843009213693951 ≠ 0) : a ^ T % 2305843009213693951 = 1 := by
  have hlt : a % 2305843009213693951 < 2305843009213693951 := Nat.mod_lt _ (by decide)
  obtain ⟨i, _, hi⟩ := pigeon T (fun i => 37 ^ i % 2305843009213693951 - 1) (fun i _ => by
    have := nonzero i
    have h2 : 37 ^ i % 2305843009213693951 < 2305843009213693951 := Nat.mod_lt _ (by decide)
    show 37 ^ i % 2305843009213693951 - 1 < T
    generalize 37 ^ i % 2305843009213693951 = z at *
    omega) (fun i j hi hj h => by
    have h1 := nonzero i; have h2 := nonzero j
    refine inj hi hj ?_
    try simp only at h
    generalize 37 ^ i % 2305843009213693951 = z at *
    generalize 37 ^ j % 2305843009213693951 = z' at *
    omega) (a % 2305843009213693951 - 1) (by omega)
  have h1 := nonzero i
  try simp only at hi
  have e : a % 2305843009213693951 = 37 ^ i % 2305843009213693951 := by
    generalize 37 ^ i % 2305843009213693951 = z at *
    omega
  rw [Nat.pow_mod, e, ← Nat.pow_mod, ← Nat.pow_mul, Nat.mul_comm]
  exact hT.mul i

/-- What a number that is not 0 times its inverse is. -/
theorem inv_gen (k : Nat) (hk : k < 2 ^ 64) (hf : ∀ a : Nat, a % 2305843009213693951 ≠ 0 → a ^ (k + 1) % 2305843009213693951 = 1) {a : Int} (h : a % 2305843009213693951 ≠ 0) : (a * pw a k) % 2305843009213693951 = 1 := by
  rw [pw_eq a hk, emod_mul_r]
  have e : a * a ^ k = a ^ (k + 1) := by rw [Int.mul_comm, ← Int.pow_succ]
  rw [e, ← pow_mod]
  obtain ⟨n, hn⟩ := Int.eq_ofNat_of_zero_le (show 0 ≤ a % 2305843009213693951 by omega)
  rw [hn]
  have hne : n % 2305843009213693951 ≠ 0 := by omega
  have := hf n hne
  rw [← Int.natCast_pow]
  generalize n ^ (k + 1) = z at *
  omega
theorem inv_all {k : Nat} (hk : k < 2 ^ 64) (hT1 : k + 2 = 2305843009213693951) (hT : One (k + 1)) (hi : ∀ {i j : Nat}, i < k + 1 → j < k + 1 → 37 ^ i % 2305843009213693951 = 37 ^ j % 2305843009213693951 → i = j) {a : Int} (h : a % 2305843009213693951 ≠ 0) : (a * pw a k) % 2305843009213693951 = 1 :=
  inv_gen k hk (fun _ h => fermat_gen (T := k + 1) hT1 hT hi h) h
theorem inv_ok {a : Int} (h : a % 2305843009213693951 ≠ 0) : (a * inv a) % 2305843009213693951 = 1 := inv_all (by decide) rfl one_top inj h
theorem pw_zero_gen {k : Nat} (hk : k < 2 ^ 64) (h0 : k ≠ 0) {a : Int} (h : a % 2305843009213693951 = 0) : pw a k = 0 := by
  rw [pw_eq a hk, ← pow_mod, h, Int.zero_pow h0]; rfl
theorem inv_zero {a : Int} (h : a % 2305843009213693951 = 0) : inv a = 0 := by
  exact pw_zero_gen (by decide) (by decide) h
theorem inv_rng (a : Int) : 0 ≤ inv a ∧ inv a < 2305843009213693951 := pw_rng a _
end Go.Num

/- Package prime and its reference: powers and inverses. -/
namespace Go.Proofs.Ytidelnccggfmgaa
open Go.V Go.Num
open Go.Eng (wr)
set_option maxRecDepth 100000
theorem and1 {n : Int} (h : 0 ≤ n) : ((n.toNat &&& (1 : Int).toNat : Nat) : Int) = n % 2 := bit_i h
theorem div_nn {a b : Int} (ha : 0 ≤ a) (hb : 0 ≤ b) : 0 ≤ a / b := Int.ediv_nonneg ha hb
/-- The inverse is the only one. -/
theorem inv_uniq {a t : Int} (h : a % 2305843009213693951 ≠ 0) (ht : 0 ≤ t ∧ t < 2305843009213693951) (e : (a * t) % 2305843009213693951 = 1) : t = inv a := by
  have h1 : (t * (a * inv a)) % 2305843009213693951 = t := by rw [← emod_mul_r, inv_ok h, Int.mul_one]; exact Int.emod_eq_of_lt ht.1 ht.2
  have h2 : (t * (a * inv a)) % 2305843009213693951 = inv a := by
    rw [← Int.mul_assoc, Int.mul_comm t a, ← emod_mul_l, e, Int.one_mul]
    exact Int.emod_eq_of_lt (inv_rng a).1 (inv_rng a).2
  rw [← h1, h2]
theorem pow_even (q : Int) {m : Nat} (h : m % 2 = 0) : (q * q) ^ (m / 2) = q ^ m := by
  have e : m = 2 * (m / 2) := by omega
  have : q * q = q ^ 2 := by rw [Int.pow_succ, Int.pow_succ, Int.pow_zero, Int.one_mul]
  rw [this, ← Int.pow_mul, ← e]
theorem pow_odd (q : Int) {m : Nat} (h : m % 2 = 1) : q * (q * q) ^ (m / 2) = q ^ m := by
  have e : m = 2 * (m / 2) + 1 := by omega
  have : q * q = q ^ 2 := by rw [Int.pow_succ, Int.pow_succ, Int.pow_zero, Int.one_mul]
  rw [this, ← Int.pow_mul, Int.mul_comm, ← Int.pow_succ]
  congr 1; omega
end Go.Proofs.Ytidelnccggfmgaa

/- Package letter: the check, fields laid on paper. -/
namespace Go.Proofs.Ytidelnccggfmgaa.Let
open Go.V Go.Num
open Go.Eng (wr)
set_option maxRecDepth 100000
set_option maxHeartbeats 4000000
abbrev B8 (bs : List UInt8) : AV := .d (.ro (bytesD bs))
abbrev c32 (n : Int) : AV := .d (.int .u32 n)
theorem bD_len (a : List UInt8) : (bytesD a).length = a.length := List.length_map _
theorem bD_get {a : List UInt8} {i : Nat} {b : UInt8} (h : a[i]? = some b) : (bytesD a)[(i : Int).toNat]? = some (.int .u8 b.toNat) := by
  rw [Int.toNat_natCast]; show (List.map _ a)[i]? = _; rw [List.getElem?_map, h]; rfl
theorem bD_one (xs : List UInt8) : ∀ y ∈ bytesD xs, y.cells.length = 1 := fun y hy => by obtain ⟨z, _, rfl⟩ := List.mem_map.1 hy; rfl
theorem bD_app (xs ys : List UInt8) : bytesD xs ++ bytesD ys = bytesD (xs ++ ys) := List.map_append.symm
theorem bD_take (xs : List UInt8) (n : Nat) : (bytesD xs).take n = bytesD (xs.take n) := List.map_take.symm
theorem bD_drop (xs : List UInt8) (n : Nat) : (bytesD xs).drop n = bytesD (xs.drop n) := List.map_drop.symm
theorem Check_ct (bs : List UInt8) : Ct Try.prog 77 [B8 bs] [] (Is2 (c32 (crc bs : Nat)) []) := by
  refine Ct.introF (E := E 31 0 [.tmp 2] [(12, [3, 7, 8, 9, 17])] [(3, [3, 7, 8, 9]), (7, [3, 7, 8, 9, 17])] []) tab_ok Try.call77 Try.func77 rfl rfl rfl rfl rfl (fun hin => ?_)
  have hl := bD_len bs
  have hb := hin.1.1
  (conv => whnf); refine LoopI.mk (fun q ws os => ∃ k : Nat, ws = [c32 (crcL (bs.take k) : Nat), B8 bs, i64 bs.length, i64 k] ∧ os = [] ∧ k ≤ bs.length ∧ q = bs.length - k) bs.length ⟨0, by rw [hl]; rfl, rfl, Nat.zero_le _, rfl⟩ ?_
  rintro q _ _ ⟨k, rfl, rfl, h1, rfl⟩
  have h32 := crcL_lt (bs.take k)
  (conv => whnf); refine cond_d (fun h2 => ?_) (fun h2 => ?_)
  · obtain ⟨x, hx⟩ : ∃ x, bs[k]? = some x := ⟨bs[k], List.getElem?_eq_getElem (by omega)⟩
    (conv => whnf); refine And.intro (by first | omega | (dsimp only [List.length, cond]; omega) | (show (-9223372036854775808 : Int) ≤ _ ∧ _ ≤ (9223372036854775807 : Int); omega) | decide) ?_
    (conv => whnf); refine Idx.mk _ (bD_get hx) ?_
    (conv => whnf); refine Idx.mk _ rfl ?_
    (conv => whnf); refine LoopI.mk (fun q ws os => ∃ j m : Nat, ws = [c32 (m : Nat), B8 bs, i64 bs.length, i64 k, i64 j] ∧ os = [] ∧ j ≤ 8 ∧ m < 4294967296 ∧ m = crcIt j (crcL (bs.take k) ^^^ x.toNat) ∧ q = 8 - j) 8 ⟨0, crcL (bs.take k) ^^^ x.toNat, rfl, rfl, Nat.zero_le _, Nat.xor_lt_two_pow (n := 32) h32 (by have := u8_lt x; omega), rfl, rfl⟩ ?_
    rintro q _ _ ⟨j, m, rfl, rfl, h3, hm32, hm, rfl⟩
    (conv => whnf); refine cond_d (fun h4 => ?_) (fun h4 => ?_)
    · (conv => whnf); refine JoinI.mk (fun ws os => ws = [c32 (crcBit m : Nat), B8 bs, i64 bs.length, i64 k, i64 j] ∧ os = []) ?_ ?_
      · (conv => whnf); refine cond_d (fun h5 => ?_) (fun h5 => ?_)
        · (conv => whnf)
          refine ⟨?_, rfl⟩
          rw [← crcBit_odd h5]; rfl
        · (conv => whnf)
          refine ⟨?_, rfl⟩
          rw [← crcBit_even h5]; rfl
      rintro _ _ ⟨rfl, rfl⟩
      (conv => whnf); refine And.intro (by first | omega | (dsimp only [List.length, cond]; omega) | (show (-9223372036854775808 : Int) ≤ _ ∧ _ ≤ (9223372036854775807 : Int); omega) | decide) ?_
      (conv => whnf)
      exact ⟨8 - (j + 1), by omega, j + 1, crcBit m, rfl, rfl, by omega, crcBit_lt hm32, by rw [hm]; rfl, rfl⟩
    · obtain rfl : j = 8 := by omega
      (conv => whnf); refine And.intro (by first | omega | (dsimp only [List.length, cond]; omega) | (show (-9223372036854775808 : Int) ≤ _ ∧ _ ≤ (9223372036854775807 : Int); omega) | decide) ?_
      (conv => whnf)
      exact ⟨bs.length - (k + 1), by omega, k + 1, by rw [crcL_take hx, ← hm]; rfl, rfl, by omega, rfl⟩
  · refine isInt ?_
    rw [List.take_of_length_le (by omega)]
    have := crcL_lt bs
    show (4294967295 : Int) - (crcL bs : Nat) = (crc bs : Nat)
    unfold crc; omega
abbrev papO (bs : List UInt8) (w : Bool) : List V.Obj := [.vec 123 [.sl 1, .d (.bool w)], .row 5 1 (bytesD bs)]
abbrev pap0 : List V.Obj := [.vec 123 [.d .nils, .d (.bool false)]]
/-- Behind a field more: the row that was is gone. -/
abbrev papG (bs : List UInt8) (w : Bool) : List V.Obj := [.vec 123 [.sl 2, .d (.bool w)], .gone, .row 5 1 (bytesD bs)]
theorem lay_ct (bs : List UInt8) (w : Bool) (n : Int) (k : Nat) (h0 : 0 < k) (hk : k ≤ 8) (hb : bs.length ≤ 140737488350000) : Ct Try.prog 76 [.ptr 0 0, u64 n, i64 k] (papO bs w) (Is2 (.ptr 0 0) (papG (bs ++ leB n k) w)) := by
  refine Ct.introF (E := E 28 2 [.tmp 6] [] [(2, [0, 1, 8, 9])] []) tab_ok Try.call76 Try.func76 rfl rfl rfl rfl rfl (fun hin => ?_)
  (conv => whnf); refine LoopI.mk (fun q ws os => ∃ i : Nat, ws = [.ptr 0 0, u64 n, i64 k, i64 i] ∧ (i = 0 ∧ os = papO bs w ∨ 0 < i ∧ os = papG (bs ++ leB n i) w) ∧ i ≤ k ∧ q = k - i) k ⟨0, rfl, .inl ⟨rfl, rfl⟩, Nat.zero_le _, rfl⟩ ?_
  rintro q _ _ ⟨i, rfl, ho, h1, rfl⟩
  rcases ho with ⟨rfl, rfl⟩ | ⟨hi, rfl⟩
  · have hl := bD_len bs
    (conv => whnf); refine cond_y (by omega) ?_
    (conv => whnf); refine DrawI.mkTF 11 [[0], [0], [13], [14], [15], [1], [7], [18], [17, 19], [20], [21]] [(0, 12, 0), (12, 24, 12)] (by decide +kernel) ?_
    repeat (first | refine DrawO.mkF _ (And.intro rfl rfl) ?_ | refine DrawO.mkF _ (Idx.mk _ rfl (And.intro rfl rfl)) ?_)
    refine DrawO.mkF _ (And.intro (by first | omega | (dsimp only [List.length, cond]; omega) | decide) (And.intro rfl rfl)) ?_
    refine DrawO.mkF _ (And.intro (by first | omega | (dsimp only [List.length, cond]; omega) | decide) (And.intro rfl rfl)) ?_
    repeat (first | refine DrawO.mkF _ (And.intro rfl rfl) ?_ | refine DrawO.mkF _ (Idx.mk _ rfl (And.intro rfl rfl)) ?_)
    refine DrawO.roF [.int .u8 ((bt n 0).toNat : Int)] 5 1 (by rw [← bt_val (n := n) (i := 0) (by omega)]; exact And.intro rfl rfl) ?_
    (conv => whnf); refine And.intro ⟨by rw [hl]; dsimp only [List.length]; omega, fun y hy => by cases hy with | head => rfl | tail _ h => cases h⟩ ?_
    (conv => whnf); refine And.intro (by first | omega | (dsimp only [List.length, cond]; omega) | (show (-9223372036854775808 : Int) ≤ _ ∧ _ ≤ (9223372036854775807 : Int); omega) | decide) ?_
    (conv => whnf)
    refine ⟨k - 1, by omega, 1, rfl, .inr ⟨by decide, ?_⟩, by omega, rfl⟩
    have e : bytesD bs ++ [D.int .u8 ((bt n 0).toNat : Int)] = bytesD (bs ++ leB n 1) := by
      show bytesD bs ++ bytesD [bt n 0] = _
      rw [bD_app]; rfl
    show _ = [V.Obj.vec _ _, .gone, V.Obj.row _ _ (bytesD (bs ++ leB n 1))]
    rw [← e]; rfl
  · have hl := bD_len (bs ++ leB n i)
    have hl2 : (bs ++ leB n i).length = bs.length + i := by rw [List.length_append, leB_len]
    (conv => whnf); refine cond_d (fun h2 => ?_) (fun h2 => ?_)
    · (conv => whnf); refine DrawI.mkTF 11 [[0], [0], [13], [14], [15], [1], [7], [18], [17, 19], [20], [21]] [(0, 12, 0), (12, 24, 12)] (by decide +kernel) ?_
      repeat (first | refine DrawO.mkF _ (And.intro rfl rfl) ?_ | refine DrawO.mkF _ (Idx.mk _ rfl (And.intro rfl rfl)) ?_)
      refine DrawO.mkF _ (And.intro (by first | omega | (dsimp only [List.length, cond]; omega) | decide) (And.intro rfl rfl)) ?_
      refine DrawO.mkF _ (And.intro (by first | omega | (dsimp only [List.length, cond]; omega) | decide) (And.intro rfl rfl)) ?_
      repeat (first | refine DrawO.mkF _ (And.intro rfl rfl) ?_ | refine DrawO.mkF _ (Idx.mk _ rfl (And.intro rfl rfl)) ?_)
      refine DrawO.roF [.int .u8 ((bt n i).toNat : Int)] 5 1 (by rw [← bt_val (n := n) (i := i) (by omega)]; exact And.intro rfl rfl) ?_
      (conv => whnf); refine And.intro ⟨by rw [hl, hl2]; dsimp only [List.length]; omega, fun y hy => by cases hy with | head => rfl | tail _ h => cases h⟩ ?_
      (conv => whnf); refine And.intro (by first | omega | (dsimp only [List.length, cond]; omega) | (show (-9223372036854775808 : Int) ≤ _ ∧ _ ≤ (9223372036854775807 : Int); omega) | decide) ?_
      (conv => whnf)
      refine ⟨k - (i + 1), by omega, i + 1, rfl, .inr ⟨by omega, ?_⟩, by omega, rfl⟩
      have e : bytesD (bs ++ leB n i) ++ [D.int .u8 ((bt n i).toNat : Int)] = bytesD (bs ++ leB n (i + 1)) := by
        show bytesD (bs ++ leB n i) ++ bytesD [bt n i] = _
        rw [bD_app, List.append_assoc]; rfl
      show _ = [V.Obj.vec _ _, .gone, V.Obj.row _ _ (bytesD (bs ++ leB n (i + 1)))]
      rw [← e]; rfl
    · obtain rfl : i = k := by omega
      exact Is2.mk rfl
abbrev papE (w : Bool) : List V.Obj := [.vec 123 [.d .nils, .d (.bool w)]]
theorem lay0w_ct (w : Bool) (n : Int) (k : Nat) (h0 : 0 < k) (hk : k ≤ 8) : Ct Try.prog 76 [.ptr 0 0, u64 n, i64 k] (papE w) (Is2 (.ptr 0 0) (papO (leB n k) w)) := by
  refine Ct.introF (E := E 28 1 [.tmp 6] [] [(2, [0, 1, 8, 9])] []) tab_ok Try.call76 Try.func76 rfl rfl rfl rfl rfl (fun hin => ?_)
  (conv => whnf); refine LoopI.mk (fun q ws os => ∃ i : Nat, ws = [.ptr 0 0, u64 n, i64 k, i64 i] ∧ (i = 0 ∧ os = papE w ∨ 0 < i ∧ os = papO (leB n i) w) ∧ i ≤ k ∧ q = k - i) k ⟨0, rfl, .inl ⟨rfl, rfl⟩, Nat.zero_le _, rfl⟩ ?_
  rintro q _ _ ⟨i, rfl, ho, h1, rfl⟩
  rcases ho with ⟨rfl, rfl⟩ | ⟨hi, rfl⟩
  · (conv => whnf); refine cond_y (by omega) ?_
    (conv => whnf); refine DrawI.mkTF 11 [[0], [0], [13], [14], [15], [1], [7], [18], [17, 19], [20], [21]] [(0, 12, 0), (12, 24, 12)] (by decide +kernel) ?_
    repeat (first | refine DrawO.mkF _ (And.intro rfl rfl) ?_ | refine DrawO.mkF _ (Idx.mk _ rfl (And.intro rfl rfl)) ?_)
    refine DrawO.mkF _ (And.intro (by first | omega | (dsimp only [List.length, cond]; omega) | decide) (And.intro rfl rfl)) ?_
    refine DrawO.mkF _ (And.intro (by first | omega | (dsimp only [List.length, cond]; omega) | decide) (And.intro rfl rfl)) ?_
    repeat (first | refine DrawO.mkF _ (And.intro rfl rfl) ?_ | refine DrawO.mkF _ (Idx.mk _ rfl (And.intro rfl rfl)) ?_)
    refine DrawO.roF [.int .u8 ((bt n 0).toNat : Int)] 5 1 (by rw [← bt_val (n := n) (i := 0) (by omega)]; exact And.intro rfl rfl) ?_
    (conv => whnf); refine And.intro ⟨by dsimp only [List.length]; omega, fun y hy => by cases hy with | head => rfl | tail _ h => cases h⟩ ?_
    (conv => whnf); refine And.intro (by first | omega | (dsimp only [List.length, cond]; omega) | (show (-9223372036854775808 : Int) ≤ _ ∧ _ ≤ (9223372036854775807 : Int); omega) | decide) ?_
    (conv => whnf)
    exact ⟨k - 1, by omega, 1, rfl, .inr ⟨by decide, rfl⟩, by omega, rfl⟩
  · have hl := bD_len (leB n i)
    have hl2 := leB_len n i
    (conv => whnf); refine cond_d (fun h2 => ?_) (fun h2 => ?_)
    · (conv => whnf); refine DrawI.mkTF 11 [[0], [0], [13], [14], [15], [1], [7], [18], [17, 19], [20], [21]] [(0, 12, 0), (12, 24, 12)] (by decide +kernel) ?_
      repeat (first | refine DrawO.mkF _ (And.intro rfl rfl) ?_ | refine DrawO.mkF _ (Idx.mk _ rfl (And.intro rfl rfl)) ?_)
      refine DrawO.mkF _ (And.intro (by first | omega | (dsimp only [List.length, cond]; omega) | decide) (And.intro rfl rfl)) ?_
      refine DrawO.mkF _ (And.intro (by first | omega | (dsimp only [List.length, cond]; omega) | decide) (And.intro rfl rfl)) ?_
      repeat (first | refine DrawO.mkF _ (And.intro rfl rfl) ?_ | refine DrawO.mkF _ (Idx.mk _ rfl (And.intro rfl rfl)) ?_)
      refine DrawO.roF [.int .u8 ((bt n i).toNat : Int)] 5 1 (by rw [← bt_val (n := n) (i := i) (by omega)]; exact And.intro rfl rfl) ?_
      (conv => whnf); refine And.intro ⟨by rw [hl, hl2]; dsimp only [List.length]; omega, fun y hy => by cases hy with | head => rfl | tail _ h => cases h⟩ ?_
      (conv => whnf); refine And.intro (by first | omega | (dsimp only [List.length, cond]; omega) | (show (-9223372036854775808 : Int) ≤ _ ∧ _ ≤ (9223372036854775807 : Int); omega) | decide) ?_
      (conv => whnf)
      refine ⟨k - (i + 1), by omega, i + 1, rfl, .inr ⟨by omega, ?_⟩, by omega, rfl⟩
      have e : bytesD (leB n i) ++ [D.int .u8 ((bt n i).toNat : Int)] = bytesD (leB n (i + 1)) := by
        show bytesD (leB n i) ++ bytesD [bt n i] = _
        rw [bD_app]; rfl
      show _ = [V.Obj.vec _ _, V.Obj.row _ _ (bytesD (leB n (i + 1)))]
      rw [← e]; rfl
    · obtain rfl : i = k := by omega
      exact Is2.mk rfl
theorem lay0_ct (n : Int) (k : Nat) (h0 : 0 < k) (hk : k ≤ 8) : Ct Try.prog 76 [.ptr 0 0, u64 n, i64 k] pap0 (Is2 (.ptr 0 0) (papO (leB n k) false)) := lay0w_ct false n k h0 hk
end Go.Proofs.Ytidelnccggfmgaa.Let

/- Package letter: fields of four and eight bytes, bytes, sealing. -/
namespace Go.Proofs.Ytidelnccggfmgaa.Let
open Go.V Go.Num
open Go.Eng (wr)
set_option maxRecDepth 100000
set_option maxHeartbeats 4000000
def wideB (w : Bool) (n : Int) : Bool := w || (decide (n < 0) || decide (4294967295 < n))
abbrev f4 (n : Int) : List UInt8 := leB (wr .u64 n) 4
theorem Small_ct (bs : List UInt8) (w : Bool) (n : Int) (hb : bs.length ≤ 140737488350000) : Ct Try.prog 37 [.ptr 0 0, i64 n] (papO bs w) (Is2 (.ptr 0 0) (papG (bs ++ f4 n) (wideB w n))) := by
  refine Ct.introF (E := E 26 2 [.tmp 4] [] [] []) tab_ok Try.call37 Try.func37 rfl rfl rfl rfl rfl (fun hin => ?_)
  cases w with
  | true =>
    (conv => whnf); refine (lay_ct bs true (wr .u64 n) 4 (by decide) (by decide) hb).use ?_
    exact Is2.mk rfl
  | false =>
    (conv => whnf); refine cond_d (fun h1 => ?_) (fun h1 => ?_)
    · (conv => whnf); refine (lay_ct bs true (wr .u64 n) 4 (by decide) (by decide) hb).use ?_
      have e : wideB false n = true := by unfold wideB; rw [decide_eq_true h1]; rfl
      rw [e]
      exact Is2.mk rfl
    · have e : wideB false n = decide (4294967295 < n) := by unfold wideB; rw [decide_eq_false h1]; rfl
      rw [e]
      (conv => whnf); refine (lay_ct bs (decide (4294967295 < n)) (wr .u64 n) 4 (by decide) (by decide) hb).use ?_
      exact Is2.mk rfl
theorem Small0_ct (n : Int) : Ct Try.prog 37 [.ptr 0 0, i64 n] pap0 (Is2 (.ptr 0 0) (papO (f4 n) (wideB false n))) := by
  refine Ct.introF (E := E 26 1 [.tmp 4] [] [] []) tab_ok Try.call37 Try.func37 rfl rfl rfl rfl rfl (fun hin => ?_)
  (conv => whnf); refine cond_d (fun h1 => ?_) (fun h1 => ?_)
  · (conv => whnf); refine (lay0w_ct true (wr .u64 n) 4 (by decide) (by decide)).use ?_
    have e : wideB false n = true := by unfold wideB; rw [decide_eq_true h1]; rfl
    rw [e]
    exact Is2.mk rfl
  · have e : wideB false n = decide (4294967295 < n) := by unfold wideB; rw [decide_eq_false h1]; rfl
    rw [e]
    (conv => whnf); refine (lay0w_ct (decide (4294967295 < n)) (wr .u64 n) 4 (by decide) (by decide)).use ?_
    exact Is2.mk rfl
theorem Great_ct (bs : List UInt8) (w : Bool) (n : Int) (hb : bs.length ≤ 140737488350000) : Ct Try.prog 38 [.ptr 0 0, u64 n] (papO bs w) (Is2 (.ptr 0 0) (papG (bs ++ leB n 8) w)) := by
  refine Ct.introF (E := E 10 2 [.tmp 4] [] [] []) tab_ok Try.call38 Try.func38 rfl rfl rfl rfl rfl (fun hin => ?_)
  (conv => whnf); refine (lay_ct bs w n 8 (by decide) (by decide) hb).use ?_
  exact Is2.mk rfl
theorem Bytes_ct (bs : List UInt8) (w : Bool) (b : List UInt8) (hb : bs.length + b.length ≤ 140737488340000) : Ct Try.prog 39 [.ptr 0 0, B8 b] (papO bs w) (Is2 (.ptr 0 0) (papG (bs ++ (f4 b.length ++ b)) (wideB w b.length))) := by
  refine Ct.introF (E := E 21 2 [.tmp 4] [] [] []) tab_ok Try.call39 Try.func39 rfl rfl rfl rfl rfl (fun hin => ?_)
  have hl := bD_len b
  (conv => whnf); refine (Small_ct bs w (bytesD b).length (by omega)).use ?_
  rw [hl]
  have hl2 := bD_len (bs ++ f4 b.length)
  have hl3 : (f4 (b.length : Int)).length = 4 := leB_len _ _
  rw [List.length_append, hl3] at hl2
  (conv => whnf); refine And.intro ⟨by dsimp only [List.length]; omega, bD_one b⟩ ?_
  rw [bD_app, List.append_assoc]
  exact Is2.mk rfl
end Go.Proofs.Ytidelnccggfmgaa.Let

/- Package letter: fields read. -/
namespace Go.Proofs.Ytidelnccggfmgaa.Let
open Go.V Go.Num
open Go.Eng (wr)
set_option maxRecDepth 100000
set_option maxHeartbeats 4000000
/-- An Eye: what is left (none at all, where it fell at once), and what was wrong. -/
abbrev eyeO (z : Bool) (rest : List UInt8) (e : Int) : List V.Obj := [.vec 127 [match z with | true => .d .nils | false => B8 rest, i64 e]]
theorem take_ct (rest : List UInt8) (e : Int) (n : Nat) : Ct Try.prog 89 [.ptr 0 0, i64 n] (eyeO false rest e) (Is2 (B8 (takeB rest e n).1) (eyeO false (takeB rest e n).2.1 (takeB rest e n).2.2)) := by
  refine Ct.introF (E := E 42 1 [.tmp 4] [] [] [(1000002, [.nl 4]), (1000005, [.nl 4])]) tab_ok Try.call89 Try.func89 rfl rfl rfl rfl rfl (fun hin => ?_)
  have hl := bD_len rest
  (conv => whnf); refine cond_d (fun h1 => ?_) (fun h1 => ?_)
  · have e1 : takeB rest e n = ([], rest, e) := by unfold takeB; rw [if_neg h1]
    rw [e1]
    exact Is2.mk rfl
  have h1' : e = 0 := Decidable.of_not_not h1
  (conv => whnf); refine cond_d (fun h2 => ?_) (fun h2 => ?_)
  · have e1 : takeB rest e n = ([], rest, 3) := by unfold takeB; rw [if_pos h1', if_pos (by omega)]
    rw [e1]
    exact Is2.mk rfl
  have e1 : takeB rest e n = (rest.take n, rest.drop n, 0) := by unfold takeB; rw [if_pos h1', if_neg (by omega)]
  (conv => whnf); refine And.intro (by first | omega | (dsimp only [List.length, cond]; omega) | (show (-9223372036854775808 : Int) ≤ _ ∧ _ ≤ (9223372036854775807 : Int); omega) | decide) ?_
  (conv => whnf); refine And.intro ⟨by omega, bD_one rest⟩ ?_
  rw [Int.toNat_natCast, bD_take, bD_drop]
  rw [e1, h1']
  exact Is2.mk rfl
theorem take0_ct (e : Int) (n : Nat) (he : e ≠ 0) : Ct Try.prog 89 [.ptr 0 0, i64 n] (eyeO true [] e) (Is2 (B8 []) (eyeO true [] e)) := by
  refine Ct.introF (E := E 42 1 [.tmp 4] [] [] [(1000002, [.nl 4]), (1000005, [.nl 4])]) tab_ok Try.call89 Try.func89 rfl rfl rfl rfl rfl (fun hin => ?_)
  (conv => whnf); refine cond_y he ?_
  exact Is2.mk rfl
theorem number_ct (rest : List UInt8) (e : Int) (n : Nat) (hn : n ≤ 8) : Ct Try.prog 78 [.ptr 0 0, i64 n] (eyeO false rest e) (Is2 (u64 (numB (takeB rest e n).1 : Nat)) (eyeO false (takeB rest e n).2.1 (takeB rest e n).2.2)) := by
  refine Ct.introF (E := E 26 1 [.tmp 4] [] [(3, [5, 10, 11, 12])] []) tab_ok Try.call78 Try.func78 rfl rfl rfl rfl rfl (fun hin => ?_)
  (conv => whnf); refine (take_ct rest e n).use ?_
  obtain ⟨b, hb⟩ : ∃ z, z = (takeB rest e n).1 := ⟨_, rfl⟩
  have hbl : b.length ≤ 8 := by rw [hb]; have := take_len rest e n; omega
  have hl := bD_len b
  rw [← hb]
  (conv => whnf); refine LoopI.mk (fun q ws os => ∃ i : Nat, ws = [u64 (numB (b.take i) : Nat), B8 b, i64 b.length, i64 i] ∧ os = eyeO false (takeB rest e n).2.1 (takeB rest e n).2.2 ∧ i ≤ b.length ∧ q = b.length - i) b.length ⟨0, by rw [hl]; rfl, rfl, Nat.zero_le _, rfl⟩ ?_
  rintro q _ _ ⟨i, rfl, rfl, h1, rfl⟩
  (conv => whnf); refine cond_d (fun h2 => ?_) (fun h2 => ?_)
  · obtain ⟨x, hx⟩ : ∃ x, b[i]? = some x := ⟨b[i], List.getElem?_eq_getElem (by omega)⟩
    (conv => whnf); refine And.intro (by first | omega | (dsimp only [List.length, cond]; omega) | (show (-9223372036854775808 : Int) ≤ _ ∧ _ ≤ (9223372036854775807 : Int); omega) | decide) ?_
    (conv => whnf); refine Idx.mk _ (bD_get hx) ?_
    (conv => whnf); refine Idx.mk _ rfl ?_
    (conv => whnf); refine And.intro (by first | omega | (dsimp only [List.length, cond]; omega) | (show (-9223372036854775808 : Int) ≤ _ ∧ _ ≤ (9223372036854775807 : Int); omega) | decide) ?_
    (conv => whnf); refine And.intro (by first | omega | (dsimp only [List.length, cond]; omega) | (show (-9223372036854775808 : Int) ≤ _ ∧ _ ≤ (9223372036854775807 : Int); omega) | decide) ?_
    (conv => whnf); refine And.intro (by first | omega | (dsimp only [List.length, cond]; omega) | (show (-9223372036854775808 : Int) ≤ _ ∧ _ ≤ (9223372036854775807 : Int); omega) | decide) ?_
    (conv => whnf)
    refine ⟨b.length - (i + 1), by omega, i + 1, ?_, rfl, by omega, rfl⟩
    have hk : (b.take i).length = i := by rw [List.length_take]; omega
    have e1 : b.take (i + 1) = b.take i ++ [x] := by rw [List.take_succ, hx]; rfl
    rw [e1, ← numB_or hk (by omega)]; rfl
  · obtain rfl : i = b.length := by omega
    rw [List.take_of_length_le (Nat.le_refl _)]
    exact Is2.mk rfl
theorem number0_ct (e : Int) (n : Nat) (he : e ≠ 0) : Ct Try.prog 78 [.ptr 0 0, i64 n] (eyeO true [] e) (Is2 (u64 0) (eyeO true [] e)) := by
  refine Ct.introF (E := E 26 1 [.tmp 4] [] [(3, [5, 10, 11, 12])] []) tab_ok Try.call78 Try.func78 rfl rfl rfl rfl rfl (fun hin => ?_)
  (conv => whnf); refine (take0_ct e n he).use ?_
  (conv => whnf); refine LoopI.mk (fun q ws os => ws = [u64 0, B8 [], i64 0, i64 0] ∧ os = eyeO true [] e ∧ q = 0) 0 ⟨rfl, rfl, rfl⟩ ?_
  rintro q _ _ ⟨rfl, rfl, rfl⟩
  exact Is2.mk rfl
/-- What reading a number of four, of eight bytes gives. -/
abbrev small3 (rest : List UInt8) (e : Int) : Nat := numB (takeB rest e 4).1
theorem ESmall_ct (rest : List UInt8) (e : Int) : Ct Try.prog 42 [.ptr 0 0] (eyeO false rest e) (Is2 (i64 (numB (takeB rest e 4).1 : Nat)) (eyeO false (takeB rest e 4).2.1 (takeB rest e 4).2.2)) := by
  refine Ct.introF (E := E 6 1 [.tmp 2] [] [] []) tab_ok Try.call42 Try.func42 rfl rfl rfl rfl rfl (fun hin => ?_)
  (conv => whnf); refine (number_ct rest e 4 (by decide)).use ?_
  obtain ⟨m, hm⟩ : ∃ z, z = numB (takeB rest e 4).1 := ⟨_, rfl⟩
  have h32 : m < 4294967296 := by rw [hm]; exact numB_lt32 (take_len _ _ _)
  rw [← hm]
  (conv => whnf); refine And.intro ⟨by show (-9223372036854775808 : Int) ≤ _; omega, by show _ ≤ (9223372036854775807 : Int); omega⟩ ?_
  exact Is2.mk rfl
theorem ESmall0_ct (e : Int) (he : e ≠ 0) : Ct Try.prog 42 [.ptr 0 0] (eyeO true [] e) (Is2 (i64 0) (eyeO true [] e)) := by
  refine Ct.introF (E := E 6 1 [.tmp 2] [] [] []) tab_ok Try.call42 Try.func42 rfl rfl rfl rfl rfl (fun hin => ?_)
  (conv => whnf); refine (number0_ct e 4 he).use ?_
  (conv => whnf); refine And.intro (by first | omega | (dsimp only [List.length, cond]; omega) | (show (-9223372036854775808 : Int) ≤ _ ∧ _ ≤ (9223372036854775807 : Int); omega) | decide) ?_
  exact Is2.mk rfl
theorem EGreat_ct (rest : List UInt8) (e : Int) : Ct Try.prog 79 [.ptr 0 0] (eyeO false rest e) (Is2 (u64 (numB (takeB rest e 8).1 : Nat)) (eyeO false (takeB rest e 8).2.1 (takeB rest e 8).2.2)) := by
  refine Ct.introF (E := E 5 1 [.tmp 2] [] [] []) tab_ok Try.call79 Try.func79 rfl rfl rfl rfl rfl (fun hin => ?_)
  (conv => whnf); refine (number_ct rest e 8 (by decide)).use ?_
  exact Is2.mk rfl
theorem EGreat0_ct (e : Int) (he : e ≠ 0) : Ct Try.prog 79 [.ptr 0 0] (eyeO true [] e) (Is2 (u64 0) (eyeO true [] e)) := by
  refine Ct.introF (E := E 5 1 [.tmp 2] [] [] []) tab_ok Try.call79 Try.func79 rfl rfl rfl rfl rfl (fun hin => ?_)
  (conv => whnf); refine (number0_ct e 8 he).use ?_
  exact Is2.mk rfl
theorem EEnd_ct (rest : List UInt8) (e : Int) : Ct Try.prog 52 [.ptr 0 0] (eyeO false rest e) (Is2 (i64 (endB rest e)) (eyeO false rest (endB rest e))) := by
  refine Ct.introF (E := E 27 1 [.tmp 2] [] [] []) tab_ok Try.call52 Try.func52 rfl rfl rfl rfl rfl (fun hin => ?_)
  have hl := bD_len rest
  (conv => whnf); refine cond_d (fun h1 => ?_) (fun h1 => ?_)
  · (conv => whnf); refine cond_d (fun h2 => ?_) (fun h2 => ?_)
    · have e1 : endB rest e = 2 := by unfold endB; rw [if_pos ⟨h1, by omega⟩]
      rw [e1]
      exact Is2.mk rfl
    · have e1 : endB rest e = e := by unfold endB; rw [if_neg (by omega)]
      rw [e1]
      exact Is2.mk rfl
  · have e1 : endB rest e = e := by unfold endB; rw [if_neg (fun h => h1 h.1)]
    rw [e1]
    exact Is2.mk rfl
theorem EEnd0_ct (e : Int) (he : e ≠ 0) : Ct Try.prog 52 [.ptr 0 0] (eyeO true [] e) (Is2 (i64 e) (eyeO true [] e)) := by
  refine Ct.introF (E := E 27 1 [.tmp 2] [] [] []) tab_ok Try.call52 Try.func52 rfl rfl rfl rfl rfl (fun hin => ?_)
  (conv => whnf); refine cond_n he ?_
  exact Is2.mk rfl
theorem CloneB_ct (xs : List UInt8) (hcap : xs.length ≤ 140737488351232) : Ct Try.prog 70 [B8 xs] [] (Is2 (.sl 0) [.row 5 1 (bytesD xs)]) := by
  refine Ct.introF (E := E 8 0 [.tmp 2] [] [] [(1000002, [.own 2 5 1])]) tab_ok Try.call70 Try.func70 rfl rfl rfl rfl rfl (fun hin => ?_)
  have hl := bD_len xs
  intro b hb
  (conv => whnf); refine cond_i (fun h => ?_) (fun h => ?_)
  · by_cases e : xs = []
    · rw [e]; exact Is2.mk rfl
    · exfalso
      have := hb (by intro e2; apply e; cases xs with | nil => rfl | cons x xs => simp [cellsOf, bytesD] at e2; exact absurd e2 (by simp [D.cells]))
      rw [h] at this; cases this
  · (conv => whnf); refine And.intro ⟨by dsimp only [List.length]; omega, bD_one _⟩ (Is2.mk rfl)
theorem ClipB_ct (xs : List D) : Ct Try.prog 69 [.d (.ro xs)] [] (Is2 (.d (.ro xs)) []) := by
  refine Ct.introF (E := E 9 0 [.tmp 2] [] [] []) tab_ok Try.call69 Try.func69 rfl rfl rfl rfl rfl (fun hin => ?_)
  (conv => whnf); refine And.intro ⟨by omega, by omega, by omega⟩ ?_
  rw [show List.take ((xs.length : Int)).toNat xs = xs from List.take_of_length_le (by omega)]
  exact Is2.mk rfl
theorem ClipO_ct (xs : List D) (hb : (xs.length : Int) ≤ 9223372036854775807) : Ct Try.prog 69 [.sl 0] [.row 5 1 xs] (Is2 (.sl 1) [.gone, .row 5 1 xs]) := by
  refine Ct.introF (E := E 9 1 [.tmp 2] [] [] []) tab_ok Try.call69 Try.func69 rfl rfl rfl rfl rfl (fun hin => ?_)
  (conv => whnf); refine And.intro ⟨by omega, by omega, by omega⟩ ?_
  rw [show List.take ((xs.length : Int)).toNat xs = xs from List.take_of_length_le (by omega)]
  exact Is2.mk rfl
theorem takeB_le (rest : List UInt8) (e : Int) (n : Nat) : (takeB rest e n).1.length ≤ rest.length := by
  unfold takeB; split <;> (try split) <;> simp [List.length_take] <;> omega
theorem takeB_rest (rest : List UInt8) (e : Int) (n : Nat) : (takeB rest e n).2.1.length ≤ rest.length := by
  unfold takeB; split <;> (try split) <;> simp [List.length_drop]
theorem EBytes_ct (rest : List UInt8) (e : Int) (hcap : rest.length ≤ 140737488351232) : Ct Try.prog 80 [.ptr 0 0] (eyeO false rest e) (Is2 (B8 (bytesB rest e).1) (eyeO false (bytesB rest e).2.1 (bytesB rest e).2.2)) := by
  refine Ct.introF (E := E 9 1 [.tmp 2] [] [] [(1000001, [.fz 2])]) tab_ok Try.call80 Try.func80 rfl rfl rfl rfl rfl (fun hin => ?_)
  (conv => whnf); refine (ESmall_ct rest e).use ?_
  (conv => whnf); refine (take_ct _ _ (numB (takeB rest e 4).1)).use ?_
  have hcb := Nat.le_trans (Nat.le_trans (takeB_le (takeB rest e 4).2.1 (takeB rest e 4).2.2 (numB (takeB rest e 4).1)) (takeB_rest rest e 4)) hcap
  (conv => whnf); refine (CloneB_ct _ hcb).use ?_
  (conv => whnf); refine (ClipO_ct _ (by rw [bD_len]; omega)).use ?_
  exact Is2.mk rfl
end Go.Proofs.Ytidelnccggfmgaa.Let

/- Package letter: looking at what was sealed; sealing. -/
namespace Go.Proofs.Ytidelnccggfmgaa.Let
open Go.V Go.Num
open Go.Eng (wr)
set_option maxRecDepth 100000
set_option maxHeartbeats 4000000
theorem EBytes0_ct (e : Int) (he : e ≠ 0) : Ct Try.prog 80 [.ptr 0 0] (eyeO true [] e) (Is2 (B8 []) (eyeO true [] e)) := by
  refine Ct.introF (E := E 9 1 [.tmp 2] [] [] [(1000001, [.fz 2])]) tab_ok Try.call80 Try.func80 rfl rfl rfl rfl rfl (fun hin => ?_)
  (conv => whnf); refine (ESmall0_ct e he).use ?_
  (conv => whnf); refine (take0_ct e 0 he).use ?_
  (conv => whnf); refine (CloneB_ct [] (by decide)).use ?_
  (conv => whnf); refine (ClipO_ct _ (by decide)).use ?_
  exact Is2.mk rfl
abbrev eyeL (bs : List UInt8) : List V.Obj := if (openB bs).2 = 0 then eyeO false (openB bs).1 0 else eyeO true [] (openB bs).2
theorem Look_ct (bs : List UInt8) : Ct Try.prog 41 [B8 bs] [] (Is2 (.ptr 0 0) (eyeL bs)) := by
  refine Ct.introF (E := E 39 0 [.tmp 2] [] [] [(1000009, [.fz 36])]) tab_ok Try.call41 Try.func41 rfl rfl rfl rfl rfl (fun hin => ?_)
  have hl := bD_len bs
  have hb := hin.1.1
  (conv => whnf); refine And.intro (by first | omega | (dsimp only [List.length, cond]; omega) | (show (-9223372036854775808 : Int) ≤ _ ∧ _ ≤ (9223372036854775807 : Int); omega) | decide) ?_
  (conv => whnf); refine cond_d (fun h1 => ?_) (fun h1 => ?_)
  · have e1 : openB bs = ([], 3) := by unfold openB; rw [if_pos (by omega)]
    unfold eyeL; rw [e1, if_neg (by decide)]
    exact Is2.mk rfl
  (conv => whnf); refine cond_d (fun h2 => ?_) (fun h2 => ?_)
  · have e1 : openB bs = ([], 6) := by unfold openB; rw [if_neg (by omega), if_pos (by omega)]
    unfold eyeL; rw [e1, if_neg (by decide)]
    exact Is2.mk rfl
  have en : (((bytesD bs).length : Int) - 4).toNat = bs.length - 4 := by omega
  (conv => whnf); refine And.intro ⟨by omega, bD_one bs⟩ ?_
  (conv => whnf); refine And.intro (by first | omega | (dsimp only [List.length, cond]; omega) | (show (-9223372036854775808 : Int) ≤ _ ∧ _ ≤ (9223372036854775807 : Int); omega) | decide) ?_
  rw [en, bD_take, bD_drop]
  (conv => whnf); refine (Check_ct _).use ?_
  (conv => whnf); refine (number_ct (bs.drop (bs.length - 4)) 0 4 (by decide)).use ?_
  have et : takeB (bs.drop (bs.length - 4)) 0 4 = (bs.drop (bs.length - 4), [], 0) := by
    have hdl : (bs.drop (bs.length - 4)).length = 4 := by rw [List.length_drop]; omega
    unfold takeB
    rw [if_pos rfl, if_neg (by omega), List.take_of_length_le (l := bs.drop (bs.length - 4)) (by omega), List.drop_of_length_le (l := bs.drop (bs.length - 4)) (by omega)]
  rw [et]
  (conv => whnf); refine cond_d (fun h3 => ?_) (fun h3 => ?_)
  · have h3' : crc (bs.take (bs.length - 4)) ≠ numB (bs.drop (bs.length - 4)) := fun e => h3 (by rw [e])
    have e1 : openB bs = ([], 2) := by unfold openB; rw [if_neg (by omega), if_neg (by omega), if_pos h3']
    unfold eyeL; rw [e1, if_neg (by decide)]
    exact Is2.mk rfl
  have h3' : ¬ crc (bs.take (bs.length - 4)) ≠ numB (bs.drop (bs.length - 4)) := fun e => h3 (fun e2 => e (Int.ofNat.inj e2))
  have e1 : openB bs = (bs.take (bs.length - 4), 0) := by unfold openB; rw [if_neg (by omega), if_neg (by omega), if_neg h3']
  (conv => whnf); refine And.intro (by first | omega | (dsimp only [List.length, cond]; omega) | (show (-9223372036854775808 : Int) ≤ _ ∧ _ ≤ (9223372036854775807 : Int); omega) | decide) ?_
  rw [en, bD_take]
  (conv => whnf); refine (CloneB_ct _ (by rw [List.length_take]; omega)).use ?_
  unfold eyeL; rw [e1, if_pos rfl]
  exact Is2.mk rfl
theorem SealBad_ct (bs : List UInt8) (w : Bool) (h : w = true ∨ 65536 < bs.length) : Ct Try.prog 40 [.ptr 0 0] (papO bs w) (fun r _ => r = .tup [B8 [], i64 (sealR w bs).2]) := by
  refine Ct.introF (E := E 39 2 [.tmp 2, .tmp 3] [] [] [(1000002, [.nl 2]), (1000004, [.nl 2]), (1000006, [.nl 2])]) tab_ok Try.call40 Try.func40 rfl rfl rfl rfl rfl (fun hin => ?_)
  have hl := bD_len bs
  cases w with
  | true => exact rfl
  | false =>
    have h' : 65536 < bs.length := h.resolve_left (by decide)
    (conv => whnf); refine cond_y (by omega) ?_
    have e1 : sealR false bs = ([], 6) := by unfold sealR; rw [if_neg (by decide), if_pos (by omega)]
    rw [e1]
    exact rfl
theorem Seal_ct (bs : List UInt8) (h : bs.length ≤ 65536) : Ct Try.prog 40 [.ptr 0 0] (papO bs false) (Is2 (.tup [.sl 2, i64 0]) [.vec 123 [B8 bs, .d (.bool false)], .froz (bytesD bs), .row 5 1 (bytesD (sealB bs))]) := by
  refine Ct.introF (E := E 39 2 [.tmp 2, .tmp 3] [] [] []) tab_ok Try.call40 Try.func40 rfl rfl rfl rfl rfl (fun hin => ?_)
  have hl := bD_len bs
  (conv => whnf); refine cond_n (by omega) ?_
  (conv => whnf); refine (CloneB_ct _ (by omega)).use ?_
  (conv => whnf); refine (Check_ct _).use ?_
  (conv => whnf); refine (lay_ct bs false (crc bs : Nat) 4 (by decide) (by decide) (by omega)).use ?_
  have hl2 := bD_len (bs ++ leB (crc bs : Nat) 4)
  rw [List.length_append, leB_len] at hl2
  (conv => whnf); refine (ClipO_ct _ (by rw [hl2]; omega)).use ?_
  exact Is2.mk rfl
end Go.Proofs.Ytidelnccggfmgaa.Let

/- The reference's letters: fields as strings. -/
namespace Go.Proofs.Ytidelnccggfmgaa.Let
open Go.V Go.Num
open Go.Eng (wr)
set_option maxRecDepth 100000
set_option maxHeartbeats 4000000
abbrev sT (bs : List UInt8) : AV := .d (.str bs)
theorem bt_int (n : Int) (i : Nat) : ((bt n i).toNat : Int) = n / 2 ^ (8 * i) % 256 := by
  unfold bt
  rw [UInt8.toNat_ofNat']
  have h1 := Int.emod_nonneg (n / 2 ^ (8 * i)) (show (256 : Int) ≠ 0 by decide)
  have h2 := Int.emod_lt_of_pos (n / 2 ^ (8 * i)) (show (0 : Int) < 256 by decide)
  omega
theorem small4 (n : Int) : [D.int .u8 (wr .u8 (n % 256)), D.int .u8 (wr .u8 (n / 256 % 256)), D.int .u8 (wr .u8 (n / 65536 % 256)), D.int .u8 (wr .u8 (n / 16777216 % 256))] = bytesD (leB n 4) := by
  have e : bytesD (leB n 4) = [D.int .u8 ((bt n 0).toNat : Int), D.int .u8 ((bt n 1).toNat : Int), D.int .u8 ((bt n 2).toNat : Int), D.int .u8 ((bt n 3).toNat : Int)] := rfl
  have w : ∀ m : Int, wr .u8 (m % 256) = m % 256 := fun m => by simp only [wr]; omega
  rw [e, bt_int, bt_int, bt_int, bt_int, w, w, w, w]
  rw [show (2 : Int) ^ (8 * 0) = 1 from rfl, Int.ediv_one]; rfl
theorem rSmall_ct (n : Int) (h : 0 ≤ n ∧ n < 4294967296) : Ct Try.prog 53 [i64 n] [] (Is2 (sT (leB n 4)) []) := by
  refine Ct.introF (E := E 20 0 [.tmp 2] [] [] []) tab_ok Try.call53 Try.func53 rfl rfl rfl rfl rfl (fun hin => ?_)
  (conv => whnf); refine And.intro (by first | omega | (dsimp only [List.length, cond]; omega) | (show (-9223372036854775808 : Int) ≤ _ ∧ _ ≤ (9223372036854775807 : Int); omega) | decide) ?_
  (conv => whnf); refine And.intro (by first | omega | (dsimp only [List.length, cond]; omega) | (show (-9223372036854775808 : Int) ≤ _ ∧ _ ≤ (9223372036854775807 : Int); omega) | decide) ?_
  (conv => whnf); refine And.intro (by first | omega | (dsimp only [List.length, cond]; omega) | (show (-9223372036854775808 : Int) ≤ _ ∧ _ ≤ (9223372036854775807 : Int); omega) | decide) ?_
  (conv => whnf); refine And.intro (by first | omega | (dsimp only [List.length, cond]; omega) | (show (-9223372036854775808 : Int) ≤ _ ∧ _ ≤ (9223372036854775807 : Int); omega) | decide) ?_
  (conv => whnf); refine And.intro (by first | omega | (dsimp only [List.length, cond]; omega) | (show (-9223372036854775808 : Int) ≤ _ ∧ _ ≤ (9223372036854775807 : Int); omega) | decide) ?_
  (conv => whnf); refine And.intro (by first | omega | (dsimp only [List.length, cond]; omega) | (show (-9223372036854775808 : Int) ≤ _ ∧ _ ≤ (9223372036854775807 : Int); omega) | decide) ?_
  (conv => whnf); refine And.intro (by first | omega | (dsimp only [List.length, cond]; omega) | (show (-9223372036854775808 : Int) ≤ _ ∧ _ ≤ (9223372036854775807 : Int); omega) | decide) ?_
  (conv => whnf)
  exact ⟨leB n 4, small4 n, Is2.mk rfl⟩
theorem rGreat_ct (n : Int) (h : 0 ≤ n ∧ n < 18446744073709551616) : Ct Try.prog 55 [u64 n] [] (Is2 (sT (leB n 8)) []) := by
  refine Ct.introF (E := E 12 0 [.tmp 2] [] [] []) tab_ok Try.call55 Try.func55 rfl rfl rfl rfl rfl (fun hin => ?_)
  (conv => whnf); refine And.intro (by first | omega | (dsimp only [List.length, cond]; omega) | (show (-9223372036854775808 : Int) ≤ _ ∧ _ ≤ (9223372036854775807 : Int); omega) | decide) ?_
  (conv => whnf); refine And.intro (by first | omega | (dsimp only [List.length, cond]; omega) | (show (-9223372036854775808 : Int) ≤ _ ∧ _ ≤ (9223372036854775807 : Int); omega) | decide) ?_
  (conv => whnf); refine (rSmall_ct (n % 4294967296) (by omega)).use ?_
  (conv => whnf); refine And.intro (by first | omega | (dsimp only [List.length, cond]; omega) | (show (-9223372036854775808 : Int) ≤ _ ∧ _ ≤ (9223372036854775807 : Int); omega) | decide) ?_
  (conv => whnf); refine And.intro (by first | omega | (dsimp only [List.length, cond]; omega) | (show (-9223372036854775808 : Int) ≤ _ ∧ _ ≤ (9223372036854775807 : Int); omega) | decide) ?_
  (conv => whnf); refine (rSmall_ct (n / 4294967296) (by omega)).use ?_
  (conv => whnf); refine And.intro (by rw [leB_len, leB_len]; decide) ?_
  rw [leB8]
  exact Is2.mk rfl
theorem rBytes_ct (b : List UInt8) (h : b.length < 4294967296) : Ct Try.prog 56 [B8 b] [] (Is2 (sT (leB b.length 4 ++ b)) []) := by
  refine Ct.introF (E := E 9 0 [.tmp 2] [] [] []) tab_ok Try.call56 Try.func56 rfl rfl rfl rfl rfl (fun hin => ?_)
  have hl := bD_len b
  have c1 : Ct Try.prog 53 [i64 ((bytesD b).length : Nat)] [] (Is2 (sT (leB b.length 4)) []) := by rw [hl]; exact rSmall_ct b.length (by omega)
  (conv => whnf); refine DrawI.mkF 5 [[0], [3], [4], [0], [6]] (by decide +kernel) ?_
  repeat (first | refine DrawO.mkF _ (And.intro rfl rfl) ?_ | refine DrawO.mkF _ (Idx.mk _ rfl (And.intro rfl rfl)) ?_)
  refine DrawO.mkF _ (c1.use (And.intro rfl rfl)) ?_
  repeat (first | refine DrawO.mkF _ (And.intro rfl rfl) ?_ | refine DrawO.mkF _ (Idx.mk _ rfl (And.intro rfl rfl)) ?_)
  refine DrawO.mkF (sT b) ⟨b, rfl, And.intro rfl rfl⟩ ?_
  repeat (first | refine DrawO.mkF _ (And.intro rfl rfl) ?_ | refine DrawO.mkF _ (Idx.mk _ rfl (And.intro rfl rfl)) ?_)
  (conv => whnf); refine And.intro (by rw [leB_len]; omega) ?_
  exact Is2.mk rfl
end Go.Proofs.Ytidelnccggfmgaa.Let

/- The reference's letters: the check. -/
namespace Go.Proofs.Ytidelnccggfmgaa.Let
open Go.V Go.Num
open Go.Eng (wr)
set_option maxRecDepth 100000
set_option maxHeartbeats 4000000
theorem valW (x : UInt8) (m k : Nat) (hm : m < 4294967296) (hk : k < 8) :
    ((((wr .u64 ((m : Int) * 2 ^ min (Int.toNat 1) IntKind.u64.bits)).toNat ^^^ (wr .u64 ((((((x.toNat : Nat) : Int) / 2 ^ min (wr .u64 (k : Int)).toNat IntKind.u8.bits).toNat &&& Int.toNat 1 : Nat) : Int) * 2 ^ min (Int.toNat 32) IntKind.u64.bits)).toNat : Nat)) : Int) = ((2 * m ^^^ bq x k * 4294967296 : Nat) : Int) := by
  have e1 : wr .u64 ((m : Int) * 2 ^ min (Int.toNat 1) IntKind.u64.bits) = (m : Int) * 2 := by
    rw [show min (Int.toNat 1) IntKind.u64.bits = 1 from rfl, show (2 : Int) ^ 1 = 2 from rfl]; simp only [wr]; omega
  have e2 : (((x.toNat : Nat) : Int) / 2 ^ min (wr .u64 (k : Int)).toNat IntKind.u8.bits) = ((x.toNat / 2 ^ k : Nat) : Int) := by
    rw [show wr .u64 (k : Int) = k from by simp only [wr]; omega]
    exact shr_nat x.toNat (show k ≤ 8 by omega)
  have hb := bq_lt x k
  have e4 : wr .u64 (((bq x k : Nat) : Int) * 2 ^ min (Int.toNat 32) IntKind.u64.bits) = ((bq x k : Nat) : Int) * 4294967296 := by
    rw [show min (Int.toNat 32) IntKind.u64.bits = 32 from rfl, show (2 : Int) ^ 32 = 4294967296 from rfl]; simp only [wr]; omega
  rw [e1, e2, and1 (x.toNat / 2 ^ k)]
  show (((((m : Int) * 2).toNat ^^^ (wr .u64 (((bq x k : Nat) : Int) * 2 ^ min (Int.toNat 32) IntKind.u64.bits)).toNat : Nat)) : Int) = _
  rw [e4]
  exact xor33 m (bq x k)
theorem valO (q m i : Nat) (hq : q < 2147483648) (hi : i < 32) :
    ((((wr .u32 (((q : Nat) : Int) * 2 ^ min (Int.toNat 1) IntKind.u32.bits)).toNat ||| (wr .u32 ((((((m : Nat) : Int) / 2 ^ min (wr .u64 (i : Int)).toNat IntKind.u64.bits).toNat &&& Int.toNat 1 : Nat) : Int))).toNat : Nat)) : Int) = ((2 * q + m / 2 ^ i % 2 : Nat) : Int) := by
  have e1 : wr .u32 ((q : Int) * 2 ^ min (Int.toNat 1) IntKind.u32.bits) = (q : Int) * 2 := by
    rw [show min (Int.toNat 1) IntKind.u32.bits = 1 from rfl, show (2 : Int) ^ 1 = 2 from rfl]; simp only [wr]; omega
  have e2 : (((m : Nat) : Int) / 2 ^ min (wr .u64 (i : Int)).toNat IntKind.u64.bits) = ((m / 2 ^ i : Nat) : Int) := by
    rw [show wr .u64 (i : Int) = i from by simp only [wr]; omega]
    exact shr_nat m (show i ≤ 64 by omega)
  rw [e1, e2, and1 (m / 2 ^ i)]
  rw [show wr .u32 ((m / 2 ^ i % 2 : Nat) : Int) = ((m / 2 ^ i % 2 : Nat) : Int) from by simp only [wr]; omega]
  exact or1 q (m / 2 ^ i)
theorem rCheck_ct (s : List UInt8) : Ct Try.prog 54 [sT s] [] (Is2 (c32 (crc s : Nat)) []) := by
  refine Ct.introF (E := E 50 0 [.tmp 2] [(7, [0, 3, 4, 5])] [(3, [0, 3, 4]), (6, [0, 3, 4, 5]), (13, [3, 6, 7])] []) tab_ok Try.call54 Try.func54 rfl rfl rfl rfl rfl (fun hin => ?_)
  have hs : s.length ≤ 9223372036854775807 := hin.1
  (conv => whnf); refine LoopI.mk (fun q ws os => ∃ (i m : Nat), ws = [sT s, u64 (m : Nat), i64 i] ∧ os = [] ∧ i ≤ s.length ∧ Turned m (crcL (s.take i)) ∧ q = s.length - i) s.length ⟨0, 4294967295, rfl, rfl, Nat.zero_le _, (show Turned 4294967295 4294967295 from ⟨by decide, by decide, by decide⟩), rfl⟩ ?_
  rintro q _ _ ⟨i, m, rfl, rfl, h1, h2, rfl⟩
  (conv => whnf); refine cond_d (fun h3 => ?_) (fun h3 => ?_)
  · obtain ⟨x, hx⟩ : ∃ x, s[i]? = some x := ⟨s[i], List.getElem?_eq_getElem (by omega)⟩
    (conv => whnf); refine LoopI.mk (fun q ws os => ∃ (k m' : Nat), ws = [sT s, u64 (m' : Nat), i64 i, i64 k] ∧ os = [] ∧ k ≤ 8 ∧ m' = refB m x k ∧ q = 8 - k) 8 ⟨0, m, rfl, rfl, Nat.zero_le _, rfl, rfl⟩ ?_
    rintro q _ _ ⟨k, m', rfl, rfl, h4, h5, rfl⟩
    (conv => whnf); refine cond_d (fun h6 => ?_) (fun h6 => ?_)
    · have ht := turned_byte h2 x k
      rw [← h5] at ht
      have hm32 := ht.ln
      have hx' : s[((i : Nat) : Int).toNat]? = some x := by rw [Int.toNat_natCast]; exact hx
      (conv => whnf); refine JoinI.mk (fun ws os => ws = [sT s, u64 (refB m x (k + 1) : Nat), i64 i, i64 k] ∧ os = []) ?_ ?_
      · (conv => whnf); refine And.intro (by omega) (Idx.mk _ hx' ?_)
        (conv => whnf)
        rw [valW x m' k hm32 (by omega)]
        obtain ⟨W, hW⟩ : ∃ z, z = 2 * m' ^^^ bq x k * 4294967296 := ⟨_, rfl⟩
        have hr : refB m x (k + 1) = if W / 4294967296 = 1 then W ^^^ 4374732215 else W := by
          rw [hW, h5]; rfl
        rw [← hW]
        have e32 : (W : Int) / 2 ^ min (Int.toNat 32) IntKind.u64.bits = ((W / 4294967296 : Nat) : Int) := by
          rw [show min (Int.toNat 32) IntKind.u64.bits = 32 from rfl, show (2 : Int) ^ 32 = 4294967296 from rfl]; omega
        rw [e32]
        (conv => whnf); refine cond_d (fun h7 => ?_) (fun h7 => ?_)
        · (conv => whnf)
          refine ⟨?_, rfl⟩
          rw [hr, if_pos (by omega)]; rfl
        · (conv => whnf)
          refine ⟨?_, rfl⟩
          rw [hr, if_neg (by omega)]
      rintro _ _ ⟨rfl, rfl⟩
      (conv => whnf); refine And.intro (by first | omega | (dsimp only [List.length, cond]; omega) | (show (-9223372036854775808 : Int) ≤ _ ∧ _ ≤ (9223372036854775807 : Int); omega) | decide) ?_
      (conv => whnf)
      exact ⟨8 - (k + 1), by omega, k + 1, refB m x (k + 1), rfl, rfl, by omega, rfl, rfl⟩
    · obtain rfl : k = 8 := by omega
      (conv => whnf); refine And.intro (by first | omega | (dsimp only [List.length, cond]; omega) | (show (-9223372036854775808 : Int) ≤ _ ∧ _ ≤ (9223372036854775807 : Int); omega) | decide) ?_
      (conv => whnf)
      have ht := turned_byte h2 x 8
      rw [← h5, ← crcIt_8, ← crcL_take hx] at ht
      exact ⟨s.length - (i + 1), by omega, i + 1, m', rfl, rfl, by omega, ht, rfl⟩
  obtain rfl : i = s.length := by omega
  rw [List.take_of_length_le (Nat.le_refl _)] at h2
  have hc := crcL_lt s
  obtain ⟨C, hC⟩ : ∃ z, z = crcL s := ⟨_, rfl⟩
  rw [← hC] at h2 hc
  (conv => whnf); refine LoopI.mk (fun q ws os => ∃ i : Nat, ws = [u64 (m : Nat), c32 (C / 2 ^ (32 - i) : Nat), i64 i] ∧ os = [] ∧ i ≤ 32 ∧ q = 32 - i) 32 ⟨0, by rw [show C / 2 ^ (32 - 0) = 0 from Nat.div_eq_of_lt hc]; rfl, rfl, by decide, rfl⟩ ?_
  rintro q _ _ ⟨i, rfl, rfl, h4, rfl⟩
  (conv => whnf); refine cond_d (fun h5 => ?_) (fun h5 => ?_)
  · have hn := turned_next h2 (i := i) (by omega)
    (conv => whnf); refine And.intro (by first | omega | (dsimp only [List.length, cond]; omega) | (show (-9223372036854775808 : Int) ≤ _ ∧ _ ≤ (9223372036854775807 : Int); omega) | decide) ?_
    have hq : C / 2 ^ (32 - i) < 2147483648 := by
      refine Nat.div_lt_of_lt_mul ?_
      have h31 : (2 : Nat) ^ 1 ≤ 2 ^ (32 - i) := Nat.pow_le_pow_right (by decide) (by omega)
      omega
    (conv => whnf)
    refine ⟨32 - (i + 1), by omega, i + 1, ?_, rfl, by omega, rfl⟩
    rw [hn, valO _ m i hq (by omega)]; rfl
  · obtain rfl : i = 32 := by omega
    refine Is2.mk ?_
    have e : (C / 2 ^ (32 - 32) : Nat) = C := by rw [Nat.sub_self, Nat.pow_zero, Nat.div_one]
    rw [e]
    have : ((crc s : Nat) : Int) = Eng.hiK IntKind.u32 - (C : Nat) := by
      rw [show Eng.hiK IntKind.u32 = 4294967295 from rfl, hC]; unfold crc
      rw [hC] at hc; omega
    rw [this]
theorem rSealed_ct (s : List UInt8) (h : s.length ≤ 9223372036854775000) : Ct Try.prog 26 [sT s] [] (Is2 (sT (sealB s)) []) := by
  refine Ct.introF (E := E 9 0 [.tmp 2] [] [] []) tab_ok Try.call26 Try.func26 rfl rfl rfl rfl rfl (fun hin => ?_)
  (conv => whnf); refine (rCheck_ct s).use ?_
  have hc := crc_lt s
  (conv => whnf); refine (rSmall_ct (crc s : Nat) (by omega)).use ?_
  (conv => whnf); refine And.intro (by rw [leB_len]; omega) ?_
  exact Is2.mk rfl
end Go.Proofs.Ytidelnccggfmgaa.Let

/- Package words: donors, rising numbers. -/
namespace Go.Proofs.Ytidelnccggfmgaa.Wrd
open Go.V Go.Num
open Go.Eng (wr)
open Go.Proofs.Ytidelnccggfmgaa.Let
set_option maxRecDepth 100000
set_option maxHeartbeats 4000000
theorem who_ct (n : Int) : Ct Try.prog 90 [i64 n] [] (Is2 (.d (.bool (decide (1 ≤ n ∧ n ≤ 64)))) []) := by
  refine Ct.introF (E := E 9 0 [.tmp 2] [] [] []) tab_ok Try.call90 Try.func90 rfl rfl rfl rfl rfl (fun hin => ?_)
  (conv => whnf); refine cond_d (fun h => ?_) (fun h => ?_)
  · refine Is2.mk ?_
    simp [h]
  · refine Is2.mk ?_
    simp [h]
/-- A word: its kind, who says it, why; cards, parcels, vector, names, openings. -/
abbrev Card := Int × Int × Int
abbrev Parc := Int × Int × List UInt8
abbrev Opng := Int × Bool × List Int
structure Wd where
  k : Int
  f : Int
  y : Int
  c : List Card
  p : List Parc
  v : List Int
  h : List Int
  o : List Opng
def cardD (c : Card) : D := .agg [.int .i64 c.1, .int .u64 c.2.1, .int .u64 c.2.2]
def parcD (x : Parc) : D := .agg [.int .i64 x.1, .int .i64 x.2.1, .ro (bytesD x.2.2)]
def opngD (x : Opng) : D := .agg [.int .i64 x.1, .bool x.2.1, .ro (x.2.2.map (D.int .u64))]
abbrev wdD (w : Wd) : List D := [.int .i64 w.k, .int .i64 w.f, .int .i64 w.y, .ro (w.c.map cardD), .ro (w.p.map parcD), .ro (w.v.map (D.int .u32)), .ro (w.h.map (D.int .i64)), .ro (w.o.map opngD)]
abbrev wdO (w : Wd) : V.Obj := .vec 71 [i64 w.k, i64 w.f, i64 w.y, .d (.ro (w.c.map cardD)), .d (.ro (w.p.map parcD)), .d (.ro (w.v.map (D.int .u32))), .d (.ro (w.h.map (D.int .i64))), .d (.ro (w.o.map opngD))]
theorem map_at {α : Type} {l : List α} {f : α → D} {i : Nat} {x : α} (h : l[i]? = some x) : (l.map f)[(i : Int).toNat]? = some (f x) := by
  rw [Int.toNat_natCast, List.getElem?_map, h]; rfl
theorem get_some {α : Type} {l : List α} {i : Nat} (h : i < l.length) : ∃ x, l[i]? = some x := ⟨l[i], List.getElem?_eq_getElem h⟩
theorem getD_map {α : Type} {l : List α} {g : α → Int} {i : Nat} {x : α} (h : l[i]? = some x) : (l.map g).getD i 0 = g x := by
  rw [List.getD_eq_getElem?_getD, List.getElem?_map, h]; rfl
def risT (l : List Int) : Nat → Bool
  | 0 => true
  | k + 1 => risT l k && (decide (1 ≤ l.getD k 0 ∧ l.getD k 0 ≤ 64) && (decide (k = 0) || decide (l.getD (k - 1) 0 < l.getD k 0)))
theorem risT_false {l : List Int} {k m : Nat} (h : risT l k = false) (hm : k ≤ m) : risT l m = false := by
  induction m with
  | zero => have : k = 0 := by omega
            subst this; exact h
  | succ m ih =>
    by_cases e : k = m + 1
    · subst e; exact h
    · unfold risT; rw [ih (by omega), Bool.false_and]
theorem card_ct (w : Wd) (i : Nat) (hi : i < w.c.length) : Ct Try.prog 83 [.ptr 0 0, i64 i] [wdO w] (Is2 (i64 ((w.c.map (fun x : Card => x.1)).getD i 0)) [wdO w]) := by
  refine Ct.introF (E := E 14 1 [.tmp 4] [] [] []) tab_ok Try.call83 Try.func83 rfl rfl rfl rfl rfl (fun hin => ?_)
  obtain ⟨x, hx⟩ := get_some hi
  rw [getD_map hx]
  (conv => whnf); refine And.intro (by first | (simp; done) | (simp; omega)) (Idx.mk _ (map_at hx) ?_)
  (conv => whnf); refine Idx.mk _ rfl ?_
  exact Is2.mk rfl
theorem to_ct (w : Wd) (i : Nat) (hi : i < w.p.length) : Ct Try.prog 85 [.ptr 0 0, i64 i] [wdO w] (Is2 (i64 ((w.p.map (fun x : Parc => x.2.1)).getD i 0)) [wdO w]) := by
  refine Ct.introF (E := E 14 1 [.tmp 4] [] [] []) tab_ok Try.call85 Try.func85 rfl rfl rfl rfl rfl (fun hin => ?_)
  obtain ⟨x, hx⟩ := get_some hi
  rw [getD_map hx]
  (conv => whnf); refine And.intro (by first | (simp; done) | (simp; omega)) (Idx.mk _ (map_at hx) ?_)
  (conv => whnf); refine Idx.mk _ rfl ?_
  exact Is2.mk rfl
theorem from_ct (w : Wd) (i : Nat) (hi : i < w.p.length) : Ct Try.prog 86 [.ptr 0 0, i64 i] [wdO w] (Is2 (i64 ((w.p.map (fun x : Parc => x.1)).getD i 0)) [wdO w]) := by
  refine Ct.introF (E := E 14 1 [.tmp 4] [] [] []) tab_ok Try.call86 Try.func86 rfl rfl rfl rfl rfl (fun hin => ?_)
  obtain ⟨x, hx⟩ := get_some hi
  rw [getD_map hx]
  (conv => whnf); refine And.intro (by first | (simp; done) | (simp; omega)) (Idx.mk _ (map_at hx) ?_)
  (conv => whnf); refine Idx.mk _ rfl ?_
  exact Is2.mk rfl
theorem named_ct (w : Wd) (i : Nat) (hi : i < w.h.length) : Ct Try.prog 87 [.ptr 0 0, i64 i] [wdO w] (Is2 (i64 ((w.h.map (fun x : Int => x)).getD i 0)) [wdO w]) := by
  refine Ct.introF (E := E 13 1 [.tmp 4] [] [] []) tab_ok Try.call87 Try.func87 rfl rfl rfl rfl rfl (fun hin => ?_)
  obtain ⟨x, hx⟩ := get_some hi
  rw [getD_map hx]
  (conv => whnf); refine And.intro (by first | (simp; done) | (simp; omega)) (Idx.mk _ (map_at hx) ?_)
  (conv => whnf); refine Idx.mk _ rfl ?_
  exact Is2.mk rfl
theorem opened_ct (w : Wd) (i : Nat) (hi : i < w.o.length) : Ct Try.prog 91 [.ptr 0 0, i64 i] [wdO w] (Is2 (i64 ((w.o.map (fun x : Opng => x.1)).getD i 0)) [wdO w]) := by
  refine Ct.introF (E := E 14 1 [.tmp 4] [] [] []) tab_ok Try.call91 Try.func91 rfl rfl rfl rfl rfl (fun hin => ?_)
  obtain ⟨x, hx⟩ := get_some hi
  rw [getD_map hx]
  (conv => whnf); refine And.intro (by first | (simp; done) | (simp; omega)) (Idx.mk _ (map_at hx) ?_)
  (conv => whnf); refine Idx.mk _ rfl ?_
  exact Is2.mk rfl
theorem rising_card (w : Wd) (l : List Int) (hg : ∀ i, i < l.length → Ct Try.prog 83 [.ptr 0 0, i64 i] [wdO w] (Is2 (i64 (l.getD i 0)) [wdO w])) : Ct Try.prog 82 [i64 l.length, .fn 83 [.ptr 0 0] []] [wdO w] (Is2 (.d (.bool (risT l l.length))) [wdO w]) := by
  refine Ct.introF (E := E 30 1 [.tmp 4] [] [(2, [1, 6, 7])] []) tab_ok Try.call82 Try.func82 rfl rfl rfl rfl rfl (fun hin => ?_)
  have hb : (l.length : Int) ≤ 9223372036854775807 := hin.1.2
  (conv => whnf); refine LoopI.mk (fun q ws os => ∃ i : Nat, ws = [.fn 83 [.ptr 0 0] [], i64 l.length, i64 i] ∧ os = [wdO w] ∧ i ≤ l.length ∧ risT l i = true ∧ q = l.length - i) l.length ⟨0, rfl, rfl, Nat.zero_le _, rfl, rfl⟩ ?_
  rintro q _ _ ⟨i, rfl, rfl, h1, h2, rfl⟩
  (conv => whnf); refine cond_d (fun h3 => ?_) (fun h3 => ?_)
  · (conv => whnf); refine (hg i (by omega)).use ?_
    (conv => whnf); refine (who_ct (l.getD i 0)).use ?_
    have hn : risT l (i + 1) = (decide (1 ≤ l.getD i 0 ∧ l.getD i 0 ≤ 64) && (decide (i = 0) || decide (l.getD (i - 1) 0 < l.getD i 0))) := by
      show (risT l i && _) = _
      rw [h2, Bool.true_and]
    (conv => whnf); refine cond_nd (fun h4 => ?_) (fun h4 => ?_)
    · rw [risT_false (k := i + 1) (by rw [hn, decide_eq_false h4, Bool.false_and]) (by omega)]
      exact Is2.mk rfl
    rw [decide_eq_true h4, Bool.true_and] at hn
    (conv => whnf); refine cond_d (fun h5 => ?_) (fun h5 => ?_)
    · (conv => whnf); refine (hg i (by omega)).use ?_
      (conv => whnf); refine And.intro (by first | omega | (dsimp only [List.length, cond]; omega) | (show (-9223372036854775808 : Int) ≤ _ ∧ _ ≤ (9223372036854775807 : Int); omega) | decide) ?_
      rw [show (i : Int) - 1 = ((i - 1 : Nat) : Int) from by omega]
      (conv => whnf); refine (hg (i - 1) (by omega)).use ?_
      rw [decide_eq_false (show ¬ i = 0 by omega), Bool.false_or] at hn
      (conv => whnf); refine cond_d (fun h6 => ?_) (fun h6 => ?_)
      · rw [risT_false (k := i + 1) (by rw [hn, decide_eq_false (by omega)]) (by omega)]
        exact Is2.mk rfl
      (conv => whnf); refine And.intro (by first | omega | (dsimp only [List.length, cond]; omega) | (show (-9223372036854775808 : Int) ≤ _ ∧ _ ≤ (9223372036854775807 : Int); omega) | decide) ?_
      (conv => whnf)
      exact ⟨l.length - (i + 1), by omega, i + 1, rfl, rfl, by omega, by rw [hn, decide_eq_true (by omega)], rfl⟩
    · obtain rfl : i = 0 := by omega
      (conv => whnf); refine And.intro (by first | omega | (dsimp only [List.length, cond]; omega) | (show (-9223372036854775808 : Int) ≤ _ ∧ _ ≤ (9223372036854775807 : Int); omega) | decide) ?_
      (conv => whnf)
      exact ⟨l.length - (0 + 1), by omega, 0 + 1, rfl, rfl, by omega, by rw [hn]; rfl, rfl⟩
  · obtain rfl : i = l.length := by omega
    rw [h2]
    exact Is2.mk rfl
theorem rising_to (w : Wd) (l : List Int) (hg : ∀ i, i < l.length → Ct Try.prog 85 [.ptr 0 0, i64 i] [wdO w] (Is2 (i64 (l.getD i 0)) [wdO w])) : Ct Try.prog 82 [i64 l.length, .fn 85 [.ptr 0 0] []] [wdO w] (Is2 (.d (.bool (risT l l.length))) [wdO w]) := by
  refine Ct.introF (E := E 30 1 [.tmp 4] [] [(2, [1, 6, 7])] []) tab_ok Try.call82 Try.func82 rfl rfl rfl rfl rfl (fun hin => ?_)
  have hb : (l.length : Int) ≤ 9223372036854775807 := hin.1.2
  (conv => whnf); refine LoopI.mk (fun q ws os => ∃ i : Nat, ws = [.fn 85 [.ptr 0 0] [], i64 l.length, i64 i] ∧ os = [wdO w] ∧ i ≤ l.length ∧ risT l i = true ∧ q = l.length - i) l.length ⟨0, rfl, rfl, Nat.zero_le _, rfl, rfl⟩ ?_
  rintro q _ _ ⟨i, rfl, rfl, h1, h2, rfl⟩
  (conv => whnf); refine cond_d (fun h3 => ?_) (fun h3 => ?_)
  · (conv => whnf); refine (hg i (by omega)).use ?_
    (conv => whnf); refine (who_ct (l.getD i 0)).use ?_
    have hn : risT l (i + 1) = (decide (1 ≤ l.getD i 0 ∧ l.getD i 0 ≤ 64) && (decide (i = 0) || decide (l.getD (i - 1) 0 < l.getD i 0))) := by
      show (risT l i && _) = _
      rw [h2, Bool.true_and]
    (conv => whnf); refine cond_nd (fun h4 => ?_) (fun h4 => ?_)
    · rw [risT_false (k := i + 1) (by rw [hn, decide_eq_false h4, Bool.false_and]) (by omega)]
      exact Is2.mk rfl
    rw [decide_eq_true h4, Bool.true_and] at hn
    (conv => whnf); refine cond_d (fun h5 => ?_) (fun h5 => ?_)
    · (conv => whnf); refine (hg i (by omega)).use ?_
      (conv => whnf); refine And.intro (by first | omega | (dsimp only [List.length, cond]; omega) | (show (-9223372036854775808 : Int) ≤ _ ∧ _ ≤ (9223372036854775807 : Int); omega) | decide) ?_
      rw [show (i : Int) - 1 = ((i - 1 : Nat) : Int) from by omega]
      (conv => whnf); refine (hg (i - 1) (by omega)).use ?_
      rw [decide_eq_false (show ¬ i = 0 by omega), Bool.false_or] at hn
      (conv => whnf); refine cond_d (fun h6 => ?_) (fun h6 => ?_)
      · rw [risT_false (k := i + 1) (by rw [hn, decide_eq_false (by omega)]) (by omega)]
        exact Is2.mk rfl
      (conv => whnf); refine And.intro (by first | omega | (dsimp only [List.length, cond]; omega) | (show (-9223372036854775808 : Int) ≤ _ ∧ _ ≤ (9223372036854775807 : Int); omega) | decide) ?_
      (conv => whnf)
      exact ⟨l.length - (i + 1), by omega, i + 1, rfl, rfl, by omega, by rw [hn, decide_eq_true (by omega)], rfl⟩
    · obtain rfl : i = 0 := by omega
      (conv => whnf); refine And.intro (by first | omega | (dsimp only [List.length, cond]; omega) | (show (-9223372036854775808 : Int) ≤ _ ∧ _ ≤ (9223372036854775807 : Int); omega) | decide) ?_
      (conv => whnf)
      exact ⟨l.length - (0 + 1), by omega, 0 + 1, rfl, rfl, by omega, by rw [hn]; rfl, rfl⟩
  · obtain rfl : i = l.length := by omega
    rw [h2]
    exact Is2.mk rfl
theorem rising_from (w : Wd) (l : List Int) (hg : ∀ i, i < l.length → Ct Try.prog 86 [.ptr 0 0, i64 i] [wdO w] (Is2 (i64 (l.getD i 0)) [wdO w])) : Ct Try.prog 82 [i64 l.length, .fn 86 [.ptr 0 0] []] [wdO w] (Is2 (.d (.bool (risT l l.length))) [wdO w]) := by
  refine Ct.introF (E := E 30 1 [.tmp 4] [] [(2, [1, 6, 7])] []) tab_ok Try.call82 Try.func82 rfl rfl rfl rfl rfl (fun hin => ?_)
  have hb : (l.length : Int) ≤ 9223372036854775807 := hin.1.2
  (conv => whnf); refine LoopI.mk (fun q ws os => ∃ i : Nat, ws = [.fn 86 [.ptr 0 0] [], i64 l.length, i64 i] ∧ os = [wdO w] ∧ i ≤ l.length ∧ risT l i = true ∧ q = l.length - i) l.length ⟨0, rfl, rfl, Nat.zero_le _, rfl, rfl⟩ ?_
  rintro q _ _ ⟨i, rfl, rfl, h1, h2, rfl⟩
  (conv => whnf); refine cond_d (fun h3 => ?_) (fun h3 => ?_)
  · (conv => whnf); refine (hg i (by omega)).use ?_
    (conv => whnf); refine (who_ct (l.getD i 0)).use ?_
    have hn : risT l (i + 1) = (decide (1 ≤ l.getD i 0 ∧ l.getD i 0 ≤ 64) && (decide (i = 0) || decide (l.getD (i - 1) 0 < l.getD i 0))) := by
      show (risT l i && _) = _
      rw [h2, Bool.true_and]
    (conv => whnf); refine cond_nd (fun h4 => ?_) (fun h4 => ?_)
    · rw [risT_false (k := i + 1) (by rw [hn, decide_eq_false h4, Bool.false_and]) (by omega)]
      exact Is2.mk rfl
    rw [decide_eq_true h4, Bool.true_and] at hn
    (conv => whnf); refine cond_d (fun h5 => ?_) (fun h5 => ?_)
    · (conv => whnf); refine (hg i (by omega)).use ?_
      (conv => whnf); refine And.intro (by first | omega | (dsimp only [List.length, cond]; omega) | (show (-9223372036854775808 : Int) ≤ _ ∧ _ ≤ (9223372036854775807 : Int); omega) | decide) ?_
      rw [show (i : Int) - 1 = ((i - 1 : Nat) : Int) from by omega]
      (conv => whnf); refine (hg (i - 1) (by omega)).use ?_
      rw [decide_eq_false (show ¬ i = 0 by omega), Bool.false_or] at hn
      (conv => whnf); refine cond_d (fun h6 => ?_) (fun h6 => ?_)
      · rw [risT_false (k := i + 1) (by rw [hn, decide_eq_false (by omega)]) (by omega)]
        exact Is2.mk rfl
      (conv => whnf); refine And.intro (by first | omega | (dsimp only [List.length, cond]; omega) | (show (-9223372036854775808 : Int) ≤ _ ∧ _ ≤ (9223372036854775807 : Int); omega) | decide) ?_
      (conv => whnf)
      exact ⟨l.length - (i + 1), by omega, i + 1, rfl, rfl, by omega, by rw [hn, decide_eq_true (by omega)], rfl⟩
    · obtain rfl : i = 0 := by omega
      (conv => whnf); refine And.intro (by first | omega | (dsimp only [List.length, cond]; omega) | (show (-9223372036854775808 : Int) ≤ _ ∧ _ ≤ (9223372036854775807 : Int); omega) | decide) ?_
      (conv => whnf)
      exact ⟨l.length - (0 + 1), by omega, 0 + 1, rfl, rfl, by omega, by rw [hn]; rfl, rfl⟩
  · obtain rfl : i = l.length := by omega
    rw [h2]
    exact Is2.mk rfl
theorem rising_named (w : Wd) (l : List Int) (hg : ∀ i, i < l.length → Ct Try.prog 87 [.ptr 0 0, i64 i] [wdO w] (Is2 (i64 (l.getD i 0)) [wdO w])) : Ct Try.prog 82 [i64 l.length, .fn 87 [.ptr 0 0] []] [wdO w] (Is2 (.d (.bool (risT l l.length))) [wdO w]) := by
  refine Ct.introF (E := E 30 1 [.tmp 4] [] [(2, [1, 6, 7])] []) tab_ok Try.call82 Try.func82 rfl rfl rfl rfl rfl (fun hin => ?_)
  have hb : (l.length : Int) ≤ 9223372036854775807 := hin.1.2
  (conv => whnf); refine LoopI.mk (fun q ws os => ∃ i : Nat, ws = [.fn 87 [.ptr 0 0] [], i64 l.length, i64 i] ∧ os = [wdO w] ∧ i ≤ l.length ∧ risT l i = true ∧ q = l.length - i) l.length ⟨0, rfl, rfl, Nat.zero_le _, rfl, rfl⟩ ?_
  rintro q _ _ ⟨i, rfl, rfl, h1, h2, rfl⟩
  (conv => whnf); refine cond_d (fun h3 => ?_) (fun h3 => ?_)
  · (conv => whnf); refine (hg i (by omega)).use ?_
    (conv => whnf); refine (who_ct (l.getD i 0)).use ?_
    have hn : risT l (i + 1) = (decide (1 ≤ l.getD i 0 ∧ l.getD i 0 ≤ 64) && (decide (i = 0) || decide (l.getD (i - 1) 0 < l.getD i 0))) := by
      show (risT l i && _) = _
      rw [h2, Bool.true_and]
    (conv => whnf); refine cond_nd (fun h4 => ?_) (fun h4 => ?_)
    · rw [risT_false (k := i + 1) (by rw [hn, decide_eq_false h4, Bool.false_and]) (by omega)]
      exact Is2.mk rfl
    rw [decide_eq_true h4, Bool.true_and] at hn
    (conv => whnf); refine cond_d (fun h5 => ?_) (fun h5 => ?_)
    · (conv => whnf); refine (hg i (by omega)).use ?_
      (conv => whnf); refine And.intro (by first | omega | (dsimp only [List.length, cond]; omega) | (show (-9223372036854775808 : Int) ≤ _ ∧ _ ≤ (9223372036854775807 : Int); omega) | decide) ?_
      rw [show (i : Int) - 1 = ((i - 1 : Nat) : Int) from by omega]
      (conv => whnf); refine (hg (i - 1) (by omega)).use ?_
      rw [decide_eq_false (show ¬ i = 0 by omega), Bool.false_or] at hn
      (conv => whnf); refine cond_d (fun h6 => ?_) (fun h6 => ?_)
      · rw [risT_false (k := i + 1) (by rw [hn, decide_eq_false (by omega)]) (by omega)]
        exact Is2.mk rfl
      (conv => whnf); refine And.intro (by first | omega | (dsimp only [List.length, cond]; omega) | (show (-9223372036854775808 : Int) ≤ _ ∧ _ ≤ (9223372036854775807 : Int); omega) | decide) ?_
      (conv => whnf)
      exact ⟨l.length - (i + 1), by omega, i + 1, rfl, rfl, by omega, by rw [hn, decide_eq_true (by omega)], rfl⟩
    · obtain rfl : i = 0 := by omega
      (conv => whnf); refine And.intro (by first | omega | (dsimp only [List.length, cond]; omega) | (show (-9223372036854775808 : Int) ≤ _ ∧ _ ≤ (9223372036854775807 : Int); omega) | decide) ?_
      (conv => whnf)
      exact ⟨l.length - (0 + 1), by omega, 0 + 1, rfl, rfl, by omega, by rw [hn]; rfl, rfl⟩
  · obtain rfl : i = l.length := by omega
    rw [h2]
    exact Is2.mk rfl
theorem rising_opened (w : Wd) (l : List Int) (hg : ∀ i, i < l.length → Ct Try.prog 91 [.ptr 0 0, i64 i] [wdO w] (Is2 (i64 (l.getD i 0)) [wdO w])) : Ct Try.prog 82 [i64 l.length, .fn 91 [.ptr 0 0] []] [wdO w] (Is2 (.d (.bool (risT l l.length))) [wdO w]) := by
  refine Ct.introF (E := E 30 1 [.tmp 4] [] [(2, [1, 6, 7])] []) tab_ok Try.call82 Try.func82 rfl rfl rfl rfl rfl (fun hin => ?_)
  have hb : (l.length : Int) ≤ 9223372036854775807 := hin.1.2
  (conv => whnf); refine LoopI.mk (fun q ws os => ∃ i : Nat, ws = [.fn 91 [.ptr 0 0] [], i64 l.length, i64 i] ∧ os = [wdO w] ∧ i ≤ l.length ∧ risT l i = true ∧ q = l.length - i) l.length ⟨0, rfl, rfl, Nat.zero_le _, rfl, rfl⟩ ?_
  rintro q _ _ ⟨i, rfl, rfl, h1, h2, rfl⟩
  (conv => whnf); refine cond_d (fun h3 => ?_) (fun h3 => ?_)
  · (conv => whnf); refine (hg i (by omega)).use ?_
    (conv => whnf); refine (who_ct (l.getD i 0)).use ?_
    have hn : risT l (i + 1) = (decide (1 ≤ l.getD i 0 ∧ l.getD i 0 ≤ 64) && (decide (i = 0) || decide (l.getD (i - 1) 0 < l.getD i 0))) := by
      show (risT l i && _) = _
      rw [h2, Bool.true_and]
    (conv => whnf); refine cond_nd (fun h4 => ?_) (fun h4 => ?_)
    · rw [risT_false (k := i + 1) (by rw [hn, decide_eq_false h4, Bool.false_and]) (by omega)]
      exact Is2.mk rfl
    rw [decide_eq_true h4, Bool.true_and] at hn
    (conv => whnf); refine cond_d (fun h5 => ?_) (fun h5 => ?_)
    · (conv => whnf); refine (hg i (by omega)).use ?_
      (conv => whnf); refine And.intro (by first | omega | (dsimp only [List.length, cond]; omega) | (show (-9223372036854775808 : Int) ≤ _ ∧ _ ≤ (9223372036854775807 : Int); omega) | decide) ?_
      rw [show (i : Int) - 1 = ((i - 1 : Nat) : Int) from by omega]
      (conv => whnf); refine (hg (i - 1) (by omega)).use ?_
      rw [decide_eq_false (show ¬ i = 0 by omega), Bool.false_or] at hn
      (conv => whnf); refine cond_d (fun h6 => ?_) (fun h6 => ?_)
      · rw [risT_false (k := i + 1) (by rw [hn, decide_eq_false (by omega)]) (by omega)]
        exact Is2.mk rfl
      (conv => whnf); refine And.intro (by first | omega | (dsimp only [List.length, cond]; omega) | (show (-9223372036854775808 : Int) ≤ _ ∧ _ ≤ (9223372036854775807 : Int); omega) | decide) ?_
      (conv => whnf)
      exact ⟨l.length - (i + 1), by omega, i + 1, rfl, rfl, by omega, by rw [hn, decide_eq_true (by omega)], rfl⟩
    · obtain rfl : i = 0 := by omega
      (conv => whnf); refine And.intro (by first | omega | (dsimp only [List.length, cond]; omega) | (show (-9223372036854775808 : Int) ≤ _ ∧ _ ≤ (9223372036854775807 : Int); omega) | decide) ?_
      (conv => whnf)
      exact ⟨l.length - (0 + 1), by omega, 0 + 1, rfl, rfl, by omega, by rw [hn]; rfl, rfl⟩
  · obtain rfl : i = l.length := by omega
    rw [h2]
    exact Is2.mk rfl
theorem ris_card (w : Wd) : Ct Try.prog 82 [i64 w.c.length, .fn 83 [.ptr 0 0] []] [wdO w] (Is2 (.d (.bool (risT (w.c.map (fun x : Card => x.1)) w.c.length))) [wdO w]) := by
  have := rising_card w (w.c.map (fun x : Card => x.1)) (fun i hi => card_ct w i (by simpa using hi))
  rw [List.length_map] at this; exact this
theorem ris_to (w : Wd) : Ct Try.prog 82 [i64 w.p.length, .fn 85 [.ptr 0 0] []] [wdO w] (Is2 (.d (.bool (risT (w.p.map (fun x : Parc => x.2.1)) w.p.length))) [wdO w]) := by
  have := rising_to w (w.p.map (fun x : Parc => x.2.1)) (fun i hi => to_ct w i (by simpa using hi))
  rw [List.length_map] at this; exact this
theorem ris_from (w : Wd) : Ct Try.prog 82 [i64 w.p.length, .fn 86 [.ptr 0 0] []] [wdO w] (Is2 (.d (.bool (risT (w.p.map (fun x : Parc => x.1)) w.p.length))) [wdO w]) := by
  have := rising_from w (w.p.map (fun x : Parc => x.1)) (fun i hi => from_ct w i (by simpa using hi))
  rw [List.length_map] at this; exact this
theorem ris_named (w : Wd) : Ct Try.prog 82 [i64 w.h.length, .fn 87 [.ptr 0 0] []] [wdO w] (Is2 (.d (.bool (risT (w.h.map (fun x : Int => x)) w.h.length))) [wdO w]) := by
  have := rising_named w (w.h.map (fun x : Int => x)) (fun i hi => named_ct w i (by simpa using hi))
  rw [List.length_map] at this; exact this
theorem ris_opened (w : Wd) : Ct Try.prog 82 [i64 w.o.length, .fn 91 [.ptr 0 0] []] [wdO w] (Is2 (.d (.bool (risT (w.o.map (fun x : Opng => x.1)) w.o.length))) [wdO w]) := by
  have := rising_opened w (w.o.map (fun x : Opng => x.1)) (fun i hi => opened_ct w i (by simpa using hi))
  rw [List.length_map] at this; exact this
end Go.Proofs.Ytidelnccggfmgaa.Wrd

/- Package words: parcels, openings. -/
namespace Go.Proofs.Ytidelnccggfmgaa.Wrd
open Go.V Go.Num
open Go.Eng (wr)
open Go.Proofs.Ytidelnccggfmgaa.Let
set_option maxRecDepth 100000
set_option maxHeartbeats 4000000
def parB (g : Parc → Int) (p : List Parc) : Bool := p.all fun x => decide (1 ≤ g x ∧ g x ≤ 64) && decide (x.2.2.length ≤ 64)
theorem parB_false {g : Parc → Int} {p : List Parc} {i : Nat} {x : Parc} (h : p[i]? = some x) (hx : (decide (1 ≤ g x ∧ g x ≤ 64) && decide (x.2.2.length ≤ 64)) = false) : parB g p = false := by
  cases e : parB g p with
  | false => rfl
  | true =>
    unfold parB at e
    have := List.all_eq_true.1 e x (List.mem_of_getElem? h)
    rw [hx] at this; cases this
theorem parB_true {g : Parc → Int} {p : List Parc} (h : ∀ (i : Nat) (x : Parc), p[i]? = some x → (decide (1 ≤ g x ∧ g x ≤ 64) && decide (x.2.2.length ≤ 64)) = true) : parB g p = true := by
  unfold parB
  rw [List.all_eq_true]
  intro x hx
  obtain ⟨i, hi⟩ := List.getElem?_of_mem hx
  exact h i x hi
theorem parcels_to (w : Wd) (hb : w.p.length ≤ 9223372036854775807) : Ct Try.prog 84 [.ptr 0 0, .fn 85 [.ptr 0 0] [], .fn 86 [.ptr 0 0] []] [wdO w] (Is2 (.d (.bool (parB (fun x : Parc => x.1) w.p && risT (w.p.map (fun x : Parc => x.2.1)) w.p.length))) [wdO w]) := by
  refine Ct.introF (E := E 40 1 [.tmp 6] [] [(2, [0, 1, 2, 13, 14, 15])] []) tab_ok Try.call84 Try.func84 rfl rfl rfl rfl rfl (fun hin => ?_)
  have hlp : (w.p.map parcD).length = w.p.length := List.length_map _
  (conv => whnf); refine LoopI.mk (fun q ws os => ∃ i : Nat, ws = [.ptr 0 0, .fn 85 [.ptr 0 0] [], .fn 86 [.ptr 0 0] [], .d (.ro (w.p.map parcD)), i64 w.p.length, i64 i] ∧ os = [wdO w] ∧ i ≤ w.p.length ∧ (∀ j x, j < i → w.p[j]? = some x → (decide (1 ≤ (fun x : Parc => x.1) x ∧ (fun x : Parc => x.1) x ≤ 64) && decide (x.2.2.length ≤ 64)) = true) ∧ q = w.p.length - i) w.p.length ⟨0, by rw [hlp]; rfl, rfl, Nat.zero_le _, fun j x h => by omega, rfl⟩ ?_
  rintro q _ _ ⟨i, rfl, rfl, h1, h2, rfl⟩
  (conv => whnf); refine cond_d (fun h3 => ?_) (fun h3 => ?_)
  · obtain ⟨x, hx⟩ := get_some (l := w.p) (i := i) (by omega)
    (conv => whnf); refine And.intro (by omega) (Idx.mk _ (map_at hx) ?_)
    have hc := from_ct w i (by omega)
    rw [getD_map hx] at hc
    (conv => whnf); refine (hc).use ?_
    (conv => whnf); refine (who_ct ((fun x : Parc => x.1) x)).use ?_
    (conv => whnf); refine cond_nd (fun h4 => ?_) (fun h4 => ?_)
    · rw [parB_false hx (by rw [decide_eq_false h4, Bool.false_and])]
      exact Is2.mk rfl
    have hl := bD_len x.2.2
    (conv => whnf); refine cond_d (fun h5 => ?_) (fun h5 => ?_)
    · rw [parB_false hx (by rw [decide_eq_false (p := x.2.2.length ≤ 64) (by omega), Bool.and_false])]
      exact Is2.mk rfl
    (conv => whnf); refine And.intro (by first | omega | (dsimp only [List.length, cond]; omega) | (show (-9223372036854775808 : Int) ≤ _ ∧ _ ≤ (9223372036854775807 : Int); omega) | decide) ?_
    (conv => whnf)
    refine ⟨w.p.length - (i + 1), by omega, i + 1, rfl, rfl, by omega, fun j y hj hy => ?_, rfl⟩
    by_cases e : j = i
    · subst e
      rw [hx] at hy; cases hy
      rw [decide_eq_true h4, decide_eq_true (by omega)]; rfl
    · exact h2 j y (by omega) hy
  · obtain rfl : i = w.p.length := by omega
    rw [parB_true (fun j y hy => h2 j y (List.getElem?_eq_some_iff.1 hy).1 hy), Bool.true_and]
    have hr : Ct Try.prog 82 [i64 ((w.p.map parcD).length : Nat), .fn 85 [.ptr 0 0] []] [wdO w] (Is2 (.d (.bool (risT (w.p.map (fun x : Parc => x.2.1)) w.p.length))) [wdO w]) := by rw [hlp]; exact ris_to w
    (conv => whnf); refine (hr).use ?_
    exact Is2.mk rfl
theorem parcels_from (w : Wd) (hb : w.p.length ≤ 9223372036854775807) : Ct Try.prog 84 [.ptr 0 0, .fn 86 [.ptr 0 0] [], .fn 85 [.ptr 0 0] []] [wdO w] (Is2 (.d (.bool (parB (fun x : Parc => x.2.1) w.p && risT (w.p.map (fun x : Parc => x.1)) w.p.length))) [wdO w]) := by
  refine Ct.introF (E := E 40 1 [.tmp 6] [] [(2, [0, 1, 2, 13, 14, 15])] []) tab_ok Try.call84 Try.func84 rfl rfl rfl rfl rfl (fun hin => ?_)
  have hlp : (w.p.map parcD).length = w.p.length := List.length_map _
  (conv => whnf); refine LoopI.mk (fun q ws os => ∃ i : Nat, ws = [.ptr 0 0, .fn 86 [.ptr 0 0] [], .fn 85 [.ptr 0 0] [], .d (.ro (w.p.map parcD)), i64 w.p.length, i64 i] ∧ os = [wdO w] ∧ i ≤ w.p.length ∧ (∀ j x, j < i → w.p[j]? = some x → (decide (1 ≤ (fun x : Parc => x.2.1) x ∧ (fun x : Parc => x.2.1) x ≤ 64) && decide (x.2.2.length ≤ 64)) = true) ∧ q = w.p.length - i) w.p.length ⟨0, by rw [hlp]; rfl, rfl, Nat.zero_le _, fun j x h => by omega, rfl⟩ ?_
  rintro q _ _ ⟨i, rfl, rfl, h1, h2, rfl⟩
  (conv => whnf); refine cond_d (fun h3 => ?_) (fun h3 => ?_)
  · obtain ⟨x, hx⟩ := get_some (l := w.p) (i := i) (by omega)
    (conv => whnf); refine And.intro (by omega) (Idx.mk _ (map_at hx) ?_)
    have hc := to_ct w i (by omega)
    rw [getD_map hx] at hc
    (conv => whnf); refine (hc).use ?_
    (conv => whnf); refine (who_ct ((fun x : Parc => x.2.1) x)).use ?_
    (conv => whnf); refine cond_nd (fun h4 => ?_) (fun h4 => ?_)
    · rw [parB_false hx (by rw [decide_eq_false h4, Bool.false_and])]
      exact Is2.mk rfl
    have hl := bD_len x.2.2
    (conv => whnf); refine cond_d (fun h5 => ?_) (fun h5 => ?_)
    · rw [parB_false hx (by rw [decide_eq_false (p := x.2.2.length ≤ 64) (by omega), Bool.and_false])]
      exact Is2.mk rfl
    (conv => whnf); refine And.intro (by first | omega | (dsimp only [List.length, cond]; omega) | (show (-9223372036854775808 : Int) ≤ _ ∧ _ ≤ (9223372036854775807 : Int); omega) | decide) ?_
    (conv => whnf)
    refine ⟨w.p.length - (i + 1), by omega, i + 1, rfl, rfl, by omega, fun j y hj hy => ?_, rfl⟩
    by_cases e : j = i
    · subst e
      rw [hx] at hy; cases hy
      rw [decide_eq_true h4, decide_eq_true (by omega)]; rfl
    · exact h2 j y (by omega) hy
  · obtain rfl : i = w.p.length := by omega
    rw [parB_true (fun j y hy => h2 j y (List.getElem?_eq_some_iff.1 hy).1 hy), Bool.true_and]
    have hr : Ct Try.prog 82 [i64 ((w.p.map parcD).length : Nat), .fn 86 [.ptr 0 0] []] [wdO w] (Is2 (.d (.bool (risT (w.p.map (fun x : Parc => x.1)) w.p.length))) [wdO w]) := by rw [hlp]; exact ris_from w
    (conv => whnf); refine (hr).use ?_
    exact Is2.mk rfl
end Go.Proofs.Ytidelnccggfmgaa.Wrd

/- Package words: openings, which words may be said. -/
namespace Go.Proofs.Ytidelnccggfmgaa.Wrd
open Go.V Go.Num
open Go.Eng (wr)
open Go.Proofs.Ytidelnccggfmgaa.Let
set_option maxRecDepth 100000
set_option maxHeartbeats 4000000
theorem any_take {α : Type} {f : α → Bool} {xs : List α} {i : Nat} {x : α} (h : xs[i]? = some x) : (xs.take (i + 1)).any f = ((xs.take i).any f || f x) := by
  rw [List.take_add_one, List.any_append, h]; simp
theorem vals_ct (x : Opng) : Ct Try.prog 93 [.d (opngD x)] [] (Is2 (.d (.bool (decide (5 < x.2.2.length)))) []) := by
  refine Ct.introF (E := E 7 0 [.tmp 2] [] [] []) tab_ok Try.call93 Try.func93 rfl rfl rfl rfl rfl (fun hin => ?_)
  have hl : (x.2.2.map (D.int .u64)).length = x.2.2.length := List.length_map _
  refine Is2.mk ?_
  rw [hl, decide_eq_decide.2 (show (5 : Int) < (x.2.2.length : Nat) ↔ 5 < x.2.2.length by omega)]
theorem od_len (o : List Opng) : (o.map opngD).length = o.length := List.length_map _
theorem od_get {o : List Opng} {i : Nat} (h : i < o.length) : (o.map opngD)[((i : Nat) : Int).toNat]? = some (opngD (o.getD i (0, false, []))) := by
  rw [Int.toNat_natCast, List.getElem?_map, List.getD_eq_getElem?_getD, List.getElem?_eq_getElem h]; rfl
theorem manyIdx_ct (o : List Opng) : Ct Try.prog 94 [.d (.ro (o.map opngD)), .fn 93 [] []] [] (fun r os => ∃ k : Int, r = i64 k ∧ os = [] ∧ -1 ≤ k ∧ (0 ≤ k ↔ o.any (fun x : Opng => decide (5 < x.2.2.length)) = true) ∧ (0 ≤ k → ∃ j : Nat, k = j ∧ j < o.length ∧ (fun x : Opng => decide (5 < x.2.2.length)) (o.getD j (0, false, [])) = true ∧ (o.take j).any (fun x : Opng => decide (5 < x.2.2.length)) = false)) := by
  refine Ct.introF (E := E 19 0 [.tmp 4] [] [(2, [0, 1, 7, 8])] []) tab_ok Try.call94 Try.func94 rfl rfl rfl rfl rfl (fun hin => ?_)
  have hl := od_len o
  have hb := hin.1.1
  (conv => whnf); refine LoopI.mk (fun n vs os => ∃ i : Nat, vs = [.d (.ro (o.map opngD)), .fn 93 [] [], i64 o.length, i64 i] ∧ os = [] ∧ i ≤ o.length ∧ (o.take i).any (fun x : Opng => decide (5 < x.2.2.length)) = false ∧ n = o.length - i) o.length ⟨0, by rw [hl]; rfl, rfl, Nat.zero_le _, rfl, rfl⟩ ?_
  rintro n _ _ ⟨i, rfl, rfl, h1, h2, rfl⟩
  (conv => whnf); refine cond_d (fun h7 => ?_) (fun h7 => ?_)
  · have hi : i < o.length := by omega
    have hg : o[i]? = some (o.getD i (0, false, [])) := by rw [List.getD_eq_getElem?_getD, List.getElem?_eq_getElem hi]; rfl
    have hs : (o.take (i + 1)).any (fun x : Opng => decide (5 < x.2.2.length)) = (fun x : Opng => decide (5 < x.2.2.length)) (o.getD i (0, false, [])) := by rw [any_take hg, h2]; rfl
    (conv => whnf); refine And.intro (by first | omega | (dsimp only [List.length, cond]; omega) | (show (-9223372036854775808 : Int) ≤ _ ∧ _ ≤ (9223372036854775807 : Int); omega) | decide) ?_
    (conv => whnf); refine Idx.mk _ (od_get hi) ?_
    (conv => whnf); refine (vals_ct (o.getD i (0, false, []))).use ?_
    (conv => whnf); refine cond_i (fun h8 => ?_) (fun h8 => ?_)
    · conv => whnf
      refine ⟨i, rfl, rfl, by omega, ⟨fun _ => ?_, fun _ => by omega⟩, fun _ => ⟨i, rfl, hi, h8, h2⟩⟩
      rw [List.any_eq_true]
      exact ⟨o.getD i (0, false, []), List.mem_of_getElem? hg, h8⟩
    · (conv => whnf); refine And.intro (by first | omega | (dsimp only [List.length, cond]; omega) | (show (-9223372036854775808 : Int) ≤ _ ∧ _ ≤ (9223372036854775807 : Int); omega) | decide) ?_
      conv => whnf
      refine ⟨o.length - (i + 1), by omega, i + 1, rfl, rfl, by omega, ?_, rfl⟩
      rw [hs]; exact h8
  · rw [List.take_of_length_le (by omega)] at h2
    exact ⟨-1, rfl, rfl, by omega, by rw [h2]; simp, fun h => by omega⟩
theorem many_ct (o : List Opng) : Ct Try.prog 92 [.d (.ro (o.map opngD)), .fn 93 [] []] [] (Is2 (.d (.bool (o.any (fun x : Opng => decide (5 < x.2.2.length))))) []) := by
  refine Ct.introF (E := E 9 0 [.tmp 4] [] [] []) tab_ok Try.call92 Try.func92 rfl rfl rfl rfl rfl (fun hin => ?_)
  refine (manyIdx_ct o).mono (fun r os h => ?_)
  obtain ⟨k, rfl, rfl, _, hk, _⟩ := h
  conv => whnf
  refine ⟨?_, rfl⟩
  have : decide (0 ≤ k) = o.any (fun x : Opng => decide (5 < x.2.2.length)) := by
    cases h : o.any (fun x : Opng => decide (5 < x.2.2.length)) with
    | true => exact decide_eq_true (hk.2 h)
    | false => exact decide_eq_false (fun h2 => by rw [hk.1 h2] at h; cases h)
  rw [← this]

def opnB (w : Wd) : Bool := risT (w.o.map (fun x : Opng => x.1)) w.o.length && !(w.o.any (fun x : Opng => decide (5 < x.2.2.length)))
theorem openings_ct (w : Wd) : Ct Try.prog 88 [.ptr 0 0] [wdO w] (Is2 (.d (.bool (opnB w))) [wdO w]) := by
  refine Ct.introF (E := E 21 1 [.tmp 2] [] [] []) tab_ok Try.call88 Try.func88 rfl rfl rfl rfl rfl (fun hin => ?_)
  have hr : Ct Try.prog 82 [i64 ((w.o.map opngD).length : Nat), .fn 91 [.ptr 0 0] []] [wdO w] (Is2 (.d (.bool (risT (w.o.map (fun x : Opng => x.1)) w.o.length))) [wdO w]) := by rw [od_len]; exact ris_opened w
  (conv => whnf); refine (hr).use ?_
  have e : opnB w = (risT (w.o.map (fun x : Opng => x.1)) w.o.length && !(w.o.any (fun x : Opng => decide (5 < x.2.2.length)))) := rfl
  rw [e]
  obtain ⟨b, hb⟩ : ∃ z, z = risT (w.o.map (fun x : Opng => x.1)) w.o.length := ⟨_, rfl⟩
  rw [← hb]
  (conv => whnf); refine cond_i (fun h => ?_) (fun h => ?_)
  · (conv => whnf); refine (many_ct w.o).use ?_
    exact Is2.mk (by rw [h]; rfl)
  · exact Is2.mk (by rw [h]; rfl)
theorem warden_ct (w : Wd) : Ct Try.prog 73 [.ptr 0 0] [wdO w] (Is2 (.d (.bool (decide (w.k = 2 ∨ w.k = 4 ∨ w.k = 6)))) [wdO w]) := by
  refine Ct.introF (E := E 25 1 [.tmp 2] [] [] []) tab_ok Try.call73 Try.func73 rfl rfl rfl rfl rfl (fun hin => ?_)
  (conv => whnf); refine cond_d (fun h => ?_) (fun h => ?_)
  · exact Is2.mk (by rw [decide_eq_true (show w.k = 2 ∨ w.k = 4 ∨ w.k = 6 from .inl h)])
  (conv => whnf); refine cond_d (fun h2 => ?_) (fun h2 => ?_)
  · exact Is2.mk (by rw [decide_eq_true (show w.k = 2 ∨ w.k = 4 ∨ w.k = 6 from .inr (.inl h2))])
  · exact Is2.mk (by rw [decide_eq_decide.2 (show w.k = 6 ↔ (w.k = 2 ∨ w.k = 4 ∨ w.k = 6) by omega)])
def kin (w : Wd) : List (Int × Int) := [((w.c.length : Nat), 6), ((w.p.length : Nat), 24), ((w.v.length : Nat), 32), ((w.h.length : Nat), 64), ((w.o.length : Nat), 128), (w.y, 256)]
abbrev kinD (w : Wd) : List D := [.int .i64 (w.c.length : Nat), .int .i64 6, .int .i64 (w.p.length : Nat), .int .i64 24, .int .i64 (w.v.length : Nat), .int .i64 32, .int .i64 (w.h.length : Nat), .int .i64 64, .int .i64 (w.o.length : Nat), .int .i64 128, .int .i64 w.y, .int .i64 256]
/-- Is a kind among those of a mask? -/
def among (m k : Int) : Bool := !(decide (((((m / 2 ^ (min k.toNat 64)).toNat &&& (1 : Int).toNat : Nat)) : Int) = 0))
def tstB (k : Int) (q : Int × Int) : Bool := decide (q.1 = 0) || among q.2 k
def onlyB (w : Wd) : Bool := (kin w).all (tstB w.k)
theorem shr0 (a : Int) (b : Nat) (h : 0 ≤ a) : 0 ≤ a / 2 ^ b := Int.ediv_nonneg h (Int.le_of_lt (Int.pow_pos (by decide)))
theorem only_no {w : Wd} {i : Nat} {q : Int × Int} (h : (kin w)[i]? = some q) (ht : tstB w.k q = false) : onlyB w = false := by
  cases e : onlyB w with
  | false => rfl
  | true =>
    have := List.all_eq_true.1 e q (List.mem_of_getElem? h)
    rw [ht] at this; cases this
theorem only_yes {w : Wd} {i : Nat} {q : Int × Int} (h : (kin w)[i]? = some q) (hp : ((kin w).take i).all (tstB w.k) = true) (ht : tstB w.k q = true) : ((kin w).take (i + 1)).all (tstB w.k) = true := by
  rw [List.take_add_one, List.all_append, hp, h]; simp [ht]
theorem tst_n {k : Int} {q : Int × Int} (h : ¬ q.1 ≠ 0) : tstB k q = true := by unfold tstB; rw [decide_eq_true (Decidable.of_not_not h)]; rfl
theorem tst_t {k : Int} {q : Int × Int} (h : q.1 ≠ 0) : tstB k q = among q.2 k := by unfold tstB; rw [decide_eq_false h]; rfl
theorem only_ct (w : Wd) (hk : 0 ≤ w.k) : Ct Try.prog 74 [.ptr 0 0] [wdO w] (Is2 (.d (.bool (onlyB w))) [wdO w]) := by
  refine Ct.introF (E := E 68 1 [.tmp 2] [] [(3, [0, 48, 49])] []) tab_ok Try.call74 Try.func74 rfl rfl rfl rfl rfl (fun hin => ?_)
  (conv => whnf); refine DrawI.mixF [⟨[(0, true, [0]), (1, true, [6]), (2, true, [7]), (3, true, [8]), (4, true, [9]), (5, true, [10]), (6, true, [11]), (7, true, [0]), (8, true, [13]), (9, true, [14]), (10, true, [15]), (11, true, [16]), (12, true, [17]), (13, true, [18]), (14, true, [0]), (15, true, [20]), (16, true, [21]), (17, true, [22]), (18, true, [23]), (19, true, [24]), (20, true, [25]), (21, true, [0]), (22, true, [27]), (23, true, [28]), (24, true, [29]), (25, true, [30]), (26, true, [31]), (27, true, [32]), (28, true, [0]), (29, true, [34]), (30, true, [35]), (31, true, [36]), (32, true, [37]), (33, true, [38]), (34, true, [39]), (35, true, [0]), (36, true, [41]), (37, true, [42]), (38, true, [43]), (39, true, [44]), (40, true, [45]), (41, true, [12, 19, 26, 33, 40, 46])], [], some (42, [])⟩, ⟨[(0, false, [0]), (1, false, [6]), (2, false, [7]), (3, false, [8]), (4, false, [9]), (5, false, [10]), (6, false, [11]), (7, false, [0]), (8, false, [13]), (9, false, [14]), (10, false, [15]), (11, false, [16]), (12, false, [17]), (13, false, [18]), (14, false, [0]), (15, false, [20]), (16, false, [21]), (17, false, [22]), (18, false, [23]), (19, false, [24]), (20, false, [25]), (21, false, [0]), (22, false, [27]), (23, false, [28]), (24, false, [29]), (25, false, [30]), (26, false, [31]), (27, false, [32]), (28, false, [0]), (29, false, [34]), (30, false, [35]), (31, false, [36]), (32, false, [37]), (33, false, [38]), (34, false, [39]), (35, false, [0]), (36, false, [41]), (37, false, [42]), (38, false, [43]), (39, false, [44]), (40, false, [45]), (41, false, [12, 19, 26, 33, 40, 46])], [], some (43, [3, 47])⟩, ⟨[], [], none⟩] [] (by decide +kernel) ?_
  repeat (first | refine DrawO.mkF _ (And.intro rfl rfl) ?_ | refine DrawO.mkF _ (Idx.mk _ rfl (And.intro rfl rfl)) ?_ | refine And.intro rfl ?_)
  (conv => whnf); refine And.intro ⟨rfl, rfl⟩ ?_
  (conv => whnf); refine And.intro rfl ?_
  (conv => whnf); refine LoopI.mk (fun q ws os => ∃ i : Nat, ws = [.ptr 0 0, .d (.agg (kinD w)), i64 i] ∧ os = [wdO w] ∧ i ≤ 6 ∧ ((kin w).take i).all (tstB w.k) = true ∧ q = 6 - i) 6 ⟨0, ?_, rfl, by omega, rfl, rfl⟩ ?_
  · simp only [List.length_map]; rfl
  rintro q _ _ ⟨i, rfl, rfl, h1, h2, rfl⟩
  (conv => whnf); refine cond_d (fun h3 => ?_) (fun h3 => ?_)
  · obtain rfl | rfl | rfl | rfl | rfl | rfl : i = 0 ∨ i = 1 ∨ i = 2 ∨ i = 3 ∨ i = 4 ∨ i = 5 := by omega
    · have hq : (kin w)[0]? = some (((w.c.length : Nat) : Int), 6) := rfl
      (conv => whnf); refine And.intro ⟨by decide, by decide⟩ ?_
      (conv => whnf); refine And.intro (Nat.le_of_ble_eq_true rfl) ?_
      (conv => whnf); refine And.intro ⟨rfl, rfl⟩ ?_
      (conv => whnf); refine DrawI.mkF 14 [[5], [52], [53], [54], [5, 55], [55, 56], [0, 55], [55, 58], [55, 59], [55, 60], [55, 61], [55, 57, 62], [55, 63], [55, 64]] (by decide +kernel) ?_
      refine DrawO.mkF _ (And.intro (by first | omega | (dsimp only [List.length, cond]; omega) | decide) (And.intro rfl rfl)) ?_
      repeat (first | refine DrawO.mkF _ (And.intro rfl rfl) ?_ | refine DrawO.mkF _ (Idx.mk _ rfl (And.intro rfl rfl)) ?_)
      (conv => whnf); refine cond_d (fun h4 => ?_) (fun h4 => ?_)
      · refine DrawO.mkF _ (And.intro (by first | omega | (dsimp only [List.length, cond]; omega) | decide) (And.intro rfl rfl)) ?_
        repeat (first | refine DrawO.mkF _ (And.intro rfl rfl) ?_ | refine DrawO.mkF _ (Idx.mk _ rfl (And.intro rfl rfl)) ?_)
        refine DrawO.mkF _ (And.intro hk (And.intro rfl rfl)) ?_
        refine DrawO.mkF _ (And.intro ⟨shr0 _ _ (by decide), by decide⟩ (And.intro rfl rfl)) ?_
        repeat (first | refine DrawO.mkF _ (And.intro rfl rfl) ?_ | refine DrawO.mkF _ (Idx.mk _ rfl (And.intro rfl rfl)) ?_)
        (conv => whnf); refine cond_d (fun h5 => ?_) (fun h5 => ?_)
        · rw [only_no hq (by rw [tst_t h4]; exact congrArg not (decide_eq_true h5))]
          exact Is2.mk rfl
        · (conv => whnf); refine And.intro (by first | omega | (dsimp only [List.length, cond]; omega) | (show (-9223372036854775808 : Int) ≤ _ ∧ _ ≤ (9223372036854775807 : Int); omega) | decide) ?_
          (conv => whnf)
          exact ⟨6 - 1, by decide, 1, rfl, rfl, by decide, only_yes hq h2 (by rw [tst_t h4]; exact congrArg not (decide_eq_false h5)), rfl⟩
      · repeat (first | refine DrawO.mkF _ (And.intro rfl rfl) ?_ | refine DrawO.mkF _ (Idx.mk _ rfl (And.intro rfl rfl)) ?_)
        (conv => whnf); refine And.intro (by first | omega | (dsimp only [List.length, cond]; omega) | (show (-9223372036854775808 : Int) ≤ _ ∧ _ ≤ (9223372036854775807 : Int); omega) | decide) ?_
        (conv => whnf)
        exact ⟨6 - 1, by decide, 1, rfl, rfl, by decide, only_yes hq h2 (tst_n h4), rfl⟩
    · have hq : (kin w)[1]? = some (((w.p.length : Nat) : Int), 24) := rfl
      (conv => whnf); refine And.intro ⟨by decide, by decide⟩ ?_
      (conv => whnf); refine And.intro (Nat.le_of_ble_eq_true rfl) ?_
      (conv => whnf); refine And.intro ⟨rfl, rfl⟩ ?_
      (conv => whnf); refine DrawI.mkF 14 [[5], [52], [53], [54], [5, 55], [55, 56], [0, 55], [55, 58], [55, 59], [55, 60], [55, 61], [55, 57, 62], [55, 63], [55, 64]] (by decide +kernel) ?_
      refine DrawO.mkF _ (And.intro (by first | omega | (dsimp only [List.length, cond]; omega) | decide) (And.intro rfl rfl)) ?_
      repeat (first | refine DrawO.mkF _ (And.intro rfl rfl) ?_ | refine DrawO.mkF _ (Idx.mk _ rfl (And.intro rfl rfl)) ?_)
      (conv => whnf); refine cond_d (fun h4 => ?_) (fun h4 => ?_)
      · refine DrawO.mkF _ (And.intro (by first | omega | (dsimp only [List.length, cond]; omega) | decide) (And.intro rfl rfl)) ?_
        repeat (first | refine DrawO.mkF _ (And.intro rfl rfl) ?_ | refine DrawO.mkF _ (Idx.mk _ rfl (And.intro rfl rfl)) ?_)
        refine DrawO.mkF _ (And.intro hk (And.intro rfl rfl)) ?_
        refine DrawO.mkF _ (And.intro ⟨shr0 _ _ (by decide), by decide⟩ (And.intro rfl rfl)) ?_
        repeat (first | refine DrawO.mkF _ (And.intro rfl rfl) ?_ | refine DrawO.mkF _ (Idx.mk _ rfl (And.intro rfl rfl)) ?_)
        (conv => whnf); refine cond_d (fun h5 => ?_) (fun h5 => ?_)
        · rw [only_no hq (by rw [tst_t h4]; exact congrArg not (decide_eq_true h5))]
          exact Is2.mk rfl
        · (conv => whnf); refine And.intro (by first | omega | (dsimp only [List.length, cond]; omega) | (show (-9223372036854775808 : Int) ≤ _ ∧ _ ≤ (9223372036854775807 : Int); omega) | decide) ?_
          (conv => whnf)
          exact ⟨6 - 2, by decide, 2, rfl, rfl, by decide, only_yes hq h2 (by rw [tst_t h4]; exact congrArg not (decide_eq_false h5)), rfl⟩
      · repeat (first | refine DrawO.mkF _ (And.intro rfl rfl) ?_ | refine DrawO.mkF _ (Idx.mk _ rfl (And.intro rfl rfl)) ?_)
        (conv => whnf); refine And.intro (by first | omega | (dsimp only [List.length, cond]; omega) | (show (-9223372036854775808 : Int) ≤ _ ∧ _ ≤ (9223372036854775807 : Int); omega) | decide) ?_
        (conv => whnf)
        exact ⟨6 - 2, by decide, 2, rfl, rfl, by decide, only_yes hq h2 (tst_n h4), rfl⟩
    · have hq : (kin w)[2]? = some (((w.v.length : Nat) : Int), 32) := rfl
      (conv => whnf); refine And.intro ⟨by decide, by decide⟩ ?_
      (conv => whnf); refine And.intro (Nat.le_of_ble_eq_true rfl) ?_
      (conv => whnf); refine And.intro ⟨rfl, rfl⟩ ?_
      (conv => whnf); refine DrawI.mkF 14 [[5], [52], [53], [54], [5, 55], [55, 56], [0, 55], [55, 58], [55, 59], [55, 60], [55, 61], [55, 57, 62], [55, 63], [55, 64]] (by decide +kernel) ?_
      refine DrawO.mkF _ (And.intro (by first | omega | (dsimp only [List.length, cond]; omega) | decide) (And.intro rfl rfl)) ?_
      repeat (first | refine DrawO.mkF _ (And.intro rfl rfl) ?_ | refine DrawO.mkF _ (Idx.mk _ rfl (And.intro rfl rfl)) ?_)
      (conv => whnf); refine cond_d (fun h4 => ?_) (fun h4 => ?_)
      · refine DrawO.mkF _ (And.intro (by first | omega | (dsimp only [List.length, cond]; omega) | decide) (And.intro rfl rfl)) ?_
        repeat (first | refine DrawO.mkF _ (And.intro rfl rfl) ?_ | refine DrawO.mkF _ (Idx.mk _ rfl (And.intro rfl rfl)) ?_)
        refine DrawO.mkF _ (And.intro hk (And.intro rfl rfl)) ?_
        refine DrawO.mkF _ (And.intro ⟨shr0 _ _ (by decide), by decide⟩ (And.intro rfl rfl)) ?_
        repeat (first | refine DrawO.mkF _ (And.intro rfl rfl) ?_ | refine DrawO.mkF _ (Idx.mk _ rfl (And.intro rfl rfl)) ?_)
        (conv => whnf); refine cond_d (fun h5 => ?_) (fun h5 => ?_)
        · rw [only_no hq (by rw [tst_t h4]; exact congrArg not (decide_eq_true h5))]
          exact Is2.mk rfl
        · (conv => whnf); refine And.intro (by first | omega | (dsimp only [List.length, cond]; omega) | (show (-9223372036854775808 : Int) ≤ _ ∧ _ ≤ (9223372036854775807 : Int); omega) | decide) ?_
          (conv => whnf)
          exact ⟨6 - 3, by decide, 3, rfl, rfl, by decide, only_yes hq h2 (by rw [tst_t h4]; exact congrArg not (decide_eq_false h5)), rfl⟩
      · repeat (first | refine DrawO.mkF _ (And.intro rfl rfl) ?_ | refine DrawO.mkF _ (Idx.mk _ rfl (And.intro rfl rfl)) ?_)
        (conv => whnf); refine And.intro (by first | omega | (dsimp only [List.length, cond]; omega) | (show (-9223372036854775808 : Int) ≤ _ ∧ _ ≤ (9223372036854775807 : Int); omega) | decide) ?_
        (conv => whnf)
        exact ⟨6 - 3, by decide, 3, rfl, rfl, by decide, only_yes hq h2 (tst_n h4), rfl⟩
    · have hq : (kin w)[3]? = some (((w.h.length : Nat) : Int), 64) := rfl
      (conv => whnf); refine And.intro ⟨by decide, by decide⟩ ?_
      (conv => whnf); refine And.intro (Nat.le_of_ble_eq_true rfl) ?_
      (conv => whnf); refine And.intro ⟨rfl, rfl⟩ ?_
      (conv => whnf); refine DrawI.mkF 14 [[5], [52], [53], [54], [5, 55], [55, 56], [0, 55], [55, 58], [55, 59], [55, 60], [55, 61], [55, 57, 62], [55, 63], [55, 64]] (by decide +kernel) ?_
      refine DrawO.mkF _ (And.intro (by first | omega | (dsimp only [List.length, cond]; omega) | decide) (And.intro rfl rfl)) ?_
      repeat (first | refine DrawO.mkF _ (And.intro rfl rfl) ?_ | refine DrawO.mkF _ (Idx.mk _ rfl (And.intro rfl rfl)) ?_)
      (conv => whnf); refine cond_d (fun h4 => ?_) (fun h4 => ?_)
      · refine DrawO.mkF _ (And.intro (by first | omega | (dsimp only [List.length, cond]; omega) | decide) (And.intro rfl rfl)) ?_
        repeat (first | refine DrawO.mkF _ (And.intro rfl rfl) ?_ | refine DrawO.mkF _ (Idx.mk _ rfl (And.intro rfl rfl)) ?_)
        refine DrawO.mkF _ (And.intro hk (And.intro rfl rfl)) ?_
        refine DrawO.mkF _ (And.intro ⟨shr0 _ _ (by decide), by decide⟩ (And.intro rfl rfl)) ?_
        repeat (first | refine DrawO.mkF _ (And.intro rfl rfl) ?_ | refine DrawO.mkF _ (Idx.mk _ rfl (And.intro rfl rfl)) ?_)
        (conv => whnf); refine cond_d (fun h5 => ?_) (fun h5 => ?_)
        · rw [only_no hq (by rw [tst_t h4]; exact congrArg not (decide_eq_true h5))]
          exact Is2.mk rfl
        · (conv => whnf); refine And.intro (by first | omega | (dsimp only [List.length, cond]; omega) | (show (-9223372036854775808 : Int) ≤ _ ∧ _ ≤ (9223372036854775807 : Int); omega) | decide) ?_
          (conv => whnf)
          exact ⟨6 - 4, by decide, 4, rfl, rfl, by decide, only_yes hq h2 (by rw [tst_t h4]; exact congrArg not (decide_eq_false h5)), rfl⟩
      · repeat (first | refine DrawO.mkF _ (And.intro rfl rfl) ?_ | refine DrawO.mkF _ (Idx.mk _ rfl (And.intro rfl rfl)) ?_)
        (conv => whnf); refine And.intro (by first | omega | (dsimp only [List.length, cond]; omega) | (show (-9223372036854775808 : Int) ≤ _ ∧ _ ≤ (9223372036854775807 : Int); omega) | decide) ?_
        (conv => whnf)
        exact ⟨6 - 4, by decide, 4, rfl, rfl, by decide, only_yes hq h2 (tst_n h4), rfl⟩
    · have hq : (kin w)[4]? = some (((w.o.length : Nat) : Int), 128) := rfl
      (conv => whnf); refine And.intro ⟨by decide, by decide⟩ ?_
      (conv => whnf); refine And.intro (Nat.le_of_ble_eq_true rfl) ?_
      (conv => whnf); refine And.intro ⟨rfl, rfl⟩ ?_
      (conv => whnf); refine DrawI.mkF 14 [[5], [52], [53], [54], [5, 55], [55, 56], [0, 55], [55, 58], [55, 59], [55, 60], [55, 61], [55, 57, 62], [55, 63], [55, 64]] (by decide +kernel) ?_
      refine DrawO.mkF _ (And.intro (by first | omega | (dsimp only [List.length, cond]; omega) | decide) (And.intro rfl rfl)) ?_
      repeat (first | refine DrawO.mkF _ (And.intro rfl rfl) ?_ | refine DrawO.mkF _ (Idx.mk _ rfl (And.intro rfl rfl)) ?_)
      (conv => whnf); refine cond_d (fun h4 => ?_) (fun h4 => ?_)
      · refine DrawO.mkF _ (And.intro (by first | omega | (dsimp only [List.length, cond]; omega) | decide) (And.intro rfl rfl)) ?_
        repeat (first | refine DrawO.mkF _ (And.intro rfl rfl) ?_ | refine DrawO.mkF _ (Idx.mk _ rfl (And.intro rfl rfl)) ?_)
        refine DrawO.mkF _ (And.intro hk (And.intro rfl rfl)) ?_
        refine DrawO.mkF _ (And.intro ⟨shr0 _ _ (by decide), by decide⟩ (And.intro rfl rfl)) ?_
        repeat (first | refine DrawO.mkF _ (And.intro rfl rfl) ?_ | refine DrawO.mkF _ (Idx.mk _ rfl (And.intro rfl rfl)) ?_)
        (conv => whnf); refine cond_d (fun h5 => ?_) (fun h5 => ?_)
        · rw [only_no hq (by rw [tst_t h4]; exact congrArg not (decide_eq_true h5))]
          exact Is2.mk rfl
        · (conv => whnf); refine And.intro (by first | omega | (dsimp only [List.length, cond]; omega) | (show (-9223372036854775808 : Int) ≤ _ ∧ _ ≤ (9223372036854775807 : Int); omega) | decide) ?_
          (conv => whnf)
          exact ⟨6 - 5, by decide, 5, rfl, rfl, by decide, only_yes hq h2 (by rw [tst_t h4]; exact congrArg not (decide_eq_false h5)), rfl⟩
      · repeat (first | refine DrawO.mkF _ (And.intro rfl rfl) ?_ | refine DrawO.mkF _ (Idx.mk _ rfl (And.intro rfl rfl)) ?_)
        (conv => whnf); refine And.intro (by first | omega | (dsimp only [List.length, cond]; omega) | (show (-9223372036854775808 : Int) ≤ _ ∧ _ ≤ (9223372036854775807 : Int); omega) | decide) ?_
        (conv => whnf)
        exact ⟨6 - 5, by decide, 5, rfl, rfl, by decide, only_yes hq h2 (tst_n h4), rfl⟩
    · have hq : (kin w)[5]? = some (w.y, 256) := rfl
      (conv => whnf); refine And.intro ⟨by decide, by decide⟩ ?_
      (conv => whnf); refine And.intro (Nat.le_of_ble_eq_true rfl) ?_
      (conv => whnf); refine And.intro ⟨rfl, rfl⟩ ?_
      (conv => whnf); refine DrawI.mkF 14 [[5], [52], [53], [54], [5, 55], [55, 56], [0, 55], [55, 58], [55, 59], [55, 60], [55, 61], [55, 57, 62], [55, 63], [55, 64]] (by decide +kernel) ?_
      refine DrawO.mkF _ (And.intro (by first | omega | (dsimp only [List.length, cond]; omega) | decide) (And.intro rfl rfl)) ?_
      repeat (first | refine DrawO.mkF _ (And.intro rfl rfl) ?_ | refine DrawO.mkF _ (Idx.mk _ rfl (And.intro rfl rfl)) ?_)
      (conv => whnf); refine cond_d (fun h4 => ?_) (fun h4 => ?_)
      · refine DrawO.mkF _ (And.intro (by first | omega | (dsimp only [List.length, cond]; omega) | decide) (And.intro rfl rfl)) ?_
        repeat (first | refine DrawO.mkF _ (And.intro rfl rfl) ?_ | refine DrawO.mkF _ (Idx.mk _ rfl (And.intro rfl rfl)) ?_)
        refine DrawO.mkF _ (And.intro hk (And.intro rfl rfl)) ?_
        refine DrawO.mkF _ (And.intro ⟨shr0 _ _ (by decide), by decide⟩ (And.intro rfl rfl)) ?_
        repeat (first | refine DrawO.mkF _ (And.intro rfl rfl) ?_ | refine DrawO.mkF _ (Idx.mk _ rfl (And.intro rfl rfl)) ?_)
        (conv => whnf); refine cond_d (fun h5 => ?_) (fun h5 => ?_)
        · rw [only_no hq (by rw [tst_t h4]; exact congrArg not (decide_eq_true h5))]
          exact Is2.mk rfl
        · (conv => whnf); refine And.intro (by first | omega | (dsimp only [List.length, cond]; omega) | (show (-9223372036854775808 : Int) ≤ _ ∧ _ ≤ (9223372036854775807 : Int); omega) | decide) ?_
          (conv => whnf)
          exact ⟨6 - 6, by decide, 6, rfl, rfl, by decide, only_yes hq h2 (by rw [tst_t h4]; exact congrArg not (decide_eq_false h5)), rfl⟩
      · repeat (first | refine DrawO.mkF _ (And.intro rfl rfl) ?_ | refine DrawO.mkF _ (Idx.mk _ rfl (And.intro rfl rfl)) ?_)
        (conv => whnf); refine And.intro (by first | omega | (dsimp only [List.length, cond]; omega) | (show (-9223372036854775808 : Int) ≤ _ ∧ _ ≤ (9223372036854775807 : Int); omega) | decide) ?_
        (conv => whnf)
        exact ⟨6 - 6, by decide, 6, rfl, rfl, by decide, only_yes hq h2 (tst_n h4), rfl⟩
  · obtain rfl : i = 6 := by omega
    have e : onlyB w = true := h2
    rw [e]
    exact Is2.mk rfl
/-- Which words may be said: their bodies. -/
def bodyB (w : Wd) : Bool :=
  if w.k = 1 then decide (w.c.length = 1) && decide ((w.c.map (fun x : Card => x.1)).getD 0 0 = w.f)
  else if w.k = 2 then risT (w.c.map (fun x : Card => x.1)) w.c.length
  else if w.k = 3 then parB (fun x : Parc => x.1) w.p && risT (w.p.map (fun x : Parc => x.2.1)) w.p.length
  else if w.k = 4 then parB (fun x : Parc => x.2.1) w.p && risT (w.p.map (fun x : Parc => x.1)) w.p.length
  else if w.k = 5 then decide (w.v.length ≤ 256)
  else if w.k = 6 then risT (w.h.map (fun x : Int => x)) w.h.length
  else if w.k = 7 then opnB w
  else decide (w.k = 8) && (decide (1 ≤ w.y) && decide (w.y ≤ 17))
theorem len_D {α : Type} {l : List α} {f : α → D} : (l.map f).length = l.length := List.length_map _
theorem body_ct (w : Wd) (hb : w.p.length ≤ 9223372036854775807) : Ct Try.prog 75 [.ptr 0 0] [wdO w] (Is2 (.d (.bool (bodyB w))) [wdO w]) := by
  refine Ct.introF (E := E 106 1 [.tmp 2] [] [] []) tab_ok Try.call75 Try.func75 rfl rfl rfl rfl rfl (fun hin => ?_)
  (conv => whnf); refine cond_d (fun h1 => ?_) (fun h1 => ?_)
  · have e : bodyB w = (decide (w.c.length = 1) && decide ((w.c.map (fun x : Card => x.1)).getD 0 0 = w.f)) := by unfold bodyB; rw [if_pos h1]
    rw [e]
    have hl : (w.c.map cardD).length = w.c.length := List.length_map _
    (conv => whnf); refine DrawI.mkF 22 [[0], [10], [11], [12], [13], [14], [15], [16], [0, 17], [17, 18], [17, 19], [17, 20], [17, 21], [17, 22], [17, 23], [17, 24], [0, 17], [17, 26], [17, 27], [17, 28], [17, 29], [17, 25, 30]] (by decide +kernel) ?_
    repeat (first | refine DrawO.mkF _ (And.intro rfl rfl) ?_ | refine DrawO.mkF _ (Idx.mk _ rfl (And.intro rfl rfl)) ?_)
    (conv => whnf); refine cond_d (fun h => ?_) (fun h => ?_)
    · obtain ⟨x, hx⟩ := get_some (l := w.c) (i := 0) (by omega)
      rw [getD_map hx, decide_eq_true (show w.c.length = 1 by omega)]
      repeat (first | refine DrawO.mkF _ (And.intro rfl rfl) ?_ | refine DrawO.mkF _ (Idx.mk _ rfl (And.intro rfl rfl)) ?_)
      refine DrawO.mkF _ (And.intro (by decide) (Idx.mk _ (map_at hx) (And.intro rfl rfl))) ?_
      repeat (first | refine DrawO.mkF _ (And.intro rfl rfl) ?_ | refine DrawO.mkF _ (Idx.mk _ rfl (And.intro rfl rfl)) ?_)
      exact Is2.mk rfl
    · repeat (first | refine DrawO.mkF _ (And.intro rfl rfl) ?_ | refine DrawO.mkF _ (Idx.mk _ rfl (And.intro rfl rfl)) ?_)
      rw [decide_eq_false (show ¬ w.c.length = 1 by omega)]
      exact Is2.mk rfl
  (conv => whnf); refine cond_d (fun h2 => ?_) (fun h2 => ?_)
  · have e : bodyB w = risT (w.c.map (fun x : Card => x.1)) w.c.length := by unfold bodyB; rw [if_neg h1, if_pos h2]
    rw [e]
    have hr := ris_card w
    rw [← len_D (l := w.c) (f := cardD)] at hr
    (conv => whnf); refine (hr).use ?_
    rw [len_D]
    exact Is2.mk rfl
  (conv => whnf); refine cond_d (fun h3 => ?_) (fun h3 => ?_)
  · have e : bodyB w = (parB (fun x : Parc => x.1) w.p && risT (w.p.map (fun x : Parc => x.2.1)) w.p.length) := by unfold bodyB; rw [if_neg h1, if_neg h2, if_pos h3]
    rw [e]
    (conv => whnf); refine (parcels_to w hb).use ?_
    exact Is2.mk rfl
  (conv => whnf); refine cond_d (fun h4 => ?_) (fun h4 => ?_)
  · have e : bodyB w = (parB (fun x : Parc => x.2.1) w.p && risT (w.p.map (fun x : Parc => x.1)) w.p.length) := by unfold bodyB; rw [if_neg h1, if_neg h2, if_neg h3, if_pos h4]
    rw [e]
    (conv => whnf); refine (parcels_from w hb).use ?_
    exact Is2.mk rfl
  (conv => whnf); refine cond_d (fun h5 => ?_) (fun h5 => ?_)
  · have e : bodyB w = decide (w.v.length ≤ 256) := by unfold bodyB; rw [if_neg h1, if_neg h2, if_neg h3, if_neg h4, if_pos h5]
    rw [e]
    have hl : (w.v.map (D.int .u32)).length = w.v.length := List.length_map _
    exact Is2.mk (by rw [decide_eq_decide.2 (show w.v.length ≤ 256 ↔ (((w.v.map (D.int .u32)).length : Nat) : Int) ≤ 256 by rw [hl]; omega)])
  (conv => whnf); refine cond_d (fun h6 => ?_) (fun h6 => ?_)
  · have e : bodyB w = risT (w.h.map (fun x : Int => x)) w.h.length := by unfold bodyB; rw [if_neg h1, if_neg h2, if_neg h3, if_neg h4, if_neg h5, if_pos h6]
    rw [e]
    have hr := ris_named w
    rw [← len_D (l := w.h) (f := D.int .i64)] at hr
    (conv => whnf); refine (hr).use ?_
    rw [len_D]
    exact Is2.mk rfl
  (conv => whnf); refine cond_d (fun h7 => ?_) (fun h7 => ?_)
  · have e : bodyB w = opnB w := by unfold bodyB; rw [if_neg h1, if_neg h2, if_neg h3, if_neg h4, if_neg h5, if_neg h6, if_pos h7]
    rw [e]
    (conv => whnf); refine (openings_ct w).use ?_
    exact Is2.mk rfl
  have e : bodyB w = (decide (w.k = 8) && (decide (1 ≤ w.y) && decide (w.y ≤ 17))) := by unfold bodyB; rw [if_neg h1, if_neg h2, if_neg h3, if_neg h4, if_neg h5, if_neg h6, if_neg h7]
  rw [e]
  (conv => whnf); refine cond_d (fun h8 => ?_) (fun h8 => ?_)
  · rw [decide_eq_true h8]
    (conv => whnf); refine cond_d (fun h9 => ?_) (fun h9 => ?_)
    · rw [decide_eq_true h9]
      exact Is2.mk rfl
    · rw [decide_eq_false h9]
      exact Is2.mk rfl
  · rw [decide_eq_false h8]
    exact Is2.mk rfl
def goodB (w : Wd) : Bool := decide (1 ≤ w.k) && (decide (w.k ≤ 8) && (decide (0 ≤ w.f) && (decide (w.f ≤ 64) && (decide (decide (w.k = 2 ∨ w.k = 4 ∨ w.k = 6) = decide (w.f = 0)) && (onlyB w && bodyB w)))))
theorem good_ct (w : Wd) (hb : w.p.length ≤ 9223372036854775807) : Ct Try.prog 33 [.ptr 0 0] [wdO w] (Is2 (.d (.bool (goodB w))) [wdO w]) := by
  refine Ct.introF (E := E 52 1 [.tmp 2] [] [] []) tab_ok Try.call33 Try.func33 rfl rfl rfl rfl rfl (fun hin => ?_)
  unfold goodB
  (conv => whnf); refine DrawI.mkF 48 [[0], [3], [4], [5], [6], [7], [8], [0, 9], [9, 10], [9, 11], [9, 12], [9, 13], [9, 14], [9, 15], [16], [0, 17], [17, 18], [17, 19], [17, 20], [17, 21], [17, 22], [17, 23], [24], [0, 25], [25, 26], [25, 27], [25, 28], [25, 29], [25, 30], [25, 31], [32], [0, 33], [33, 34], [0, 33], [33, 36], [33, 37], [33, 38], [33, 39], [33, 40], [33, 35, 41], [33, 42], [43], [0, 44], [44, 45], [44, 46], [47], [0, 48], [48, 49]] (by decide +kernel) ?_
  repeat (first | refine DrawO.mkF _ (And.intro rfl rfl) ?_ | refine DrawO.mkF _ (Idx.mk _ rfl (And.intro rfl rfl)) ?_)
  (conv => whnf); refine cond_d (fun h1 => ?_) (fun h1 => ?_)
  rotate_left
  · rw [decide_eq_false h1]; repeat (first | refine DrawO.mkF _ (And.intro rfl rfl) ?_ | refine DrawO.mkF _ (Idx.mk _ rfl (And.intro rfl rfl)) ?_)
    exact Is2.mk rfl
  rw [decide_eq_true h1]
  repeat (first | refine DrawO.mkF _ (And.intro rfl rfl) ?_ | refine DrawO.mkF _ (Idx.mk _ rfl (And.intro rfl rfl)) ?_)
  (conv => whnf); refine cond_d (fun h2 => ?_) (fun h2 => ?_)
  rotate_left
  · rw [decide_eq_false h2]; repeat (first | refine DrawO.mkF _ (And.intro rfl rfl) ?_ | refine DrawO.mkF _ (Idx.mk _ rfl (And.intro rfl rfl)) ?_)
    exact Is2.mk rfl
  rw [decide_eq_true h2]
  repeat (first | refine DrawO.mkF _ (And.intro rfl rfl) ?_ | refine DrawO.mkF _ (Idx.mk _ rfl (And.intro rfl rfl)) ?_)
  (conv => whnf); refine cond_d (fun h3 => ?_) (fun h3 => ?_)
  rotate_left
  · rw [decide_eq_false h3]; repeat (first | refine DrawO.mkF _ (And.intro rfl rfl) ?_ | refine DrawO.mkF _ (Idx.mk _ rfl (And.intro rfl rfl)) ?_)
    exact Is2.mk rfl
  rw [decide_eq_true h3]
  repeat (first | refine DrawO.mkF _ (And.intro rfl rfl) ?_ | refine DrawO.mkF _ (Idx.mk _ rfl (And.intro rfl rfl)) ?_)
  (conv => whnf); refine cond_d (fun h4 => ?_) (fun h4 => ?_)
  rotate_left
  · rw [decide_eq_false h4]; repeat (first | refine DrawO.mkF _ (And.intro rfl rfl) ?_ | refine DrawO.mkF _ (Idx.mk _ rfl (And.intro rfl rfl)) ?_)
    exact Is2.mk rfl
  rw [decide_eq_true h4]
  repeat (first | refine DrawO.mkF _ (And.intro rfl rfl) ?_ | refine DrawO.mkF _ (Idx.mk _ rfl (And.intro rfl rfl)) ?_)
  refine DrawO.mkF _ ((warden_ct w).use (And.intro rfl rfl)) ?_
  repeat (first | refine DrawO.mkF _ (And.intro rfl rfl) ?_ | refine DrawO.mkF _ (Idx.mk _ rfl (And.intro rfl rfl)) ?_)
  (conv => whnf); refine cond_i (fun h5 => ?_) (fun h5 => ?_)
  rotate_left
  · rw [decide_eq_false (p := decide (w.k = 2 ∨ w.k = 4 ∨ w.k = 6) = decide (w.f = 0)) (fun e => by rw [e] at h5; simp at h5)]; repeat (first | refine DrawO.mkF _ (And.intro rfl rfl) ?_ | refine DrawO.mkF _ (Idx.mk _ rfl (And.intro rfl rfl)) ?_)
    exact Is2.mk rfl
  rw [decide_eq_true (p := decide (w.k = 2 ∨ w.k = 4 ∨ w.k = 6) = decide (w.f = 0)) (by simpa using h5)]
  repeat (first | refine DrawO.mkF _ (And.intro rfl rfl) ?_ | refine DrawO.mkF _ (Idx.mk _ rfl (And.intro rfl rfl)) ?_)
  refine DrawO.mkF _ ((only_ct w (by omega)).use (And.intro rfl rfl)) ?_
  repeat (first | refine DrawO.mkF _ (And.intro rfl rfl) ?_ | refine DrawO.mkF _ (Idx.mk _ rfl (And.intro rfl rfl)) ?_)
  obtain ⟨b, hb2⟩ : ∃ z, z = onlyB w := ⟨_, rfl⟩
  rw [← hb2]
  (conv => whnf); refine cond_i (fun h6 => ?_) (fun h6 => ?_)
  rotate_left
  · rw [h6]; repeat (first | refine DrawO.mkF _ (And.intro rfl rfl) ?_ | refine DrawO.mkF _ (Idx.mk _ rfl (And.intro rfl rfl)) ?_)
    exact Is2.mk rfl
  rw [h6]
  repeat (first | refine DrawO.mkF _ (And.intro rfl rfl) ?_ | refine DrawO.mkF _ (Idx.mk _ rfl (And.intro rfl rfl)) ?_)
  refine DrawO.mkF _ ((body_ct w hb).use (And.intro rfl rfl)) ?_
  repeat (first | refine DrawO.mkF _ (And.intro rfl rfl) ?_ | refine DrawO.mkF _ (Idx.mk _ rfl (And.intro rfl rfl)) ?_)
  exact Is2.mk rfl
abbrev wdV (w : Wd) : AV := .d (.agg (wdD w))
theorem Good_ct (w : Wd) : Ct Try.prog 22 [wdV w] [] (Is2 (.d (.bool (goodB w))) []) := by
  refine Ct.introF (E := E 7 0 [.tmp 2] [] [] []) tab_ok Try.call22 Try.func22 rfl rfl rfl rfl rfl (fun hin => ?_)
  have hb : w.p.length ≤ 9223372036854775807 := by
    have := hin.1 (.ro (w.p.map parcD)) (by simp)
    simpa [ok0] using this
  (conv => whnf); refine (good_ct w hb).use ?_
  exact Is2.mk rfl
end Go.Proofs.Ytidelnccggfmgaa.Wrd

/- Package words: a word as bytes. -/
namespace Go.Proofs.Ytidelnccggfmgaa.Wrd
open Go.V Go.Num
open Go.Eng (wr)
open Go.Proofs.Ytidelnccggfmgaa.Let
set_option maxRecDepth 100000
set_option maxHeartbeats 4000000
def cardB (c : Card) : List UInt8 := leB c.1 4 ++ leB c.2.1 8 ++ leB c.2.2 8
def parcB (x : Parc) : List UInt8 := leB x.1 4 ++ leB x.2.1 4 ++ (leB (x.2.2.length : Nat) 4 ++ x.2.2)
def ownN (b : Bool) : Int := if b = true then 1 else 0
def opngB (x : Opng) : List UInt8 := leB x.1 4 ++ leB (ownN x.2.1) 4 ++ leB (x.2.2.length : Nat) 4 ++ x.2.2.flatMap fun n => leB n 8
def T0 (w : Wd) : List UInt8 := leB w.k 4 ++ leB w.f 4 ++ leB w.y 4 ++ leB (w.c.length : Nat) 4
def T1 (w : Wd) : List UInt8 := T0 w ++ w.c.flatMap cardB
def T2 (w : Wd) : List UInt8 := T1 w ++ leB (w.p.length : Nat) 4
def T3 (w : Wd) : List UInt8 := T2 w ++ w.p.flatMap parcB
def T4 (w : Wd) : List UInt8 := T3 w ++ leB (w.v.length : Nat) 4
def T5 (w : Wd) : List UInt8 := T4 w ++ w.v.flatMap fun n => leB n 4
def T6 (w : Wd) : List UInt8 := T5 w ++ leB (w.h.length : Nat) 4
def T7 (w : Wd) : List UInt8 := T6 w ++ w.h.flatMap fun n => leB n 4
def T8 (w : Wd) : List UInt8 := T7 w ++ leB (w.o.length : Nat) 4
def textB (w : Wd) : List UInt8 := T8 w ++ w.o.flatMap opngB
/-- What a good word's numbers are. -/
structure Fine (w : Wd) : Prop where
  k : 1 ≤ w.k ∧ w.k ≤ 8
  f : 0 ≤ w.f ∧ w.f ≤ 64
  y : 0 ≤ w.y ∧ w.y ≤ 17
  c : ∀ x ∈ w.c, 0 ≤ x.1 ∧ x.1 ≤ 64
  p : ∀ x ∈ w.p, (0 ≤ x.1 ∧ x.1 ≤ 64) ∧ (0 ≤ x.2.1 ∧ x.2.1 ≤ 64) ∧ x.2.2.length ≤ 64
  h : ∀ x ∈ w.h, 0 ≤ x ∧ x ≤ 64
  o : ∀ x ∈ w.o, (0 ≤ x.1 ∧ x.1 ≤ 64) ∧ x.2.2.length ≤ 5
  cl : w.c.length ≤ 64
  pl : w.p.length ≤ 64
  vl : w.v.length ≤ 256
  hl : w.h.length ≤ 64
  ol : w.o.length ≤ 64
theorem fm_take {α : Type} {l : List α} {g : α → List UInt8} {i : Nat} {x : α} (h : l[i]? = some x) : (l.take (i + 1)).flatMap g = (l.take i).flatMap g ++ g x := by
  rw [List.take_add_one, h, List.flatMap_append]; simp
theorem fm_len {α : Type} {l : List α} {g : α → List UInt8} {K : Nat} (h : ∀ x ∈ l, (g x).length ≤ K) : (l.flatMap g).length ≤ l.length * K := by
  induction l with
  | nil => simp
  | cons x l ih =>
    have h1 := h x List.mem_cons_self
    have h2 := ih (fun y hy => h y (List.mem_cons_of_mem _ hy))
    rw [List.flatMap_cons, List.length_append, List.length_cons, Nat.add_mul, Nat.one_mul]; omega
theorem fm_lent {α : Type} {l : List α} {g : α → List UInt8} {K : Nat} (h : ∀ x ∈ l, (g x).length ≤ K) (i : Nat) : ((l.take i).flatMap g).length ≤ l.length * K := by
  have h1 := fm_len (l := l.take i) (g := g) (K := K) (fun x hx => h x (List.mem_of_mem_take hx))
  have h2 : (l.take i).length * K ≤ l.length * K := Nat.mul_le_mul_right _ (by rw [List.length_take]; omega)
  omega
theorem SmallN_ct (bs : List UInt8) (n : Int) (h : 0 ≤ n ∧ n ≤ 4294967295) (hb : bs.length ≤ 1000000) : Ct Try.prog 37 [.ptr 0 0, i64 n] (papO bs false) (Is2 (.ptr 0 0) (papG (bs ++ leB n 4) false)) := by
  have := Small_ct bs false n (by omega)
  rw [show wideB false n = false from by unfold wideB; rw [decide_eq_false (by omega), decide_eq_false (by omega)]; rfl, show f4 n = leB n 4 from by show leB (wr .u64 n) 4 = _; rw [show wr .u64 n = n from by simp only [wr]; omega]] at this
  exact this
theorem Small0N_ct (n : Int) (h : 0 ≤ n ∧ n ≤ 4294967295) : Ct Try.prog 37 [.ptr 0 0, i64 n] pap0 (Is2 (.ptr 0 0) (papO (leB n 4) false)) := by
  have := Small0_ct n
  rw [show wideB false n = false from by unfold wideB; rw [decide_eq_false (by omega), decide_eq_false (by omega)]; rfl, show f4 n = leB n 4 from by show leB (wr .u64 n) 4 = _; rw [show wr .u64 n = n from by simp only [wr]; omega]] at this
  exact this
theorem BytesN_ct (bs b : List UInt8) (h : b.length ≤ 64) (hb : bs.length ≤ 1000000) : Ct Try.prog 39 [.ptr 0 0, B8 b] (papO bs false) (Is2 (.ptr 0 0) (papG (bs ++ (leB (b.length : Nat) 4 ++ b)) false)) := by
  have := Bytes_ct bs false b (by omega)
  rw [show wideB false (b.length : Nat) = false from by unfold wideB; rw [decide_eq_false (by omega), decide_eq_false (by omega)]; rfl, show f4 (b.length : Nat) = leB (b.length : Nat) 4 from by show leB (wr .u64 (b.length : Nat)) 4 = _; rw [show wr .u64 ((b.length : Nat) : Int) = ((b.length : Nat) : Int) from by simp only [wr]; omega]] at this
  exact this
theorem Blank_ct : Ct Try.prog 36 [] [] (Is2 (.ptr 0 0) pap0) := by
  refine Ct.introF (E := E 3 0 [.tmp 0] [] [] []) tab_ok Try.call36 Try.func36 rfl rfl rfl rfl rfl (fun hin => ?_)
  exact Is2.mk rfl
theorem Encode_bad (w : Wd) (h : goodB w = false) : Ct Try.prog 24 [wdV w] [] (Is2 (.tup [.d .nils, i64 2]) []) := by
  refine Ct.introF (E := E 149 0 [.tmp 2, .tmp 3] [] [(5, [1, 4, 36, 37, 38]), (11, [1, 4, 59, 60, 61]), (17, [1, 4, 82, 83, 84]), (23, [1, 4, 99, 100, 101]), (29, [4, 115, 116, 117]), (36, [4, 115, 116, 117, 134, 135, 136])] []) tab_ok Try.call24 Try.func24 rfl rfl rfl rfl rfl (fun hin => ?_)
  (conv => whnf); refine (Good_ct w).use ?_
  (conv => whnf); refine And.intro ⟨trivial, trivial⟩ ?_
  rw [h]
  exact Is2.mk rfl
abbrev wdO2 (w : Wd) : V.Obj := .vec 52 [i64 w.k, i64 w.f, i64 w.y, .d (.ro (w.c.map cardD)), .d (.ro (w.p.map parcD)), .d (.ro (w.v.map (D.int .u32))), .d (.ro (w.h.map (D.int .i64))), .d (.ro (w.o.map opngD))]
abbrev paO2 (bs : List UInt8) : List V.Obj := [.vec 123 [.sl 2, .d (.bool false)], .row 5 1 (bytesD bs)]
theorem card_len (x : Card) : (cardB x).length = 20 := by unfold cardB; simp only [List.length_append, leB_len]
theorem parc_len {x : Parc} (h : x.2.2.length ≤ 64) : (parcB x).length ≤ 76 := by unfold parcB; simp only [List.length_append, leB_len]; omega
theorem opng_len {x : Opng} (h : x.2.2.length ≤ 5) : (opngB x).length ≤ 52 := by
  unfold opngB; simp only [List.length_append, leB_len]
  have := fm_len (l := x.2.2) (g := fun n : Int => leB n 8) (K := 8) (fun n _ => by rw [leB_len]; exact Nat.le_refl _)
  omega
theorem T_len {w : Wd} (F : Fine w) : (T0 w).length = 16 ∧ (T1 w).length ≤ 1296 ∧ (T2 w).length ≤ 1300 ∧ (T3 w).length ≤ 6164 ∧ (T4 w).length ≤ 6168 ∧ (T5 w).length ≤ 7192 ∧ (T6 w).length ≤ 7196 ∧ (T7 w).length ≤ 7452 ∧ (T8 w).length ≤ 7456 ∧ (textB w).length ≤ 10784 := by
  have h1 := fm_len (l := w.c) (g := cardB) (K := 20) (fun x _ => by rw [card_len]; exact Nat.le_refl _)
  have h2 := fm_len (l := w.p) (g := parcB) (K := 76) (fun x hx => parc_len (F.p x hx).2.2)
  have h3 := fm_len (l := w.v) (g := fun n : Int => leB n 4) (K := 4) (fun n _ => by rw [leB_len]; exact Nat.le_refl _)
  have h4 := fm_len (l := w.h) (g := fun n : Int => leB n 4) (K := 4) (fun n _ => by rw [leB_len]; exact Nat.le_refl _)
  have h5 := fm_len (l := w.o) (g := opngB) (K := 52) (fun x hx => opng_len (F.o x hx).2)
  have := F.cl; have := F.pl; have := F.vl; have := F.hl; have := F.ol
  simp only [textB, T8, T7, T6, T5, T4, T3, T2, T1, T0, List.length_append, leB_len]
  refine ⟨?_, ?_, ?_, ?_, ?_, ?_, ?_, ?_, ?_, ?_⟩ <;> first | trivial | omega
theorem Encode_ok (w : Wd) (h : goodB w = true) (F : Fine w) (hv : ∀ n ∈ w.v, 0 ≤ n ∧ n ≤ 4294967295) : Ct Try.prog 24 [wdV w] [] (Is2 (.tup [.sl 0, i64 0]) [.row 5 1 (bytesD (sealB (textB w)))]) := by
  refine Ct.introF (E := E 149 0 [.tmp 2, .tmp 3] [(34, [4, 14, 15, 115, 116, 117])] [(5, [1, 4, 36, 37, 38]), (11, [1, 4, 59, 60, 61]), (17, [1, 4, 82, 83, 84]), (23, [1, 4, 99, 100, 101]), (29, [4, 115, 116, 117]), (36, [4, 115, 116, 117, 134, 135, 136])] []) tab_ok Try.call24 Try.func24 rfl rfl rfl rfl rfl (fun hin => ?_)
  obtain ⟨L0, L1, L2, L3, L4, L5, L6, L7, L8, L9⟩ := T_len F
  have fk := F.k; have ff := F.f; have fy := F.y; have fcl := F.cl; have fpl := F.pl; have fvl := F.vl; have fhl := F.hl; have fol := F.ol
  have dc : (w.c.map cardD).length = w.c.length := List.length_map _
  have dp : (w.p.map parcD).length = w.p.length := List.length_map _
  have dv : (w.v.map (D.int .u32)).length = w.v.length := List.length_map _
  have dh : (w.h.map (D.int .i64)).length = w.h.length := List.length_map _
  have dO : (w.o.map opngD).length = w.o.length := List.length_map _
  (conv => whnf); refine (Good_ct w).use ?_
  (conv => whnf); refine And.intro ⟨trivial, trivial⟩ ?_
  rw [h]
  (conv => whnf); refine DrawI.mixF [⟨[(1, true, [1]), (2, true, [22]), (4, true, [1]), (5, true, [25]), (7, true, [1]), (8, true, [28]), (10, true, [1]), (11, true, [31]), (12, true, [32])], [], some (0, [])⟩, ⟨[(1, false, [1]), (2, false, [22]), (4, false, [1]), (5, false, [25]), (7, false, [1]), (8, false, [28]), (10, false, [1]), (11, false, [31]), (12, false, [32])], [], some (3, [21, 23])⟩, ⟨[(4, false, [1]), (5, false, [25]), (7, false, [1]), (8, false, [28]), (10, false, [1]), (11, false, [31]), (12, false, [32])], [], some (6, [24, 26])⟩, ⟨[(7, false, [1]), (8, false, [28]), (10, false, [1]), (11, false, [31]), (12, false, [32])], [], some (9, [27, 29])⟩, ⟨[(10, false, [1]), (11, false, [31]), (12, false, [32])], [], some (13, [30, 33])⟩, ⟨[], [], some (14, [34])⟩, ⟨[], [], none⟩] [] (by decide +kernel) ?_
  repeat (first | refine DrawO.mkF _ (And.intro rfl rfl) ?_ | refine DrawO.mkF _ (Idx.mk _ rfl (And.intro rfl rfl)) ?_ | refine And.intro rfl ?_)
  (conv => whnf); refine (Blank_ct).use ?_
  repeat (first | refine DrawO.mkF _ (And.intro rfl rfl) ?_ | refine DrawO.mkF _ (Idx.mk _ rfl (And.intro rfl rfl)) ?_ | refine And.intro rfl ?_)
  (conv => whnf); refine (Small0N_ct w.k (by omega)).use ?_
  repeat (first | refine DrawO.mkF _ (And.intro rfl rfl) ?_ | refine DrawO.mkF _ (Idx.mk _ rfl (And.intro rfl rfl)) ?_ | refine And.intro rfl ?_)
  (conv => whnf); refine (SmallN_ct _ w.f (by omega) (by rw [leB_len]; omega)).use ?_
  repeat (first | refine DrawO.mkF _ (And.intro rfl rfl) ?_ | refine DrawO.mkF _ (Idx.mk _ rfl (And.intro rfl rfl)) ?_ | refine And.intro rfl ?_)
  (conv => whnf); refine (SmallN_ct _ w.y (by omega) (by simp only [List.length_append, leB_len]; omega)).use ?_
  repeat (first | refine DrawO.mkF _ (And.intro rfl rfl) ?_ | refine DrawO.mkF _ (Idx.mk _ rfl (And.intro rfl rfl)) ?_ | refine And.intro rfl ?_)
  (conv => whnf); refine (SmallN_ct _ (w.c.map cardD).length (by omega) (by simp only [List.length_append, leB_len]; omega)).use ?_
  rw [dc]
  (conv => whnf); refine LoopI.mk (fun q ws os => ∃ i : Nat, ws = [.ptr 0 0, .ptr 1 0, .d (.ro (w.c.map cardD)), i64 w.c.length, i64 i] ∧ os = wdO2 w :: paO2 (T0 w ++ (w.c.take i).flatMap cardB) ∧ i ≤ w.c.length ∧ q = w.c.length - i) w.c.length ⟨0, by rw [dc]; rfl, ?_, Nat.zero_le _, rfl⟩ ?_
  · rw [List.take_zero, List.flatMap_nil, List.append_nil]; rfl
  rintro q _ _ ⟨i, rfl, rfl, h1, rfl⟩
  have b1 := fm_lent (l := w.c) (g := cardB) (K := 20) (fun x _ => by rw [card_len]; exact Nat.le_refl _) i
  (conv => whnf); refine cond_d (fun h2 => ?_) (fun h2 => ?_)
  · obtain ⟨x, hx⟩ := get_some (l := w.c) (i := i) (by omega)
    have fx := F.c x (List.mem_of_getElem? hx)
    (conv => whnf); refine And.intro (by omega) (Idx.mk _ (map_at hx) ?_)
    (conv => whnf); refine DrawI.mixF [⟨[(0, true, [4]), (1, true, [6]), (2, true, [43]), (4, true, [6]), (5, true, [46]), (7, true, [6]), (8, true, [49])], [], some (3, [42, 44])⟩, ⟨[(4, false, [6]), (5, false, [46]), (7, false, [6]), (8, false, [49])], [], some (6, [45, 47])⟩, ⟨[(7, false, [6]), (8, false, [49])], [], some (9, [48, 50])⟩, ⟨[], [], none⟩] [] (by decide +kernel) ?_
    repeat (first | refine DrawO.mkF _ (And.intro rfl rfl) ?_ | refine DrawO.mkF _ (Idx.mk _ rfl (And.intro rfl rfl)) ?_ | refine And.intro rfl ?_)
    (conv => whnf); refine (SmallN_ct _ x.1 (by omega) (by simp only [List.length_append, leB_len]; omega)).use ?_
    repeat (first | refine DrawO.mkF _ (And.intro rfl rfl) ?_ | refine DrawO.mkF _ (Idx.mk _ rfl (And.intro rfl rfl)) ?_ | refine And.intro rfl ?_)
    (conv => whnf); refine (Great_ct _ false x.2.1 (by simp only [List.length_append, leB_len]; omega)).use ?_
    repeat (first | refine DrawO.mkF _ (And.intro rfl rfl) ?_ | refine DrawO.mkF _ (Idx.mk _ rfl (And.intro rfl rfl)) ?_ | refine And.intro rfl ?_)
    (conv => whnf); refine (Great_ct _ false x.2.2 (by simp only [List.length_append, leB_len]; omega)).use ?_
    (conv => whnf); refine And.intro (by first | omega | (dsimp only [List.length, cond]; omega) | (show (-9223372036854775808 : Int) ≤ _ ∧ _ ≤ (9223372036854775807 : Int); omega) | decide) ?_
    (conv => whnf)
    refine ⟨w.c.length - (i + 1), by omega, i + 1, rfl, ?_, by omega, rfl⟩
    rw [fm_take hx, cardB]; simp only [List.append_assoc]; rfl
  obtain rfl : i = w.c.length := by omega
  rw [List.take_of_length_le (Nat.le_refl _)]
  have e1 : T0 w ++ w.c.flatMap cardB = T1 w := rfl
  rw [e1]
  (conv => whnf); refine (SmallN_ct _ (w.p.map parcD).length (by omega) (by omega)).use ?_
  (conv => whnf); refine LoopI.mk (fun q ws os => ∃ i : Nat, ws = [.ptr 0 0, .ptr 1 0, .d (.ro (w.p.map parcD)), i64 w.p.length, i64 i] ∧ os = wdO2 w :: paO2 (T2 w ++ (w.p.take i).flatMap parcB) ∧ i ≤ w.p.length ∧ q = w.p.length - i) w.p.length ⟨0, by rw [dp]; rfl, ?_, Nat.zero_le _, rfl⟩ ?_
  · rw [List.take_zero, List.flatMap_nil, List.append_nil, dp]; rfl
  rintro q _ _ ⟨i, rfl, rfl, h1, rfl⟩
  have b1 := fm_lent (l := w.p) (g := parcB) (K := 76) (fun x hx => parc_len (F.p x hx).2.2) i
  (conv => whnf); refine cond_d (fun h2 => ?_) (fun h2 => ?_)
  · obtain ⟨x, hx⟩ := get_some (l := w.p) (i := i) (by omega)
    have fx := F.p x (List.mem_of_getElem? hx)
    (conv => whnf); refine And.intro (by omega) (Idx.mk _ (map_at hx) ?_)
    (conv => whnf); refine DrawI.mixF [⟨[(0, true, [4]), (1, true, [8]), (2, true, [66]), (4, true, [8]), (5, true, [69]), (7, true, [8]), (8, true, [72])], [], some (3, [65, 67])⟩, ⟨[(4, false, [8]), (5, false, [69]), (7, false, [8]), (8, false, [72])], [], some (6, [68, 70])⟩, ⟨[(7, false, [8]), (8, false, [72])], [], some (9, [71, 73])⟩, ⟨[], [], none⟩] [] (by decide +kernel) ?_
    repeat (first | refine DrawO.mkF _ (And.intro rfl rfl) ?_ | refine DrawO.mkF _ (Idx.mk _ rfl (And.intro rfl rfl)) ?_ | refine And.intro rfl ?_)
    (conv => whnf); refine (SmallN_ct _ x.1 (by omega) (by simp only [List.length_append, leB_len]; omega)).use ?_
    repeat (first | refine DrawO.mkF _ (And.intro rfl rfl) ?_ | refine DrawO.mkF _ (Idx.mk _ rfl (And.intro rfl rfl)) ?_ | refine And.intro rfl ?_)
    (conv => whnf); refine (SmallN_ct _ x.2.1 (by omega) (by simp only [List.length_append, leB_len]; omega)).use ?_
    repeat (first | refine DrawO.mkF _ (And.intro rfl rfl) ?_ | refine DrawO.mkF _ (Idx.mk _ rfl (And.intro rfl rfl)) ?_ | refine And.intro rfl ?_)
    (conv => whnf); refine (BytesN_ct _ x.2.2 (by omega) (by simp only [List.length_append, leB_len]; omega)).use ?_
    (conv => whnf); refine And.intro (by first | omega | (dsimp only [List.length, cond]; omega) | (show (-9223372036854775808 : Int) ≤ _ ∧ _ ≤ (9223372036854775807 : Int); omega) | decide) ?_
    (conv => whnf)
    refine ⟨w.p.length - (i + 1), by omega, i + 1, rfl, ?_, by omega, rfl⟩
    rw [fm_take hx, parcB]; simp only [List.append_assoc]; rfl
  obtain rfl : i = w.p.length := by omega
  rw [List.take_of_length_le (Nat.le_refl _)]
  have e1 : T2 w ++ w.p.flatMap parcB = T3 w := rfl
  rw [e1]
  (conv => whnf); refine (SmallN_ct _ (w.v.map (D.int .u32)).length (by omega) (by omega)).use ?_
  (conv => whnf); refine LoopI.mk (fun q ws os => ∃ i : Nat, ws = [.ptr 0 0, .ptr 1 0, .d (.ro (w.v.map (D.int .u32))), i64 w.v.length, i64 i] ∧ os = wdO2 w :: paO2 (T4 w ++ (w.v.take i).flatMap fun n => leB n 4) ∧ i ≤ w.v.length ∧ q = w.v.length - i) w.v.length ⟨0, by rw [dv]; rfl, ?_, Nat.zero_le _, rfl⟩ ?_
  · rw [List.take_zero, List.flatMap_nil, List.append_nil, dv]; rfl
  rintro q _ _ ⟨i, rfl, rfl, h1, rfl⟩
  have b1 := fm_lent (l := w.v) (g := fun n : Int => leB n 4) (K := 4) (fun n _ => by rw [leB_len]; exact Nat.le_refl _) i
  (conv => whnf); refine cond_d (fun h2 => ?_) (fun h2 => ?_)
  · obtain ⟨x, hx⟩ := get_some (l := w.v) (i := i) (by omega)
    have fx := hv x (List.mem_of_getElem? hx)
    (conv => whnf); refine And.intro (by omega) (Idx.mk _ (map_at hx) ?_)
    (conv => whnf); refine Idx.mk _ rfl ?_
    (conv => whnf); refine (SmallN_ct _ x (by omega) (by simp only [List.length_append, leB_len]; omega)).use ?_
    (conv => whnf); refine And.intro (by first | omega | (dsimp only [List.length, cond]; omega) | (show (-9223372036854775808 : Int) ≤ _ ∧ _ ≤ (9223372036854775807 : Int); omega) | decide) ?_
    (conv => whnf)
    refine ⟨w.v.length - (i + 1), by omega, i + 1, rfl, ?_, by omega, rfl⟩
    rw [fm_take hx]; simp only [List.append_assoc]; rfl
  obtain rfl : i = w.v.length := by omega
  rw [List.take_of_length_le (Nat.le_refl _)]
  have e1 : (T4 w ++ w.v.flatMap fun n => leB n 4) = T5 w := rfl
  rw [e1]
  (conv => whnf); refine (SmallN_ct _ (w.h.map (D.int .i64)).length (by omega) (by omega)).use ?_
  (conv => whnf); refine LoopI.mk (fun q ws os => ∃ i : Nat, ws = [.ptr 0 0, .ptr 1 0, .d (.ro (w.h.map (D.int .i64))), i64 w.h.length, i64 i] ∧ os = wdO2 w :: paO2 (T6 w ++ (w.h.take i).flatMap fun n => leB n 4) ∧ i ≤ w.h.length ∧ q = w.h.length - i) w.h.length ⟨0, by rw [dh]; rfl, ?_, Nat.zero_le _, rfl⟩ ?_
  · rw [List.take_zero, List.flatMap_nil, List.append_nil, dh]; rfl
  rintro q _ _ ⟨i, rfl, rfl, h1, rfl⟩
  have b1 := fm_lent (l := w.h) (g := fun n : Int => leB n 4) (K := 4) (fun n _ => by rw [leB_len]; exact Nat.le_refl _) i
  (conv => whnf); refine cond_d (fun h2 => ?_) (fun h2 => ?_)
  · obtain ⟨x, hx⟩ := get_some (l := w.h) (i := i) (by omega)
    have fx := F.h x (List.mem_of_getElem? hx)
    (conv => whnf); refine And.intro (by omega) (Idx.mk _ (map_at hx) ?_)
    (conv => whnf); refine Idx.mk _ rfl ?_
    (conv => whnf); refine (SmallN_ct _ x (by omega) (by simp only [List.length_append, leB_len]; omega)).use ?_
    (conv => whnf); refine And.intro (by first | omega | (dsimp only [List.length, cond]; omega) | (show (-9223372036854775808 : Int) ≤ _ ∧ _ ≤ (9223372036854775807 : Int); omega) | decide) ?_
    (conv => whnf)
    refine ⟨w.h.length - (i + 1), by omega, i + 1, rfl, ?_, by omega, rfl⟩
    rw [fm_take hx]; simp only [List.append_assoc]; rfl
  obtain rfl : i = w.h.length := by omega
  rw [List.take_of_length_le (Nat.le_refl _)]
  have e1 : (T6 w ++ w.h.flatMap fun n => leB n 4) = T7 w := rfl
  rw [e1]
  (conv => whnf); refine (SmallN_ct _ (w.o.map opngD).length (by omega) (by omega)).use ?_
  (conv => whnf); refine LoopI.mk (fun q ws os => ∃ i : Nat, ws = [.ptr 0 0, .d (.ro (w.o.map opngD)), i64 w.o.length, i64 i] ∧ os = papO (T8 w ++ (w.o.take i).flatMap opngB) false ∧ i ≤ w.o.length ∧ q = w.o.length - i) w.o.length ⟨0, by rw [dO]; rfl, ?_, Nat.zero_le _, rfl⟩ ?_
  · rw [List.take_zero, List.flatMap_nil, List.append_nil, dO]; rfl
  rintro q _ _ ⟨i, rfl, rfl, h1, rfl⟩
  have b1 := fm_lent (l := w.o) (g := opngB) (K := 52) (fun x hx => opng_len (F.o x hx).2) i
  (conv => whnf); refine cond_d (fun h2 => ?_) (fun h2 => ?_)
  · obtain ⟨x, hx⟩ := get_some (l := w.o) (i := i) (by omega)
    have fx := F.o x (List.mem_of_getElem? hx)
    have dx : (x.2.2.map (D.int .u64)).length = x.2.2.length := List.length_map _
    (conv => whnf); refine And.intro (by omega) (Idx.mk _ (map_at hx) ?_)
    (conv => whnf); refine JoinI.mk (fun ws os => ws = [.ptr 0 0, .ptr 1 0, i64 (ownN x.2.1), .d (.ro (w.o.map opngD)), i64 w.o.length, i64 i] ∧ os = [.vec 123 [.sl 2, .d (.bool false)], .vec 80 [i64 x.1, .d (.bool x.2.1), .d (.ro (x.2.2.map (D.int .u64)))], .row 5 1 (bytesD (T8 w ++ (w.o.take i).flatMap opngB))]) ?_ ?_
    · (conv => whnf); refine cond_i (fun h3 => ?_) (fun h3 => ?_)
      · (conv => whnf)
        exact ⟨by rw [h3]; rfl, rfl⟩
      · (conv => whnf)
        exact ⟨by rw [h3]; rfl, rfl⟩
    rintro _ _ ⟨rfl, rfl⟩
    (conv => whnf); refine DrawI.mixF [⟨[(0, true, [4]), (1, true, [14]), (2, true, [124]), (4, true, [15]), (6, true, [14]), (7, true, [129]), (8, true, [130])], [], some (3, [123, 125])⟩, ⟨[(4, false, [15]), (6, false, [14]), (7, false, [129]), (8, false, [130])], [], some (5, [126, 127])⟩, ⟨[(6, false, [14]), (7, false, [129]), (8, false, [130])], [], some (9, [128, 131])⟩, ⟨[], [], none⟩] [] (by decide +kernel) ?_
    repeat (first | refine DrawO.mkF _ (And.intro rfl rfl) ?_ | refine DrawO.mkF _ (Idx.mk _ rfl (And.intro rfl rfl)) ?_ | refine And.intro rfl ?_)
    (conv => whnf); refine (SmallN_ct _ x.1 (by omega) (by simp only [List.length_append, leB_len]; omega)).use ?_
    repeat (first | refine DrawO.mkF _ (And.intro rfl rfl) ?_ | refine DrawO.mkF _ (Idx.mk _ rfl (And.intro rfl rfl)) ?_ | refine And.intro rfl ?_)
    (conv => whnf); refine (SmallN_ct _ (ownN x.2.1) (by unfold ownN; split <;> omega) (by simp only [List.length_append, leB_len]; omega)).use ?_
    repeat (first | refine DrawO.mkF _ (And.intro rfl rfl) ?_ | refine DrawO.mkF _ (Idx.mk _ rfl (And.intro rfl rfl)) ?_ | refine And.intro rfl ?_)
    (conv => whnf); refine (SmallN_ct _ (x.2.2.map (D.int .u64)).length (by omega) (by simp only [List.length_append, leB_len]; omega)).use ?_
    (conv => whnf); refine LoopI.mk (fun q ws os => ∃ j : Nat, ws = [.ptr 0 0, .d (.ro (w.o.map opngD)), i64 w.o.length, i64 i, .d (.ro (x.2.2.map (D.int .u64))), i64 x.2.2.length, i64 j] ∧ os = papO (T8 w ++ (w.o.take i).flatMap opngB ++ (leB x.1 4 ++ leB (ownN x.2.1) 4 ++ leB (x.2.2.length : Nat) 4 ++ (x.2.2.take j).flatMap fun n => leB n 8)) false ∧ j ≤ x.2.2.length ∧ q = x.2.2.length - j) x.2.2.length ⟨0, by rw [dx]; rfl, ?_, Nat.zero_le _, rfl⟩ ?_
    · rw [List.take_zero (l := x.2.2), List.flatMap_nil, List.append_nil, dx]; simp only [List.append_assoc]; rfl
    rintro q _ _ ⟨j, rfl, rfl, g1, rfl⟩
    have b2 := fm_lent (l := x.2.2) (g := fun n : Int => leB n 8) (K := 8) (fun n _ => by rw [leB_len]; exact Nat.le_refl _) j
    (conv => whnf); refine cond_d (fun g2 => ?_) (fun g2 => ?_)
    · obtain ⟨n, hn⟩ := get_some (l := x.2.2) (i := j) (by omega)
      (conv => whnf); refine And.intro (by omega) (Idx.mk _ (map_at hn) ?_)
      (conv => whnf); refine Idx.mk _ rfl ?_
      (conv => whnf); refine (Great_ct _ false n (by simp only [List.length_append, leB_len]; omega)).use ?_
      (conv => whnf); refine And.intro (by first | omega | (dsimp only [List.length, cond]; omega) | (show (-9223372036854775808 : Int) ≤ _ ∧ _ ≤ (9223372036854775807 : Int); omega) | decide) ?_
      (conv => whnf)
      refine ⟨x.2.2.length - (j + 1), by omega, j + 1, rfl, ?_, by omega, rfl⟩
      rw [fm_take hn]; simp only [List.append_assoc]; rfl
    obtain rfl : j = x.2.2.length := by omega
    rw [List.take_of_length_le (l := x.2.2) (Nat.le_refl _)]
    (conv => whnf); refine And.intro (by first | omega | (dsimp only [List.length, cond]; omega) | (show (-9223372036854775808 : Int) ≤ _ ∧ _ ≤ (9223372036854775807 : Int); omega) | decide) ?_
    (conv => whnf)
    refine ⟨w.o.length - (i + 1), by omega, i + 1, rfl, ?_, by omega, rfl⟩
    have e2 : T8 w ++ (w.o.take (i + 1)).flatMap opngB = T8 w ++ (w.o.take i).flatMap opngB ++ (leB x.1 4 ++ leB (ownN x.2.1) 4 ++ leB (x.2.2.length : Nat) 4 ++ x.2.2.flatMap fun n => leB n 8) := by
      rw [fm_take hx, List.append_assoc (T8 w)]; rfl
    rw [e2]; rfl
  obtain rfl : i = w.o.length := by omega
  rw [List.take_of_length_le (Nat.le_refl _)]
  have e1 : T8 w ++ w.o.flatMap opngB = textB w := rfl
  rw [e1]
  (conv => whnf); refine (Seal_ct (textB w) (by omega)).use ?_
  exact Is2.mk rfl
end Go.Proofs.Ytidelnccggfmgaa.Wrd

/- Package words: things read, lists of them. -/
namespace Go.Proofs.Ytidelnccggfmgaa.Wrd
open Go.V Go.Num
open Go.Eng (wr)
open Go.Proofs.Ytidelnccggfmgaa.Let
set_option maxRecDepth 100000
set_option maxHeartbeats 4000000
/-- What a reader has: what is left, what was wrong, what nobody writes. -/
abbrev RX := List UInt8 × Int × Bool
def smallX (s : RX) : Int × RX := (((numB (takeB s.1 s.2.1 4).1 : Nat) : Int), (takeB s.1 s.2.1 4).2.1, (takeB s.1 s.2.1 4).2.2, s.2.2)
def greatX (s : RX) : Int × RX := (((numB (takeB s.1 s.2.1 8).1 : Nat) : Int), (takeB s.1 s.2.1 8).2.1, (takeB s.1 s.2.1 8).2.2, s.2.2)
def bytesX (s : RX) : List UInt8 × RX := ((bytesB s.1 s.2.1).1, (bytesB s.1 s.2.1).2.1, (bytesB s.1 s.2.1).2.2, s.2.2)
def cardX (s : RX) : Card × RX := (((smallX s).1, (greatX (smallX s).2).1, (greatX (greatX (smallX s).2).2).1), (greatX (greatX (smallX s).2).2).2)
def parcX (s : RX) : Parc × RX := (((smallX s).1, (smallX (smallX s).2).1, (bytesX (smallX (smallX s).2).2).1), (bytesX (smallX (smallX s).2).2).2)
def cellX (s : RX) : Int × RX := (wr .u32 (smallX s).1, (smallX s).2)
def repR {α : Type} (one : RX → α × RX) : Nat → RX → List α × RX
  | 0, s => ([], s)
  | k + 1, s => ((repR one k s).1 ++ [(one (repR one k s).2).1], (one (repR one k s).2).2)
def oddX (b : Bool) (s : RX) : RX := (s.1, s.2.1, s.2.2 || b)
def listR {α : Type} (one : RX → α × RX) (s : RX) : List α × RX :=
  ((repR one (min (smallX s).1 257).toNat (smallX s).2).1, oddX (decide (256 < (smallX s).1)) (repR one (min (smallX s).1 257).toNat (smallX s).2).2)
def opngX (s : RX) : Opng × RX :=
  (((smallX s).1, decide ((smallX (smallX s).2).1 = 1), (listR greatX (oddX (decide (1 < (smallX (smallX s).2).1)) (smallX (smallX s).2).2)).1), (listR greatX (oddX (decide (1 < (smallX (smallX s).2).1)) (smallX (smallX s).2).2)).2)
def restD (z : Bool) (rest : List UInt8) : D := match z with
  | true => .nils
  | false => .ro (bytesD rest)
abbrev eyS (z : Bool) (s : RX) : List V.Obj := [.vec 127 [.d (restD z s.1), i64 s.2.1]]
abbrev rdS (z : Bool) (s : RX) : List V.Obj := [.vec 94 [.ptr 1 0, .d (.bool s.2.2)], .vec 127 [.d (restD z s.1), i64 s.2.1]]
def ZOk (z : Bool) (s : RX) : Prop := s.1.length ≤ 65536 ∧ (z = true → s.1 = [] ∧ s.2.1 ≠ 0)
theorem take_z {e : Int} {n : Nat} (he : e ≠ 0) : takeB [] e n = ([], [], e) := by unfold takeB; rw [if_neg he]
theorem zok_take {z : Bool} {s : RX} (h : ZOk z s) (n : Nat) (o : Bool) : ZOk z ((takeB s.1 s.2.1 n).2.1, (takeB s.1 s.2.1 n).2.2, o) := by
  refine ⟨Nat.le_trans (takeB_rest _ _ _) h.1, fun hz => ?_⟩
  obtain ⟨h1, h2⟩ := h.2 hz
  show (takeB s.1 s.2.1 n).2.1 = [] ∧ (takeB s.1 s.2.1 n).2.2 ≠ 0
  rw [h1, take_z h2]
  exact ⟨rfl, h2⟩
theorem zok_small {z : Bool} {s : RX} (h : ZOk z s) : ZOk z (smallX s).2 := zok_take h 4 s.2.2
theorem zok_great {z : Bool} {s : RX} (h : ZOk z s) : ZOk z (greatX s).2 := zok_take h 8 s.2.2
theorem zok_odd {z : Bool} {s : RX} (h : ZOk z s) (b : Bool) : ZOk z (oddX b s) := h
theorem zok_bytes {z : Bool} {s : RX} (h : ZOk z s) : ZOk z (bytesX s).2 := zok_take (zok_take h 4 s.2.2) (numB (takeB s.1 s.2.1 4).1) s.2.2
theorem zok_card {z : Bool} {s : RX} (h : ZOk z s) : ZOk z (cardX s).2 := zok_great (zok_great (zok_small h))
theorem zok_parc {z : Bool} {s : RX} (h : ZOk z s) : ZOk z (parcX s).2 := zok_bytes (zok_small (zok_small h))
theorem zok_cell {z : Bool} {s : RX} (h : ZOk z s) : ZOk z (cellX s).2 := zok_small h
theorem zok_rep {z : Bool} {α : Type} {one : RX → α × RX} (h1 : ∀ s, ZOk z s → ZOk z (one s).2) {s : RX} (h : ZOk z s) : ∀ k, ZOk z (repR one k s).2
  | 0 => h
  | k + 1 => h1 _ (zok_rep h1 h k)
theorem zok_list {z : Bool} {α : Type} {one : RX → α × RX} (h1 : ∀ s, ZOk z s → ZOk z (one s).2) {s : RX} (h : ZOk z s) : ZOk z (listR one s).2 := zok_rep h1 (zok_small h) _
theorem zok_opng {z : Bool} {s : RX} (h : ZOk z s) : ZOk z (opngX s).2 := zok_list (fun _ => zok_great) (zok_odd (zok_small (zok_small h)) _)
theorem rep_len {α : Type} (one : RX → α × RX) (s : RX) : ∀ k, (repR one k s).1.length = k
  | 0 => rfl
  | k + 1 => by show (_ ++ [_]).length = _; rw [List.length_append, rep_len one s k]; rfl
theorem small_rng (s : RX) : 0 ≤ (smallX s).1 ∧ (smallX s).1 ≤ 4294967295 := by
  have : numB (takeB s.1 s.2.1 4).1 < 4294967296 := numB_lt32 (Let.take_len _ _ _)
  show (0 : Int) ≤ ((numB (takeB s.1 s.2.1 4).1 : Nat) : Int) ∧ ((numB (takeB s.1 s.2.1 4).1 : Nat) : Int) ≤ 4294967295
  omega
theorem ESmallU (z : Bool) (s : RX) (h : ZOk z s) : Ct Try.prog 42 [.ptr 0 0] (eyS z s) (Is2 (i64 (smallX s).1) (eyS z (smallX s).2)) := by
  cases z with
  | false => exact ESmall_ct s.1 s.2.1
  | true =>
    obtain ⟨r, e, o⟩ := s
    obtain ⟨h1, h2⟩ := h.2 rfl
    cases h1
    have := ESmall0_ct e h2
    unfold smallX; rw [take_z h2]; exact this
theorem EGreatU (z : Bool) (s : RX) (h : ZOk z s) : Ct Try.prog 79 [.ptr 0 0] (eyS z s) (Is2 (u64 (greatX s).1) (eyS z (greatX s).2)) := by
  cases z with
  | false => exact EGreat_ct s.1 s.2.1
  | true =>
    obtain ⟨r, e, o⟩ := s
    obtain ⟨h1, h2⟩ := h.2 rfl
    cases h1
    have := EGreat0_ct e h2
    unfold greatX; rw [take_z h2]; exact this
theorem EBytesU (z : Bool) (s : RX) (h : ZOk z s) : Ct Try.prog 80 [.ptr 0 0] (eyS z s) (Is2 (B8 (bytesX s).1) (eyS z (bytesX s).2)) := by
  cases z with
  | false => exact EBytes_ct s.1 s.2.1 (Nat.le_trans h.1 (by decide))
  | true =>
    obtain ⟨r, e, o⟩ := s
    obtain ⟨h1, h2⟩ := h.2 rfl
    cases h1
    have := EBytes0_ct e h2
    have e1 : bytesB [] e = ([], [], e) := by unfold bytesB; rw [take_z h2]; exact take_z h2
    unfold bytesX; rw [e1]; exact this
theorem EEndU (z : Bool) (s : RX) (h : ZOk z s) : Ct Try.prog 52 [.ptr 0 0] (eyS z s) (Is2 (i64 (endB s.1 s.2.1)) (eyS z (s.1, endB s.1 s.2.1, s.2.2))) := by
  cases z with
  | false => exact EEnd_ct s.1 s.2.1
  | true =>
    obtain ⟨r, e, o⟩ := s
    obtain ⟨h1, h2⟩ := h.2 rfl
    cases h1
    have := EEnd0_ct e h2
    have e1 : endB [] e = e := by unfold endB; rw [if_neg (fun h => h2 h.1)]
    show Ct _ _ _ _ (Is2 (i64 (endB [] e)) (eyS true ([], endB [] e, o)))
    rw [e1]; exact this
theorem rcard_ct (z : Bool) (s : RX) (h : ZOk z s) : Ct Try.prog 44 [.ptr 0 0] (rdS z s) (Is2 (.d (cardD (cardX s).1)) (rdS z (cardX s).2)) := by
  refine Ct.introF (E := E 19 2 [.cell 2 75] [] [] []) tab_ok Try.call44 Try.func44 rfl rfl rfl rfl rfl (fun hin => ?_)
  (conv => whnf); refine DrawI.mixF [⟨[(0, true, [0]), (1, true, [3]), (2, true, [4]), (3, true, [5]), (5, true, [0]), (6, true, [8]), (7, true, [9]), (8, true, [10]), (10, true, [0]), (11, true, [13]), (12, true, [14]), (13, true, [15])], [], some (4, [6])⟩, ⟨[(5, false, [0]), (6, false, [8]), (7, false, [9]), (8, false, [10]), (10, false, [0]), (11, false, [13]), (12, false, [14]), (13, false, [15])], [], some (9, [11])⟩, ⟨[(10, false, [0]), (11, false, [13]), (12, false, [14]), (13, false, [15])], [], some (14, [16])⟩, ⟨[(15, true, [7, 12, 17])], [], some (16, [2, 18])⟩, ⟨[], [], none⟩] [] (by decide +kernel) ?_
  repeat (first | refine DrawO.mkF _ (And.intro rfl rfl) ?_ | refine DrawO.mkF _ (Idx.mk _ rfl (And.intro rfl rfl)) ?_ | refine And.intro rfl ?_)
  (conv => whnf); refine (ESmallU z s h).use ?_
  repeat (first | refine DrawO.mkF _ (And.intro rfl rfl) ?_ | refine DrawO.mkF _ (Idx.mk _ rfl (And.intro rfl rfl)) ?_ | refine And.intro rfl ?_)
  (conv => whnf); refine (EGreatU z _ (zok_small h)).use ?_
  repeat (first | refine DrawO.mkF _ (And.intro rfl rfl) ?_ | refine DrawO.mkF _ (Idx.mk _ rfl (And.intro rfl rfl)) ?_ | refine And.intro rfl ?_)
  (conv => whnf); refine (EGreatU z _ (zok_great (zok_small h))).use ?_
  repeat (first | refine DrawO.mkF _ (And.intro rfl rfl) ?_ | refine DrawO.mkF _ (Idx.mk _ rfl (And.intro rfl rfl)) ?_ | refine And.intro rfl ?_)
  exact rfl
theorem rparc_ct (z : Bool) (s : RX) (h : ZOk z s) : Ct Try.prog 46 [.ptr 0 0] (rdS z s) (Is2 (.d (parcD (parcX s).1)) (rdS z (parcX s).2)) := by
  refine Ct.introF (E := E 19 2 [.cell 2 77] [] [] []) tab_ok Try.call46 Try.func46 rfl rfl rfl rfl rfl (fun hin => ?_)
  (conv => whnf); refine DrawI.mixF [⟨[(0, true, [0]), (1, true, [3]), (2, true, [4]), (3, true, [5]), (5, true, [0]), (6, true, [8]), (7, true, [9]), (8, true, [10]), (10, true, [0]), (11, true, [13]), (12, true, [14]), (13, true, [15])], [], some (4, [6])⟩, ⟨[(5, false, [0]), (6, false, [8]), (7, false, [9]), (8, false, [10]), (10, false, [0]), (11, false, [13]), (12, false, [14]), (13, false, [15])], [], some (9, [11])⟩, ⟨[(10, false, [0]), (11, false, [13]), (12, false, [14]), (13, false, [15])], [], some (14, [16])⟩, ⟨[(15, true, [7, 12, 17])], [], some (16, [2, 18])⟩, ⟨[], [], none⟩] [] (by decide +kernel) ?_
  repeat (first | refine DrawO.mkF _ (And.intro rfl rfl) ?_ | refine DrawO.mkF _ (Idx.mk _ rfl (And.intro rfl rfl)) ?_ | refine And.intro rfl ?_)
  (conv => whnf); refine (ESmallU z s h).use ?_
  repeat (first | refine DrawO.mkF _ (And.intro rfl rfl) ?_ | refine DrawO.mkF _ (Idx.mk _ rfl (And.intro rfl rfl)) ?_ | refine And.intro rfl ?_)
  (conv => whnf); refine (ESmallU z _ (zok_small h)).use ?_
  repeat (first | refine DrawO.mkF _ (And.intro rfl rfl) ?_ | refine DrawO.mkF _ (Idx.mk _ rfl (And.intro rfl rfl)) ?_ | refine And.intro rfl ?_)
  (conv => whnf); refine (EBytesU z _ (zok_small (zok_small h))).use ?_
  repeat (first | refine DrawO.mkF _ (And.intro rfl rfl) ?_ | refine DrawO.mkF _ (Idx.mk _ rfl (And.intro rfl rfl)) ?_ | refine And.intro rfl ?_)
  exact rfl
theorem rcell_ct (z : Bool) (s : RX) (h : ZOk z s) : Ct Try.prog 48 [.ptr 0 0] (rdS z s) (Is2 (.d (.int .u32 (cellX s).1)) (rdS z (cellX s).2)) := by
  refine Ct.introF (E := E 9 2 [.tmp 2] [] [] []) tab_ok Try.call48 Try.func48 rfl rfl rfl rfl rfl (fun hin => ?_)
  (conv => whnf); refine (ESmallU z s h).use ?_
  exact Is2.mk rfl
theorem list_card (z : Bool) (s : RX) (h : ZOk z s) : Ct Try.prog 43 [.ptr 0 0, .fn 44 [.ptr 0 0] []] (rdS z s) (Is2 (.sl 2) (rdS z (listR cardX s).2 ++ [.row 75 3 ((listR cardX s).1.map cardD)])) := by
  refine Ct.introF (E := E 34 2 [.tmp 4] [] [(4, [0, 1, 5, 6, 13, 14])] [(3, [.own 6 75 3])]) tab_ok Try.call43 Try.func43 rfl rfl rfl rfl rfl (fun hin => ?_)
  (conv => whnf); refine (ESmallU z s h).use ?_
  have hr := small_rng s
  obtain ⟨m, hm⟩ : ∃ m : Nat, (min (smallX s).1 257) = m := ⟨(min (smallX s).1 257).toNat, by omega⟩
  (conv => whnf); refine LoopI.mk (fun q ws os => ∃ i : Nat, ws = [.ptr 0 0, .fn 44 [.ptr 0 0] [], i64 (smallX s).1, .sl 2, i64 m, i64 i] ∧ os = rdS z (repR cardX i (smallX s).2).2 ++ [.row 75 3 ((repR cardX i (smallX s).2).1.map cardD)] ∧ i ≤ m ∧ q = m - i) m ⟨0, by rw [← hm]; rfl, rfl, Nat.zero_le _, rfl⟩ ?_
  rintro q _ _ ⟨i, rfl, rfl, h1, rfl⟩
  have hl : ((repR cardX i (smallX s).2).1.map cardD).length = i := by rw [List.length_map, rep_len]
  have hz := zok_rep (one := cardX) (fun _ => zok_card) (zok_small h) i
  (conv => whnf); refine cond_d (fun h2 => ?_) (fun h2 => ?_)
  · (conv => whnf); refine (rcard_ct z _ hz).use ?_
    (conv => whnf); refine And.intro ⟨by rw [hl]; dsimp only [List.length]; omega, fun y hy => by cases hy with | head => rfl | tail _ h => cases h⟩ ?_
    (conv => whnf); refine And.intro (by first | omega | (dsimp only [List.length, cond]; omega) | (show (-9223372036854775808 : Int) ≤ _ ∧ _ ≤ (9223372036854775807 : Int); omega) | decide) ?_
    (conv => whnf)
    refine ⟨m - (i + 1), by omega, i + 1, rfl, ?_, by omega, rfl⟩
    show _ = rdS z (cardX (repR cardX i (smallX s).2).2).2 ++ [.row 75 3 (((repR cardX i (smallX s).2).1 ++ [(cardX (repR cardX i (smallX s).2).2).1]).map cardD)]
    rw [List.map_append]; rfl
  obtain rfl : i = m := by omega
  have e1 : listR cardX s = ((repR cardX i (smallX s).2).1, oddX (decide (256 < (smallX s).1)) (repR cardX i (smallX s).2).2) := by
    unfold listR; rw [hm, Int.toNat_natCast]
  rw [e1]
  obtain ⟨b, hb⟩ : ∃ b, b = (repR cardX i (smallX s).2).2.2.2 := ⟨_, rfl⟩
  show _
  rw [← hb]
  (conv => whnf); refine cond_i (fun h3 => ?_) (fun h3 => ?_)
  · refine Is2.mk' rfl ?_
    unfold oddX; rw [← hb, h3]; rfl
  · refine Is2.mk' rfl ?_
    unfold oddX; rw [← hb, h3]; rfl
theorem list_parc (z : Bool) (s : RX) (h : ZOk z s) : Ct Try.prog 45 [.ptr 0 0, .fn 46 [.ptr 0 0] []] (rdS z s) (Is2 (.sl 2) (rdS z (listR parcX s).2 ++ [.row 77 3 ((listR parcX s).1.map parcD)])) := by
  refine Ct.introF (E := E 34 2 [.tmp 4] [] [(4, [0, 1, 5, 6, 13, 14])] [(3, [.own 6 77 3])]) tab_ok Try.call45 Try.func45 rfl rfl rfl rfl rfl (fun hin => ?_)
  (conv => whnf); refine (ESmallU z s h).use ?_
  have hr := small_rng s
  obtain ⟨m, hm⟩ : ∃ m : Nat, (min (smallX s).1 257) = m := ⟨(min (smallX s).1 257).toNat, by omega⟩
  (conv => whnf); refine LoopI.mk (fun q ws os => ∃ i : Nat, ws = [.ptr 0 0, .fn 46 [.ptr 0 0] [], i64 (smallX s).1, .sl 2, i64 m, i64 i] ∧ os = rdS z (repR parcX i (smallX s).2).2 ++ [.row 77 3 ((repR parcX i (smallX s).2).1.map parcD)] ∧ i ≤ m ∧ q = m - i) m ⟨0, by rw [← hm]; rfl, rfl, Nat.zero_le _, rfl⟩ ?_
  rintro q _ _ ⟨i, rfl, rfl, h1, rfl⟩
  have hl : ((repR parcX i (smallX s).2).1.map parcD).length = i := by rw [List.length_map, rep_len]
  have hz := zok_rep (one := parcX) (fun _ => zok_parc) (zok_small h) i
  (conv => whnf); refine cond_d (fun h2 => ?_) (fun h2 => ?_)
  · (conv => whnf); refine (rparc_ct z _ hz).use ?_
    (conv => whnf); refine And.intro ⟨by rw [hl]; dsimp only [List.length]; omega, fun y hy => by cases hy with | head => rfl | tail _ h => cases h⟩ ?_
    (conv => whnf); refine And.intro (by first | omega | (dsimp only [List.length, cond]; omega) | (show (-9223372036854775808 : Int) ≤ _ ∧ _ ≤ (9223372036854775807 : Int); omega) | decide) ?_
    (conv => whnf)
    refine ⟨m - (i + 1), by omega, i + 1, rfl, ?_, by omega, rfl⟩
    show _ = rdS z (parcX (repR parcX i (smallX s).2).2).2 ++ [.row 77 3 (((repR parcX i (smallX s).2).1 ++ [(parcX (repR parcX i (smallX s).2).2).1]).map parcD)]
    rw [List.map_append]; rfl
  obtain rfl : i = m := by omega
  have e1 : listR parcX s = ((repR parcX i (smallX s).2).1, oddX (decide (256 < (smallX s).1)) (repR parcX i (smallX s).2).2) := by
    unfold listR; rw [hm, Int.toNat_natCast]
  rw [e1]
  obtain ⟨b, hb⟩ : ∃ b, b = (repR parcX i (smallX s).2).2.2.2 := ⟨_, rfl⟩
  show _
  rw [← hb]
  (conv => whnf); refine cond_i (fun h3 => ?_) (fun h3 => ?_)
  · refine Is2.mk' rfl ?_
    unfold oddX; rw [← hb, h3]; rfl
  · refine Is2.mk' rfl ?_
    unfold oddX; rw [← hb, h3]; rfl
theorem list_cell (z : Bool) (s : RX) (h : ZOk z s) : Ct Try.prog 47 [.ptr 0 0, .fn 48 [.ptr 0 0] []] (rdS z s) (Is2 (.sl 2) (rdS z (listR cellX s).2 ++ [.row 88 1 ((listR cellX s).1.map (D.int .u32))])) := by
  refine Ct.introF (E := E 34 2 [.tmp 4] [] [(4, [0, 1, 5, 6, 13, 14])] [(3, [.own 6 88 1])]) tab_ok Try.call47 Try.func47 rfl rfl rfl rfl rfl (fun hin => ?_)
  (conv => whnf); refine (ESmallU z s h).use ?_
  have hr := small_rng s
  obtain ⟨m, hm⟩ : ∃ m : Nat, (min (smallX s).1 257) = m := ⟨(min (smallX s).1 257).toNat, by omega⟩
  (conv => whnf); refine LoopI.mk (fun q ws os => ∃ i : Nat, ws = [.ptr 0 0, .fn 48 [.ptr 0 0] [], i64 (smallX s).1, .sl 2, i64 m, i64 i] ∧ os = rdS z (repR cellX i (smallX s).2).2 ++ [.row 88 1 ((repR cellX i (smallX s).2).1.map (D.int .u32))] ∧ i ≤ m ∧ q = m - i) m ⟨0, by rw [← hm]; rfl, rfl, Nat.zero_le _, rfl⟩ ?_
  rintro q _ _ ⟨i, rfl, rfl, h1, rfl⟩
  have hl : ((repR cellX i (smallX s).2).1.map (D.int .u32)).length = i := by rw [List.length_map, rep_len]
  have hz := zok_rep (one := cellX) (fun _ => zok_cell) (zok_small h) i
  (conv => whnf); refine cond_d (fun h2 => ?_) (fun h2 => ?_)
  · (conv => whnf); refine (rcell_ct z _ hz).use ?_
    (conv => whnf); refine And.intro ⟨by rw [hl]; dsimp only [List.length]; omega, fun y hy => by cases hy with | head => rfl | tail _ h => cases h⟩ ?_
    (conv => whnf); refine And.intro (by first | omega | (dsimp only [List.length, cond]; omega) | (show (-9223372036854775808 : Int) ≤ _ ∧ _ ≤ (9223372036854775807 : Int); omega) | decide) ?_
    (conv => whnf)
    refine ⟨m - (i + 1), by omega, i + 1, rfl, ?_, by omega, rfl⟩
    show _ = rdS z (cellX (repR cellX i (smallX s).2).2).2 ++ [.row 88 1 (((repR cellX i (smallX s).2).1 ++ [(cellX (repR cellX i (smallX s).2).2).1]).map (D.int .u32))]
    rw [List.map_append]; rfl
  obtain rfl : i = m := by omega
  have e1 : listR cellX s = ((repR cellX i (smallX s).2).1, oddX (decide (256 < (smallX s).1)) (repR cellX i (smallX s).2).2) := by
    unfold listR; rw [hm, Int.toNat_natCast]
  rw [e1]
  obtain ⟨b, hb⟩ : ∃ b, b = (repR cellX i (smallX s).2).2.2.2 := ⟨_, rfl⟩
  show _
  rw [← hb]
  (conv => whnf); refine cond_i (fun h3 => ?_) (fun h3 => ?_)
  · refine Is2.mk' rfl ?_
    unfold oddX; rw [← hb, h3]; rfl
  · refine Is2.mk' rfl ?_
    unfold oddX; rw [← hb, h3]; rfl
theorem list_int (z : Bool) (s : RX) (h : ZOk z s) : Ct Try.prog 49 [.ptr 0 0, .fn 42 [.ptr 1 0] []] (rdS z s) (Is2 (.sl 2) (rdS z (listR smallX s).2 ++ [.row 3 1 ((listR smallX s).1.map (D.int .i64))])) := by
  refine Ct.introF (E := E 34 2 [.tmp 4] [] [(4, [0, 1, 5, 6, 13, 14])] [(3, [.own 6 3 1])]) tab_ok Try.call49 Try.func49 rfl rfl rfl rfl rfl (fun hin => ?_)
  (conv => whnf); refine (ESmallU z s h).use ?_
  have hr := small_rng s
  obtain ⟨m, hm⟩ : ∃ m : Nat, (min (smallX s).1 257) = m := ⟨(min (smallX s).1 257).toNat, by omega⟩
  (conv => whnf); refine LoopI.mk (fun q ws os => ∃ i : Nat, ws = [.ptr 0 0, .fn 42 [.ptr 1 0] [], i64 (smallX s).1, .sl 2, i64 m, i64 i] ∧ os = rdS z (repR smallX i (smallX s).2).2 ++ [.row 3 1 ((repR smallX i (smallX s).2).1.map (D.int .i64))] ∧ i ≤ m ∧ q = m - i) m ⟨0, by rw [← hm]; rfl, rfl, Nat.zero_le _, rfl⟩ ?_
  rintro q _ _ ⟨i, rfl, rfl, h1, rfl⟩
  have hl : ((repR smallX i (smallX s).2).1.map (D.int .i64)).length = i := by rw [List.length_map, rep_len]
  have hz := zok_rep (one := smallX) (fun _ => zok_small) (zok_small h) i
  (conv => whnf); refine cond_d (fun h2 => ?_) (fun h2 => ?_)
  · (conv => whnf); refine (ESmallU z _ hz).use ?_
    (conv => whnf); refine And.intro ⟨by rw [hl]; dsimp only [List.length]; omega, fun y hy => by cases hy with | head => rfl | tail _ h => cases h⟩ ?_
    (conv => whnf); refine And.intro (by first | omega | (dsimp only [List.length, cond]; omega) | (show (-9223372036854775808 : Int) ≤ _ ∧ _ ≤ (9223372036854775807 : Int); omega) | decide) ?_
    (conv => whnf)
    refine ⟨m - (i + 1), by omega, i + 1, rfl, ?_, by omega, rfl⟩
    show _ = rdS z (smallX (repR smallX i (smallX s).2).2).2 ++ [.row 3 1 (((repR smallX i (smallX s).2).1 ++ [(smallX (repR smallX i (smallX s).2).2).1]).map (D.int .i64))]
    rw [List.map_append]; rfl
  obtain rfl : i = m := by omega
  have e1 : listR smallX s = ((repR smallX i (smallX s).2).1, oddX (decide (256 < (smallX s).1)) (repR smallX i (smallX s).2).2) := by
    unfold listR; rw [hm, Int.toNat_natCast]
  rw [e1]
  obtain ⟨b, hb⟩ : ∃ b, b = (repR smallX i (smallX s).2).2.2.2 := ⟨_, rfl⟩
  show _
  rw [← hb]
  (conv => whnf); refine cond_i (fun h3 => ?_) (fun h3 => ?_)
  · refine Is2.mk' rfl ?_
    unfold oddX; rw [← hb, h3]; rfl
  · refine Is2.mk' rfl ?_
    unfold oddX; rw [← hb, h3]; rfl
theorem list_u64 (z : Bool) (s : RX) (h : ZOk z s) : Ct Try.prog 81 [.ptr 0 0, .fn 79 [.ptr 1 0] []] (rdS z s) (Is2 (.sl 2) (rdS z (listR greatX s).2 ++ [.row 73 1 ((listR greatX s).1.map (D.int .u64))])) := by
  refine Ct.introF (E := E 34 2 [.tmp 4] [] [(4, [0, 1, 5, 6, 13, 14])] [(3, [.own 6 73 1])]) tab_ok Try.call81 Try.func81 rfl rfl rfl rfl rfl (fun hin => ?_)
  (conv => whnf); refine (ESmallU z s h).use ?_
  have hr := small_rng s
  obtain ⟨m, hm⟩ : ∃ m : Nat, (min (smallX s).1 257) = m := ⟨(min (smallX s).1 257).toNat, by omega⟩
  (conv => whnf); refine LoopI.mk (fun q ws os => ∃ i : Nat, ws = [.ptr 0 0, .fn 79 [.ptr 1 0] [], i64 (smallX s).1, .sl 2, i64 m, i64 i] ∧ os = rdS z (repR greatX i (smallX s).2).2 ++ [.row 73 1 ((repR greatX i (smallX s).2).1.map (D.int .u64))] ∧ i ≤ m ∧ q = m - i) m ⟨0, by rw [← hm]; rfl, rfl, Nat.zero_le _, rfl⟩ ?_
  rintro q _ _ ⟨i, rfl, rfl, h1, rfl⟩
  have hl : ((repR greatX i (smallX s).2).1.map (D.int .u64)).length = i := by rw [List.length_map, rep_len]
  have hz := zok_rep (one := greatX) (fun _ => zok_great) (zok_small h) i
  (conv => whnf); refine cond_d (fun h2 => ?_) (fun h2 => ?_)
  · (conv => whnf); refine (EGreatU z _ hz).use ?_
    (conv => whnf); refine And.intro ⟨by rw [hl]; dsimp only [List.length]; omega, fun y hy => by cases hy with | head => rfl | tail _ h => cases h⟩ ?_
    (conv => whnf); refine And.intro (by first | omega | (dsimp only [List.length, cond]; omega) | (show (-9223372036854775808 : Int) ≤ _ ∧ _ ≤ (9223372036854775807 : Int); omega) | decide) ?_
    (conv => whnf)
    refine ⟨m - (i + 1), by omega, i + 1, rfl, ?_, by omega, rfl⟩
    show _ = rdS z (greatX (repR greatX i (smallX s).2).2).2 ++ [.row 73 1 (((repR greatX i (smallX s).2).1 ++ [(greatX (repR greatX i (smallX s).2).2).1]).map (D.int .u64))]
    rw [List.map_append]; rfl
  obtain rfl : i = m := by omega
  have e1 : listR greatX s = ((repR greatX i (smallX s).2).1, oddX (decide (256 < (smallX s).1)) (repR greatX i (smallX s).2).2) := by
    unfold listR; rw [hm, Int.toNat_natCast]
  rw [e1]
  obtain ⟨b, hb⟩ : ∃ b, b = (repR greatX i (smallX s).2).2.2.2 := ⟨_, rfl⟩
  show _
  rw [← hb]
  (conv => whnf); refine cond_i (fun h3 => ?_) (fun h3 => ?_)
  · refine Is2.mk' rfl ?_
    unfold oddX; rw [← hb, h3]; rfl
  · refine Is2.mk' rfl ?_
    unfold oddX; rw [← hb, h3]; rfl
theorem ropng_ct (z : Bool) (s : RX) (h : ZOk z s) : Ct Try.prog 51 [.ptr 0 0] (rdS z s) (Is2 (.d (opngD (opngX s).1)) (rdS z (opngX s).2)) := by
  refine Ct.introF (E := E 39 2 [.cell 2 80] [] [] []) tab_ok Try.call51 Try.func51 rfl rfl rfl rfl rfl (fun hin => ?_)
  (conv => whnf); refine (ESmallU z s h).use ?_
  (conv => whnf); refine (ESmallU z _ (zok_small h)).use ?_
  have h2 := zok_small (zok_small h)
  obtain ⟨a, ha⟩ : ∃ a, a = (smallX s).1 := ⟨_, rfl⟩
  obtain ⟨t, ht⟩ : ∃ t, t = (smallX (smallX s).2).2 := ⟨_, rfl⟩
  obtain ⟨o, ho⟩ : ∃ o, o = (smallX (smallX s).2).1 := ⟨_, rfl⟩
  have hts : t.2.2 = s.2.2 := by rw [ht]; rfl
  rw [← ht] at h2
  have e0 : opngX s = ((a, decide (o = 1), (listR greatX (oddX (decide (1 < o)) t)).1), (listR greatX (oddX (decide (1 < o)) t)).2) := by rw [ha, ht, ho]; rfl
  rw [e0, ← ha, ← ht, ← ho, ← hts]
  (conv => whnf); refine cond_i (fun h3 => ?_) (fun h3 => ?_)
  · have e : oddX (decide (1 < o)) t = (t.1, t.2.1, true) := by unfold oddX; rw [h3]; rfl
    rw [e]
    (conv => whnf); refine (list_u64 z (t.1, t.2.1, true) h2).use ?_
    exact Is2.mk rfl
  · have e : oddX (decide (1 < o)) t = (t.1, t.2.1, decide (1 < o)) := by unfold oddX; rw [h3]; rfl
    rw [e]
    (conv => whnf); refine (list_u64 z (t.1, t.2.1, decide (1 < o)) h2).use ?_
    exact Is2.mk rfl
theorem list_opng (z : Bool) (s : RX) (h : ZOk z s) : Ct Try.prog 50 [.ptr 0 0, .fn 51 [.ptr 0 0] []] (rdS z s) (Is2 (.sl 2) (rdS z (listR opngX s).2 ++ [.row 80 3 ((listR opngX s).1.map opngD)])) := by
  refine Ct.introF (E := E 34 2 [.tmp 4] [] [(4, [0, 1, 5, 6, 13, 14])] [(3, [.own 6 80 3])]) tab_ok Try.call50 Try.func50 rfl rfl rfl rfl rfl (fun hin => ?_)
  (conv => whnf); refine (ESmallU z s h).use ?_
  have hr := small_rng s
  obtain ⟨m, hm⟩ : ∃ m : Nat, (min (smallX s).1 257) = m := ⟨(min (smallX s).1 257).toNat, by omega⟩
  (conv => whnf); refine LoopI.mk (fun q ws os => ∃ i : Nat, ws = [.ptr 0 0, .fn 51 [.ptr 0 0] [], i64 (smallX s).1, .sl 2, i64 m, i64 i] ∧ os = rdS z (repR opngX i (smallX s).2).2 ++ [.row 80 3 ((repR opngX i (smallX s).2).1.map opngD)] ∧ i ≤ m ∧ q = m - i) m ⟨0, by rw [← hm]; rfl, rfl, Nat.zero_le _, rfl⟩ ?_
  rintro q _ _ ⟨i, rfl, rfl, h1, rfl⟩
  have hl : ((repR opngX i (smallX s).2).1.map opngD).length = i := by rw [List.length_map, rep_len]
  have hz := zok_rep (one := opngX) (fun _ => zok_opng) (zok_small h) i
  (conv => whnf); refine cond_d (fun h2 => ?_) (fun h2 => ?_)
  · (conv => whnf); refine (ropng_ct z _ hz).use ?_
    (conv => whnf); refine And.intro ⟨by rw [hl]; dsimp only [List.length]; omega, fun y hy => by cases hy with | head => rfl | tail _ h => cases h⟩ ?_
    (conv => whnf); refine And.intro (by first | omega | (dsimp only [List.length, cond]; omega) | (show (-9223372036854775808 : Int) ≤ _ ∧ _ ≤ (9223372036854775807 : Int); omega) | decide) ?_
    (conv => whnf)
    refine ⟨m - (i + 1), by omega, i + 1, rfl, ?_, by omega, rfl⟩
    show _ = rdS z (opngX (repR opngX i (smallX s).2).2).2 ++ [.row 80 3 (((repR opngX i (smallX s).2).1 ++ [(opngX (repR opngX i (smallX s).2).2).1]).map opngD)]
    rw [List.map_append]; rfl
  obtain rfl : i = m := by omega
  have e1 : listR opngX s = ((repR opngX i (smallX s).2).1, oddX (decide (256 < (smallX s).1)) (repR opngX i (smallX s).2).2) := by
    unfold listR; rw [hm, Int.toNat_natCast]
  rw [e1]
  obtain ⟨b, hb⟩ : ∃ b, b = (repR opngX i (smallX s).2).2.2.2 := ⟨_, rfl⟩
  show _
  rw [← hb]
  (conv => whnf); refine cond_i (fun h3 => ?_) (fun h3 => ?_)
  · refine Is2.mk' rfl ?_
    unfold oddX; rw [← hb, h3]; rfl
  · refine Is2.mk' rfl ?_
    unfold oddX; rw [← hb, h3]; rfl
end Go.Proofs.Ytidelnccggfmgaa.Wrd

/- Package words: the word that bytes are. -/
namespace Go.Proofs.Ytidelnccggfmgaa.Wrd
open Go.V Go.Num
open Go.Eng (wr)
open Go.Proofs.Ytidelnccggfmgaa.Let
set_option maxRecDepth 100000
set_option maxHeartbeats 4000000
def zOf (bs : List UInt8) : Bool := decide ((openB bs).2 ≠ 0)
def sOf (bs : List UInt8) : RX := ((openB bs).1, (openB bs).2, false)
theorem open_len (bs : List UInt8) : (openB bs).1.length ≤ 65536 := by
  unfold openB; split
  · simp
  · split
    · simp
    · split
      · simp
      · simp only [List.length_take]; omega
theorem open_nil (bs : List UInt8) (h : (openB bs).2 ≠ 0) : (openB bs).1 = [] := by
  unfold openB at *; split
  · rfl
  · split
    · rfl
    · split
      · rfl
      · rename_i h1 h2 h3
        rw [if_neg h1, if_neg h2, if_neg h3] at h
        exact absurd rfl h
theorem zok_of (bs : List UInt8) : ZOk (zOf bs) (sOf bs) := by
  refine ⟨open_len bs, fun hz => ?_⟩
  have h : (openB bs).2 ≠ 0 := of_decide_eq_true hz
  exact ⟨open_nil bs h, h⟩
theorem LookU (bs : List UInt8) : Ct Try.prog 41 [B8 bs] [] (Is2 (.ptr 0 0) (eyS (zOf bs) (sOf bs))) := by
  have h := Look_ct bs
  have e : eyeL bs = eyS (zOf bs) (sOf bs) := by
    unfold eyeL zOf sOf eyS
    by_cases he : (openB bs).2 = 0
    · rw [if_pos he, he]; rfl
    · rw [if_neg he, decide_eq_true he]; rfl
  rw [← e]; exact h
def h0 (s : RX) : RX := (smallX (smallX (smallX s).2).2).2
def h1 (s : RX) : RX := (listR cardX (h0 s)).2
def h2 (s : RX) : RX := (listR parcX (h1 s)).2
def h3 (s : RX) : RX := (listR cellX (h2 s)).2
def h4 (s : RX) : RX := (listR smallX (h3 s)).2
def h5 (s : RX) : RX := (listR opngX (h4 s)).2
def wordX (s : RX) : Wd := ⟨(smallX s).1, (smallX (smallX s).2).1, (smallX (smallX (smallX s).2).2).1, (listR cardX (h0 s)).1, (listR parcX (h1 s)).1, (listR cellX (h2 s)).1, (listR smallX (h3 s)).1, (listR opngX (h4 s)).1⟩
abbrev wd0 : AV := .d (.agg [.int .i64 0, .int .i64 0, .int .i64 0, .nils, .nils, .nils, .nils, .nils])
def decG (bs : List UInt8) : Bool := decide (endB (h5 (sOf bs)).1 (h5 (sOf bs)).2.1 = 0) && (!(h5 (sOf bs)).2.2 && goodB (wordX (sOf bs)))
theorem Decode_gen (bs : List UInt8) (z : Bool) (c : List UInt8) (e : Int) (a1 a2 a3 : Int) (s1 s2 s3 t1 t2 t3 t4 t5 : RX) (L1 : List Card) (L2 : List Parc) (L3 L4 : List Int) (L5 : List Opng) (n : Int) (r : AV)
    (cL : Ct Try.prog 41 [B8 bs] [] (Is2 (.ptr 0 0) (eyS z (c, e, false))))
    (c1 : Ct Try.prog 42 [.ptr 0 0] (eyS z (c, e, false)) (Is2 (i64 a1) (eyS z s1)))
    (c2 : Ct Try.prog 42 [.ptr 0 0] (eyS z s1) (Is2 (i64 a2) (eyS z s2)))
    (c3 : Ct Try.prog 42 [.ptr 0 0] (eyS z s2) (Is2 (i64 a3) (eyS z s3)))
    (l1 : Ct Try.prog 43 [.ptr 0 0, .fn 44 [.ptr 0 0] []] (rdS z (s3.1, s3.2.1, false)) (Is2 (.sl 2) (rdS z t1 ++ [.row 75 3 (L1.map cardD)])))
    (l2 : Ct Try.prog 45 [.ptr 0 0, .fn 46 [.ptr 0 0] []] (rdS z t1) (Is2 (.sl 2) (rdS z t2 ++ [.row 77 3 (L2.map parcD)])))
    (l3 : Ct Try.prog 47 [.ptr 0 0, .fn 48 [.ptr 0 0] []] (rdS z t2) (Is2 (.sl 2) (rdS z t3 ++ [.row 88 1 (L3.map (D.int .u32))])))
    (l4 : Ct Try.prog 49 [.ptr 0 0, .fn 42 [.ptr 1 0] []] (rdS z t3) (Is2 (.sl 2) (rdS z t4 ++ [.row 3 1 (L4.map (D.int .i64))])))
    (l5 : Ct Try.prog 50 [.ptr 0 0, .fn 51 [.ptr 0 0] []] (rdS z t4) (Is2 (.sl 2) (rdS z t5 ++ [.row 80 3 (L5.map opngD)])))
    (cE : Ct Try.prog 52 [.ptr 0 0] (eyS z t5) (Is2 (i64 n) (eyS z (t5.1, n, t5.2.2))))
    (hr : r = (match decide (n = 0) && (!t5.2.2 && goodB ⟨a1, a2, a3, L1, L2, L3, L4, L5⟩) with | true => .tup [wdV ⟨a1, a2, a3, L1, L2, L3, L4, L5⟩, i64 0] | false => .tup [wd0, i64 2])) :
    Ct Try.prog 25 [B8 bs] [] (Is2 r []) := by
  refine Ct.introF (E := E 73 0 [.cell 2 52, .tmp 3] [(8, [2, 4, 5])] [] []) tab_ok Try.call25 Try.func25 rfl rfl rfl rfl rfl (fun hin => ?_)
  (conv => whnf); refine (cL).use ?_
  (conv => whnf); refine DrawI.mixF [⟨[(0, true, [4]), (1, true, [10]), (2, true, [11]), (3, true, [12]), (5, true, [4]), (6, true, [15]), (7, true, [16]), (8, true, [17]), (10, true, [4]), (11, true, [20]), (12, true, [21]), (13, true, [22]), (16, true, [])], [], some (4, [13])⟩, ⟨[(5, false, [4]), (6, false, [15]), (7, false, [16]), (8, false, [17]), (10, false, [4]), (11, false, [20]), (12, false, [21]), (13, false, [22]), (16, false, [])], [], some (9, [18])⟩, ⟨[(10, false, [4]), (11, false, [20]), (12, false, [21]), (13, false, [22]), (16, false, [])], [], some (14, [23])⟩, ⟨[(15, true, [14, 19, 24]), (16, false, [])], [16], some (17, [5, 25])⟩, ⟨[], [], none⟩] [16] (by decide +kernel) ?_
  repeat (first | refine DrawO.mkF _ (And.intro rfl rfl) ?_ | refine DrawO.mkF _ (Idx.mk _ rfl (And.intro rfl rfl)) ?_ | refine And.intro rfl ?_)
  refine DrawN.mkF (.vec 52 [i64 0, i64 0, i64 0, .d .nils, .d .nils, .d .nils, .d .nils, .d .nils]) rfl (And.intro rfl rfl) ?_
  (conv => whnf); refine (c1).use ?_
  repeat (first | refine DrawO.mkF _ (And.intro rfl rfl) ?_ | refine DrawO.mkF _ (Idx.mk _ rfl (And.intro rfl rfl)) ?_ | refine And.intro rfl ?_)
  refine DrawN.mkF _ rfl (And.intro rfl rfl) ?_
  repeat (first | refine DrawO.mkF _ (And.intro rfl rfl) ?_ | refine DrawO.mkF _ (Idx.mk _ rfl (And.intro rfl rfl)) ?_ | refine And.intro rfl ?_)
  (conv => whnf); refine (c2).use ?_
  repeat (first | refine DrawO.mkF _ (And.intro rfl rfl) ?_ | refine DrawO.mkF _ (Idx.mk _ rfl (And.intro rfl rfl)) ?_ | refine And.intro rfl ?_)
  refine DrawN.mkF _ rfl (And.intro rfl rfl) ?_
  repeat (first | refine DrawO.mkF _ (And.intro rfl rfl) ?_ | refine DrawO.mkF _ (Idx.mk _ rfl (And.intro rfl rfl)) ?_ | refine And.intro rfl ?_)
  (conv => whnf); refine (c3).use ?_
  repeat (first | refine DrawO.mkF _ (And.intro rfl rfl) ?_ | refine DrawO.mkF _ (Idx.mk _ rfl (And.intro rfl rfl)) ?_ | refine And.intro rfl ?_)
  refine DrawN.mkF _ rfl (And.intro rfl rfl) ?_
  repeat (first | refine DrawO.mkF _ (And.intro rfl rfl) ?_ | refine DrawO.mkF _ (Idx.mk _ rfl (And.intro rfl rfl)) ?_ | refine And.intro rfl ?_)
  (conv => whnf); refine (l1).use ?_
  (conv => whnf); refine (l2).use ?_
  (conv => whnf); refine (l3).use ?_
  (conv => whnf); refine (l4).use ?_
  (conv => whnf); refine JoinI.mk (fun ws os => ws = [.ptr 0 0, .ptr 1 0, .ptr 2 0] ∧ os = [.vec 52 [i64 0, i64 0, i64 0, .d .nils, .d .nils, .d .nils, .d .nils, .d .nils],
    .vec 94 [.ptr 3 0, .d (.bool t5.2.2)], .vec 52 [i64 a1, i64 a2, i64 a3, .sl 4, .sl 5, .sl 6, .sl 7, .sl 8],
    .vec 127 [.d (restD z t5.1), i64 t5.2.1],
    .row 75 3 (L1.map cardD), .row 77 3 (L2.map parcD), .row 88 1 (L3.map (D.int .u32)), .row 3 1 (L4.map (D.int .i64)), .row 80 3 (L5.map opngD)]) ?_ ?_
  · (conv => whnf); refine (l5).use ?_
    (conv => whnf)
    exact ⟨rfl, rfl⟩
  rintro _ _ ⟨rfl, rfl⟩
  (conv => whnf); refine (cE).use ?_
  (conv => whnf); refine cond_d (fun g1 => ?_) (fun g1 => ?_)
  · rw [decide_eq_false g1, Bool.false_and] at hr
    (conv => whnf); exact ⟨hr, rfl⟩
  rw [decide_eq_true (Decidable.of_not_not g1), Bool.true_and] at hr
  (conv => whnf); refine cond_i (fun g2 => ?_) (fun g2 => ?_)
  · rw [g2] at hr
    (conv => whnf); exact ⟨hr, rfl⟩
  rw [g2] at hr
  (conv => whnf); refine (Good_ct ⟨a1, a2, a3, L1, L2, L3, L4, L5⟩).use ?_
  (conv => whnf); refine And.intro ⟨trivial, trivial⟩ ?_
  (conv => whnf); refine cond_i (fun g3 => ?_) (fun g3 => ?_)
  · rw [show goodB ⟨a1, a2, a3, L1, L2, L3, L4, L5⟩ = false by simpa using g3] at hr
    (conv => whnf); exact ⟨hr, rfl⟩
  · rw [show goodB ⟨a1, a2, a3, L1, L2, L3, L4, L5⟩ = true by simpa using g3] at hr
    (conv => whnf); exact ⟨hr, rfl⟩
theorem Decode_ct (bs : List UInt8) : Ct Try.prog 25 [B8 bs] [] (Is2 (match decG bs with | true => .tup [wdV (wordX (sOf bs)), i64 0] | false => .tup [wd0, i64 2]) []) := by
  have k0 := zok_of bs
  have j1 : ZOk (zOf bs) (smallX (sOf bs)).2 := zok_small k0
  have j2 := zok_small j1
  have j3 : ZOk (zOf bs) (h0 (sOf bs)) := zok_small j2
  have j4 : ZOk (zOf bs) (h1 (sOf bs)) := zok_list (fun _ => zok_card) j3
  have j5 : ZOk (zOf bs) (h2 (sOf bs)) := zok_list (fun _ => zok_parc) j4
  have j6 : ZOk (zOf bs) (h3 (sOf bs)) := zok_list (fun _ => zok_cell) j5
  have j7 : ZOk (zOf bs) (h4 (sOf bs)) := zok_list (fun _ => zok_small) j6
  have j8 : ZOk (zOf bs) (h5 (sOf bs)) := zok_list (fun _ => zok_opng) j7
  exact Decode_gen bs (zOf bs) (openB bs).1 (openB bs).2 _ _ _ _ _ _ _ _ _ _ _ _ _ _ _ _ _ _ (LookU bs) (ESmallU _ _ k0) (ESmallU _ _ j1) (ESmallU _ _ j2) (list_card _ (h0 (sOf bs)) j3) (list_parc _ (h1 (sOf bs)) j4) (list_cell _ (h2 (sOf bs)) j5) (list_int _ (h3 (sOf bs)) j6) (list_opng _ (h4 (sOf bs)) j7) (EEndU _ (h5 (sOf bs)) j8) rfl
end Go.Proofs.Ytidelnccggfmgaa.Wrd

/- Package words' reference: which words may be said. -/
namespace Go.Proofs.Ytidelnccggfmgaa.Wrd
open Go.V Go.Num
open Go.Eng (wr)
open Go.Proofs.Ytidelnccggfmgaa.Let
set_option maxRecDepth 100000
set_option maxHeartbeats 4000000
abbrev whoB (n : Int) : Bool := decide (1 ≤ n ∧ n ≤ 64)
theorem rwho_ct (n : Int) : Ct Try.prog 34 [i64 n] [] (Is2 (.d (.bool (whoB n))) []) := by
  refine Ct.introF (E := E 9 0 [.tmp 2] [] [] []) tab_ok Try.call34 Try.func34 rfl rfl rfl rfl rfl (fun hin => ?_)
  (conv => whnf); refine cond_d (fun h => ?_) (fun h => ?_)
  · refine Is2.mk ?_
    simp [h]
  · refine Is2.mk ?_
    simp [h]
theorem rising_ct (l : List Int) : Ct Try.prog 35 [.d (.ro (l.map (D.int .i64)))] [] (Is2 (.d (.bool (risT l l.length))) []) := by
  refine Ct.introF (E := E 32 0 [.tmp 2] [] [(2, [0, 3])] []) tab_ok Try.call35 Try.func35 rfl rfl rfl rfl rfl (fun hin => ?_)
  have hl : (l.map (D.int .i64)).length = l.length := List.length_map _
  have hb : l.length ≤ 9223372036854775807 := by have := hin.1.1; rwa [hl] at this
  (conv => whnf); refine LoopI.mk (fun q ws os => ∃ i : Nat, ws = [.d (.ro (l.map (D.int .i64))), i64 i] ∧ os = [] ∧ i ≤ l.length ∧ risT l i = true ∧ q = l.length - i) l.length ⟨0, rfl, rfl, Nat.zero_le _, rfl, rfl⟩ ?_
  rintro q _ _ ⟨i, rfl, rfl, h1, h2, rfl⟩
  (conv => whnf); refine cond_d (fun h3 => ?_) (fun h3 => ?_)
  · obtain ⟨x, hx⟩ := get_some (l := l) (i := i) (by omega)
    have hg : l.getD i 0 = x := by rw [List.getD_eq_getElem?_getD, hx]; rfl
    have hn : risT l (i + 1) = (decide (1 ≤ x ∧ x ≤ 64) && (decide (i = 0) || decide (l.getD (i - 1) 0 < x))) := by
      show (risT l i && _) = _
      rw [h2, Bool.true_and, hg]
    (conv => whnf); refine DrawI.mkF 21 [[0], [3], [10, 11], [12], [13], [14], [15], [3, 16], [16, 17], [16, 18], [0, 19], [3, 19], [19, 20, 21], [19, 22], [0, 19], [3, 19], [19, 25], [19, 24, 26], [19, 27], [19, 23, 28], [16, 19, 29]] (by decide +kernel) ?_
    repeat (first | refine DrawO.mkF _ (And.intro rfl rfl) ?_ | refine DrawO.mkF _ (Idx.mk _ rfl (And.intro rfl rfl)) ?_)
    refine DrawO.mkF _ (And.intro (by omega) (Idx.mk _ (map_at hx) (And.intro rfl rfl))) ?_
    repeat (first | refine DrawO.mkF _ (And.intro rfl rfl) ?_ | refine DrawO.mkF _ (Idx.mk _ rfl (And.intro rfl rfl)) ?_)
    refine DrawO.mkF _ ((rwho_ct x).use (And.intro rfl rfl)) ?_
    repeat (first | refine DrawO.mkF _ (And.intro rfl rfl) ?_ | refine DrawO.mkF _ (Idx.mk _ rfl (And.intro rfl rfl)) ?_)
    (conv => whnf); refine cond_nd (fun h4 => ?_) (fun h4 => ?_)
    · rw [risT_false (k := i + 1) (by rw [hn, decide_eq_false h4, Bool.false_and]) (by omega)]
      repeat (first | refine DrawO.mkF _ (And.intro rfl rfl) ?_ | refine DrawO.mkF _ (Idx.mk _ rfl (And.intro rfl rfl)) ?_)
      exact Is2.mk rfl
    rw [decide_eq_true h4, Bool.true_and] at hn
    repeat (first | refine DrawO.mkF _ (And.intro rfl rfl) ?_ | refine DrawO.mkF _ (Idx.mk _ rfl (And.intro rfl rfl)) ?_)
    (conv => whnf); refine cond_d (fun h5 => ?_) (fun h5 => ?_)
    · obtain ⟨y, hy⟩ := get_some (l := l) (i := i - 1) (by omega)
      have hgy : l.getD (i - 1) 0 = y := by rw [List.getD_eq_getElem?_getD, hy]; rfl
      rw [hgy, decide_eq_false (show ¬ i = 0 by omega), Bool.false_or] at hn
      repeat (first | refine DrawO.mkF _ (And.intro rfl rfl) ?_ | refine DrawO.mkF _ (Idx.mk _ rfl (And.intro rfl rfl)) ?_)
      refine DrawO.mkF _ (And.intro (by omega) (Idx.mk _ (map_at hx) (And.intro rfl rfl))) ?_
      repeat (first | refine DrawO.mkF _ (And.intro rfl rfl) ?_ | refine DrawO.mkF _ (Idx.mk _ rfl (And.intro rfl rfl)) ?_)
      refine DrawO.mkF _ (And.intro (by first | omega | (dsimp only [List.length, cond]; omega) | decide) (And.intro rfl rfl)) ?_
      refine DrawO.mkF _ (And.intro (by omega) (Idx.mk (D.int .i64 y) (by rw [show (i : Int) - 1 = ((i - 1 : Nat) : Int) by omega]; exact map_at hy) (And.intro rfl rfl))) ?_
      repeat (first | refine DrawO.mkF _ (And.intro rfl rfl) ?_ | refine DrawO.mkF _ (Idx.mk _ rfl (And.intro rfl rfl)) ?_)
      (conv => whnf); refine cond_d (fun h6 => ?_) (fun h6 => ?_)
      · rw [risT_false (k := i + 1) (by rw [hn, decide_eq_false (by omega)]) (by omega)]
        exact Is2.mk rfl
      (conv => whnf); refine And.intro (by first | omega | (dsimp only [List.length, cond]; omega) | (show (-9223372036854775808 : Int) ≤ _ ∧ _ ≤ (9223372036854775807 : Int); omega) | decide) ?_
      (conv => whnf)
      exact ⟨l.length - (i + 1), by omega, i + 1, rfl, rfl, by omega, by rw [hn, decide_eq_true (by omega)], rfl⟩
    · obtain rfl : i = 0 := by omega
      repeat (first | refine DrawO.mkF _ (And.intro rfl rfl) ?_ | refine DrawO.mkF _ (Idx.mk _ rfl (And.intro rfl rfl)) ?_)
      (conv => whnf); refine And.intro (by first | omega | (dsimp only [List.length, cond]; omega) | (show (-9223372036854775808 : Int) ≤ _ ∧ _ ≤ (9223372036854775807 : Int); omega) | decide) ?_
      (conv => whnf)
      exact ⟨l.length - (0 + 1), by omega, 0 + 1, rfl, rfl, by omega, by rw [hn]; rfl, rfl⟩
  · obtain rfl : i = l.length := by omega
    rw [h2]
    exact Is2.mk rfl
def finP (x : Parc) : Bool := whoB x.1 && (whoB x.2.1 && decide (x.2.2.length ≤ 64))
def finO (x : Opng) : Bool := decide (x.2.2.length ≤ 5)
def pnum (w : Wd) (x : Parc) : Int := if w.k = 3 then x.2.1 else x.1
def hasL (w : Wd) : List Int := [0, (w.c.length : Nat), (w.c.length : Nat), (w.p.length : Nat), (w.p.length : Nat), (w.v.length : Nat), (w.h.length : Nat), (w.o.length : Nat), 0]
def allN (w : Wd) : Int := (w.c.length : Nat) + (w.p.length : Nat) + (w.v.length : Nat) + (w.h.length : Nat) + (w.o.length : Nat)
def ris (l : List Int) : Bool := risT l l.length
def rgB (w : Wd) : Bool :=
  if w.k < 1 ∨ 8 < w.k then false
  else if decide (w.k = 2 ∨ w.k = 4 ∨ w.k = 6) ≠ decide (w.f = 0) ∨ (¬ (w.k = 2 ∨ w.k = 4 ∨ w.k = 6) ∧ whoB w.f = false) then false
  else if (w.p.all finP && w.o.all finO) = false ∨ allN w ≠ (hasL w).getD w.k.toNat 0 ∨ 256 < w.v.length ∨ ris w.h = false ∨ ris (w.p.map (pnum w)) = false ∨ ris (w.o.map (fun x : Opng => x.1)) = false then false
  else if w.k = 1 then decide (w.y = 0) && (decide (w.c.length = 1) && decide ((w.c.map (fun x : Card => x.1)).getD 0 0 = w.f))
  else if w.k = 8 then decide (1 ≤ w.y) && decide (w.y ≤ 17)
  else decide (w.y = 0) && ris (w.c.map (fun x : Card => x.1))
abbrev rowI (l : List Int) : V.Obj := .row 3 1 (l.map (D.int .i64))
theorem rGood_ct (w : Wd) (hc : w.c.length ≤ 2000) (hp : w.p.length ≤ 2000) (hv : w.v.length ≤ 2000) (hh : w.h.length ≤ 2000) (ho : w.o.length ≤ 2000) : Ct Try.prog 23 [wdV w] [] (Is2 (.d (.bool (rgB w))) []) := by
  refine Ct.introF (E := E 248 0 [.tmp 2] [(4, [1, 3]), (6, [1]), (17, [1, 4, 5, 6, 7, 9, 10]), (24, [1, 4, 5, 6, 7, 11])] [(9, [1, 4, 5, 6, 7, 8]), (13, [1, 4, 5, 6, 7, 9]), (21, [1, 4, 5, 6, 7, 11])] []) tab_ok Try.call23 Try.func23 rfl rfl rfl rfl rfl (fun hin => ?_)
  obtain ⟨r, hr⟩ : ∃ r, r = rgB w := ⟨_, rfl⟩
  rw [← hr]
  unfold rgB at hr
  have dc : (w.c.map cardD).length = w.c.length := List.length_map _
  have dp : (w.p.map parcD).length = w.p.length := List.length_map _
  have dv : (w.v.map (D.int .u32)).length = w.v.length := List.length_map _
  have dh : (w.h.map (D.int .i64)).length = w.h.length := List.length_map _
  have dO : (w.o.map opngD).length = w.o.length := List.length_map _
  (conv => whnf); refine cond_d (fun g1 => ?_) (fun g1 => ?_)
  · rw [if_pos (.inl g1)] at hr; subst hr
    exact Is2.mk rfl
  (conv => whnf); refine cond_d (fun g2 => ?_) (fun g2 => ?_)
  · rw [if_pos (.inr g2)] at hr; subst hr
    exact Is2.mk rfl
  rw [if_neg (by omega)] at hr
  obtain ⟨wd, hwd⟩ : ∃ b, b = decide (w.k = 2 ∨ w.k = 4 ∨ w.k = 6) := ⟨_, rfl⟩
  (conv => whnf); refine JoinI.mk (fun ws os => ws = [.ptr 0 0, .d (.bool wd)] ∧ os = [wdO2 w]) ?_ ?_
  · (conv => whnf); refine cond_d (fun g3 => ?_) (fun g3 => ?_)
    · (conv => whnf)
      exact ⟨by rw [hwd, decide_eq_true (show w.k = 2 ∨ w.k = 4 ∨ w.k = 6 from .inl g3)], rfl⟩
    (conv => whnf); refine cond_d (fun g4 => ?_) (fun g4 => ?_)
    · (conv => whnf)
      exact ⟨by rw [hwd, decide_eq_true (show w.k = 2 ∨ w.k = 4 ∨ w.k = 6 from .inr (.inl g4))], rfl⟩
    · (conv => whnf)
      exact ⟨by rw [hwd, decide_eq_decide.2 (show (w.k = 2 ∨ w.k = 4 ∨ w.k = 6) ↔ w.k = 6 by omega)], rfl⟩
  rintro _ _ ⟨rfl, rfl⟩
  rw [← hwd] at hr
  (conv => whnf); refine JoinI.mk (fun ws os => ws = [.ptr 0 0] ∧ os = [wdO2 w] ∧ ¬ (wd ≠ decide (w.f = 0) ∨ (¬ (w.k = 2 ∨ w.k = 4 ∨ w.k = 6) ∧ whoB w.f = false))) ?_ ?_
  · (conv => whnf); refine cond_i (fun g3 => ?_) (fun g3 => ?_)
    · rw [if_pos (.inl (by simpa using g3))] at hr; subst hr
      exact Is2.mk rfl
    have g3' : wd = decide (w.f = 0) := by simpa using g3
    (conv => whnf); refine cond_i (fun g4 => ?_) (fun g4 => ?_)
    · have g4' : ¬ (w.k = 2 ∨ w.k = 4 ∨ w.k = 6) := by
        have : wd = false := by simpa using g4
        rw [hwd] at this; exact of_decide_eq_false this
      (conv => whnf); refine (rwho_ct w.f).use ?_
      (conv => whnf); refine cond_i (fun g5 => ?_) (fun g5 => ?_)
      · rw [if_pos (.inr ⟨g4', by cases hq : whoB w.f with | false => rfl | true => rw [hq] at g5; cases g5⟩)] at hr; subst hr
        exact Is2.mk rfl
      · (conv => whnf)
        refine ⟨rfl, rfl, ?_⟩
        rintro (h | ⟨_, h⟩)
        · exact h g3'
        · rw [h] at g5; cases g5
    · (conv => whnf)
      refine ⟨rfl, rfl, ?_⟩
      have g4' : w.k = 2 ∨ w.k = 4 ∨ w.k = 6 := by
        have : wd = true := by simpa using g4
        rw [hwd] at this; exact of_decide_eq_true this
      rintro (h | ⟨h, _⟩)
      · exact h g3'
      · exact h g4'
  rintro _ _ ⟨rfl, rfl, g3⟩
  rw [if_neg g3] at hr
  (conv => whnf); refine LoopI.mk (fun q ws os => ∃ i : Nat, ws = [.ptr 0 0, .sl 1, .sl 2, .sl 3, .d (.bool true), i64 i] ∧ os = [wdO2 w, rowI ((w.c.take i).map (fun x : Card => x.1)), rowI [], rowI []] ∧ i ≤ w.c.length ∧ q = w.c.length - i) w.c.length ⟨0, rfl, rfl, Nat.zero_le _, rfl⟩ ?_
  rintro q _ _ ⟨i, rfl, rfl, h1, rfl⟩
  have hli : (((w.c.take i).map (fun x : Card => x.1)).map (D.int .i64)).length = i := by rw [List.length_map, List.length_map, List.length_take]; omega
  (conv => whnf); refine cond_d (fun h2 => ?_) (fun h2 => ?_)
  · obtain ⟨x, hx⟩ := get_some (l := w.c) (i := i) (by omega)
    (conv => whnf); refine And.intro (by omega) (Idx.mk _ (map_at hx) ?_)
    (conv => whnf); refine Idx.mk _ rfl ?_
    (conv => whnf); refine And.intro ⟨by rw [hli]; dsimp only [List.length]; omega, fun y hy => by cases hy with | head => rfl | tail _ h => cases h⟩ ?_
    (conv => whnf); refine And.intro (by first | omega | (dsimp only [List.length, cond]; omega) | (show (-9223372036854775808 : Int) ≤ _ ∧ _ ≤ (9223372036854775807 : Int); omega) | decide) ?_
    (conv => whnf)
    refine ⟨w.c.length - (i + 1), by omega, i + 1, rfl, ?_, by omega, rfl⟩
    rw [List.take_add_one, hx, List.map_append, rowI, List.map_append]; rfl
  obtain rfl : i = w.c.length := by omega
  rw [List.take_of_length_le (Nat.le_refl _)]
  (conv => whnf); refine LoopI.mk (fun q ws os => ∃ i : Nat, ws = [.ptr 0 0, .sl 1, .sl 2, .sl 3, .d (.bool ((w.p.take i).all finP)), i64 i] ∧ os = [wdO2 w, rowI (w.c.map (fun x : Card => x.1)), rowI ((w.p.take i).map (pnum w)), rowI []] ∧ i ≤ w.p.length ∧ q = w.p.length - i) w.p.length ⟨0, rfl, rfl, Nat.zero_le _, rfl⟩ ?_
  rintro q _ _ ⟨i, rfl, rfl, h1, rfl⟩
  have hli : (((w.p.take i).map (pnum w)).map (D.int .i64)).length = i := by rw [List.length_map, List.length_map, List.length_take]; omega
  (conv => whnf); refine cond_d (fun h2 => ?_) (fun h2 => ?_)
  · obtain ⟨x, hx⟩ := get_some (l := w.p) (i := i) (by omega)
    have dx := bD_len x.2.2
    have ha : (w.p.take (i + 1)).all finP = ((w.p.take i).all finP && finP x) := by rw [List.take_add_one, hx, List.all_append]; simp
    (conv => whnf); refine And.intro (by omega) (Idx.mk _ (map_at hx) ?_)
    (conv => whnf); refine JoinI.mk (fun ws os => ws = [.ptr 0 0, .sl 1, .sl 2, .sl 3, .d (.bool ((w.p.take (i + 1)).all finP)), i64 i, .ptr 4 0] ∧ os = [wdO2 w, rowI (w.c.map (fun x : Card => x.1)), rowI ((w.p.take i).map (pnum w)), rowI [], .vec 77 [i64 x.1, i64 x.2.1, B8 x.2.2]]) ?_ ?_
    · rw [ha]
      (conv => whnf); refine cond_i (fun g4 => ?_) (fun g4 => ?_)
      · rw [g4, Bool.true_and]; unfold finP
        (conv => whnf); refine (rwho_ct x.1).use ?_
        (conv => whnf); refine cond_i (fun g5 => ?_) (fun g5 => ?_)
        · rw [g5, Bool.true_and]
          (conv => whnf); refine (rwho_ct x.2.1).use ?_
          (conv => whnf); refine cond_i (fun g6 => ?_) (fun g6 => ?_)
          · (conv => whnf)
            rw [g6, Bool.true_and]
            exact ⟨by rw [decide_eq_decide.2 (show x.2.2.length ≤ 64 ↔ (((bytesD x.2.2).length : Nat) : Int) ≤ 64 by rw [dx]; omega)], rfl⟩
          · (conv => whnf)
            exact ⟨by rw [g6]; rfl, rfl⟩
        · (conv => whnf)
          exact ⟨by rw [g5]; rfl, rfl⟩
      · (conv => whnf)
        exact ⟨by rw [g4]; rfl, rfl⟩
    rintro _ _ ⟨rfl, rfl⟩
    have hm : (w.p.take (i + 1)).map (pnum w) = (w.p.take i).map (pnum w) ++ [pnum w x] := by rw [List.take_add_one, hx, List.map_append]; rfl
    (conv => whnf); refine cond_d (fun g4 => ?_) (fun g4 => ?_)
    · (conv => whnf); refine And.intro ⟨by rw [hli]; dsimp only [List.length]; omega, fun y hy => by cases hy with | head => rfl | tail _ h => cases h⟩ ?_
      (conv => whnf); refine And.intro (by first | omega | (dsimp only [List.length, cond]; omega) | (show (-9223372036854775808 : Int) ≤ _ ∧ _ ≤ (9223372036854775807 : Int); omega) | decide) ?_
      (conv => whnf)
      refine ⟨w.p.length - (i + 1), by omega, i + 1, rfl, ?_, by omega, rfl⟩
      rw [hm, show pnum w x = x.2.1 from if_pos g4, rowI, rowI, List.map_append]; rfl
    · (conv => whnf); refine And.intro ⟨by rw [hli]; dsimp only [List.length]; omega, fun y hy => by cases hy with | head => rfl | tail _ h => cases h⟩ ?_
      (conv => whnf); refine And.intro (by first | omega | (dsimp only [List.length, cond]; omega) | (show (-9223372036854775808 : Int) ≤ _ ∧ _ ≤ (9223372036854775807 : Int); omega) | decide) ?_
      (conv => whnf)
      refine ⟨w.p.length - (i + 1), by omega, i + 1, rfl, ?_, by omega, rfl⟩
      rw [hm, show pnum w x = x.1 from if_neg g4, rowI, rowI, List.map_append]; rfl
  obtain rfl : i = w.p.length := by omega
  rw [List.take_of_length_le (Nat.le_refl _)]
  obtain ⟨b, hb⟩ : ∃ b, b = w.p.all finP := ⟨_, rfl⟩
  rw [← hb] at hr ⊢
  (conv => whnf); refine LoopI.mk (fun q ws os => ∃ i : Nat, ws = [.ptr 0 0, .sl 1, .sl 2, .sl 3, .d (.bool (b && (w.o.take i).all finO)), i64 i] ∧ os = [wdO2 w, rowI (w.c.map (fun x : Card => x.1)), rowI (w.p.map (pnum w)), rowI ((w.o.take i).map (fun x : Opng => x.1))] ∧ i ≤ w.o.length ∧ q = w.o.length - i) w.o.length ⟨0, by rw [List.take_zero, List.all_nil, Bool.and_true]; rfl, rfl, Nat.zero_le _, rfl⟩ ?_
  rintro q _ _ ⟨i, rfl, rfl, h1, rfl⟩
  have hli : (((w.o.take i).map (fun x : Opng => x.1)).map (D.int .i64)).length = i := by rw [List.length_map, List.length_map, List.length_take]; omega
  (conv => whnf); refine cond_d (fun h2 => ?_) (fun h2 => ?_)
  · obtain ⟨x, hx⟩ := get_some (l := w.o) (i := i) (by omega)
    have dx : (x.2.2.map (D.int .u64)).length = x.2.2.length := List.length_map _
    have ha : (b && (w.o.take (i + 1)).all finO) = ((b && (w.o.take i).all finO) && finO x) := by rw [List.take_add_one, hx, List.all_append, Bool.and_assoc]; simp
    (conv => whnf); refine JoinI.mk (fun ws os => ws = [.ptr 0 0, .sl 1, .sl 2, .sl 3, .d (.bool (b && (w.o.take (i + 1)).all finO)), i64 i] ∧ os = [wdO2 w, rowI (w.c.map (fun x : Card => x.1)), rowI (w.p.map (pnum w)), rowI ((w.o.take i).map (fun x : Opng => x.1))]) ?_ ?_
    · rw [ha]
      (conv => whnf); refine cond_i (fun g4 => ?_) (fun g4 => ?_)
      · rw [g4, Bool.true_and]; unfold finO
        (conv => whnf); refine And.intro (by omega) (Idx.mk _ (map_at hx) ?_)
        (conv => whnf); refine Idx.mk _ rfl ?_
        (conv => whnf)
        exact ⟨by rw [decide_eq_decide.2 (show x.2.2.length ≤ 5 ↔ (((x.2.2.map (D.int .u64)).length : Nat) : Int) ≤ 5 by rw [dx]; omega)], rfl⟩
      · (conv => whnf)
        exact ⟨by rw [g4]; rfl, rfl⟩
    rintro _ _ ⟨rfl, rfl⟩
    (conv => whnf); refine And.intro (by omega) (Idx.mk _ (map_at hx) ?_)
    (conv => whnf); refine Idx.mk _ rfl ?_
    (conv => whnf); refine And.intro ⟨by rw [hli]; dsimp only [List.length]; omega, fun y hy => by cases hy with | head => rfl | tail _ h => cases h⟩ ?_
    (conv => whnf); refine And.intro (by first | omega | (dsimp only [List.length, cond]; omega) | (show (-9223372036854775808 : Int) ≤ _ ∧ _ ≤ (9223372036854775807 : Int); omega) | decide) ?_
    (conv => whnf)
    refine ⟨w.o.length - (i + 1), by omega, i + 1, rfl, ?_, by omega, rfl⟩
    have hm : (w.o.take (i + 1)).map (fun x : Opng => x.1) = (w.o.take i).map (fun x : Opng => x.1) ++ [x.1] := by rw [List.take_add_one, hx, List.map_append]; rfl
    rw [hm]; simp only [rowI, List.map_append]; rfl
  obtain rfl : i = w.o.length := by omega
  rw [List.take_of_length_le (Nat.le_refl _)]
  (conv => whnf); refine And.intro ⟨rfl, rfl⟩ ?_
  (conv => whnf); refine And.intro (by omega) ?_
  (conv => whnf); refine And.intro (by omega) ?_
  (conv => whnf); refine And.intro (by omega) ?_
  (conv => whnf); refine And.intro (by omega) ?_
  obtain ⟨f, hf⟩ : ∃ f, f = (b && w.o.all finO) := ⟨_, rfl⟩
  rw [← hf] at hr ⊢
  (conv => whnf); refine cond_i (fun k1 => ?_) (fun k1 => ?_)
  · rw [if_pos (.inl (by simpa using k1))] at hr; subst hr
    exact Is2.mk rfl
  have k1' : ¬ f = false := by simpa using k1
  have hidx : ([.int .i64 0, .int .i64 ((w.c.map cardD).length : Nat), .int .i64 ((w.c.map cardD).length : Nat), .int .i64 ((w.p.map parcD).length : Nat), .int .i64 ((w.p.map parcD).length : Nat), .int .i64 ((w.v.map (D.int .u32)).length : Nat), .int .i64 ((w.h.map (D.int .i64)).length : Nat), .int .i64 ((w.o.map opngD).length : Nat), .int .i64 0] : List D)[0 + w.k.toNat * 1]? = some (.int .i64 ((hasL w).getD w.k.toNat 0)) := by
    rw [Nat.zero_add, Nat.mul_one, dc, dp, dv, dh, dO]
    obtain ⟨n, hn⟩ : ∃ n, n = w.k.toNat := ⟨_, rfl⟩
    rw [← hn]
    obtain rfl | rfl | rfl | rfl | rfl | rfl | rfl | rfl : n = 1 ∨ n = 2 ∨ n = 3 ∨ n = 4 ∨ n = 5 ∨ n = 6 ∨ n = 7 ∨ n = 8 := by omega
    all_goals rfl
  (conv => whnf); refine And.intro (by omega) (Idx.mk _ hidx ?_)
  (conv => whnf); refine cond_d (fun k2 => ?_) (fun k2 => ?_)
  · rw [if_pos (.inr (.inl (by unfold allN; omega)))] at hr; subst hr
    exact Is2.mk rfl
  (conv => whnf); refine cond_d (fun k3 => ?_) (fun k3 => ?_)
  · rw [if_pos (.inr (.inr (.inl (by omega))))] at hr; subst hr
    exact Is2.mk rfl
  (conv => whnf); refine (rising_ct w.h).use ?_
  (conv => whnf); refine cond_i (fun k4 => ?_) (fun k4 => ?_)
  · rw [if_pos (.inr (.inr (.inr (.inl (by unfold ris; simpa using k4)))))] at hr; subst hr
    exact Is2.mk rfl
  (conv => whnf); refine (rising_ct (w.p.map (pnum w))).use ?_
  (conv => whnf); refine cond_i (fun k5 => ?_) (fun k5 => ?_)
  · rw [if_pos (.inr (.inr (.inr (.inr (.inl (by unfold ris; simpa using k5))))))] at hr; subst hr
    exact Is2.mk rfl
  (conv => whnf); refine (rising_ct (w.o.map (fun x : Opng => x.1))).use ?_
  (conv => whnf); refine cond_i (fun k6 => ?_) (fun k6 => ?_)
  · rw [if_pos (.inr (.inr (.inr (.inr (.inr (by unfold ris; simpa using k6))))))] at hr; subst hr
    exact Is2.mk rfl
  rw [if_neg (by
    rintro (h | h | h | h | h | h)
    · exact k1' h
    · exact h (by unfold allN; omega)
    · omega
    · unfold ris at h; rw [h] at k4; cases k4
    · unfold ris at h; rw [h] at k5; cases k5
    · unfold ris at h; rw [h] at k6; cases k6)] at hr
  (conv => whnf); refine cond_d (fun k7 => ?_) (fun k7 => ?_)
  · rw [if_pos k7] at hr
    (conv => whnf); refine DrawI.mkF 15 [[1], [214], [215], [216], [4, 217], [217, 218], [217, 219], [217, 220], [221], [4, 222], [222, 223], [222, 224], [1, 222], [222, 226], [222, 225, 227]] (by decide +kernel) ?_
    repeat (first | refine DrawO.mkF _ (And.intro rfl rfl) ?_ | refine DrawO.mkF _ (Idx.mk _ rfl (And.intro rfl rfl)) ?_)
    (conv => whnf); refine cond_d (fun m1 => ?_) (fun m1 => ?_)
    · rw [decide_eq_true m1, Bool.true_and] at hr
      repeat (first | refine DrawO.mkF _ (And.intro rfl rfl) ?_ | refine DrawO.mkF _ (Idx.mk _ rfl (And.intro rfl rfl)) ?_)
      (conv => whnf); refine cond_d (fun m2 => ?_) (fun m2 => ?_)
      · have m2' : w.c.length = 1 := by
          have : (((w.c.map (fun x : Card => x.1)).map (D.int .i64)).length : Nat) = 1 := by omega
          simpa using this
        obtain ⟨x, hx⟩ := get_some (l := w.c) (i := 0) (by omega)
        have hx2 : (w.c.map (fun x : Card => x.1))[0]? = some x.1 := by rw [List.getElem?_map, hx]; rfl
        rw [decide_eq_true m2', Bool.true_and, getD_map hx] at hr
        repeat (first | refine DrawO.mkF _ (And.intro rfl rfl) ?_ | refine DrawO.mkF _ (Idx.mk _ rfl (And.intro rfl rfl)) ?_)
        refine DrawO.mkF _ (And.intro (by first | omega | (dsimp only [List.length, cond]; omega) | decide) (And.intro rfl rfl)) ?_
        refine DrawO.mkF _ (Idx.mk _ (map_at hx2) (Idx.mk _ rfl (And.intro rfl rfl))) ?_
        repeat (first | refine DrawO.mkF _ (And.intro rfl rfl) ?_ | refine DrawO.mkF _ (Idx.mk _ rfl (And.intro rfl rfl)) ?_)
        exact Is2.mk (by rw [hr])
      · have m2' : ¬ w.c.length = 1 := fun e => m2 (by rw [List.length_map, List.length_map, e]; rfl)
        rw [decide_eq_false m2', Bool.false_and] at hr
        repeat (first | refine DrawO.mkF _ (And.intro rfl rfl) ?_ | refine DrawO.mkF _ (Idx.mk _ rfl (And.intro rfl rfl)) ?_)
        exact Is2.mk (by rw [hr])
    · rw [decide_eq_false m1, Bool.false_and] at hr
      repeat (first | refine DrawO.mkF _ (And.intro rfl rfl) ?_ | refine DrawO.mkF _ (Idx.mk _ rfl (And.intro rfl rfl)) ?_)
      exact Is2.mk (by rw [hr])
  rw [if_neg k7] at hr
  (conv => whnf); refine cond_d (fun k8 => ?_) (fun k8 => ?_)
  · rw [if_pos k8] at hr
    (conv => whnf); refine cond_d (fun m1 => ?_) (fun m1 => ?_)
    · rw [decide_eq_true m1, Bool.true_and] at hr
      exact Is2.mk (by rw [hr])
    · rw [decide_eq_false m1, Bool.false_and] at hr
      exact Is2.mk (by rw [hr])
  rw [if_neg k8] at hr
  (conv => whnf); refine cond_d (fun m1 => ?_) (fun m1 => ?_)
  · rw [decide_eq_true m1, Bool.true_and] at hr
    (conv => whnf); refine (rising_ct (w.c.map (fun x : Card => x.1))).use ?_
    exact Is2.mk (by rw [hr]; rfl)
  · rw [decide_eq_false m1, Bool.false_and] at hr
    exact Is2.mk (by rw [hr])
end Go.Proofs.Ytidelnccggfmgaa.Wrd

/- Package words' reference: a word's fields. -/
namespace Go.Proofs.Ytidelnccggfmgaa.Wrd
open Go.V Go.Num
open Go.Eng (wr)
open Go.Proofs.Ytidelnccggfmgaa.Let
set_option maxRecDepth 100000
set_option maxHeartbeats 4000000
structure Typ (w : Wd) : Prop where
  v : ∀ n ∈ w.v, 0 ≤ n ∧ n ≤ 4294967295
  c : ∀ x ∈ w.c, (0 ≤ x.2.1 ∧ x.2.1 < 18446744073709551616) ∧ (0 ≤ x.2.2 ∧ x.2.2 < 18446744073709551616)
  o : ∀ x ∈ w.o, ∀ n ∈ x.2.2, 0 ≤ n ∧ n < 18446744073709551616
theorem rText_ct (w : Wd) (F : Fine w) (Y : Typ w) : Ct Try.prog 27 [wdV w] [] (Is2 (sT (textB w)) []) := by
  refine Ct.introF (E := E 190 0 [.tmp 2] [(29, [1, 3, 8, 9, 10])] [(3, [1, 3, 4]), (8, [1, 3, 5]), (13, [1, 3, 6]), (18, [1, 3, 7]), (23, [1, 3, 8]), (31, [1, 3, 8, 9, 11])] []) tab_ok Try.call27 Try.func27 rfl rfl rfl rfl rfl (fun hin => ?_)
  obtain ⟨L0, L1, L2, L3, L4, L5, L6, L7, L8, L9⟩ := T_len F
  have fk := F.k; have ff := F.f; have fy := F.y; have fcl := F.cl; have fpl := F.pl; have fvl := F.vl; have fhl := F.hl; have fol := F.ol
  have dc : (w.c.map cardD).length = w.c.length := List.length_map _
  have dp : (w.p.map parcD).length = w.p.length := List.length_map _
  have dv : (w.v.map (D.int .u32)).length = w.v.length := List.length_map _
  have dh : (w.h.map (D.int .i64)).length = w.h.length := List.length_map _
  have dO : (w.o.map opngD).length = w.o.length := List.length_map _
  (conv => whnf); refine DrawI.mkF 15 [[1], [12], [13], [1], [15], [16], [14, 17], [1], [19], [20], [18, 21], [1], [23], [24], [25]] (by decide +kernel) ?_
  repeat (first | refine DrawO.mkF _ (And.intro rfl rfl) ?_ | refine DrawO.mkF _ (Idx.mk _ rfl (And.intro rfl rfl)) ?_)
  refine DrawO.mkF _ ((rSmall_ct w.k (by omega)).use (And.intro rfl rfl)) ?_
  repeat (first | refine DrawO.mkF _ (And.intro rfl rfl) ?_ | refine DrawO.mkF _ (Idx.mk _ rfl (And.intro rfl rfl)) ?_)
  refine DrawO.mkF _ ((rSmall_ct w.f (by omega)).use (And.intro rfl rfl)) ?_
  refine DrawO.mkF (sT (leB w.k 4 ++ leB w.f 4)) (And.intro (by simp only [List.length_append, leB_len]; omega) (And.intro rfl rfl)) ?_
  repeat (first | refine DrawO.mkF _ (And.intro rfl rfl) ?_ | refine DrawO.mkF _ (Idx.mk _ rfl (And.intro rfl rfl)) ?_)
  refine DrawO.mkF _ ((rSmall_ct w.y (by omega)).use (And.intro rfl rfl)) ?_
  refine DrawO.mkF (sT (leB w.k 4 ++ leB w.f 4 ++ leB w.y 4)) (And.intro (by simp only [List.length_append, leB_len]; omega) (And.intro rfl rfl)) ?_
  repeat (first | refine DrawO.mkF _ (And.intro rfl rfl) ?_ | refine DrawO.mkF _ (Idx.mk _ rfl (And.intro rfl rfl)) ?_)
  refine DrawO.mkF _ ((rSmall_ct (w.c.map cardD).length (by omega)).use (And.intro rfl rfl)) ?_
  (conv => whnf); refine And.intro (by simp only [List.length_append, leB_len]; omega) ?_
  have e0 : leB w.k 4 ++ leB w.f 4 ++ leB w.y 4 ++ leB ((w.c.map cardD).length : Nat) 4 = T0 w := by rw [dc]; rfl
  rw [e0]
  (conv => whnf); refine LoopI.mk (fun q ws os => ∃ i : Nat, ws = [.ptr 0 0, sT (T0 w ++ (w.c.take i).flatMap cardB), i64 i] ∧ os = [wdO2 w] ∧ i ≤ w.c.length ∧ q = w.c.length - i) w.c.length ⟨0, by rw [List.take_zero, List.flatMap_nil, List.append_nil]; rfl, rfl, Nat.zero_le _, rfl⟩ ?_
  rintro q _ _ ⟨i, rfl, rfl, h1, rfl⟩
  have b1 := fm_lent (l := w.c) (g := cardB) (K := 20) (fun x _ => by rw [card_len]; exact Nat.le_refl _) i
  (conv => whnf); refine cond_d (fun h2 => ?_) (fun h2 => ?_)
  · obtain ⟨x, hx⟩ := get_some (l := w.c) (i := i) (by omega)
    have fx := F.c x (List.mem_of_getElem? hx)
    have yx := Y.c x (List.mem_of_getElem? hx)
    (conv => whnf); refine DrawI.mkF 24 [[3], [1], [36], [4], [37, 38], [39], [40], [41], [1], [43], [4], [44, 45], [46], [47], [48], [42, 49], [1], [51], [4], [52, 53], [54], [55], [56], [50, 57]] (by decide +kernel) ?_
    repeat (first | refine DrawO.mkF _ (And.intro rfl rfl) ?_ | refine DrawO.mkF _ (Idx.mk _ rfl (And.intro rfl rfl)) ?_)
    refine DrawO.mkF _ (And.intro (by omega) (Idx.mk _ (map_at hx) (And.intro rfl rfl))) ?_
    repeat (first | refine DrawO.mkF _ (And.intro rfl rfl) ?_ | refine DrawO.mkF _ (Idx.mk _ rfl (And.intro rfl rfl)) ?_)
    refine DrawO.mkF _ ((rSmall_ct x.1 (by omega)).use (And.intro rfl rfl)) ?_
    repeat (first | refine DrawO.mkF _ (And.intro rfl rfl) ?_ | refine DrawO.mkF _ (Idx.mk _ rfl (And.intro rfl rfl)) ?_)
    refine DrawO.mkF _ (And.intro (by omega) (Idx.mk _ (map_at hx) (And.intro rfl rfl))) ?_
    repeat (first | refine DrawO.mkF _ (And.intro rfl rfl) ?_ | refine DrawO.mkF _ (Idx.mk _ rfl (And.intro rfl rfl)) ?_)
    refine DrawO.mkF _ ((rGreat_ct x.2.1 (by omega)).use (And.intro rfl rfl)) ?_
    refine DrawO.mkF (sT (leB x.1 4 ++ leB x.2.1 8)) (And.intro (by simp only [List.length_append, leB_len]; omega) (And.intro rfl rfl)) ?_
    repeat (first | refine DrawO.mkF _ (And.intro rfl rfl) ?_ | refine DrawO.mkF _ (Idx.mk _ rfl (And.intro rfl rfl)) ?_)
    refine DrawO.mkF _ (And.intro (by omega) (Idx.mk _ (map_at hx) (And.intro rfl rfl))) ?_
    repeat (first | refine DrawO.mkF _ (And.intro rfl rfl) ?_ | refine DrawO.mkF _ (Idx.mk _ rfl (And.intro rfl rfl)) ?_)
    refine DrawO.mkF _ ((rGreat_ct x.2.2 (by omega)).use (And.intro rfl rfl)) ?_
    refine DrawO.mkF (sT (cardB x)) (And.intro (by simp only [List.length_append, leB_len]; omega) (And.intro rfl rfl)) ?_
    (conv => whnf); refine And.intro (by simp only [List.length_append, card_len]; omega) ?_
    (conv => whnf); refine And.intro (by first | omega | (dsimp only [List.length, cond]; omega) | (show (-9223372036854775808 : Int) ≤ _ ∧ _ ≤ (9223372036854775807 : Int); omega) | decide) ?_
    (conv => whnf)
    refine ⟨w.c.length - (i + 1), by omega, i + 1, ?_, rfl, by omega, rfl⟩
    rw [fm_take hx, ← List.append_assoc]; rfl
  obtain rfl : i = w.c.length := by omega
  rw [List.take_of_length_le (Nat.le_refl _)]
  have e1 : T0 w ++ w.c.flatMap cardB = T1 w := rfl
  rw [e1]
  (conv => whnf); refine (rSmall_ct (w.p.map parcD).length (by omega)).use ?_
  (conv => whnf); refine And.intro (by rw [leB_len]; omega) ?_
  have e2 : T1 w ++ leB ((w.p.map parcD).length : Nat) 4 = T2 w := by rw [dp]; rfl
  rw [e2]
  (conv => whnf); refine LoopI.mk (fun q ws os => ∃ i : Nat, ws = [.ptr 0 0, sT (T2 w ++ (w.p.take i).flatMap parcB), i64 i] ∧ os = [wdO2 w] ∧ i ≤ w.p.length ∧ q = w.p.length - i) w.p.length ⟨0, by rw [List.take_zero, List.flatMap_nil, List.append_nil]; rfl, rfl, Nat.zero_le _, rfl⟩ ?_
  rintro q _ _ ⟨i, rfl, rfl, h1, rfl⟩
  have b1 := fm_lent (l := w.p) (g := parcB) (K := 76) (fun x hx => parc_len (F.p x hx).2.2) i
  (conv => whnf); refine cond_d (fun h2 => ?_) (fun h2 => ?_)
  · obtain ⟨x, hx⟩ := get_some (l := w.p) (i := i) (by omega)
    have fx := F.p x (List.mem_of_getElem? hx)
    have lx := parc_len fx.2.2
    (conv => whnf); refine DrawI.mkF 24 [[3], [1], [74], [5], [75, 76], [77], [78], [79], [1], [81], [5], [82, 83], [84], [85], [86], [80, 87], [1], [89], [5], [90, 91], [92], [93], [94], [88, 95]] (by decide +kernel) ?_
    repeat (first | refine DrawO.mkF _ (And.intro rfl rfl) ?_ | refine DrawO.mkF _ (Idx.mk _ rfl (And.intro rfl rfl)) ?_)
    refine DrawO.mkF _ (And.intro (by omega) (Idx.mk _ (map_at hx) (And.intro rfl rfl))) ?_
    repeat (first | refine DrawO.mkF _ (And.intro rfl rfl) ?_ | refine DrawO.mkF _ (Idx.mk _ rfl (And.intro rfl rfl)) ?_)
    refine DrawO.mkF _ ((rSmall_ct x.1 (by omega)).use (And.intro rfl rfl)) ?_
    repeat (first | refine DrawO.mkF _ (And.intro rfl rfl) ?_ | refine DrawO.mkF _ (Idx.mk _ rfl (And.intro rfl rfl)) ?_)
    refine DrawO.mkF _ (And.intro (by omega) (Idx.mk _ (map_at hx) (And.intro rfl rfl))) ?_
    repeat (first | refine DrawO.mkF _ (And.intro rfl rfl) ?_ | refine DrawO.mkF _ (Idx.mk _ rfl (And.intro rfl rfl)) ?_)
    refine DrawO.mkF _ ((rSmall_ct x.2.1 (by omega)).use (And.intro rfl rfl)) ?_
    refine DrawO.mkF (sT (leB x.1 4 ++ leB x.2.1 4)) (And.intro (by simp only [List.length_append, leB_len]; omega) (And.intro rfl rfl)) ?_
    repeat (first | refine DrawO.mkF _ (And.intro rfl rfl) ?_ | refine DrawO.mkF _ (Idx.mk _ rfl (And.intro rfl rfl)) ?_)
    refine DrawO.mkF _ (And.intro (by omega) (Idx.mk _ (map_at hx) (And.intro rfl rfl))) ?_
    repeat (first | refine DrawO.mkF _ (And.intro rfl rfl) ?_ | refine DrawO.mkF _ (Idx.mk _ rfl (And.intro rfl rfl)) ?_)
    refine DrawO.mkF _ ((rBytes_ct x.2.2 (by omega)).use (And.intro rfl rfl)) ?_
    refine DrawO.mkF (sT (parcB x)) (And.intro (by simp only [List.length_append, leB_len]; omega) (And.intro rfl rfl)) ?_
    (conv => whnf); refine And.intro (by simp only [List.length_append]; omega) ?_
    (conv => whnf); refine And.intro (by first | omega | (dsimp only [List.length, cond]; omega) | (show (-9223372036854775808 : Int) ≤ _ ∧ _ ≤ (9223372036854775807 : Int); omega) | decide) ?_
    (conv => whnf)
    refine ⟨w.p.length - (i + 1), by omega, i + 1, ?_, rfl, by omega, rfl⟩
    rw [fm_take hx, ← List.append_assoc]; rfl
  obtain rfl : i = w.p.length := by omega
  rw [List.take_of_length_le (Nat.le_refl _)]
  have e1 : T2 w ++ w.p.flatMap parcB = T3 w := rfl
  rw [e1]
  (conv => whnf); refine (rSmall_ct (w.v.map (D.int .u32)).length (by omega)).use ?_
  (conv => whnf); refine And.intro (by rw [leB_len]; omega) ?_
  have e2 : T3 w ++ leB ((w.v.map (D.int .u32)).length : Nat) 4 = T4 w := by rw [dv]; rfl
  rw [e2]
  (conv => whnf); refine LoopI.mk (fun q ws os => ∃ i : Nat, ws = [.ptr 0 0, sT (T4 w ++ (w.v.take i).flatMap fun n => leB n 4), i64 i] ∧ os = [wdO2 w] ∧ i ≤ w.v.length ∧ q = w.v.length - i) w.v.length ⟨0, by rw [List.take_zero, List.flatMap_nil, List.append_nil]; rfl, rfl, Nat.zero_le _, rfl⟩ ?_
  rintro q _ _ ⟨i, rfl, rfl, h1, rfl⟩
  have b1 := fm_lent (l := w.v) (g := fun n : Int => leB n 4) (K := 4) (fun n _ => by rw [leB_len]; exact Nat.le_refl _) i
  (conv => whnf); refine cond_d (fun h2 => ?_) (fun h2 => ?_)
  · obtain ⟨x, hx⟩ := get_some (l := w.v) (i := i) (by omega)
    have fx := Y.v x (List.mem_of_getElem? hx)
    (conv => whnf); refine And.intro (by omega) (Idx.mk _ (map_at hx) ?_)
    (conv => whnf); refine Idx.mk _ rfl ?_
    (conv => whnf); refine (rSmall_ct x (by omega)).use ?_
    (conv => whnf); refine And.intro (by simp only [List.length_append, leB_len]; omega) ?_
    (conv => whnf); refine And.intro (by first | omega | (dsimp only [List.length, cond]; omega) | (show (-9223372036854775808 : Int) ≤ _ ∧ _ ≤ (9223372036854775807 : Int); omega) | decide) ?_
    (conv => whnf)
    refine ⟨w.v.length - (i + 1), by omega, i + 1, ?_, rfl, by omega, rfl⟩
    rw [fm_take hx, ← List.append_assoc]; rfl
  obtain rfl : i = w.v.length := by omega
  rw [List.take_of_length_le (Nat.le_refl _)]
  have e1 : (T4 w ++ w.v.flatMap fun n => leB n 4) = T5 w := rfl
  rw [e1]
  (conv => whnf); refine (rSmall_ct (w.h.map (D.int .i64)).length (by omega)).use ?_
  (conv => whnf); refine And.intro (by rw [leB_len]; omega) ?_
  have e2 : T5 w ++ leB ((w.h.map (D.int .i64)).length : Nat) 4 = T6 w := by rw [dh]; rfl
  rw [e2]
  (conv => whnf); refine LoopI.mk (fun q ws os => ∃ i : Nat, ws = [.ptr 0 0, sT (T6 w ++ (w.h.take i).flatMap fun n => leB n 4), i64 i] ∧ os = [wdO2 w] ∧ i ≤ w.h.length ∧ q = w.h.length - i) w.h.length ⟨0, by rw [List.take_zero, List.flatMap_nil, List.append_nil]; rfl, rfl, Nat.zero_le _, rfl⟩ ?_
  rintro q _ _ ⟨i, rfl, rfl, h1, rfl⟩
  have b1 := fm_lent (l := w.h) (g := fun n : Int => leB n 4) (K := 4) (fun n _ => by rw [leB_len]; exact Nat.le_refl _) i
  (conv => whnf); refine cond_d (fun h2 => ?_) (fun h2 => ?_)
  · obtain ⟨x, hx⟩ := get_some (l := w.h) (i := i) (by omega)
    have fx := F.h x (List.mem_of_getElem? hx)
    (conv => whnf); refine And.intro (by omega) (Idx.mk _ (map_at hx) ?_)
    (conv => whnf); refine Idx.mk _ rfl ?_
    (conv => whnf); refine (rSmall_ct x (by omega)).use ?_
    (conv => whnf); refine And.intro (by simp only [List.length_append, leB_len]; omega) ?_
    (conv => whnf); refine And.intro (by first | omega | (dsimp only [List.length, cond]; omega) | (show (-9223372036854775808 : Int) ≤ _ ∧ _ ≤ (9223372036854775807 : Int); omega) | decide) ?_
    (conv => whnf)
    refine ⟨w.h.length - (i + 1), by omega, i + 1, ?_, rfl, by omega, rfl⟩
    rw [fm_take hx, ← List.append_assoc]; rfl
  obtain rfl : i = w.h.length := by omega
  rw [List.take_of_length_le (Nat.le_refl _)]
  have e1 : (T6 w ++ w.h.flatMap fun n => leB n 4) = T7 w := rfl
  rw [e1]
  (conv => whnf); refine (rSmall_ct (w.o.map opngD).length (by omega)).use ?_
  (conv => whnf); refine And.intro (by rw [leB_len]; omega) ?_
  have e2 : T7 w ++ leB ((w.o.map opngD).length : Nat) 4 = T8 w := by rw [dO]; rfl
  rw [e2]
  (conv => whnf); refine LoopI.mk (fun q ws os => ∃ i : Nat, ws = [.ptr 0 0, sT (T8 w ++ (w.o.take i).flatMap opngB), i64 i] ∧ os = [wdO2 w] ∧ i ≤ w.o.length ∧ q = w.o.length - i) w.o.length ⟨0, by rw [List.take_zero, List.flatMap_nil, List.append_nil]; rfl, rfl, Nat.zero_le _, rfl⟩ ?_
  rintro q _ _ ⟨i, rfl, rfl, h1, rfl⟩
  have b1 := fm_lent (l := w.o) (g := opngB) (K := 52) (fun x hx => opng_len (F.o x hx).2) i
  (conv => whnf); refine cond_d (fun h2 => ?_) (fun h2 => ?_)
  · obtain ⟨x, hx⟩ := get_some (l := w.o) (i := i) (by omega)
    have fx := F.o x (List.mem_of_getElem? hx)
    have yx := Y.o x (List.mem_of_getElem? hx)
    have dx : (x.2.2.map (D.int .u64)).length = x.2.2.length := List.length_map _
    (conv => whnf); refine And.intro (by omega) (Idx.mk _ (map_at hx) ?_)
    have hown : 0 ≤ ownN x.2.1 ∧ ownN x.2.1 < 4294967296 := by unfold ownN; split <;> omega
    (conv => whnf); refine JoinI.mk (fun ws os => ws = [.ptr 0 0, sT (T8 w ++ (w.o.take i).flatMap opngB), i64 i, .ptr 1 0, i64 (ownN x.2.1)] ∧ os = [wdO2 w, .vec 80 [i64 x.1, .d (.bool x.2.1), .d (.ro (x.2.2.map (D.int .u64)))]]) ?_ ?_
    · (conv => whnf); refine cond_i (fun h3 => ?_) (fun h3 => ?_)
      · (conv => whnf)
        exact ⟨by rw [h3]; rfl, rfl⟩
      · (conv => whnf)
        exact ⟨by rw [h3]; rfl, rfl⟩
    rintro _ _ ⟨rfl, rfl⟩
    (conv => whnf); refine DrawI.mkF 12 [[3], [9], [162], [163], [10], [165], [164, 166], [9], [168], [169], [170], [167, 171]] (by decide +kernel) ?_
    repeat (first | refine DrawO.mkF _ (And.intro rfl rfl) ?_ | refine DrawO.mkF _ (Idx.mk _ rfl (And.intro rfl rfl)) ?_)
    refine DrawO.mkF _ ((rSmall_ct x.1 (by omega)).use (And.intro rfl rfl)) ?_
    repeat (first | refine DrawO.mkF _ (And.intro rfl rfl) ?_ | refine DrawO.mkF _ (Idx.mk _ rfl (And.intro rfl rfl)) ?_)
    refine DrawO.mkF _ ((rSmall_ct (ownN x.2.1) hown).use (And.intro rfl rfl)) ?_
    refine DrawO.mkF (sT (leB x.1 4 ++ leB (ownN x.2.1) 4)) (And.intro (by simp only [List.length_append, leB_len]; omega) (And.intro rfl rfl)) ?_
    repeat (first | refine DrawO.mkF _ (And.intro rfl rfl) ?_ | refine DrawO.mkF _ (Idx.mk _ rfl (And.intro rfl rfl)) ?_)
    refine DrawO.mkF _ ((rSmall_ct (x.2.2.map (D.int .u64)).length (by omega)).use (And.intro rfl rfl)) ?_
    refine DrawO.mkF (sT (leB x.1 4 ++ leB (ownN x.2.1) 4 ++ leB ((x.2.2.map (D.int .u64)).length : Nat) 4)) (And.intro (by simp only [List.length_append, leB_len]; omega) (And.intro rfl rfl)) ?_
    (conv => whnf); refine And.intro (by simp only [List.length_append, leB_len]; omega) ?_
    obtain ⟨H, hH⟩ : ∃ H, H = T8 w ++ (w.o.take i).flatMap opngB ++ (leB x.1 4 ++ leB (ownN x.2.1) 4 ++ leB ((x.2.2.map (D.int .u64)).length : Nat) 4) := ⟨_, rfl⟩
    have hHl : H.length ≤ 10796 := by rw [hH]; simp only [List.length_append, leB_len]; omega
    rw [← hH]
    (conv => whnf); refine LoopI.mk (fun q ws os => ∃ j : Nat, ws = [.ptr 0 0, sT (H ++ (x.2.2.take j).flatMap fun n => leB n 8), i64 i, .ptr 1 0, i64 j] ∧ os = [wdO2 w, .vec 80 [i64 x.1, .d (.bool x.2.1), .d (.ro (x.2.2.map (D.int .u64)))]] ∧ j ≤ x.2.2.length ∧ q = x.2.2.length - j) x.2.2.length ⟨0, by rw [List.take_zero, List.flatMap_nil, List.append_nil]; rfl, rfl, Nat.zero_le _, rfl⟩ ?_
    rintro q _ _ ⟨j, rfl, rfl, g1, rfl⟩
    have b2 := fm_lent (l := x.2.2) (g := fun n : Int => leB n 8) (K := 8) (fun n _ => by rw [leB_len]; exact Nat.le_refl _) j
    (conv => whnf); refine cond_d (fun g2 => ?_) (fun g2 => ?_)
    · obtain ⟨n, hn⟩ := get_some (l := x.2.2) (i := j) (by omega)
      have yn := yx n (List.mem_of_getElem? hn)
      (conv => whnf); refine And.intro (by omega) (Idx.mk _ (map_at hn) ?_)
      (conv => whnf); refine Idx.mk _ rfl ?_
      (conv => whnf); refine (rGreat_ct n (by omega)).use ?_
      (conv => whnf); refine And.intro (by simp only [List.length_append, leB_len]; omega) ?_
      (conv => whnf); refine And.intro (by first | omega | (dsimp only [List.length, cond]; omega) | (show (-9223372036854775808 : Int) ≤ _ ∧ _ ≤ (9223372036854775807 : Int); omega) | decide) ?_
      (conv => whnf)
      refine ⟨x.2.2.length - (j + 1), by omega, j + 1, ?_, rfl, by omega, rfl⟩
      rw [fm_take hn, ← List.append_assoc]; rfl
    obtain rfl : j = x.2.2.length := by omega
    rw [List.take_of_length_le (l := x.2.2) (Nat.le_refl _)]
    (conv => whnf); refine And.intro (by first | omega | (dsimp only [List.length, cond]; omega) | (show (-9223372036854775808 : Int) ≤ _ ∧ _ ≤ (9223372036854775807 : Int); omega) | decide) ?_
    (conv => whnf)
    have e3 : (H ++ x.2.2.flatMap fun n => leB n 8) = T8 w ++ (w.o.take (i + 1)).flatMap opngB := by
      rw [hH, dx, fm_take hx]; unfold opngB; simp only [List.append_assoc]
    rw [e3]
    exact ⟨w.o.length - (i + 1), by omega, i + 1, rfl, rfl, by omega, rfl⟩
  obtain rfl : i = w.o.length := by omega
  rw [List.take_of_length_le (Nat.le_refl _)]
  exact Is2.mk rfl
end Go.Proofs.Ytidelnccggfmgaa.Wrd
