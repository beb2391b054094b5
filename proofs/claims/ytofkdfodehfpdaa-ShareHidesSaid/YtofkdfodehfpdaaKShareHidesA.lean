/- Numbers modulo 2^61 - 1: what the program's calls give. No function of the program is proved here. -/
import Derived.Test.YtofkdfodehfpdaaJuD
import Derived.Test.YtofkdfodehfpdaaJuE
set_option linter.unusedVariables false
set_option linter.unusedSimpArgs false
set_option linter.unnecessarySimpa false
set_option linter.unusedSectionVars false
set_option linter.all false
/- Numbers modulo 2^61 - 1: what the program's calls give. No function of the program is proved here. -/
namespace Go.Num

def pwF : Nat → Int → Nat → Int
  | 0, _, _ => 1
  | k + 1, a, n => if n = 0 then 1 else if n % 2 = 1 then (pwF k (a * a % 2305843009213693951) (n / 2) * a) % 2305843009213693951 else pwF k (a * a % 2305843009213693951) (n / 2)
/-- A power, modulo 2^61 - 1. -/
def pw (a : Int) (n : Nat) : Int := pwF 64 a n

theorem emod_mul_l (a b : Int) : (a % 2305843009213693951 * b) % 2305843009213693951 = (a * b) % 2305843009213693951 := by rw [Int.mul_emod, Int.emod_emod_of_dvd _ (Int.dvd_refl _), ← Int.mul_emod]
theorem emod_mul_r (a b : Int) : (a * (b % 2305843009213693951)) % 2305843009213693951 = (a * b) % 2305843009213693951 := by rw [Int.mul_emod, Int.emod_emod_of_dvd _ (Int.dvd_refl _), ← Int.mul_emod]

theorem pow_mod (a : Int) (n : Nat) : (a % 2305843009213693951) ^ n % 2305843009213693951 = a ^ n % 2305843009213693951 := by
  induction n with
  | zero => simp
  | succ n ih => rw [Int.pow_succ, Int.pow_succ, emod_mul_r, ← emod_mul_l, ih, emod_mul_l]

theorem pwF_eq : ∀ (k : Nat) (a : Int) (n : Nat), n < 2 ^ k → pwF k a n = a ^ n % 2305843009213693951
  | 0, a, n, h => by
    have : n = 0 := by omega
    subst this; simp [pwF]
  | k + 1, a, n, h => by
    unfold pwF
    by_cases h0 : n = 0
    · subst h0; simp
    · rw [if_neg h0]
      have hk : n / 2 < 2 ^ k := by rw [Nat.pow_succ] at h; omega
      rw [pwF_eq k _ _ hk, pow_mod]
      have e2 : (a * a) ^ (n / 2) = a ^ (2 * (n / 2)) := by rw [Int.pow_mul]; congr 1; rw [Int.pow_succ, Int.pow_succ, Int.pow_zero, Int.one_mul]
      split
      · rw [emod_mul_l, e2, ← Int.pow_succ]; congr 2; omega
      · rw [e2]; congr 2; omega
theorem pw_eq (a : Int) {n : Nat} (h : n < 2 ^ 64) : pw a n = a ^ n % 2305843009213693951 := pwF_eq 64 a n h
theorem pwF_rng : ∀ (k : Nat) (a : Int) (n : Nat), 0 ≤ pwF k a n ∧ pwF k a n < 2305843009213693951
  | 0, a, n => by simp [pwF]
  | k + 1, a, n => by
    unfold pwF
    split
    · omega
    · split
      · omega
      · exact pwF_rng k _ _
theorem pw_rng (a : Int) (n : Nat) : 0 ≤ pw a n ∧ pw a n < 2305843009213693951 := pwF_rng 64 a n
def inv (a : Int) : Int := pw a 2305843009213693949
end Go.Num

/- Package prime and its reference: sums, differences, products, powers. -/
namespace Go.Proofs.Ytofkdfodehfpdaa
open Go.V Go.Num
open Go.Eng (wr)
set_option maxRecDepth 100000
abbrev u64 (n : Int) : AV := .d (.int .u64 n)
abbrev i64 (n : Int) : AV := .d (.int .i64 n)
theorem rMod_ct (a : Int) : Ct Try.prog 40 [u64 a] [] (Is2 (u64 (a % 2305843009213693951)) []) := by
  refine Ct.introF (E := E 5 0 [.tmp 2] [] [] []) tab_ok Try.call40 Try.func40 rfl rfl rfl rfl rfl (fun hin => ?_)
  exact And.intro (by decide) (Is2.mk rfl)
theorem Mod_ct (a : Int) : Ct Try.prog 88 [u64 a] [] (Is2 (u64 (a % 2305843009213693951)) []) := by
  refine Ct.introF (E := E 5 0 [.tmp 2] [] [] []) tab_ok Try.call88 Try.func88 rfl rfl rfl rfl rfl (fun hin => ?_)
  exact And.intro (by decide) (Is2.mk rfl)
theorem rAdd_ct (a b : Int) : Ct Try.prog 97 [u64 a, u64 b] [] (Is2 (u64 ((a + b) % 2305843009213693951)) []) := by
  refine Ct.introF (E := E 11 0 [.tmp 4] [] [] []) tab_ok Try.call97 Try.func97 rfl rfl rfl rfl rfl (fun hin => ?_)
  (conv => whnf); refine And.intro (by decide) (And.intro (by decide) (And.intro (by decide) (isInt ?_)))
  simp only [wr]; omega
theorem plus_ct (a b : Int) (ha : 0 ≤ a ∧ a < 2305843009213693951) (hb : 0 ≤ b ∧ b < 2305843009213693951) : Ct Try.prog 107 [u64 a, u64 b] [] (Is2 (u64 ((a + b) % 2305843009213693951)) []) := by
  refine Ct.introF (E := E 9 0 [.tmp 4] [] [] []) tab_ok Try.call107 Try.func107 rfl rfl rfl rfl rfl (fun hin => ?_)
  (conv => whnf); refine And.intro (by decide) (isInt ?_)
  simp only [wr]; omega
theorem minus_ct (a b : Int) (ha : 0 ≤ a ∧ a < 2305843009213693951) (hb : 0 ≤ b ∧ b < 2305843009213693951) : Ct Try.prog 92 [u64 a, u64 b] [] (Is2 (u64 ((a - b) % 2305843009213693951)) []) := by
  refine Ct.introF (E := E 10 0 [.tmp 4] [] [] []) tab_ok Try.call92 Try.func92 rfl rfl rfl rfl rfl (fun hin => ?_)
  (conv => whnf); refine And.intro (by decide) (isInt ?_)
  simp only [wr]; omega

theorem shr_step {b : Int} (hb : 0 ≤ b) {i : Nat} : b / 2 ^ i = 2 * (b / 2 ^ (i + 1)) + (b / 2 ^ i) % 2 := by
  have : b / 2 ^ (i + 1) = (b / 2 ^ i) / 2 := by rw [Int.pow_succ, Int.ediv_ediv_of_nonneg (by exact Int.pow_nonneg (by decide))]
  omega
theorem bit_i {x : Int} (hx : 0 ≤ x) : (((x.toNat &&& (1 : Int).toNat : Nat) : Int)) = x % 2 := by
  have : x.toNat &&& (1 : Int).toNat = x.toNat % 2 := Nat.and_one_is_mod _
  rw [this]; omega
theorem wr_small {x : Int} (h : 0 ≤ x ∧ x < 18446744073709551616) : wr .u64 x = x := by simp only [wr]; omega
theorem dbl (x : Int) : wr .u64 (x % 2305843009213693951 + x % 2305843009213693951) % 2305843009213693951 = (2 * x) % 2305843009213693951 := by rw [wr_small (by omega)]; omega
theorem dbl1 (x a : Int) : wr .u64 (x % 2305843009213693951 + a % 2305843009213693951) % 2305843009213693951 = (x + a) % 2305843009213693951 := by rw [wr_small (by omega)]; omega
theorem rMul_ct (a b : Int) (ha : 0 ≤ a) (hb : 0 ≤ b) : Ct Try.prog 49 [u64 a, u64 b] [] (Is2 (u64 ((a * b) % 2305843009213693951)) []) := by
  refine Ct.introF (E := E 30 0 [.tmp 4] [] [(5, [0, 1, 5, 6])] []) tab_ok Try.call49 Try.func49 rfl rfl rfl rfl rfl (fun hin => ?_)
  (conv => whnf); refine And.intro (by decide) (And.intro (by decide) ?_)
  have hb1 : 0 ≤ b % 2305843009213693951 ∧ b % 2305843009213693951 < 2305843009213693951 := by omega
  (conv => whnf); refine LoopI.mk (fun n vs os => ∃ i : Int, vs = [u64 (a % 2305843009213693951), u64 (b % 2305843009213693951), u64 ((a * ((b % 2305843009213693951) / 2 ^ (i + 1).toNat)) % 2305843009213693951), i64 i] ∧ os = [] ∧ -1 ≤ i ∧ i ≤ 60 ∧ n = (i + 1).toNat) 61 ⟨60, ?_, rfl, by decide, by decide, rfl⟩ ?_
  · have : b % 2305843009213693951 / 2 ^ (60 + 1 : Int).toNat = 0 := Int.ediv_eq_zero_of_lt (by omega) (by show _ < (2305843009213693952 : Int); omega)
    rw [this, Int.mul_zero]; rfl
  rintro n _ _ ⟨i, rfl, rfl, h1, h2, rfl⟩
  (conv => whnf); refine cond_d (fun h => ?_) (fun h => ?_)
  · obtain ⟨k, rfl⟩ := Int.eq_ofNat_of_zero_le h
    have e1 : wr .u64 (k : Int) = k := by simp only [wr]; omega
    have e2 : min (wr .u64 (k : Int)).toNat IntKind.u64.bits = k := by rw [e1]; show min k 64 = k; omega
    have hq : 0 ≤ b % 2305843009213693951 / 2 ^ k := Int.ediv_nonneg hb1.1 (Int.pow_nonneg (by decide))
    have hs := shr_step hb1.1 (i := k)
    have hk1 : ((k : Int) + 1).toNat = k + 1 := by omega
    have hk2 : ((k : Int) - 1 + 1).toNat = k := by omega
    (conv => whnf); refine And.intro (by decide) ?_
    (conv => whnf); refine cond_d (fun h2 => ?_) (fun h2 => ?_)
    · (conv => whnf); refine And.intro (by decide) ?_
      (conv => whnf); refine And.intro (by omega) ?_
      conv => whnf
      refine ⟨k, by omega, (k : Int) - 1, ?_, rfl, by omega, by omega, by omega⟩
      rw [e2, bit_i hq] at h2
      show [_, _, u64 _, i64 _] = [_, _, u64 _, i64 _]
      rw [hk1, hk2, dbl, dbl1, hs, h2, Int.mul_add, Int.mul_one, Int.mul_left_comm]
    · (conv => whnf); refine And.intro (by omega) ?_
      conv => whnf
      refine ⟨k, by omega, (k : Int) - 1, ?_, rfl, by omega, by omega, by omega⟩
      rw [e2, bit_i hq] at h2
      show [_, _, u64 _, i64 _] = [_, _, u64 _, i64 _]
      rw [hk1, hk2, dbl, hs, show b % 2305843009213693951 / 2 ^ k % 2 = 0 from by omega, Int.add_zero, Int.mul_left_comm]
  · obtain rfl : i = -1 := by omega
    refine isInt ?_
    have : b % 2305843009213693951 / 2 ^ (-1 + 1 : Int).toNat = b % 2305843009213693951 := by simp
    rw [this, emod_mul_r]

/-! ## products, the program's way -/
theorem and_low (k : Nat) {x : Int} (hx : 0 ≤ x) : ((x.toNat &&& (2 ^ k - 1) : Nat) : Int) = x % 2 ^ k := by
  rw [Nat.and_two_pow_sub_one_eq_mod]
  obtain ⟨n, rfl⟩ := Int.eq_ofNat_of_zero_le hx
  simp
theorem and32 {x : Int} (hx : 0 ≤ x) : ((x.toNat &&& (4294967295 : Int).toNat : Nat) : Int) = x % 4294967296 := and_low 32 hx
theorem andP {x : Int} (hx : 0 ≤ x) : ((x.toNat &&& (2305843009213693951 : Int).toNat : Nat) : Int) = x % 2305843009213693952 := and_low 61 hx
theorem mulB {x y : Int} (hx : 0 ≤ x ∧ x ≤ 4294967295) (hy : 0 ≤ y ∧ y ≤ 4294967295) : 0 ≤ x * y ∧ x * y ≤ 18446744065119617025 := by
  refine ⟨Int.mul_nonneg hx.1 hy.1, ?_⟩
  have h1 := Int.mul_le_mul_of_nonneg_right hx.2 hy.1
  have h2 : 4294967295 * y ≤ 4294967295 * 4294967295 := by omega
  omega
theorem p32 : (2 : Int) ^ min (Int.toNat 32) IntKind.u64.bits = 4294967296 := rfl
theorem mul64_pure {x0 x1 y0 y1 : Int} (hx0 : 0 ≤ x0 ∧ x0 ≤ 4294967295) (hx1 : 0 ≤ x1 ∧ x1 ≤ 4294967295) (hy0 : 0 ≤ y0 ∧ y0 ≤ 4294967295) (hy1 : 0 ≤ y1 ∧ y1 ≤ 4294967295) :
    wr .u64 (wr .u64 (wr .u64 (x1 * y1) + wr .u64 (wr .u64 (x1 * y0) + wr .u64 (x0 * y0) / 4294967296) / 4294967296) + wr .u64 (wr .u64 (wr .u64 (x1 * y0) + wr .u64 (x0 * y0) / 4294967296) % 4294967296 + wr .u64 (x0 * y1)) / 4294967296) =
      ((4294967296 * x1 + x0) * (4294967296 * y1 + y0)) / 18446744073709551616 := by
  have e : (4294967296 * x1 + x0) * (4294967296 * y1 + y0) = 18446744073709551616 * (x1 * y1) + 4294967296 * (x1 * y0 + x0 * y1) + x0 * y0 := by grind
  have b11 := mulB hx1 hy1; have b10 := mulB hx1 hy0; have b01 := mulB hx0 hy1; have b00 := mulB hx0 hy0
  rw [e]
  generalize x1 * y1 = p11 at *
  generalize x1 * y0 = p10 at *
  generalize x0 * y1 = p01 at *
  generalize x0 * y0 = p00 at *
  rw [wr_small (x := p11) (by omega), wr_small (x := p10) (by omega), wr_small (x := p00) (by omega), wr_small (x := p01) (by omega), wr_small (x := p10 + p00 / 4294967296) (by omega),
    wr_small (x := p11 + (p10 + p00 / 4294967296) / 4294967296) (by omega), wr_small (x := (p10 + p00 / 4294967296) % 4294967296 + p01) (by omega), wr_small (by omega)]
  omega
theorem Mul64_ct (x y : Int) (hx : 0 ≤ x ∧ x < 18446744073709551616) (hy : 0 ≤ y ∧ y < 18446744073709551616) : Ct Try.prog 109 [u64 x, u64 y] [] (Is2 (.tup [u64 (x * y / 18446744073709551616), u64 (x * y % 18446744073709551616)]) []) := by
  refine Ct.introF (E := E 51 0 [.tmp 4, .tmp 5] [] [] []) tab_ok Try.call109 Try.func109 rfl rfl rfl rfl rfl (fun hin => ?_)
  conv => whnf
  (conv => whnf); refine And.intro ?_ rfl
  simp only [p32]
  have hw : 0 ≤ wr IntKind.u64 (wr IntKind.u64 (x / 4294967296 * (y % 4294967296)) + wr IntKind.u64 (x % 4294967296 * (y % 4294967296)) / 4294967296) := by simp only [wr]; omega
  rw [and32 hx.1, and32 hy.1, and32 hw, mul64_pure (by omega) (by omega) (by omega) (by omega), Int.mul_ediv_add_emod, Int.mul_ediv_add_emod]
  rfl
theorem p61 : (2 : Int) ^ min (Int.toNat 61) IntKind.u64.bits = 2305843009213693952 := rfl
theorem p58 : (2 : Int) ^ min (Int.toNat 58) IntKind.u64.bits = 288230376151711744 := rfl
theorem p3 : (2 : Int) ^ min (Int.toNat 3) IntKind.u64.bits = 8 := rfl
theorem or_low {a b : Int} (ha : 0 ≤ a ∧ a < 8) (hb : 0 ≤ b) : ((a.toNat ||| (8 * b).toNat : Nat) : Int) = a + 8 * b := by
  obtain ⟨m, rfl⟩ := Int.eq_ofNat_of_zero_le ha.1
  obtain ⟨n, rfl⟩ := Int.eq_ofNat_of_zero_le hb
  have h := Nat.shiftLeft_add_eq_or_of_lt (b := m) (i := 3) (by omega) n
  rw [Nat.shiftLeft_eq] at h
  have e1 : ((m : Int)).toNat = m := rfl
  have e2 : (8 * (n : Int)).toNat = n * 2 ^ 3 := by omega
  rw [e1, e2, Nat.or_comm, ← h]; omega
theorem whole_pure {hi lo : Int} (hh : 0 ≤ hi ∧ hi < 18446744073709551616) (hl : 0 ≤ lo ∧ lo < 18446744073709551616) : (lo % 2305843009213693952 + (lo / 2305843009213693952 + 8 * (hi % 2305843009213693952)) % 2305843009213693952 + hi / 288230376151711744) % 2305843009213693951 = (hi * 18446744073709551616 + lo) % 2305843009213693951 := by
  have h1 : (lo / 2305843009213693952 + 8 * (hi % 2305843009213693952)) % 2305843009213693952 = (lo / 2305843009213693952 + 8 * hi) % 2305843009213693952 := by omega
  have h2 : (lo / 2305843009213693952 + 8 * hi) / 2305843009213693952 = hi / 288230376151711744 := by omega
  have h3 : hi * 18446744073709551616 + lo = lo % 2305843009213693952 + 2305843009213693952 * (lo / 2305843009213693952 + 8 * hi) := by omega
  rw [h1, ← h2, h3]
  generalize lo / 2305843009213693952 + 8 * hi = q
  generalize lo % 2305843009213693952 = l
  have h4 : l + 2305843009213693952 * q = (l + q % 2305843009213693952 + q / 2305843009213693952) + 2305843009213693951 * (q % 2305843009213693952 + 2305843009213693953 * (q / 2305843009213693952)) := by omega
  rw [h4, Int.add_mul_emod_self_left]
theorem whole_ct (hi lo : Int) (hh : 0 ≤ hi ∧ hi < 18446744073709551616) (hl : 0 ≤ lo ∧ lo < 18446744073709551616) : Ct Try.prog 108 [u64 hi, u64 lo] [] (Is2 (u64 ((hi * 18446744073709551616 + lo) % 2305843009213693951)) []) := by
  refine Ct.introF (E := E 24 0 [.tmp 4] [] [] []) tab_ok Try.call108 Try.func108 rfl rfl rfl rfl rfl (fun hin => ?_)
  (conv => whnf); refine And.intro (by decide) (isInt ?_)
  simp only [p61, p58, p3]
  have e1 : wr .u64 (hi * 8) = 8 * (hi % 2305843009213693952) := by simp only [wr]; omega
  rw [e1, andP hl.1, or_low (by omega) (by omega), andP (by omega), wr_small (x := lo % 2305843009213693952 + _) (by omega), wr_small (by omega)]
  exact whole_pure hh hl
theorem times_ct (a b : Int) (ha : 0 ≤ a ∧ a < 2305843009213693951) (hb : 0 ≤ b ∧ b < 2305843009213693951) : Ct Try.prog 91 [u64 a, u64 b] [] (Is2 (u64 ((a * b) % 2305843009213693951)) []) := by
  refine Ct.introF (E := E 11 0 [.tmp 4] [] [] []) tab_ok Try.call91 Try.func91 rfl rfl rfl rfl rfl (fun hin => ?_)
  (conv => whnf); refine (Mul64_ct a b (by omega) (by omega)).use ?_
  have h0 : 0 ≤ a * b := Int.mul_nonneg ha.1 hb.1
  have h1 : a * b < 340282366920938463463374607431768211456 := by
    have h1 := Int.mul_le_mul_of_nonneg_right (show a ≤ 18446744073709551615 by omega) hb.1
    omega
  (conv => whnf); refine (whole_ct _ _ (by omega) (by omega)).use ?_
  refine isInt ?_
  congr 1; omega
theorem doPlus_ct (a b : Int) : Ct Try.prog 90 [.fn 107 [] [], u64 a, u64 b] [] (Is2 (u64 ((a + b) % 2305843009213693951)) []) := by
  refine Ct.introF (E := E 13 0 [.tmp 6] [] [] []) tab_ok Try.call90 Try.func90 rfl rfl rfl rfl rfl (fun hin => ?_)
  (conv => whnf); refine (Mod_ct a).use ?_
  (conv => whnf); refine (Mod_ct b).use ?_
  (conv => whnf); refine (plus_ct _ _ (by omega) (by omega)).use ?_
  exact isInt (by omega)
theorem doMinus_ct (a b : Int) : Ct Try.prog 90 [.fn 92 [] [], u64 a, u64 b] [] (Is2 (u64 ((a - b) % 2305843009213693951)) []) := by
  refine Ct.introF (E := E 13 0 [.tmp 6] [] [] []) tab_ok Try.call90 Try.func90 rfl rfl rfl rfl rfl (fun hin => ?_)
  (conv => whnf); refine (Mod_ct a).use ?_
  (conv => whnf); refine (Mod_ct b).use ?_
  (conv => whnf); refine (minus_ct _ _ (by omega) (by omega)).use ?_
  exact isInt (by omega)
theorem doTimes_ct (a b : Int) : Ct Try.prog 90 [.fn 91 [] [], u64 a, u64 b] [] (Is2 (u64 ((a * b) % 2305843009213693951)) []) := by
  refine Ct.introF (E := E 13 0 [.tmp 6] [] [] []) tab_ok Try.call90 Try.func90 rfl rfl rfl rfl rfl (fun hin => ?_)
  (conv => whnf); refine (Mod_ct a).use ?_
  (conv => whnf); refine (Mod_ct b).use ?_
  (conv => whnf); refine (times_ct _ _ (by omega) (by omega)).use ?_
  exact isInt (by rw [emod_mul_l, emod_mul_r])
theorem Add_ct (a b : Int) : Ct Try.prog 87 [u64 a, u64 b] [] (Is2 (u64 ((a + b) % 2305843009213693951)) []) := by
  refine Ct.introF (E := E 8 0 [.tmp 4] [] [] []) tab_ok Try.call87 Try.func87 rfl rfl rfl rfl rfl (fun hin => ?_)
  exact (doPlus_ct a b).use (isInt rfl)
theorem Sub_ct (a b : Int) : Ct Try.prog 64 [u64 a, u64 b] [] (Is2 (u64 ((a - b) % 2305843009213693951)) []) := by
  refine Ct.introF (E := E 8 0 [.tmp 4] [] [] []) tab_ok Try.call64 Try.func64 rfl rfl rfl rfl rfl (fun hin => ?_)
  exact (doMinus_ct a b).use (isInt rfl)
theorem Mul_ct (a b : Int) : Ct Try.prog 63 [u64 a, u64 b] [] (Is2 (u64 ((a * b) % 2305843009213693951)) []) := by
  refine Ct.introF (E := E 8 0 [.tmp 4] [] [] []) tab_ok Try.call63 Try.func63 rfl rfl rfl rfl rfl (fun hin => ?_)
  exact (doTimes_ct a b).use (isInt rfl)
end Go.Proofs.Ytofkdfodehfpdaa

/- 2^61 - 1 is a prime, and 37 generates: each number that is not 0 has an inverse. No function of the program is proved here. -/
namespace Go.Num

theorem nmul_l (a b : Nat) : (a % 2305843009213693951 * b) % 2305843009213693951 = (a * b) % 2305843009213693951 := by rw [Nat.mul_mod, Nat.mod_mod, ← Nat.mul_mod]
theorem nmul_r (a b : Nat) : (a * (b % 2305843009213693951)) % 2305843009213693951 = (a * b) % 2305843009213693951 := by rw [Nat.mul_mod, Nat.mod_mod, ← Nat.mul_mod]
/-- Is a power of 37 equal to 1? -/
def One (n : Nat) : Prop := 37 ^ n % 2305843009213693951 = 1

theorem One.add {m n : Nat} (h : One m) : 37 ^ (m + n) % 2305843009213693951 = 37 ^ n % 2305843009213693951 := by
  rw [Nat.pow_add, ← nmul_l, h, Nat.one_mul]
theorem One.mul {m : Nat} (h : One m) (k : Nat) : One (m * k) := by
  induction k with
  | zero => rfl
  | succ k ih => unfold One; rw [Nat.mul_succ, Nat.add_comm, h.add]; exact ih
theorem One.mod {m n : Nat} (h : One m) (k : One n) : One (n % m) := by
  have e : m * (n / m) + n % m = n := Nat.div_add_mod n m
  have := (h.mul (n / m)).add (n := n % m)
  rw [e] at this
  unfold One at *
  rw [← this]; exact k
theorem One.gcd (m n : Nat) : One m → One n → One (Nat.gcd m n) := by
  induction m, n using Nat.gcd.induction with
  | H0 n => intro _ h; rw [Nat.gcd_zero_left]; exact h
  | H1 m n hm ih => intro h k; rw [Nat.gcd_rec]; exact ih (h.mod k) h

theorem pw_nat (n : Nat) (h : n < 2 ^ 64) : pw 37 n = ((37 ^ n % 2305843009213693951 : Nat) : Int) := by
  rw [pw_eq 37 h]
  rw [Int.natCast_emod, Int.natCast_pow]; rfl
theorem one_of {n : Nat} (h : n < 2 ^ 64) (k : pw 37 n = 1) : One n := by
  rw [pw_nat n h] at k
  exact_mod_cast k
theorem one_top : One 2305843009213693950 := one_of (by decide) (by decide +kernel)
theorem not_one {n : Nat} (h : n < 2 ^ 64) (k : pw 37 n ≠ 1) : ¬ One n := by
  intro e
  apply k
  rw [pw_nat n h]
  exact_mod_cast e

/-- Numbers that nothing divides. -/
def prm (q : Nat) : Bool := Nat.blt 1 q && (List.range q).all fun d => Nat.ble d 1 || !(Nat.beq (q % d) 0)
theorem prm_ok {q d : Nat} (h : prm q = true) (hd : d ∣ q) : d = 1 ∨ d = q := by
  unfold prm at h
  simp only [Bool.and_eq_true, Nat.blt_eq, List.all_eq_true, Bool.or_eq_true, Bool.not_eq_true'] at h
  have hle := Nat.le_of_dvd (by omega) hd
  by_cases e : d = q
  · exact .inr e
  · left
    have := h.2 d (List.mem_range.2 (by omega))
    rcases this with h1 | h1
    · have := Nat.le_of_ble_eq_true h1
      have h0 : d ≠ 0 := by rintro rfl; have := Nat.eq_zero_of_zero_dvd hd; omega
      omega
    · have h2 := Nat.mod_eq_zero_of_dvd hd
      rw [h2] at h1; cases h1
theorem cop {m q : Nat} (h : prm q = true) (hn : ¬ q ∣ m) : Nat.gcd m q = 1 := by
  rcases prm_ok h (Nat.gcd_dvd_right m q) with h1 | h1
  · exact h1
  · exact absurd (h1 ▸ Nat.gcd_dvd_left m q) hn

theorem not_mid {d : Nat} (h0 : 0 < d) (h1 : d < 2305843009213693950) : ¬ One d := by
  intro h
  have hg := One.gcd _ _ h one_top
  generalize hh : Nat.gcd d 2305843009213693950 = g at hg
  have hgd : g ∣ 2305843009213693950 := hh ▸ Nat.gcd_dvd_right _ _
  have hgl : g ≤ d := hh ▸ Nat.le_of_dvd h0 (Nat.gcd_dvd_left _ _)
  obtain ⟨m, hm⟩ := hgd
  have hm1 : m ≠ 1 := by rintro rfl; omega
  have key : ∀ q c : Nat, q * c = 2305843009213693950 → ¬ One c → ¬ q ∣ m := by
    intro q c hqc hc ⟨k, hk⟩
    apply hc
    have : c = g * k := by
      have hq : 0 < q := Nat.pos_of_ne_zero (by rintro rfl; omega)
      apply Nat.eq_of_mul_eq_mul_left hq
      rw [hqc, hm, hk, Nat.mul_left_comm]
    rw [this]; exact hg.mul k
  have c2 := cop (q := 2) (m := m) (by decide) (key 2 1152921504606846975 (by decide) (not_one (by decide) (by decide +kernel)))
  have c3 := cop (q := 3) (m := m) (by decide) (key 3 768614336404564650 (by decide) (not_one (by decide) (by decide +kernel)))
  have c5 := cop (q := 5) (m := m) (by decide) (key 5 461168601842738790 (by decide) (not_one (by decide) (by decide +kernel)))
  have c7 := cop (q := 7) (m := m) (by decide) (key 7 329406144173384850 (by decide) (not_one (by decide) (by decide +kernel)))
  have c11 := cop (q := 11) (m := m) (by decide) (key 11 209622091746699450 (by decide) (not_one (by decide) (by decide +kernel)))
  have c13 := cop (q := 13) (m := m) (by decide) (key 13 177372539170284150 (by decide) (not_one (by decide) (by decide +kernel)))
  have c31 := cop (q := 31) (m := m) (by decide) (key 31 74382032555280450 (by decide) (not_one (by decide) (by decide +kernel)))
  have c41 := cop (q := 41) (m := m) (by decide) (key 41 56240073395455950 (by decide) (not_one (by decide) (by decide +kernel)))
  have c61 := cop (q := 61) (m := m) (by decide) (key 61 37800705069076950 (by decide) (not_one (by decide) (by decide +kernel)))
  have c151 := cop (q := 151) (m := m) (by decide +kernel) (key 151 15270483504726450 (by decide) (not_one (by decide) (by decide +kernel)))
  have c331 := cop (q := 331) (m := m) (by decide +kernel) (key 331 6966293079195450 (by decide) (not_one (by decide) (by decide +kernel)))
  have c1321 := cop (q := 1321) (m := m) (by decide +kernel) (key 1321 1745528394559950 (by decide) (not_one (by decide) (by decide +kernel)))
  have cm : ∀ {a b : Nat}, Nat.gcd m a = 1 → Nat.gcd m b = 1 → Nat.gcd m (a * b) = 1 := fun ha hb => Nat.Coprime.mul_right ha hb
  have hall := cm c2 (cm c3 (cm c3 (cm c5 (cm c5 (cm c7 (cm c11 (cm c13 (cm c31 (cm c41 (cm c61 (cm c151 (cm c331 c1321))))))))))))
  have hd : m ∣ 2305843009213693950 := ⟨g, by rw [hm, Nat.mul_comm]⟩
  have : Nat.gcd m 2305843009213693950 = m := Nat.gcd_eq_left hd
  have e : (2 * (3 * (3 * (5 * (5 * (7 * (11 * (13 * (31 * (41 * (61 * (151 * (331 * 1321)))))))))))) : Nat) = 2305843009213693950 := by decide
  rw [e, this] at hall
  exact hm1 hall

theorem inj_gen {T : Nat} (hT : One T) (hm : ∀ d, 0 < d → d < T → ¬ One d) {i j : Nat} (hi : i < T) (hj : j < T) (h : 37 ^ i % 2305843009213693951 = 37 ^ j % 2305843009213693951) : i = j := by
  have key : ∀ i j : Nat, i < j → j < T → 37 ^ i % 2305843009213693951 = 37 ^ j % 2305843009213693951 → False := by
    intro i j hij hj h
    refine hm (j - i) (by omega) (by omega) ?_
    have h1 : (37 ^ (T - i) * 37 ^ i) % 2305843009213693951 = (37 ^ (T - i) * 37 ^ j) % 2305843009213693951 := by rw [← nmul_r, h, nmul_r]
    rw [← Nat.pow_add, ← Nat.pow_add, show T - i + i = T from by omega, show T - i + j = T + (j - i) from by omega, hT.add] at h1
    unfold One; rw [← h1]; exact hT
  rcases Nat.lt_trichotomy i j with h1 | h1 | h1
  · exact (key i j h1 hj h).elim
  · exact h1
  · exact (key j i h1 hi h.symm).elim
theorem inj {i j : Nat} (hi : i < 2305843009213693950) (hj : j < 2305843009213693950) (h : 37 ^ i % 2305843009213693951 = 37 ^ j % 2305843009213693951) : i = j := inj_gen one_top (fun _ h0 h1 => not_mid h0 h1) hi hj h

theorem nonzero_gen {T : Nat} (hT : One (T + 1)) (i : Nat) : 37 ^ i % 2305843009213693951 ≠ 0 := by
  intro h
  have h1 : 37 ^ ((T + 1) * i) % 2305843009213693951 = 1 := hT.mul i
  have e : (T + 1) * i = i + T * i := by rw [Nat.add_mul]; omega
  rw [e, Nat.pow_add, ← nmul_l, h, Nat.zero_mul] at h1
  cases h1
theorem nonzero (i : Nat) : 37 ^ i % 2305843009213693951 ≠ 0 := nonzero_gen (T := 2305843009213693949) one_top i

theorem pigeon : ∀ (n : Nat) (f : Nat → Nat), (∀ i, i < n → f i < n) → (∀ i j, i < n → j < n → f i = f j → i = j) → ∀ y, y < n → ∃ i, i < n ∧ f i = y
  | 0, _, _, _, y, h => by omega
  | n + 1, f, hr, hi, y, hy => by
    have hv := hr n (by omega)
    have ih := pigeon n (fun i => if f i = n then f n else f i) (fun i h => by
      try simp only
      split
      · rename_i e
        have : f n ≠ n := fun e2 => by have := hi i n (by omega) (by omega) (by rw [e, e2]); omega
        omega
      · have := hr i (by omega); omega) (fun i j hi' hj' h => by
      try simp only at h
      split at h <;> split at h
      · rename_i a b; exact hi i j (by omega) (by omega) (by rw [a, b])
      · rename_i a b; have := hi n j (by omega) (by omega) h; omega
      · rename_i a b; have := hi i n (by omega) (by omega) h; omega
      · exact hi i j (by omega) (by omega) h)
    by_cases e1 : y = f n
    · exact ⟨n, by omega, e1.symm⟩
    · by_cases e2 : y = n
      · have hvn : f n < n := by omega
        obtain ⟨i, h1, h2⟩ := ih (f n) hvn
        try simp only at h2
        split at h2
        · rename_i e; exact ⟨i, by omega, by rw [e, e2]⟩
        · have := hi i n (by omega) (by omega) h2; omega
      · obtain ⟨i, h1, h2⟩ := ih y (by omega)
        try simp only at h2
        split at h2
        · exact absurd h2.symm e1
        · exact ⟨i, by omega, h2⟩

theorem fermat_gen {T : Nat} (hT1 : T + 1 = 2305843009213693951) (hT : One T) (inj : ∀ {i j : Nat}, i < T → j < T → 37 ^ i % 2305843009213693951 = 37 ^ j % 2305843009213693951 → i = j) {a : Nat} (h : a % 2305843009213693951 ≠ 0) : a ^ T % 2305843009213693951 = 1 := by
  have hlt : a % 2305843009213693951 < 2305843009213693951 := Nat.mod_lt _ (by decide)
  obtain ⟨i, _, hi⟩ := pigeon T (fun i => 37 ^ i % 2305843009213693951 - 1) (fun i _ => by
    have := nonzero i
    have h2 : 37 ^ i % 2305843009213693951 < 2305843009213693951 := Nat.mod_lt _ (by decide)
    show 37 ^ i % 2305843009213693951 - 1 < T
    generalize 37 ^ i % 2305843009213693951 = z at *
    omega) (fun i j hi hj h => by
    have h1 := nonzero i; have h2 := nonzero j
    refine inj hi hj ?_
    try simp only at h
    generalize 37 ^ i % 2305843009213693951 = z at *
    generalize 37 ^ j % 2305843009213693951 = z' at *
    omega) (a % 2305843009213693951 - 1) (by omega)
  have h1 := nonzero i
  try simp only at hi
  have e : a % 2305843009213693951 = 37 ^ i % 2305843009213693951 := by
    generalize 37 ^ i % 2305843009213693951 = z at *
    omega
  rw [Nat.pow_mod, e, ← Nat.pow_mod, ← Nat.pow_mul, Nat.mul_comm]
  exact hT.mul i

/-- What a number that is not 0 times its inverse is. -/
theorem inv_gen (k : Nat) (hk : k < 2 ^ 64) (hf : ∀ a : Nat, a % 2305843009213693951 ≠ 0 → a ^ (k + 1) % 2305843009213693951 = 1) {a : Int} (h : a % 2305843009213693951 ≠ 0) : (a * pw a k) % 2305843009213693951 = 1 := by
  rw [pw_eq a hk, emod_mul_r]
  have e : a * a ^ k = a ^ (k + 1) := by rw [Int.mul_comm, ← Int.pow_succ]
  rw [e, ← pow_mod]
  obtain ⟨n, hn⟩ := Int.eq_ofNat_of_zero_le (show 0 ≤ a % 2305843009213693951 by omega)
  rw [hn]
  have hne : n % 2305843009213693951 ≠ 0 := by omega
  have := hf n hne
  rw [← Int.natCast_pow]
  generalize n ^ (k + 1) = z at *
  omega
theorem inv_all {k : Nat} (hk : k < 2 ^ 64) (hT1 : k + 2 = 2305843009213693951) (hT : One (k + 1)) (hi : ∀ {i j : Nat}, i < k + 1 → j < k + 1 → 37 ^ i % 2305843009213693951 = 37 ^ j % 2305843009213693951 → i = j) {a : Int} (h : a % 2305843009213693951 ≠ 0) : (a * pw a k) % 2305843009213693951 = 1 :=
  inv_gen k hk (fun _ h => fermat_gen (T := k + 1) hT1 hT hi h) h
theorem inv_ok {a : Int} (h : a % 2305843009213693951 ≠ 0) : (a * inv a) % 2305843009213693951 = 1 := inv_all (by decide) rfl one_top inj h
theorem pw_zero_gen {k : Nat} (hk : k < 2 ^ 64) (h0 : k ≠ 0) {a : Int} (h : a % 2305843009213693951 = 0) : pw a k = 0 := by
  rw [pw_eq a hk, ← pow_mod, h, Int.zero_pow h0]; rfl
theorem inv_zero {a : Int} (h : a % 2305843009213693951 = 0) : inv a = 0 := by
  exact pw_zero_gen (by decide) (by decide) h
theorem inv_rng (a : Int) : 0 ≤ inv a ∧ inv a < 2305843009213693951 := pw_rng a _
end Go.Num

/- Package prime and its reference: powers and inverses. -/
namespace Go.Proofs.Ytofkdfodehfpdaa
open Go.V Go.Num
open Go.Eng (wr)
set_option maxRecDepth 100000
theorem and1 {n : Int} (h : 0 ≤ n) : ((n.toNat &&& (1 : Int).toNat : Nat) : Int) = n % 2 := bit_i h
theorem div_nn {a b : Int} (ha : 0 ≤ a) (hb : 0 ≤ b) : 0 ≤ a / b := Int.ediv_nonneg ha hb
/-- The inverse is the only one. -/
theorem inv_uniq {a t : Int} (h : a % 2305843009213693951 ≠ 0) (ht : 0 ≤ t ∧ t < 2305843009213693951) (e : (a * t) % 2305843009213693951 = 1) : t = inv a := by
  have h1 : (t * (a * inv a)) % 2305843009213693951 = t := by rw [← emod_mul_r, inv_ok h, Int.mul_one]; exact Int.emod_eq_of_lt ht.1 ht.2
  have h2 : (t * (a * inv a)) % 2305843009213693951 = inv a := by
    rw [← Int.mul_assoc, Int.mul_comm t a, ← emod_mul_l, e, Int.one_mul]
    exact Int.emod_eq_of_lt (inv_rng a).1 (inv_rng a).2
  rw [← h1, h2]
theorem pow_even (q : Int) {m : Nat} (h : m % 2 = 0) : (q * q) ^ (m / 2) = q ^ m := by
  have e : m = 2 * (m / 2) := by omega
  have : q * q = q ^ 2 := by rw [Int.pow_succ, Int.pow_succ, Int.pow_zero, Int.one_mul]
  rw [this, ← Int.pow_mul, ← e]
theorem pow_odd (q : Int) {m : Nat} (h : m % 2 = 1) : q * (q * q) ^ (m / 2) = q ^ m := by
  have e : m = 2 * (m / 2) + 1 := by omega
  have : q * q = q ^ 2 := by rw [Int.pow_succ, Int.pow_succ, Int.pow_zero, Int.one_mul]
  rw [this, ← Int.pow_mul, Int.mul_comm, ← Int.pow_succ]
  congr 1; omega
theorem Pow_ct (a n0 : Int) (hn : 0 ≤ n0 ∧ n0 < 18446744073709551616) : Ct Try.prog 89 [u64 a, u64 n0] [] (Is2 (u64 (pw a n0.toNat)) []) := by
  refine Ct.introF (E := E 23 0 [.tmp 4] [] [(2, [1, 5, 6])] []) tab_ok Try.call89 Try.func89 rfl rfl rfl rfl rfl (fun hin => ?_)
  (conv => whnf); refine (Mod_ct a).use ?_
  (conv => whnf); refine LoopI.mk (fun m vs os => ∃ (k : Nat) (out sq : Int), vs = [u64 (k : Int), u64 out, u64 sq] ∧ os = [] ∧ 0 ≤ out ∧ out < 2305843009213693951 ∧ 0 ≤ sq ∧ sq < 2305843009213693951 ∧ k < 18446744073709551616 ∧ (out * sq ^ k) % 2305843009213693951 = (a ^ n0.toNat) % 2305843009213693951 ∧ m = k) n0.toNat ⟨n0.toNat, 1, a % 2305843009213693951, by rw [Int.toNat_of_nonneg hn.1], rfl, by decide, by decide, by omega, by omega, by omega, by rw [Int.one_mul, pow_mod], rfl⟩ ?_
  rintro m _ _ ⟨k, out, sq, rfl, rfl, ho1, ho2, hs1, hs2, hk, hE, rfl⟩
  (conv => whnf); refine cond_d (fun h => ?_) (fun h => ?_)
  · have hd : (m : Int) / 2 ^ min (Int.toNat 1) IntKind.u64.bits = ((m / 2 : Nat) : Int) := by show (m : Int) / 2 = _; omega
    have hb := and1 (n := (m : Int)) (by omega)
    (conv => whnf); refine cond_d (fun h2 => ?_) (fun h2 => ?_)
    · (conv => whnf); refine (times_ct _ _ ⟨ho1, ho2⟩ ⟨hs1, hs2⟩).use ?_
      (conv => whnf); refine (times_ct _ _ ⟨hs1, hs2⟩ ⟨hs1, hs2⟩).use ?_
      conv => whnf
      refine ⟨m / 2, by omega, m / 2, out * sq % 2305843009213693951, sq * sq % 2305843009213693951, ?_, rfl, ?_, ?_, ?_, ?_, by omega, ?_, rfl⟩
      · rw [hd]
      · omega
      · omega
      · omega
      · omega
      · rw [← hE, emod_mul_l, ← emod_mul_r, pow_mod, emod_mul_r, Int.mul_assoc]
        congr 2
        exact pow_odd sq (by omega)
    · (conv => whnf); refine (times_ct _ _ ⟨hs1, hs2⟩ ⟨hs1, hs2⟩).use ?_
      conv => whnf
      refine ⟨m / 2, by omega, m / 2, out, sq * sq % 2305843009213693951, ?_, rfl, ho1, ho2, ?_, ?_, by omega, ?_, rfl⟩
      · rw [hd]
      · omega
      · omega
      · rw [← hE, ← emod_mul_r, pow_mod, emod_mul_r]
        congr 2
        exact pow_even sq (by omega)
  · have h0 : m = 0 := by omega
    subst h0
    refine isInt ?_
    rw [pw_eq a (by omega), ← hE, Int.pow_zero, Int.mul_one]
    exact (Int.emod_eq_of_lt ho1 ho2).symm
theorem Inv_ct (a : Int) : Ct Try.prog 62 [u64 a] [] (Is2 (.tup [u64 (inv a), i64 (if a % 2305843009213693951 = 0 then 1 else 0)]) []) := by
  refine Ct.introF (E := E 9 0 [.tmp 2, .tmp 3] [] [] []) tab_ok Try.call62 Try.func62 rfl rfl rfl rfl rfl (fun hin => ?_)
  (conv => whnf); refine (Mod_ct a).use ?_
  (conv => whnf); refine cond_d (fun h => ?_) (fun h => ?_)
  · rw [inv_zero h, if_pos h]
    exact Is2.mk rfl
  · rw [if_neg h]
    (conv => whnf); refine (Pow_ct a _ (by decide)).use ?_
    exact Is2.mk rfl
end Go.Proofs.Ytofkdfodehfpdaa

/- Package poly and its reference, part A: lists. -/
namespace Go.Proofs.Ytofkdfodehfpdaa
open Go.V Go.Num
open Go.Eng (wr)
set_option maxRecDepth 100000
abbrev li (xs : List Int) : List D := xs.map (.int .u64)
abbrev L (xs : List Int) : AV := .d (.ro (li xs))
theorem li_len (a : List Int) : (li a).length = a.length := List.length_map _
theorem li_get {a : List Int} {i : Nat} (h : i < a.length) : (li a)[(i : Int).toNat]? = some (.int .u64 (a.getD i 0)) := by
  rw [Int.toNat_natCast, List.getElem?_map, List.getElem?_eq_getElem h, List.getD_eq_getElem?_getD, List.getElem?_eq_getElem h]; rfl
theorem getD_at {a : List Int} {i : Nat} (h : i < a.length) : a[i]? = some (a.getD i 0) := by
  rw [List.getD_eq_getElem?_getD, List.getElem?_eq_getElem h]; rfl
theorem take_succ' {a : List Int} {i : Nat} (h : i < a.length) : a.take (i + 1) = a.take i ++ [a.getD i 0] := by
  rw [List.take_add_one, getD_at h]; rfl
theorem Same_ct (a b : List Int) : Ct Try.prog 20 [L a, L b] [] (Is2 (.d (.bool (decide (a = b)))) []) := by
  refine Ct.introF (E := E 26 0 [.tmp 4] [] [(4, [0, 1, 5])] []) tab_ok Try.call20 Try.func20 rfl rfl rfl rfl rfl (fun hin => ?_)
  obtain ⟨⟨ha, _⟩, ⟨hb, _⟩, _⟩ := hin
  have la := li_len a
  have lb := li_len b
  (conv => whnf); refine cond_d (fun h => ?_) (fun h => ?_)
  · refine isBool ?_
    rw [decide_eq_false]; rintro rfl; omega
  · (conv => whnf); refine LoopI.mk (fun n vs os => ∃ i : Nat, vs = [L a, L b, i64 i] ∧ os = [] ∧ i ≤ a.length ∧ a.take i = b.take i ∧ n = a.length - i) a.length ⟨0, rfl, rfl, Nat.zero_le _, rfl, rfl⟩ ?_
    rintro n _ _ ⟨i, rfl, rfl, h1, h2, rfl⟩
    (conv => whnf); refine cond_d (fun h3 => ?_) (fun h3 => ?_)
    · (conv => whnf); refine DrawI.mkF 8 [[0], [5], [17, 18], [19], [1], [5], [21, 22], [23]] (by decide +kernel) ?_
      repeat (first | refine DrawO.mkF _ (And.intro rfl rfl) ?_ | refine DrawO.mkF _ (Idx.mk _ rfl (And.intro rfl rfl)) ?_)
      refine DrawO.mkF _ (And.intro (by omega) (Idx.mk _ (li_get (by omega)) (And.intro rfl rfl))) ?_
      repeat (first | refine DrawO.mkF _ (And.intro rfl rfl) ?_ | refine DrawO.mkF _ (Idx.mk _ rfl (And.intro rfl rfl)) ?_)
      refine DrawO.mkF _ (And.intro (by omega) (Idx.mk _ (li_get (by omega)) (And.intro rfl rfl))) ?_
      repeat (first | refine DrawO.mkF _ (And.intro rfl rfl) ?_ | refine DrawO.mkF _ (Idx.mk _ rfl (And.intro rfl rfl)) ?_)
      (conv => whnf); refine cond_d (fun h4 => ?_) (fun h4 => ?_)
      · refine isBool ?_
        rw [decide_eq_false]; rintro rfl; exact h4 rfl
      · (conv => whnf); refine And.intro (by first | omega | (dsimp only [List.length, cond]; omega) | (show (-9223372036854775808 : Int) ≤ _ ∧ _ ≤ (9223372036854775807 : Int); omega) | decide) ?_
        conv => whnf
        refine ⟨a.length - (i + 1), by omega, i + 1, rfl, rfl, by omega, ?_, rfl⟩
        rw [take_succ' (by omega), take_succ' (by omega), h2, Decidable.of_not_not h4]
    · refine isBool ?_
      rw [decide_eq_true]
      have e1 : a.take i = a := List.take_of_length_le (by omega)
      have e2 : b.take i = b := List.take_of_length_le (by omega)
      rw [← e1, h2, e2]
end Go.Proofs.Ytofkdfodehfpdaa

/- Polynomials as lists of numbers: sums, products, coefficients. No function of the program is proved here. -/
namespace Go.Num

/-- A coefficient. -/
def co (xs : List Int) (k : Nat) : Int := xs.getD k 0
theorem co_nil (k : Nat) : co [] k = 0 := by simp [co]
theorem co_zero (x : Int) (xs : List Int) : co (x :: xs) 0 = x := rfl
theorem co_succ (x : Int) (xs : List Int) (k : Nat) : co (x :: xs) (k + 1) = co xs k := rfl
theorem co_out {xs : List Int} {k : Nat} (h : xs.length ≤ k) : co xs k = 0 := by
  unfold co; rw [List.getD_eq_getElem?_getD, List.getElem?_eq_none h]; rfl
theorem co_at {xs : List Int} {k : Nat} (h : k < xs.length) : xs[k]? = some (co xs k) := by
  unfold co; rw [List.getD_eq_getElem?_getD, List.getElem?_eq_getElem h]; rfl
theorem co_set (xs : List Int) (i : Nat) (v : Int) (k : Nat) : co (xs.set i v) k = if k = i ∧ i < xs.length then v else co xs k := by
  unfold co
  rw [List.getD_eq_getElem?_getD, List.getElem?_set, List.getD_eq_getElem?_getD]
  by_cases e : i = k
  · subst e
    by_cases h : i < xs.length
    · simp [h]
    · simp [h]
  · rw [if_neg e, if_neg (by rintro ⟨rfl, _⟩; exact e rfl)]
theorem co_map (f : Int → Int) (h0 : f 0 = 0) (xs : List Int) (k : Nat) : co (xs.map f) k = f (co xs k) := by
  unfold co
  rw [List.getD_eq_getElem?_getD, List.getElem?_map, List.getD_eq_getElem?_getD]
  cases xs[k]? with
  | none => exact h0.symm
  | some x => rfl
theorem co_take (xs : List Int) (i k : Nat) : co (xs.take i) k = if k < i then co xs k else 0 := by
  unfold co
  rw [List.getD_eq_getElem?_getD, List.getElem?_take, List.getD_eq_getElem?_getD]
  split <;> rfl
theorem co_ext {xs ys : List Int} (hl : xs.length = ys.length) (h : ∀ k, co xs k = co ys k) : xs = ys := by
  apply List.ext_getElem? ; intro k
  by_cases hk : k < xs.length
  · rw [co_at hk, co_at (by omega), h]
  · rw [List.getElem?_eq_none (by omega), List.getElem?_eq_none (by omega)]
theorem co_rep (n : Nat) (k : Nat) : co (List.replicate n 0) k = 0 := by
  unfold co; rw [List.getD_eq_getElem?_getD, List.getElem?_replicate]; split <;> rfl

/-- Without the zeros at the end. -/
def nz : List Int → List Int
  | [] => []
  | x :: xs => match nz xs with
    | [] => if x = 0 then [] else [x]
    | y :: ys => x :: y :: ys
theorem nz_cons (x : Int) (xs : List Int) : nz (x :: xs) = if nz xs = [] then (if x = 0 then [] else [x]) else x :: nz xs := by
  simp only [nz]
  split
  · rename_i h; rw [h, if_pos rfl]
  · rename_i h; rw [h, if_neg (by simp)]
theorem nz_zero (xs : List Int) : nz (xs ++ [0]) = nz xs := by
  induction xs with
  | nil => rfl
  | cons x xs ih => rw [List.cons_append, nz_cons, nz_cons, ih]
theorem nz_keep (xs : List Int) {x : Int} (h : x ≠ 0) : nz (xs ++ [x]) = xs ++ [x] := by
  induction xs with
  | nil => simp [nz, h]
  | cons y xs ih => rw [List.cons_append, nz_cons, ih, if_neg (by simp)]
theorem nz_len (xs : List Int) : (nz xs).length ≤ xs.length := by
  induction xs with
  | nil => exact Nat.le_refl _
  | cons x xs ih =>
    rw [nz_cons]
    split
    · split <;> simp
    · simpa using ih
theorem co_nz (xs : List Int) : ∀ k, co (nz xs) k = co xs k := by
  induction xs with
  | nil => intro k; rfl
  | cons x xs ih =>
    intro k
    rw [nz_cons]
    split
    · rename_i h
      have h0 : ∀ k, co xs k = 0 := fun k => by rw [← ih, h, co_nil]
      cases k with
      | zero => split <;> simp_all [co_zero, co_nil]
      | succ k => rw [co_succ, h0]; split <;> simp [co_nil, co_succ]
    · cases k with
      | zero => rfl
      | succ k => rw [co_succ, co_succ, ih]
def md (xs : List Int) : List Int := xs.map (· % 2305843009213693951)
theorem md_len (xs : List Int) : (md xs).length = xs.length := List.length_map _
theorem co_md (xs : List Int) (k : Nat) : co (md xs) k = co xs k % 2305843009213693951 := co_map (· % 2305843009213693951) rfl xs k
def tr (xs : List Int) : List Int := nz (md xs)
theorem tr_len (xs : List Int) : (tr xs).length ≤ xs.length := Nat.le_trans (nz_len _) (by rw [md_len]; exact Nat.le_refl _)
theorem co_tr (xs : List Int) (k : Nat) : co (tr xs) k = co xs k % 2305843009213693951 := by unfold tr; rw [co_nz, co_md]
theorem tr_congr {xs ys : List Int} (hl : xs.length = ys.length) (h : ∀ k, co xs k % 2305843009213693951 = co ys k % 2305843009213693951) : tr xs = tr ys := by
  unfold tr
  rw [co_ext (xs := md xs) (ys := md ys) (by rw [md_len, md_len, hl]) (fun k => by rw [co_md, co_md, h])]

def padd : List Int → List Int → List Int
  | [], ys => ys
  | xs, [] => xs
  | x :: xs, y :: ys => (x + y) :: padd xs ys
theorem co_padd : ∀ (xs ys : List Int) (k : Nat), co (padd xs ys) k = co xs k + co ys k
  | [], ys, k => by unfold padd; rw [co_nil]; omega
  | x :: xs, [], k => by unfold padd; rw [co_nil]; omega
  | x :: xs, y :: ys, 0 => rfl
  | x :: xs, y :: ys, k + 1 => by unfold padd; rw [co_succ, co_succ, co_succ, co_padd]
theorem padd_len : ∀ (xs ys : List Int), (padd xs ys).length = max xs.length ys.length
  | [], ys => by simp [padd]
  | x :: xs, [] => by simp [padd]
  | x :: xs, y :: ys => by simp [padd, padd_len xs ys]
def addS (a b : List Int) : List Int := tr (padd a b)
theorem addS_comm (a b : List Int) : addS a b = addS b a := tr_congr (by rw [padd_len, padd_len, Nat.max_comm]) (fun k => by rw [co_padd, co_padd, Int.add_comm])

def pmul : List Int → List Int → List Int
  | [], _ => []
  | x :: xs, ys => padd (ys.map (x * ·)) (0 :: pmul xs ys)
theorem pmul_len : ∀ (xs ys : List Int), xs ≠ [] → ys ≠ [] → (pmul xs ys).length = xs.length + ys.length - 1
  | [], _, h, _ => absurd rfl h
  | [x], ys, _, h => by
    have := List.length_pos_iff.2 h
    simp [pmul, padd_len]; omega
  | x :: y :: xs, ys, _, h => by
    have := List.length_pos_iff.2 h
    have ih := pmul_len (y :: xs) ys (by simp) h
    unfold pmul
    rw [padd_len, List.length_map, List.length_cons, ih]
    simp only [List.length_cons]
    omega
theorem co_pmul_take (ys : List Int) : ∀ (xs : List Int) (i k : Nat), i < xs.length → co (pmul (xs.take (i + 1)) ys) k = co (pmul (xs.take i) ys) k + (if i ≤ k then co xs i * co ys (k - i) else 0)
  | [], i, k, h => by simp at h
  | x :: xs, 0, k, _ => by
    simp only [List.take_succ_cons, List.take_zero, pmul]
    rw [co_padd, co_map _ (Int.mul_zero x), co_nil, co_zero, if_pos (Nat.zero_le _), Nat.sub_zero]
    cases k with
    | zero => rw [co_zero]; omega
    | succ k => rw [co_succ, co_nil]; omega
  | x :: xs, i + 1, k, h => by
    rw [List.take_succ_cons, List.take_succ_cons]
    unfold pmul
    rw [co_padd, co_padd, co_succ]
    cases k with
    | zero => rw [co_zero, co_zero, if_neg (by omega)]; omega
    | succ k =>
      rw [co_succ, co_succ, co_pmul_take ys xs i k (by simpa using h), Nat.add_sub_add_right]
      by_cases e : i ≤ k
      · rw [if_pos e, if_pos (by omega)]; omega
      · rw [if_neg e, if_neg (by omega)]; omega
def mulS (a b : List Int) : List Int := tr (pmul (tr a) (tr b))
theorem nz_zeros {xs : List Int} (h : ∀ k, co xs k = 0) : nz xs = [] := by
  induction xs with
  | nil => rfl
  | cons x xs ih =>
    rw [nz_cons, ih (fun k => h (k + 1)), if_pos rfl, if_pos (show x = 0 from h 0)]
theorem co_pmul_nil : ∀ (xs : List Int) (k : Nat), co (pmul xs []) k = 0
  | [], k => co_nil k
  | x :: xs, k => by
    unfold pmul
    rw [co_padd]
    cases k with
    | zero => rfl
    | succ k => rw [co_succ, co_pmul_nil xs k]; rfl
theorem mulS_nil {a b : List Int} (h : tr a = [] ∨ tr b = []) : mulS a b = [] := by
  unfold mulS
  rcases h with h | h
  · rw [h]; rfl
  · rw [h]; unfold tr; exact nz_zeros (fun k => by rw [co_md, co_pmul_nil]; rfl)
theorem mulS_len (a b : List Int) : (mulS a b).length ≤ a.length + b.length - 1 := by
  by_cases h : tr a = [] ∨ tr b = []
  · rw [mulS_nil h]; exact Nat.zero_le _
  · have h1 : tr a ≠ [] := fun e => h (.inl e)
    have h2 : tr b ≠ [] := fun e => h (.inr e)
    have h3 := tr_len (pmul (tr a) (tr b))
    rw [pmul_len _ _ h1 h2] at h3
    have h4 := tr_len a
    have h5 := tr_len b
    have h6 := List.length_pos_iff.2 h1
    have h7 := List.length_pos_iff.2 h2
    unfold mulS
    omega
theorem nz_take (xs : List Int) : xs.take (nz xs).length = nz xs := by
  induction xs with
  | nil => rfl
  | cons x xs ih =>
    rw [nz_cons]
    split
    · split
      · rfl
      · simp
    · rw [List.length_cons, List.take_succ_cons, ih]
/-- A polynomial's value. -/
def ev : List Int → Int → Int
  | [], _ => 0
  | a :: cs, x => a + x * ev cs x
theorem ev_take (x : Int) : ∀ (xs : List Int) (i : Nat), i < xs.length → ev (xs.take (i + 1)) x = ev (xs.take i) x + co xs i * x ^ i
  | [], i, h => by simp at h
  | a :: cs, 0, _ => by simp [ev, co_zero]
  | a :: cs, i + 1, h => by
    rw [List.take_succ_cons, List.take_succ_cons]
    unfold ev
    rw [ev_take x cs i (by simpa using h), Int.mul_add, co_succ, Int.pow_succ, Int.mul_left_comm x, Int.mul_comm x (x ^ i)]
    omega
end Go.Num

/- Package poly and its reference, part B: lists cut to their size. -/
namespace Go.Proofs.Ytofkdfodehfpdaa
open Go.V Go.Num
open Go.Eng (wr)
set_option maxRecDepth 100000
theorem li_cells (xs : List Int) : ∀ y ∈ li xs, y.cells.length = 1 := by
  intro y hy
  obtain ⟨x, _, rfl⟩ := List.mem_map.1 hy
  rfl
theorem isRo {xs ys : List D} (h : ys = xs) : Is2 (.d (.ro xs)) [] (.d (.ro ys)) [] := by subst h; exact ⟨rfl, rfl⟩
theorem isRow {e sz : Nat} {xs ys : List D} (h : ys = xs) : Is2 (.sl 0) [.row e sz xs] (.sl 0) [.row e sz ys] := by subst h; exact ⟨rfl, rfl⟩
theorem row1 {e sz : Nat} {xs ys : List D} (h : xs = ys) : [Obj.row e sz xs] = [Obj.row e sz ys] := by rw [h]
theorem li_app (xs ys : List Int) : li xs ++ li ys = li (xs ++ ys) := List.map_append.symm
theorem ClipO_ct (xs : List D) (hb : (xs.length : Int) ≤ 9223372036854775807) : Ct Try.prog 116 [.sl 0] [.row 22 1 xs] (Is2 (.sl 1) [.gone, .row 22 1 xs]) := by
  refine Ct.introF (E := E 9 1 [.tmp 2] [] [] []) tab_ok Try.call116 Try.func116 rfl rfl rfl rfl rfl (fun hin => ?_)
  (conv => whnf); refine And.intro ⟨by omega, by omega, by omega⟩ ?_
  rw [show List.take ((xs.length : Int)).toNat xs = xs from List.take_of_length_le (by omega)]
  exact Is2.mk rfl
theorem Clone_ct (xs : List Int) (h1 : xs.length ≤ 1000000) : Ct Try.prog 110 [L xs] [] (Is2 (.sl 0) [.row 22 1 (li xs)]) := by
  refine Ct.introF (E := E 8 0 [.tmp 2] [] [] [(1000002, [.own 2 22 1])]) tab_ok Try.call110 Try.func110 rfl rfl rfl rfl rfl (fun hin => ?_)
  have hl := li_len xs
  intro b hb
  (conv => whnf); refine cond_i (fun h => ?_) (fun h => ?_)
  · refine isRow ?_
    by_cases e : xs = []
    · rw [e]; rfl
    · exfalso
      have := hb (by intro e2; apply e; cases xs with | nil => rfl | cons x xs => simp [cellsOf, li] at e2; exact absurd e2 (by simp [D.cells]))
      rw [h] at this; cases this
  · (conv => whnf); refine And.intro ⟨by dsimp only [List.length]; omega, li_cells _⟩ (isRow rfl)
theorem getD_app {a : List Int} {x : Int} {i : Nat} (h : i = a.length) : (a ++ [x])[i]? = some x := by subst h; simp
theorem trimO_ct (xs : List Int) (h1 : xs.length ≤ 1000000) : Ct Try.prog 111 [L xs] [] (Is2 (.sl 0) [.row 22 1 (li (tr xs))]) := by
  refine Ct.introF (E := E 38 0 [.tmp 2] [] [(3, [3, 7, 8, 9]), (7, [3])] []) tab_ok Try.call111 Try.func111 rfl rfl rfl rfl rfl (fun hin => ?_)
  have hl := li_len xs
  (conv => whnf); refine LoopI.mk (fun n vs os => ∃ i : Nat, vs = [.sl 0, L xs, i64 xs.length, i64 i] ∧ os = [.row 22 1 (li (md (xs.take i)))] ∧ i ≤ xs.length ∧ n = xs.length - i) xs.length ⟨0, by rw [hl]; rfl, rfl, Nat.zero_le _, rfl⟩ ?_
  rintro n _ _ ⟨i, rfl, rfl, h2, rfl⟩
  (conv => whnf); refine cond_d (fun h3 => ?_) (fun h3 => ?_)
  · (conv => whnf); refine And.intro (by omega) (Idx.mk _ (li_get (by omega)) ?_)
    (conv => whnf); refine Idx.mk _ rfl ?_
    (conv => whnf); refine (Mod_ct _).use ?_
    (conv => whnf); refine And.intro ⟨?_, li_cells [_]⟩ ?_
    · dsimp only; simp [md]; omega
    (conv => whnf); refine And.intro (by first | omega | (dsimp only [List.length, cond]; omega) | (show (-9223372036854775808 : Int) ≤ _ ∧ _ ≤ (9223372036854775807 : Int); omega) | decide) ?_
    conv => whnf
    refine ⟨xs.length - (i + 1), by omega, i + 1, rfl, row1 ?_, by omega, rfl⟩
    rw [take_succ' (by omega)]
    simp [md]
  · have e1 : xs.take i = xs := List.take_of_length_le (by omega)
    rw [e1]
    (conv => whnf); refine LoopI.mk (fun n vs os => ∃ ys : List Int, vs = [.sl 0] ∧ os = [.row 22 1 (li ys)] ∧ nz ys = tr xs ∧ ys.length ≤ 1000000 ∧ n = ys.length) (md xs).length ⟨_, rfl, rfl, rfl, by simp [md]; exact h1, rfl⟩ ?_
    rintro n _ _ ⟨ys, rfl, rfl, h4, h7, rfl⟩
    have hy := li_len ys
    (conv => whnf); refine cond_d (fun h5 => ?_) (fun h5 => ?_)
    · obtain ⟨zs, z, rfl⟩ : ∃ zs z, ys = zs ++ [z] := ⟨_, _, (List.dropLast_concat_getLast (by rintro rfl; exact absurd h5 (by decide))).symm⟩
      rw [List.length_append, List.length_singleton] at hy h7
      have hg : (li (zs ++ [z]))[(((li (zs ++ [z])).length : Int) - 1).toNat]? = some (.int .u64 z) := by
        rw [hy, ← li_app, List.getElem?_append_right (by rw [li_len]; omega), li_len]
        have : (((zs.length + 1 : Nat) : Int) - 1).toNat - zs.length = 0 := by omega
        rw [this]; rfl
      (conv => whnf); refine And.intro (by first | omega | (dsimp only [List.length, cond]; omega) | (show (-9223372036854775808 : Int) ≤ _ ∧ _ ≤ (9223372036854775807 : Int); omega) | decide) ?_
      (conv => whnf); refine And.intro (by first | omega | (dsimp only [List.length, cond]; omega) | (show (-9223372036854775808 : Int) ≤ _ ∧ _ ≤ (9223372036854775807 : Int); omega) | decide) ?_
      (conv => whnf); refine Idx.mk _ hg ?_
      (conv => whnf); refine Idx.mk _ rfl ?_
      (conv => whnf); refine cond_d (fun h6 => ?_) (fun h6 => ?_)
      · (conv => whnf); refine And.intro (by first | omega | (dsimp only [List.length, cond]; omega) | (show (-9223372036854775808 : Int) ≤ _ ∧ _ ≤ (9223372036854775807 : Int); omega) | decide) ?_
        (conv => whnf); refine And.intro (by first | omega | (dsimp only [List.length, cond]; omega) | (show (-9223372036854775808 : Int) ≤ _ ∧ _ ≤ (9223372036854775807 : Int); omega) | decide) ?_
        conv => whnf
        refine ⟨zs.length, by simp, zs, rfl, row1 ?_, ?_, by omega, rfl⟩
        · rw [hy, ← li_app]
          have : (((zs.length + 1 : Nat) : Int) - 1).toNat = (li zs).length := by rw [li_len]; omega
          rw [this]; exact List.take_left' rfl
        · rw [← h4, h6, nz_zero]
      · (conv => whnf); refine (ClipO_ct _ (by omega)).use ?_
        refine isRow ?_
        rw [← h4, nz_keep _ h6]
    · have h0 : ys = [] := by cases ys with | nil => rfl | cons y ys => rw [List.length_cons] at hy; omega
      subst h0
      (conv => whnf); refine (ClipO_ct _ (by decide)).use ?_
      refine isRow ?_
      rw [← h4]; rfl
theorem trim_ct (xs : List Int) (h1 : xs.length ≤ 1000000) : Ct Try.prog 111 [L xs] [] (Is2 (L (tr xs)) []) := Ct.frz (trimO_ct xs h1)
end Go.Proofs.Ytofkdfodehfpdaa

/- Package poly, part C: sums and products. -/
namespace Go.Proofs.Ytofkdfodehfpdaa
open Go.V Go.Num
open Go.Eng (wr)
set_option maxRecDepth 100000
set_option maxHeartbeats 4000000
theorem li_at {a : List Int} {k : Int} {n : Nat} (hk : k = n) (h : n < a.length) : (li a)[k.toNat]? = some (.int .u64 (a.getD n 0)) := by subst hk; exact li_get h
theorem li_set (zs : List Int) (i : Nat) (v : Int) : (li zs).set (i : Int).toNat (.int .u64 v) = li (zs.set i v) := by rw [Int.toNat_natCast]; exact List.map_set.symm
theorem pAddO_ct (a b : List Int) (ha : a.length ≤ 100000) (hb : b.length ≤ 100000) : Ct Try.prog 93 [L a, L b] [] (Is2 (.sl 0) [.row 22 1 (li (addS a b))]) := by
  refine Ct.introF (E := E 36 0 [.tmp 4] [(3, [0, 1])] [(5, [5, 17, 18, 19])] []) tab_ok Try.call93 Try.func93 rfl rfl rfl rfl rfl (fun hin => ?_)
  have hla := li_len a
  have hlb := li_len b
  (conv => whnf); refine JoinI.mk (fun vs os => ∃ p q : List Int, vs = [L p, L q] ∧ os = [] ∧ q.length ≤ p.length ∧ p.length ≤ 100000 ∧ addS p q = addS a b) ?_ ?_
  · (conv => whnf); refine cond_d (fun h => ?_) (fun h => ?_)
    · conv => whnf
      exact ⟨b, a, rfl, rfl, by omega, hb, addS_comm b a⟩
    · conv => whnf
      exact ⟨a, b, rfl, rfl, by omega, ha, rfl⟩
  rintro _ _ ⟨p, q, rfl, rfl, h1, h2, h3⟩
  have hlp := li_len p
  have hlq := li_len q
  (conv => whnf); refine (Clone_ct p (by omega)).use ?_
  (conv => whnf); refine LoopI.mk (fun n vs os => ∃ (i : Nat) (zs : List Int), vs = [.sl 0, L q, i64 q.length, i64 i] ∧ os = [.row 22 1 (li zs)] ∧ i ≤ q.length ∧ zs.length = p.length ∧ (∀ k, co zs k % 2305843009213693951 = (co p k + (if k < i then co q k else 0)) % 2305843009213693951) ∧ n = q.length - i) q.length ⟨0, p, by rw [hlq]; rfl, rfl, Nat.zero_le _, rfl, fun k => by simp, rfl⟩ ?_
  rintro n _ _ ⟨i, zs, rfl, rfl, h4, h5, h6, rfl⟩
  have hlz := li_len zs
  (conv => whnf); refine cond_d (fun h7 => ?_) (fun h7 => ?_)
  · (conv => whnf); refine And.intro (by omega) (Idx.mk _ (li_get (by omega)) ?_)
    (conv => whnf); refine Idx.mk _ rfl ?_
    (conv => whnf); refine And.intro (by first | omega | (dsimp only [List.length, cond]; omega) | (show (-9223372036854775808 : Int) ≤ _ ∧ _ ≤ (9223372036854775807 : Int); omega) | decide) ?_
    (conv => whnf); refine Idx.mk _ (li_get (by omega)) ?_
    (conv => whnf); refine Idx.mk _ rfl ?_
    (conv => whnf); refine (Add_ct _ _).use ?_
    (conv => whnf); refine And.intro (by first | omega | (dsimp only [List.length, cond]; omega) | (show (-9223372036854775808 : Int) ≤ _ ∧ _ ≤ (9223372036854775807 : Int); omega) | decide) ?_
    (conv => whnf); refine Idx.mk _ (li_get (by omega)) ?_
    (conv => whnf); refine And.intro (by first | omega | (dsimp only [List.length, cond]; omega) | (show (-9223372036854775808 : Int) ≤ _ ∧ _ ≤ (9223372036854775807 : Int); omega) | decide) ?_
    conv => whnf
    refine ⟨q.length - (i + 1), by omega, i + 1, zs.set i ((co zs i + co q i) % 2305843009213693951), rfl, row1 ?_, by omega, by rw [List.length_set]; exact h5, fun k => ?_, rfl⟩
    · exact li_set zs i _
    · rw [co_set]
      have h8 := h6 k
      by_cases e : k = i
      · subst e
        rw [if_pos ⟨rfl, by omega⟩, if_pos (by omega)]
        rw [if_neg (by omega)] at h8
        omega
      · rw [if_neg (fun h => e h.1), h8]
        by_cases e2 : k < i
        · rw [if_pos e2, if_pos (by omega)]
        · rw [if_neg e2, if_neg (by omega)]
  · (conv => whnf); refine (trimO_ct zs (by omega)).use ?_
    refine isRow ?_
    rw [← h3]
    have : tr zs = addS p q := tr_congr (by rw [padd_len, h5]; omega) (fun k => by
      rw [h6, co_padd]
      by_cases e : k < i
      · rw [if_pos e]
      · rw [if_neg e, co_out (xs := q) (by omega)])
    rw [this]
theorem pAdd_ct (a b : List Int) (ha : a.length ≤ 100000) (hb : b.length ≤ 100000) : Ct Try.prog 93 [L a, L b] [] (Is2 (L (addS a b)) []) := Ct.frz (pAddO_ct a b ha hb)
theorem pMul_ct (a b : List Int) (ha : a.length ≤ 100000) (hb : b.length ≤ 100000) : Ct Try.prog 94 [L a, L b] [] (Is2 (L (mulS a b)) []) := by
  refine Ct.introF (E := E 62 0 [.tmp 4] [] [(6, [1, 5, 29, 30, 31]), (9, [1, 5, 6, 7, 29, 30, 31, 36, 37, 38])] [(1000003, [.nl 4])]) tab_ok Try.call94 Try.func94 rfl rfl rfl rfl rfl (fun hin => ?_)
  (conv => whnf); refine (trim_ct a (by omega)).use ?_
  (conv => whnf); refine (trim_ct b (by omega)).use ?_
  have hla := tr_len a
  have hlb := tr_len b
  have hm : mulS a b = tr (pmul (tr a) (tr b)) := rfl
  have hnil := mulS_nil (a := a) (b := b)
  generalize tr a = p at *
  generalize tr b = q at *
  have hlp := li_len p
  have hlq := li_len q
  have hret : p.length = 0 ∨ q.length = 0 → mulS a b = [] := fun h => hnil (h.imp (fun h => by simpa using h) (fun h => by simpa using h))
  (conv => whnf); refine cond_d (fun h => ?_) (fun h => ?_)
  · refine Is2.mk ?_
    rw [hret (.inl (by omega))]; rfl
  (conv => whnf); refine cond_d (fun h' => ?_) (fun h' => ?_)
  · refine Is2.mk ?_
    rw [hret (.inr (by omega))]; rfl
  have hlen := pmul_len p q (by rintro rfl; exact h rfl) (by rintro rfl; exact h' rfl)
  (conv => whnf); refine And.intro (by first | omega | (dsimp only [List.length, cond]; omega) | (show (-9223372036854775808 : Int) ≤ _ ∧ _ ≤ (9223372036854775807 : Int); omega) | decide) ?_
  (conv => whnf); refine And.intro (by first | omega | (dsimp only [List.length, cond]; omega) | (show (-9223372036854775808 : Int) ≤ _ ∧ _ ≤ (9223372036854775807 : Int); omega) | decide) ?_
  (conv => whnf); refine And.intro (by first | omega | (dsimp only [List.length, cond]; omega) | (show (-9223372036854775808 : Int) ≤ _ ∧ _ ≤ (9223372036854775807 : Int); omega) | decide) ?_
  have hqp : 0 < q.length := by omega
  (conv => whnf); refine LoopI.mk (fun n vs os => ∃ (i : Nat) (zs : List Int), vs = [L q, .sl 0, L p, i64 p.length, i64 i] ∧ os = [.row 22 1 (li zs)] ∧ i ≤ p.length ∧ zs.length = p.length + q.length - 1 ∧ (∀ k, co zs k % 2305843009213693951 = co (pmul (p.take i) q) k % 2305843009213693951) ∧ n = p.length - i) p.length ⟨0, List.replicate (p.length + q.length - 1) 0, by rw [hlp]; rfl, row1 ?_, Nat.zero_le _, List.length_replicate, fun k => by rw [co_rep]; rfl, rfl⟩ ?_
  · have e : ((((li p).length : Int) + ((li q).length : Int) - 1).toNat) = p.length + q.length - 1 := by omega
    rw [e]; exact List.map_replicate.symm
  rintro n _ _ ⟨i, zs, rfl, rfl, h4, h5, h6, rfl⟩
  (conv => whnf); refine cond_d (fun h7 => ?_) (fun h7 => ?_)
  · (conv => whnf); refine And.intro (by omega) (Idx.mk _ (li_get (by omega)) ?_)
    (conv => whnf); refine Idx.mk _ rfl ?_
    (conv => whnf); refine LoopI.mk (fun n vs os => ∃ (j : Nat) (ys : List Int), vs = [L q, .sl 0, i64 i, u64 (p.getD i 0), L p, i64 p.length, i64 i, L q, i64 q.length, i64 j] ∧ os = [.row 22 1 (li ys)] ∧ j ≤ q.length ∧ ys.length = p.length + q.length - 1 ∧ (∀ k, co ys k % 2305843009213693951 = (co (pmul (p.take i) q) k + (if i ≤ k ∧ k < i + j then co p i * co q (k - i) else 0)) % 2305843009213693951) ∧ n = q.length - j) q.length ⟨0, zs, by rw [hlq]; rfl, rfl, Nat.zero_le _, h5, fun k => by rw [h6, if_neg (by omega), Int.add_zero], rfl⟩ ?_
    rintro n _ _ ⟨j, ys, rfl, rfl, k4, k5, k6, rfl⟩
    have hly := li_len ys
    (conv => whnf); refine cond_d (fun k7 => ?_) (fun k7 => ?_)
    · (conv => whnf); refine And.intro (by omega) (Idx.mk _ (li_get (by omega)) ?_)
      (conv => whnf); refine Idx.mk _ rfl ?_
      (conv => whnf); refine DrawI.mkF 14 [[5], [6], [8], [44, 45], [5], [6], [8], [48, 49], [47, 50], [51], [7], [9], [53, 54], [52, 55]] (by decide +kernel) ?_
      repeat (first | refine DrawO.mkF _ (And.intro rfl rfl) ?_ | refine DrawO.mkF _ (Idx.mk _ rfl (And.intro rfl rfl)) ?_)
      refine DrawO.mkF _ (And.intro (by first | omega | (dsimp only [List.length, cond]; omega) | decide) (And.intro rfl rfl)) ?_
      repeat (first | refine DrawO.mkF _ (And.intro rfl rfl) ?_ | refine DrawO.mkF _ (Idx.mk _ rfl (And.intro rfl rfl)) ?_)
      refine DrawO.mkF _ (And.intro (by first | omega | (dsimp only [List.length, cond]; omega) | decide) (And.intro rfl rfl)) ?_
      refine DrawO.mkF _ (And.intro (by omega) (And.intro rfl rfl)) ?_
      refine DrawO.mkF _ (Idx.mk _ (li_at (n := i + j) (by omega) (by omega)) (Idx.mk _ rfl (And.intro rfl rfl))) ?_
      repeat (first | refine DrawO.mkF _ (And.intro rfl rfl) ?_ | refine DrawO.mkF _ (Idx.mk _ rfl (And.intro rfl rfl)) ?_)
      refine DrawO.mkF _ ((Mul_ct _ _).use (And.intro rfl rfl)) ?_
      refine DrawO.mkF _ ((Add_ct _ _).use (And.intro rfl rfl)) ?_
      (conv => whnf); refine And.intro (by first | omega | (dsimp only [List.length, cond]; omega) | (show (-9223372036854775808 : Int) ≤ _ ∧ _ ≤ (9223372036854775807 : Int); omega) | decide) ?_
      (conv => whnf); refine Idx.mk _ (li_at (n := i + j) (by omega) (by omega)) ?_
      (conv => whnf); refine And.intro (by first | omega | (dsimp only [List.length, cond]; omega) | (show (-9223372036854775808 : Int) ≤ _ ∧ _ ≤ (9223372036854775807 : Int); omega) | decide) ?_
      conv => whnf
      refine ⟨q.length - (j + 1), by omega, j + 1, ys.set (i + j) ((co ys (i + j) + co p i * co q j % 2305843009213693951) % 2305843009213693951), rfl, row1 ?_, by omega, by rw [List.length_set]; exact k5, fun k => ?_, rfl⟩
      · have e : ((i : Int) + (j : Int)) = ((i + j : Nat) : Int) := by omega
        rw [e]; exact li_set ys (i + j) _
      · rw [co_set]
        have h8 := k6 k
        by_cases e : k = i + j
        · subst e
          rw [if_pos ⟨rfl, by omega⟩, if_pos (by omega), Nat.add_sub_cancel_left]
          rw [if_neg (by omega)] at h8
          omega
        · rw [if_neg (fun h => e h.1), h8]
          by_cases e2 : i ≤ k ∧ k < i + j
          · rw [if_pos e2, if_pos (by omega)]
          · rw [if_neg e2, if_neg (by omega)]
    · (conv => whnf); refine And.intro (by first | omega | (dsimp only [List.length, cond]; omega) | (show (-9223372036854775808 : Int) ≤ _ ∧ _ ≤ (9223372036854775807 : Int); omega) | decide) ?_
      conv => whnf
      refine ⟨p.length - (i + 1), by omega, i + 1, ys, rfl, rfl, by omega, k5, fun k => ?_, rfl⟩
      rw [k6, co_pmul_take q p i k (by omega)]
      by_cases e : i ≤ k
      · rw [if_pos e]
        by_cases e2 : k < i + j
        · rw [if_pos ⟨e, e2⟩]
        · rw [if_neg (by omega), co_out (xs := q) (by omega), Int.mul_zero]
      · rw [if_neg e, if_neg (by omega)]
  · (conv => whnf); refine (trim_ct zs (by omega)).use ?_
    refine Is2.mk ?_
    rw [List.take_of_length_le (by omega)] at h6
    rw [hm, tr_congr (xs := zs) (ys := pmul p q) (by omega) h6]
end Go.Proofs.Ytofkdfodehfpdaa

/- Package poly's reference: values, lists cut to their size. -/
namespace Go.Proofs.Ytofkdfodehfpdaa
open Go.V Go.Num
open Go.Eng (wr)
set_option maxRecDepth 100000
set_option maxHeartbeats 4000000
theorem li_rng {xs : List Int} (h : ∀ y ∈ cellsOf (li xs), ok0 y) : ∀ i, i < xs.length → 0 ≤ xs.getD i 0 := by
  intro i hi
  have hm : D.int .u64 (xs.getD i 0) ∈ cellsOf (li xs) := by
    unfold cellsOf
    rw [List.mem_flatMap]
    exact ⟨.int .u64 (xs.getD i 0), List.mem_of_getElem? (li_get hi), by simp [D.cells]⟩
  exact (inr_u64 (h _ hm)).1
theorem rAt_ct (xs : List Int) (x : Int) (hl : xs.length ≤ 1000000) (hx : 0 ≤ x) : Ct Try.prog 67 [L xs, u64 x] [] (Is2 (u64 (ev xs x % 2305843009213693951)) []) := by
  refine Ct.introF (E := E 26 0 [.tmp 4] [] [(3, [0, 1, 5, 6, 7])] []) tab_ok Try.call67 Try.func67 rfl rfl rfl rfl rfl (fun hin => ?_)
  have hr := li_rng hin.1.2
  have hlx := li_len xs
  (conv => whnf); refine LoopI.mk (fun n vs os => ∃ (i : Nat) (s p : Int), vs = [L xs, u64 x, u64 s, u64 p, i64 i] ∧ os = [] ∧ i ≤ xs.length ∧ 0 ≤ s ∧ s < 2305843009213693951 ∧ 0 ≤ p ∧ s % 2305843009213693951 = ev (xs.take i) x % 2305843009213693951 ∧ p % 2305843009213693951 = x ^ i % 2305843009213693951 ∧ n = xs.length - i) xs.length ⟨0, 0, 1, rfl, rfl, Nat.zero_le _, by decide, by decide, by decide, rfl, by simp, rfl⟩ ?_
  rintro n _ _ ⟨i, s, p, rfl, rfl, h1, h2, h3, h4, h5, h6, rfl⟩
  (conv => whnf); refine cond_d (fun h7 => ?_) (fun h7 => ?_)
  · have hi : i < xs.length := by omega
    (conv => whnf); refine And.intro (by first | omega | (dsimp only [List.length, cond]; omega) | (show (-9223372036854775808 : Int) ≤ _ ∧ _ ≤ (9223372036854775807 : Int); omega) | decide) ?_
    (conv => whnf); refine Idx.mk _ (li_get hi) ?_
    (conv => whnf); refine Idx.mk _ rfl ?_
    (conv => whnf); refine (rMul_ct _ _ (hr i hi) h4).use ?_
    (conv => whnf); refine (rAdd_ct _ _).use ?_
    (conv => whnf); refine (rMul_ct _ _ h4 hx).use ?_
    (conv => whnf); refine And.intro (by first | omega | (dsimp only [List.length, cond]; omega) | (show (-9223372036854775808 : Int) ≤ _ ∧ _ ≤ (9223372036854775807 : Int); omega) | decide) ?_
    conv => whnf
    refine ⟨xs.length - (i + 1), by omega, i + 1, _, _, rfl, rfl, by omega, by omega, by omega, by omega, ?_, ?_, rfl⟩
    · rw [ev_take x xs i hi]
      have e : (co xs i * p) % 2305843009213693951 = (co xs i * x ^ i) % 2305843009213693951 := by rw [← emod_mul_r, h6, emod_mul_r]
      have e2 : xs.getD i 0 = co xs i := rfl
      rw [e2]
      omega
    · rw [Int.pow_succ, ← emod_mul_l (x ^ i), ← h6, emod_mul_l]
      omega
  · rw [List.take_of_length_le (by omega)] at h5
    refine isInt ?_
    rw [← h5]; omega
end Go.Proofs.Ytofkdfodehfpdaa

/- Package poly: points, what is sound. -/
namespace Go.Proofs.Ytofkdfodehfpdaa
open Go.V Go.Num
open Go.Eng (wr)
set_option maxRecDepth 100000
set_option maxHeartbeats 4000000
abbrev pt (p : Int × Int) : D := .agg [.int .i64 p.1, .int .u64 p.2]
abbrev lp (ps : List (Int × Int)) : List D := ps.map pt
abbrev LP (ps : List (Int × Int)) : AV := .d (.ro (lp ps))
theorem lp_len (a : List (Int × Int)) : (lp a).length = a.length := List.length_map _
theorem lp_get {a : List (Int × Int)} {i : Nat} (h : i < a.length) : (lp a)[(i : Int).toNat]? = some (pt (a.getD i (0, 0))) := by
  rw [Int.toNat_natCast, List.getElem?_map, List.getElem?_eq_getElem h, List.getD_eq_getElem?_getD, List.getElem?_eq_getElem h]; rfl
theorem same_ct (p : Int × Int) (a b : Int) : Ct Try.prog 115 [.d (pt p), .ptr 0 0] [.vec 71 [.d (.int .i64 a), .d (.int .u64 b)]] (Is2 (.d (.bool (decide (p.1 = a)))) [.vec 71 [.d (.int .i64 a), .d (.int .u64 b)]]) := by
  refine Ct.introF (E := E 9 1 [.tmp 3] [] [] []) tab_ok Try.call115 Try.func115 rfl rfl rfl rfl rfl (fun hin => ?_)
  exact ⟨rfl, rfl⟩
/-- Where a first coordinate stands first. -/
def fstAt (a : Int) (ps : List (Int × Int)) : Bool := ps.any fun p => decide (p.1 = a)
theorem fstAt_take {a : Int} {ps : List (Int × Int)} {i : Nat} (h : i < ps.length) : fstAt a (ps.take (i + 1)) = (fstAt a (ps.take i) || decide ((ps.getD i (0, 0)).1 = a)) := by
  unfold fstAt
  rw [List.take_add_one, List.any_append, List.getD_eq_getElem?_getD, List.getElem?_eq_getElem h]
  simp
theorem Index_ct (ps : List (Int × Int)) (a b : Int) : Ct Try.prog 99 [LP ps, .fn 115 [] [.ptr 0 0]] [.vec 71 [.d (.int .i64 a), .d (.int .u64 b)]] (fun r os => ∃ k : Int, r = i64 k ∧ os = [.vec 71 [.d (.int .i64 a), .d (.int .u64 b)]] ∧ (0 ≤ k ↔ fstAt a ps = true)) := by
  refine Ct.introF (E := E 19 1 [.tmp 4] [] [(2, [0, 1, 7, 8])] []) tab_ok Try.call99 Try.func99 rfl rfl rfl rfl rfl (fun hin => ?_)
  have hl := lp_len ps
  have hb := hin.1.1
  (conv => whnf); refine LoopI.mk (fun n vs os => ∃ i : Nat, vs = [LP ps, .fn 115 [] [.ptr 0 0], i64 ps.length, i64 i] ∧ os = [.vec 71 [.d (.int .i64 a), .d (.int .u64 b)]] ∧ i ≤ ps.length ∧ fstAt a (ps.take i) = false ∧ n = ps.length - i) ps.length ⟨0, by rw [hl]; rfl, rfl, Nat.zero_le _, rfl, rfl⟩ ?_
  rintro n _ _ ⟨i, rfl, rfl, h1, h2, rfl⟩
  (conv => whnf); refine cond_d (fun h7 => ?_) (fun h7 => ?_)
  · have hi : i < ps.length := by omega
    (conv => whnf); refine And.intro (by first | omega | (dsimp only [List.length, cond]; omega) | (show (-9223372036854775808 : Int) ≤ _ ∧ _ ≤ (9223372036854775807 : Int); omega) | decide) ?_
    (conv => whnf); refine Idx.mk _ (lp_get hi) ?_
    (conv => whnf); refine (same_ct _ a b).use ?_
    (conv => whnf); refine cond_d (fun h8 => ?_) (fun h8 => ?_)
    · conv => whnf
      refine ⟨i, rfl, rfl, ⟨fun _ => ?_, fun _ => by omega⟩⟩
      unfold fstAt
      rw [List.any_eq_true]
      have hm : ps.getD i (0, 0) ∈ ps := by
        rw [List.getD_eq_getElem?_getD, List.getElem?_eq_getElem hi]
        exact List.getElem_mem hi
      exact ⟨_, hm, by rw [h8]; simp⟩
    · (conv => whnf); refine And.intro (by first | omega | (dsimp only [List.length, cond]; omega) | (show (-9223372036854775808 : Int) ≤ _ ∧ _ ≤ (9223372036854775807 : Int); omega) | decide) ?_
      conv => whnf
      refine ⟨ps.length - (i + 1), by omega, i + 1, rfl, rfl, by omega, ?_, rfl⟩
      rw [fstAt_take hi, h2, decide_eq_false h8]; rfl
  · rw [List.take_of_length_le (by omega)] at h2
    exact ⟨-1, rfl, rfl, by rw [h2]; simp⟩
theorem Has_ct (ps : List (Int × Int)) (a b : Int) : Ct Try.prog 72 [LP ps, .fn 115 [] [.ptr 0 0]] [.vec 71 [.d (.int .i64 a), .d (.int .u64 b)]] (Is2 (.d (.bool (fstAt a ps))) [.vec 71 [.d (.int .i64 a), .d (.int .u64 b)]]) := by
  refine Ct.introF (E := E 9 1 [.tmp 4] [] [] []) tab_ok Try.call72 Try.func72 rfl rfl rfl rfl rfl (fun hin => ?_)
  refine (Index_ct ps a b).mono (fun r os h => ?_)
  obtain ⟨k, rfl, rfl, hk⟩ := h
  conv => whnf
  refine ⟨?_, rfl⟩
  have : decide (0 ≤ k) = fstAt a ps := by
    cases h : fstAt a ps with
    | true => exact decide_eq_true (hk.2 h)
    | false => exact decide_eq_false (fun h2 => by rw [hk.1 h2] at h; cases h)
  rw [← this]
/-- Two points at one place. -/
def tw (ps : List (Int × Int)) : Bool := (List.range ps.length).any fun i => fstAt (ps.getD i (0, 0)).1 (ps.take i)
theorem twice_ct (ps : List (Int × Int)) : Ct Try.prog 106 [LP ps] [] (Is2 (.d (.bool (tw ps))) []) := by
  refine Ct.introF (E := E 18 0 [.tmp 2] [] [(2, [0, 5, 6, 7])] []) tab_ok Try.call106 Try.func106 rfl rfl rfl rfl rfl (fun hin => ?_)
  have hl := lp_len ps
  have hb := hin.1.1
  (conv => whnf); refine LoopI.mk (fun n vs os => ∃ i : Nat, vs = [LP ps, LP ps, i64 ps.length, i64 i] ∧ os = [] ∧ i ≤ ps.length ∧ (∀ j, j < i → fstAt (ps.getD j (0, 0)).1 (ps.take j) = false) ∧ n = ps.length - i) ps.length ⟨0, by rw [lp_len]; rfl, rfl, Nat.zero_le _, fun j h => by omega, rfl⟩ ?_
  rintro n _ _ ⟨i, rfl, rfl, h1, h2, rfl⟩
  (conv => whnf); refine cond_d (fun h7 => ?_) (fun h7 => ?_)
  · have hi : i < ps.length := by omega
    (conv => whnf); refine And.intro (by first | omega | (dsimp only [List.length, cond]; omega) | (show (-9223372036854775808 : Int) ≤ _ ∧ _ ≤ (9223372036854775807 : Int); omega) | decide) ?_
    (conv => whnf); refine Idx.mk _ (lp_get hi) ?_
    (conv => whnf); refine And.intro (by first | omega | (dsimp only [List.length, cond]; omega) | (show (-9223372036854775808 : Int) ≤ _ ∧ _ ≤ (9223372036854775807 : Int); omega) | decide) ?_
    have e : (lp ps).take (i : Int).toNat = lp (ps.take i) := by rw [Int.toNat_natCast]; exact List.map_take.symm
    refine Ct.use (r := .d (.bool (fstAt (ps.getD i (0, 0)).1 (ps.take i)))) (os' := [.vec 71 [.d (.int .i64 (ps.getD i (0, 0)).1), .d (.int .u64 (ps.getD i (0, 0)).2)]]) ?_ ?_
    · have := Has_ct (ps.take i) (ps.getD i (0, 0)).1 (ps.getD i (0, 0)).2
      unfold LP at this
      rw [← e] at this
      exact this
    (conv => whnf); refine cond_i (fun h8 => ?_) (fun h8 => ?_)
    · refine isBool ?_
      unfold tw
      rw [List.any_eq_true.2 ⟨i, List.mem_range.2 hi, h8⟩]
    · (conv => whnf); refine And.intro (by first | omega | (dsimp only [List.length, cond]; omega) | (show (-9223372036854775808 : Int) ≤ _ ∧ _ ≤ (9223372036854775807 : Int); omega) | decide) ?_
      conv => whnf
      refine ⟨ps.length - (i + 1), by omega, i + 1, rfl, rfl, by omega, fun j hj => ?_, rfl⟩
      by_cases ej : j = i
      · subst ej; exact h8
      · exact h2 j (by omega)
  · refine isBool ?_
    refine ((Bool.eq_false_iff.2 (fun h => ?_) : tw ps = false)).symm
    unfold tw at h
    rw [List.any_eq_true] at h
    obtain ⟨j, hj, hf⟩ := h
    have := h2 j (by have := List.mem_range.1 hj; omega)
    rw [this] at hf; cases hf
/-- A point that does not do. -/
def badP (p : Int × Int) : Bool := decide (p.1 < 1) || decide (p.1 > 64) || decide (p.2 ≥ 2305843009213693951)
def soundS (ps : List (Int × Int)) : Int := if ps.length = 0 then 1 else if ps.length > 64 then 1 else if tw ps = true then 1 else if ps.any badP = true then 4 else 0
theorem sound_ct (ps : List (Int × Int)) : Ct Try.prog 86 [LP ps] [] (Is2 (i64 (soundS ps)) []) := by
  refine Ct.introF (E := E 37 0 [.tmp 2] [] [(4, [17, 18, 19])] []) tab_ok Try.call86 Try.func86 rfl rfl rfl rfl rfl (fun hin => ?_)
  have hl := lp_len ps
  have hb := hin.1.1
  unfold soundS
  (conv => whnf); refine cond_d (fun h => ?_) (fun h => ?_)
  · rw [if_pos (by omega)]; exact Is2.mk rfl
  rw [if_neg (by omega)]
  (conv => whnf); refine cond_d (fun h' => ?_) (fun h' => ?_)
  · rw [if_pos (by omega)]; exact Is2.mk rfl
  rw [if_neg (by omega)]
  (conv => whnf); refine (twice_ct ps).use ?_
  (conv => whnf); refine cond_i (fun h2 => ?_) (fun h2 => ?_)
  · rw [if_pos h2]; exact Is2.mk rfl
  rw [if_neg (by rw [h2]; simp)]
  (conv => whnf); refine LoopI.mk (fun n vs os => ∃ i : Nat, vs = [LP ps, i64 ps.length, i64 i] ∧ os = [] ∧ i ≤ ps.length ∧ (∀ j, j < i → badP (ps.getD j (0, 0)) = false) ∧ n = ps.length - i) ps.length ⟨0, by rw [lp_len]; rfl, rfl, Nat.zero_le _, fun j h => by omega, rfl⟩ ?_
  rintro n _ _ ⟨i, rfl, rfl, h3, h4, rfl⟩
  (conv => whnf); refine cond_d (fun h7 => ?_) (fun h7 => ?_)
  · have hi : i < ps.length := by omega
    have hbad : badP (ps.getD i (0, 0)) = true → ps.any badP = true := fun h => by
      rw [List.any_eq_true]
      refine ⟨_, ?_, h⟩
      rw [List.getD_eq_getElem?_getD, List.getElem?_eq_getElem hi]
      exact List.getElem_mem hi
    (conv => whnf); refine And.intro (by first | omega | (dsimp only [List.length, cond]; omega) | (show (-9223372036854775808 : Int) ≤ _ ∧ _ ≤ (9223372036854775807 : Int); omega) | decide) ?_
    (conv => whnf); refine Idx.mk _ (lp_get hi) ?_
    (conv => whnf); refine cond_d (fun k1 => ?_) (fun k1 => ?_)
    · rw [if_pos (hbad (by unfold badP; rw [decide_eq_true k1]; rfl))]; exact Is2.mk rfl
    (conv => whnf); refine cond_d (fun k2 => ?_) (fun k2 => ?_)
    · rw [if_pos (hbad (by unfold badP; rw [decide_eq_true (p := _ > _) k2]; simp))]; exact Is2.mk rfl
    (conv => whnf); refine cond_d (fun k3 => ?_) (fun k3 => ?_)
    · rw [if_pos (hbad (by unfold badP; rw [decide_eq_true (p := _ ≥ _) k3]; simp))]; exact Is2.mk rfl
    (conv => whnf); refine And.intro (by first | omega | (dsimp only [List.length, cond]; omega) | (show (-9223372036854775808 : Int) ≤ _ ∧ _ ≤ (9223372036854775807 : Int); omega) | decide) ?_
    conv => whnf
    refine ⟨ps.length - (i + 1), by omega, i + 1, rfl, rfl, by omega, fun j hj => ?_, rfl⟩
    by_cases ej : j = i
    · subst ej
      unfold badP
      rw [decide_eq_false k1, decide_eq_false (p := _ > _) k2, decide_eq_false (p := _ ≥ _) k3]; rfl
    · exact h4 j (by omega)
  · rw [if_neg (fun h => ?_)]
    · exact Is2.mk rfl
    · rw [List.any_eq_true] at h
      obtain ⟨p, hp, hf⟩ := h
      obtain ⟨j, hj, rfl⟩ := List.getElem_of_mem hp
      have := h4 j (by omega)
      rw [List.getD_eq_getElem?_getD, List.getElem?_eq_getElem hj] at this
      rw [Option.getD_some] at this
      rw [this] at hf; cases hf
end Go.Proofs.Ytofkdfodehfpdaa

/- Package poly: one polynomial that is one at a point and zero at the others. -/
namespace Go.Proofs.Ytofkdfodehfpdaa
open Go.V Go.Num
open Go.Eng (wr)
set_option maxRecDepth 100000
set_option maxHeartbeats 4000000
/-- The first coordinates of all but one. -/
def ot (ps : List (Int × Int)) (n i : Nat) : List Int := ((List.range i).filter (fun j => !decide (j = n))).map (fun j => (ps.getD j (0, 0)).1)
theorem ot_step (ps : List (Int × Int)) (n i : Nat) : ot ps n (i + 1) = if i = n then ot ps n i else ot ps n i ++ [(ps.getD i (0, 0)).1] := by
  unfold ot
  rw [List.range_succ, List.filter_append, List.map_append]
  by_cases h : i = n
  · rw [if_pos h]; simp [h]
  · rw [if_neg h]; simp [h]
theorem ot_len (ps : List (Int × Int)) (n i : Nat) : (ot ps n i).length ≤ i := by
  unfold ot
  rw [List.length_map]
  exact Nat.le_trans (List.length_filter_le _ _) (by rw [List.length_range]; exact Nat.le_refl _)
def prS (rs : List Int) : List Int := rs.foldl (fun o r => mulS o [(0 - r) % 2305843009213693951, 1]) [1]
def blS (x : Int) (rs : List Int) : Int := rs.foldl (fun b r => (b * ((x - r) % 2305843009213693951)) % 2305843009213693951) 1
theorem prS_app (rs : List Int) (r : Int) : prS (rs ++ [r]) = mulS (prS rs) [(0 - r) % 2305843009213693951, 1] := by unfold prS; rw [List.foldl_append]; rfl
theorem blS_app (x : Int) (rs : List Int) (r : Int) : blS x (rs ++ [r]) = (blS x rs * ((x - r) % 2305843009213693951)) % 2305843009213693951 := by unfold blS; rw [List.foldl_append]; rfl
theorem prS_len (rs : List Int) : (prS rs).length ≤ rs.length + 1 := by
  have : ∀ (rs o : List Int), (rs.foldl (fun o r => mulS o [(0 - r) % 2305843009213693951, 1]) o).length ≤ rs.length + o.length := by
    intro rs
    induction rs with
    | nil => intro o; simp
    | cons r rs ih =>
      intro o
      rw [List.foldl_cons, List.length_cons]
      have h1 := ih (mulS o [(0 - r) % 2305843009213693951, 1])
      have h2 := mulS_len o [(0 - r) % 2305843009213693951, 1]
      simp only [List.length_cons, List.length_nil] at h2
      omega
  exact this rs [1]
def baseS (ps : List (Int × Int)) (n : Nat) : List Int := mulS (prS (ot ps n ps.length)) [inv (blS (ps.getD n (0, 0)).1 (ot ps n ps.length))]
theorem base_ct (ps : List (Int × Int)) (n : Nat) (hn : n < ps.length) (hl : ps.length ≤ 64) (hx : ∀ j, j < ps.length → 0 ≤ (ps.getD j (0, 0)).1 ∧ (ps.getD j (0, 0)).1 ≤ 64) : Ct Try.prog 95 [LP ps, i64 n] [] (Is2 (L (baseS ps n)) []) := by
  refine Ct.introF (E := E 51 0 [.tmp 4] [] [(3, [0, 1, 5, 6, 12, 13, 14])] [(1000001, [.fz 5])]) tab_ok Try.call95 Try.func95 rfl rfl rfl rfl rfl (fun hin => ?_)
  have hlp := lp_len ps
  have hw : ∀ j, j < ps.length → wr .u64 (ps.getD j (0, 0)).1 = (ps.getD j (0, 0)).1 := fun j hj => wr_small (by have := hx j hj; omega)
  conv => whnf
  (conv => whnf); refine LoopI.mk (fun q vs os => ∃ i : Nat, vs = [LP ps, i64 n, L (prS (ot ps n i)), u64 (blS (ps.getD n (0, 0)).1 (ot ps n i)), LP ps, i64 ps.length, i64 i] ∧ os = [] ∧ i ≤ ps.length ∧ q = ps.length - i) ps.length ⟨0, by rw [hlp]; rfl, rfl, Nat.zero_le _, rfl⟩ ?_
  rintro q _ _ ⟨i, rfl, rfl, h1, rfl⟩
  (conv => whnf); refine cond_d (fun h2 => ?_) (fun h2 => ?_)
  · have hi : i < ps.length := by omega
    (conv => whnf); refine And.intro (by first | omega | (dsimp only [List.length, cond]; omega) | (show (-9223372036854775808 : Int) ≤ _ ∧ _ ≤ (9223372036854775807 : Int); omega) | decide) ?_
    (conv => whnf); refine Idx.mk _ (lp_get hi) ?_
    (conv => whnf); refine cond_d (fun h3 => ?_) (fun h3 => ?_)
    · (conv => whnf); refine (Sub_ct _ _).use ?_
      (conv => whnf); refine (pMul_ct (prS (ot ps n i)) [(0 - wr .u64 (ps.getD i (0, 0)).1) % 2305843009213693951, 1] (by have := prS_len (ot ps n i); have := ot_len ps n i; omega) (by simp)).use ?_
      (conv => whnf); refine DrawI.mkF 11 [[6], [0], [1], [30, 31], [32], [33], [34], [8], [36], [37], [35, 38]] (by decide +kernel) ?_
      repeat (first | refine DrawO.mkF _ (And.intro rfl rfl) ?_ | refine DrawO.mkF _ (Idx.mk _ rfl (And.intro rfl rfl)) ?_)
      refine DrawO.mkF _ (And.intro (by omega) (Idx.mk _ (lp_get hn) (And.intro rfl rfl))) ?_
      repeat (first | refine DrawO.mkF _ (And.intro rfl rfl) ?_ | refine DrawO.mkF _ (Idx.mk _ rfl (And.intro rfl rfl)) ?_)
      refine DrawO.mkF _ ((Sub_ct _ _).use (And.intro rfl rfl)) ?_
      (conv => whnf); refine (Mul_ct _ _).use ?_
      (conv => whnf); refine And.intro (by first | omega | (dsimp only [List.length, cond]; omega) | (show (-9223372036854775808 : Int) ≤ _ ∧ _ ≤ (9223372036854775807 : Int); omega) | decide) ?_
      conv => whnf
      refine ⟨ps.length - (i + 1), by omega, i + 1, ?_, rfl, by omega, rfl⟩
      rw [ot_step, if_neg (by omega), prS_app, blS_app, hw i hi, hw n hn]; rfl
    · (conv => whnf); refine And.intro (by first | omega | (dsimp only [List.length, cond]; omega) | (show (-9223372036854775808 : Int) ≤ _ ∧ _ ≤ (9223372036854775807 : Int); omega) | decide) ?_
      conv => whnf
      refine ⟨ps.length - (i + 1), by omega, i + 1, ?_, rfl, by omega, rfl⟩
      rw [ot_step, if_pos (by omega)]; rfl
  · have e : i = ps.length := by omega
    rw [e]
    (conv => whnf); refine (Inv_ct _).use ?_
    (conv => whnf); refine (pMul_ct (prS (ot ps n ps.length)) [_] (by have := prS_len (ot ps n ps.length); have := ot_len ps n ps.length; omega) (by simp)).use ?_
    exact isRo rfl
end Go.Proofs.Ytofkdfodehfpdaa

/- Package poly: the polynomial through points. -/
namespace Go.Proofs.Ytofkdfodehfpdaa
open Go.V Go.Num
open Go.Eng (wr)
set_option maxRecDepth 100000
set_option maxHeartbeats 4000000
def sumS (ps : List (Int × Int)) (i : Nat) : List Int := (List.range i).foldl (fun o j => addS o (mulS (baseS ps j) [(ps.getD j (0, 0)).2])) []
theorem sumS_step (ps : List (Int × Int)) (i : Nat) : sumS ps (i + 1) = addS (sumS ps i) (mulS (baseS ps i) [(ps.getD i (0, 0)).2]) := by unfold sumS; rw [List.range_succ, List.foldl_append]; rfl
theorem addS_len (a b : List Int) : (addS a b).length ≤ max a.length b.length := by unfold addS; exact Nat.le_trans (tr_len _) (by rw [padd_len]; exact Nat.le_refl _)
theorem baseS_len (ps : List (Int × Int)) (n : Nat) : (baseS ps n).length ≤ ps.length + 1 := by
  have h1 := mulS_len (prS (ot ps n ps.length)) [inv (blS (ps.getD n (0, 0)).1 (ot ps n ps.length))]
  have h2 := prS_len (ot ps n ps.length)
  have h3 := ot_len ps n ps.length
  simp only [List.length_singleton] at h1
  unfold baseS; omega
theorem sumS_len (ps : List (Int × Int)) : ∀ i, (sumS ps i).length ≤ ps.length + 1
  | 0 => Nat.zero_le _
  | i + 1 => by
    rw [sumS_step]
    have h1 := addS_len (sumS ps i) (mulS (baseS ps i) [(ps.getD i (0, 0)).2])
    have h2 := sumS_len ps i
    have h3 := mulS_len (baseS ps i) [(ps.getD i (0, 0)).2]
    have h4 := baseS_len ps i
    simp only [List.length_singleton] at h3
    omega
def thrS (ps : List (Int × Int)) : List Int := if soundS ps = 0 then sumS ps ps.length else []
theorem sound_rng {ps : List (Int × Int)} (h : soundS ps = 0) : 0 < ps.length ∧ ps.length ≤ 64 ∧ tw ps = false ∧ ∀ j, j < ps.length → 1 ≤ (ps.getD j (0, 0)).1 ∧ (ps.getD j (0, 0)).1 ≤ 64 ∧ (ps.getD j (0, 0)).2 < 2305843009213693951 := by
  unfold soundS at h
  split at h
  · cases h
  rename_i h1
  split at h
  · cases h
  rename_i h2
  split at h
  · cases h
  rename_i h3
  split at h
  · cases h
  rename_i h4
  refine ⟨by omega, by omega, by simpa using h3, fun j hj => ?_⟩
  have h5 : badP (ps.getD j (0, 0)) = false := by
    cases hb : badP (ps.getD j (0, 0)) with
    | false => rfl
    | true =>
      exfalso; apply h4
      rw [List.any_eq_true]
      refine ⟨_, ?_, hb⟩
      rw [List.getD_eq_getElem?_getD, List.getElem?_eq_getElem hj]
      exact List.getElem_mem hj
  unfold badP at h5
  simp only [Bool.or_eq_false_iff, decide_eq_false_iff_not] at h5
  omega
theorem Through_ct (ps : List (Int × Int)) : Ct Try.prog 65 [LP ps] [] (Is2 (.tup [L (thrS ps), i64 (soundS ps)]) []) := by
  refine Ct.introF (E := E 32 0 [.tmp 2, .tmp 3] [] [(6, [0, 5, 14, 15, 16])] [(1000003, [.nl 2]), (1000004, [.fz 5])]) tab_ok Try.call65 Try.func65 rfl rfl rfl rfl rfl (fun hin => ?_)
  have hlp := lp_len ps
  (conv => whnf); refine (sound_ct ps).use ?_
  unfold thrS
  (conv => whnf); refine cond_d (fun h => ?_) (fun h => ?_)
  · rw [if_neg h]; exact Is2.mk rfl
  have h0 : soundS ps = 0 := Decidable.of_not_not h
  rw [h0, if_pos rfl]
  obtain ⟨hs1, hs2, _, hs3⟩ := sound_rng h0
  (conv => whnf); refine LoopI.mk (fun q vs os => ∃ i : Nat, vs = [LP ps, L (sumS ps i), LP ps, i64 ps.length, i64 i] ∧ os = [] ∧ i ≤ ps.length ∧ q = ps.length - i) ps.length ⟨0, by rw [hlp]; rfl, rfl, Nat.zero_le _, rfl⟩ ?_
  rintro q _ _ ⟨i, rfl, rfl, h1, rfl⟩
  (conv => whnf); refine cond_d (fun h2 => ?_) (fun h2 => ?_)
  · have hi : i < ps.length := by omega
    (conv => whnf); refine And.intro (by first | omega | (dsimp only [List.length, cond]; omega) | (show (-9223372036854775808 : Int) ≤ _ ∧ _ ≤ (9223372036854775807 : Int); omega) | decide) ?_
    (conv => whnf); refine Idx.mk _ (lp_get hi) ?_
    (conv => whnf); refine DrawI.mkF 8 [[5], [0], [6], [22, 23], [7], [25], [26], [24, 27]] (by decide +kernel) ?_
    repeat (first | refine DrawO.mkF _ (And.intro rfl rfl) ?_ | refine DrawO.mkF _ (Idx.mk _ rfl (And.intro rfl rfl)) ?_)
    refine DrawO.mkF _ ((base_ct ps i hi hs2 (fun j hj => by have := hs3 j hj; omega)).use (And.intro rfl rfl)) ?_
    repeat (first | refine DrawO.mkF _ (And.intro rfl rfl) ?_ | refine DrawO.mkF _ (Idx.mk _ rfl (And.intro rfl rfl)) ?_)
    refine DrawO.roF [.int .u64 (ps.getD i (0, 0)).2] _ _ (And.intro rfl rfl) ?_
    refine DrawO.mkF _ ((pMul_ct (baseS ps i) [(ps.getD i (0, 0)).2] (by have := baseS_len ps i; omega) (by simp)).use (And.intro rfl rfl)) ?_
    (conv => whnf); refine (pAdd_ct (sumS ps i) (mulS (baseS ps i) [(ps.getD i (0, 0)).2]) (by have := sumS_len ps i; omega) (by have h3 := mulS_len (baseS ps i) [(ps.getD i (0, 0)).2]; have := baseS_len ps i; simp only [List.length_singleton] at h3; omega)).use ?_
    (conv => whnf); refine And.intro (by first | omega | (dsimp only [List.length, cond]; omega) | (show (-9223372036854775808 : Int) ≤ _ ∧ _ ≤ (9223372036854775807 : Int); omega) | decide) ?_
    conv => whnf
    refine ⟨ps.length - (i + 1), by omega, i + 1, ?_, rfl, by omega, rfl⟩
    rw [sumS_step]; rfl
  · have e : i = ps.length := by omega
    rw [e]; exact Is2.mk rfl
/-- The same, a row of one's own. -/
theorem ThroughO_ct (ps : List (Int × Int)) (h0 : soundS ps = 0) : Ct Try.prog 65 [LP ps] [] (Is2 (.tup [.sl 0, i64 0]) [.row 22 1 (li (thrS ps))]) := by
  refine Ct.introF (E := E 32 0 [.tmp 2, .tmp 3] [] [(6, [0, 5, 14, 15, 16])] []) tab_ok Try.call65 Try.func65 rfl rfl rfl rfl rfl (fun hin => ?_)
  have hlp := lp_len ps
  (conv => whnf); refine (sound_ct ps).use ?_
  unfold thrS
  rw [if_pos h0]
  (conv => whnf); refine cond_n (fun h => h h0) ?_
  obtain ⟨hs1, hs2, _, hs3⟩ := sound_rng h0
  (conv => whnf); refine LoopI.mk (fun q vs os => ∃ i : Nat, vs = [LP ps, .sl 0, LP ps, i64 ps.length, i64 i] ∧ os = [.row 22 1 (li (sumS ps i))] ∧ i ≤ ps.length ∧ q = ps.length - i) ps.length ⟨0, by rw [hlp]; rfl, rfl, Nat.zero_le _, rfl⟩ ?_
  rintro q _ _ ⟨i, rfl, rfl, h1, rfl⟩
  (conv => whnf); refine cond_d (fun h2 => ?_) (fun h2 => ?_)
  · have hi : i < ps.length := by omega
    (conv => whnf); refine And.intro (by first | omega | (dsimp only [List.length, cond]; omega) | (show (-9223372036854775808 : Int) ≤ _ ∧ _ ≤ (9223372036854775807 : Int); omega) | decide) ?_
    (conv => whnf); refine Idx.mk _ (lp_get hi) ?_
    (conv => whnf); refine DrawI.mkF 8 [[5], [0], [6], [22, 23], [7], [25], [26], [24, 27]] (by decide +kernel) ?_
    repeat (first | refine DrawO.mkF _ (And.intro rfl rfl) ?_ | refine DrawO.mkF _ (Idx.mk _ rfl (And.intro rfl rfl)) ?_)
    refine DrawO.mkF _ ((base_ct ps i hi hs2 (fun j hj => by have := hs3 j hj; omega)).use (And.intro rfl rfl)) ?_
    repeat (first | refine DrawO.mkF _ (And.intro rfl rfl) ?_ | refine DrawO.mkF _ (Idx.mk _ rfl (And.intro rfl rfl)) ?_)
    refine DrawO.roF [.int .u64 (ps.getD i (0, 0)).2] _ _ (And.intro rfl rfl) ?_
    refine DrawO.mkF _ ((pMul_ct (baseS ps i) [(ps.getD i (0, 0)).2] (by have := baseS_len ps i; omega) (by simp)).use (And.intro rfl rfl)) ?_
    (conv => whnf); refine (pAddO_ct (sumS ps i) (mulS (baseS ps i) [(ps.getD i (0, 0)).2]) (by have := sumS_len ps i; omega) (by have h3 := mulS_len (baseS ps i) [(ps.getD i (0, 0)).2]; have := baseS_len ps i; simp only [List.length_singleton] at h3; omega)).use ?_
    (conv => whnf); refine And.intro (by first | omega | (dsimp only [List.length, cond]; omega) | (show (-9223372036854775808 : Int) ≤ _ ∧ _ ≤ (9223372036854775807 : Int); omega) | decide) ?_
    conv => whnf
    refine ⟨ps.length - (i + 1), by omega, i + 1, rfl, row1 ?_, by omega, rfl⟩
    rw [sumS_step]
  · have e : i = ps.length := by omega
    rw [e]; exact Is2.mk rfl
end Go.Proofs.Ytofkdfodehfpdaa

/- Package poly: the value at zero. -/
namespace Go.Proofs.Ytofkdfodehfpdaa
open Go.V Go.Num
open Go.Eng (wr)
set_option maxRecDepth 100000
set_option maxHeartbeats 4000000
def topS (y : Int) (rs : List Int) : Int := rs.foldl (fun t r => (t * r) % 2305843009213693951) y
def botS (x : Int) (rs : List Int) : Int := rs.foldl (fun b r => (b * ((r - x) % 2305843009213693951)) % 2305843009213693951) 1
theorem topS_app (y : Int) (rs : List Int) (r : Int) : topS y (rs ++ [r]) = (topS y rs * r) % 2305843009213693951 := by unfold topS; rw [List.foldl_append]; rfl
theorem botS_app (x : Int) (rs : List Int) (r : Int) : botS x (rs ++ [r]) = (botS x rs * ((r - x) % 2305843009213693951)) % 2305843009213693951 := by unfold botS; rw [List.foldl_append]; rfl
def zeS (ps : List (Int × Int)) (i : Nat) : Int := (List.range i).foldl (fun s j => (s + (topS (ps.getD j (0, 0)).2 (ot ps j ps.length) * inv (botS (ps.getD j (0, 0)).1 (ot ps j ps.length))) % 2305843009213693951) % 2305843009213693951) 0
theorem zeS_step (ps : List (Int × Int)) (i : Nat) : zeS ps (i + 1) = (zeS ps i + (topS (ps.getD i (0, 0)).2 (ot ps i ps.length) * inv (botS (ps.getD i (0, 0)).1 (ot ps i ps.length))) % 2305843009213693951) % 2305843009213693951 := by unfold zeS; rw [List.range_succ, List.foldl_append]; rfl
def zeroS (ps : List (Int × Int)) : Int := if soundS ps = 0 then zeS ps ps.length else 0
theorem Zero_ct (ps : List (Int × Int)) : Ct Try.prog 61 [LP ps] [] (Is2 (.tup [u64 (zeroS ps), i64 (soundS ps)]) []) := by
  refine Ct.introF (E := E 65 0 [.tmp 2, .tmp 3] [] [(6, [0, 5, 19, 20, 21]), (10, [0, 5, 6, 7, 8, 9, 19, 20, 21, 28, 29, 30])] []) tab_ok Try.call61 Try.func61 rfl rfl rfl rfl rfl (fun hin => ?_)
  have hlp := lp_len ps
  (conv => whnf); refine (sound_ct ps).use ?_
  unfold zeroS
  (conv => whnf); refine cond_d (fun h => ?_) (fun h => ?_)
  · rw [if_neg h]; exact Is2.mk rfl
  have h0 : soundS ps = 0 := Decidable.of_not_not h
  rw [h0, if_pos rfl]
  obtain ⟨hs1, hs2, _, hs3⟩ := sound_rng h0
  have hw : ∀ j, j < ps.length → wr .u64 (ps.getD j (0, 0)).1 = (ps.getD j (0, 0)).1 := fun j hj => wr_small (by have := hs3 j hj; omega)
  (conv => whnf); refine LoopI.mk (fun q vs os => ∃ i : Nat, vs = [LP ps, u64 (zeS ps i), LP ps, i64 ps.length, i64 i] ∧ os = [] ∧ i ≤ ps.length ∧ q = ps.length - i) ps.length ⟨0, by rw [hlp]; rfl, rfl, Nat.zero_le _, rfl⟩ ?_
  rintro q _ _ ⟨i, rfl, rfl, h1, rfl⟩
  (conv => whnf); refine cond_d (fun h2 => ?_) (fun h2 => ?_)
  · have hi : i < ps.length := by omega
    (conv => whnf); refine And.intro (by first | omega | (dsimp only [List.length, cond]; omega) | (show (-9223372036854775808 : Int) ≤ _ ∧ _ ≤ (9223372036854775807 : Int); omega) | decide) ?_
    (conv => whnf); refine Idx.mk _ (lp_get hi) ?_
    (conv => whnf); refine LoopI.mk (fun q vs os => ∃ j : Nat, vs = [LP ps, u64 (zeS ps i), i64 i, .ptr 0 0, u64 (topS (ps.getD i (0, 0)).2 (ot ps i j)), u64 (botS (ps.getD i (0, 0)).1 (ot ps i j)), LP ps, i64 ps.length, i64 i, LP ps, i64 ps.length, i64 j] ∧ os = [.vec 71 [.d (.int .i64 (ps.getD i (0, 0)).1), .d (.int .u64 (ps.getD i (0, 0)).2)]] ∧ j ≤ ps.length ∧ q = ps.length - j) ps.length ⟨0, by rw [hlp]; rfl, rfl, Nat.zero_le _, rfl⟩ ?_
    rintro q _ _ ⟨j, rfl, rfl, k1, rfl⟩
    (conv => whnf); refine cond_d (fun k2 => ?_) (fun k2 => ?_)
    · have hj : j < ps.length := by omega
      (conv => whnf); refine And.intro (by first | omega | (dsimp only [List.length, cond]; omega) | (show (-9223372036854775808 : Int) ≤ _ ∧ _ ≤ (9223372036854775807 : Int); omega) | decide) ?_
      (conv => whnf); refine Idx.mk _ (lp_get hj) ?_
      (conv => whnf); refine cond_d (fun k3 => ?_) (fun k3 => ?_)
      · (conv => whnf); refine (Mul_ct _ _).use ?_
        (conv => whnf); refine (Sub_ct _ _).use ?_
        (conv => whnf); refine (Mul_ct _ _).use ?_
        (conv => whnf); refine And.intro (by first | omega | (dsimp only [List.length, cond]; omega) | (show (-9223372036854775808 : Int) ≤ _ ∧ _ ≤ (9223372036854775807 : Int); omega) | decide) ?_
        conv => whnf
        refine ⟨ps.length - (j + 1), by omega, j + 1, ?_, rfl, by omega, rfl⟩
        rw [ot_step, if_neg (by omega), topS_app, botS_app, hw i hi, hw j hj]; rfl
      · (conv => whnf); refine And.intro (by first | omega | (dsimp only [List.length, cond]; omega) | (show (-9223372036854775808 : Int) ≤ _ ∧ _ ≤ (9223372036854775807 : Int); omega) | decide) ?_
        conv => whnf
        refine ⟨ps.length - (j + 1), by omega, j + 1, ?_, rfl, by omega, rfl⟩
        rw [ot_step, if_pos (by omega)]; rfl
    · have e : j = ps.length := by omega
      rw [e]
      (conv => whnf); refine (Inv_ct _).use ?_
      (conv => whnf); refine (Mul_ct _ _).use ?_
      (conv => whnf); refine (Add_ct _ _).use ?_
      (conv => whnf); refine And.intro (by first | omega | (dsimp only [List.length, cond]; omega) | (show (-9223372036854775808 : Int) ≤ _ ∧ _ ≤ (9223372036854775807 : Int); omega) | decide) ?_
      conv => whnf
      refine ⟨ps.length - (i + 1), by omega, i + 1, ?_, rfl, by omega, rfl⟩
      rw [zeS_step]; rfl
  · have e : i = ps.length := by omega
    rw [e]; exact Is2.mk rfl
end Go.Proofs.Ytofkdfodehfpdaa
