/- Numbers modulo 2^61 - 1: what the program's calls give. No function of the program is proved here. -/
import Derived.Test.YtofkdfodehfpdaaGreatJuD
import Derived.Test.YtofkdfodehfpdaaGreatJuE
set_option linter.unusedVariables false
set_option linter.unusedSimpArgs false
set_option linter.unnecessarySimpa false
set_option linter.unusedSectionVars false
set_option linter.all false
/- Numbers modulo 2^61 - 1: what the program's calls give. No function of the program is proved here. -/
namespace Go.Num

def pwF : Nat → Int → Nat → Int
  | 0, _, _ => 1
  | k + 1, a, n => if n = 0 then 1 else if n % 2 = 1 then (pwF k (a * a % 2305843009213693951) (n / 2) * a) % 2305843009213693951 else pwF k (a * a % 2305843009213693951) (n / 2)
/-- A power, modulo 2^61 - 1. -/
def pw (a : Int) (n : Nat) : Int := pwF 64 a n

theorem emod_mul_l (a b : Int) : (a % 2305843009213693951 * b) % 2305843009213693951 = (a * b) % 2305843009213693951 := by rw [Int.mul_emod, Int.emod_emod_of_dvd _ (Int.dvd_refl _), ← Int.mul_emod]
theorem emod_mul_r (a b : Int) : (a * (b % 2305843009213693951)) % 2305843009213693951 = (a * b) % 2305843009213693951 := by rw [Int.mul_emod, Int.emod_emod_of_dvd _ (Int.dvd_refl _), ← Int.mul_emod]

theorem pow_mod (a : Int) (n : Nat) : (a % 2305843009213693951) ^ n % 2305843009213693951 = a ^ n % 2305843009213693951 := by
  induction n with
  | zero => simp
  | succ n ih => rw [Int.pow_succ, Int.pow_succ, emod_mul_r, ← emod_mul_l, ih, emod_mul_l]

theorem pwF_eq : ∀ (k : Nat) (a : Int) (n : Nat), n < 2 ^ k → pwF k a n = a ^ n % 2305843009213693951
  | 0, a, n, h => by
    have : n = 0 := by omega
    subst this; simp [pwF]
  | k + 1, a, n, h => by
    unfold pwF
    by_cases h0 : n = 0
    · subst h0; simp
    · rw [if_neg h0]
      have hk : n / 2 < 2 ^ k := by rw [Nat.pow_succ] at h; omega
      rw [pwF_eq k _ _ hk, pow_mod]
      have e2 : (a * a) ^ (n / 2) = a ^ (2 * (n / 2)) := by rw [Int.pow_mul]; congr 1; rw [Int.pow_succ, Int.pow_succ, Int.pow_zero, Int.one_mul]
      split
      · rw [emod_mul_l, e2, ← Int.pow_succ]; congr 2; omega
      · rw [e2]; congr 2; omega
theorem pw_eq (a : Int) {n : Nat} (h : n < 2 ^ 64) : pw a n = a ^ n % 2305843009213693951 := pwF_eq 64 a n h
theorem pwF_rng : ∀ (k : Nat) (a : Int) (n : Nat), 0 ≤ pwF k a n ∧ pwF k a n < 2305843009213693951
  | 0, a, n => by simp [pwF]
  | k + 1, a, n => by
    unfold pwF
    split
    · omega
    · split
      · omega
      · exact pwF_rng k _ _
theorem pw_rng (a : Int) (n : Nat) : 0 ≤ pw a n ∧ pw a n < 2305843009213693951 := pwF_rng 64 a n
def inv (a : Int) : Int := pw a 2305843009213693949
end Go.Num

/- Package prime and its reference: sums, differences, products, powers. -/
namespace Go.Proofs.YtofkdfodehfpdaaGreat
open Go.V Go.Num
open Go.Eng (wr)
set_option maxRecDepth 100000
abbrev u64 (n : Int) : AV := .d (.int .u64 n)
abbrev i64 (n : Int) : AV := .d (.int .i64 n)
theorem Mod_ct (a : Int) : Ct Tryz.prog 94 [u64 a] [] (Is2 (u64 (a % 2305843009213693951)) []) := by
  refine Ct.introF (E := E 5 0 [.tmp 2] [] [] []) tab_ok Tryz.call94 Tryz.func94 rfl rfl rfl rfl rfl (fun hin => ?_)
  exact And.intro (by decide) (Is2.mk rfl)
theorem rAdd_ct (a b : Int) : Ct Tryz.prog 34 [u64 a, u64 b] [] (Is2 (u64 ((a + b) % 2305843009213693951)) []) := by
  refine Ct.introF (E := E 11 0 [.tmp 4] [] [] []) tab_ok Tryz.call34 Tryz.func34 rfl rfl rfl rfl rfl (fun hin => ?_)
  (conv => whnf); refine And.intro (by decide) (And.intro (by decide) (And.intro (by decide) (isInt ?_)))
  simp only [wr]; omega
theorem rSub_ct (a b : Int) : Ct Tryz.prog 32 [u64 a, u64 b] [] (Is2 (u64 ((a - b) % 2305843009213693951)) []) := by
  refine Ct.introF (E := E 12 0 [.tmp 4] [] [] []) tab_ok Tryz.call32 Tryz.func32 rfl rfl rfl rfl rfl (fun hin => ?_)
  (conv => whnf); refine And.intro (by decide) (And.intro (by decide) (And.intro (by decide) (isInt ?_)))
  simp only [wr]; omega
theorem plus_ct (a b : Int) (ha : 0 ≤ a ∧ a < 2305843009213693951) (hb : 0 ≤ b ∧ b < 2305843009213693951) : Ct Tryz.prog 79 [u64 a, u64 b] [] (Is2 (u64 ((a + b) % 2305843009213693951)) []) := by
  refine Ct.introF (E := E 9 0 [.tmp 4] [] [] []) tab_ok Tryz.call79 Tryz.func79 rfl rfl rfl rfl rfl (fun hin => ?_)
  (conv => whnf); refine And.intro (by decide) (isInt ?_)
  simp only [wr]; omega
theorem minus_ct (a b : Int) (ha : 0 ≤ a ∧ a < 2305843009213693951) (hb : 0 ≤ b ∧ b < 2305843009213693951) : Ct Tryz.prog 93 [u64 a, u64 b] [] (Is2 (u64 ((a - b) % 2305843009213693951)) []) := by
  refine Ct.introF (E := E 10 0 [.tmp 4] [] [] []) tab_ok Tryz.call93 Tryz.func93 rfl rfl rfl rfl rfl (fun hin => ?_)
  (conv => whnf); refine And.intro (by decide) (isInt ?_)
  simp only [wr]; omega

theorem shr_step {b : Int} (hb : 0 ≤ b) {i : Nat} : b / 2 ^ i = 2 * (b / 2 ^ (i + 1)) + (b / 2 ^ i) % 2 := by
  have : b / 2 ^ (i + 1) = (b / 2 ^ i) / 2 := by rw [Int.pow_succ, Int.ediv_ediv_of_nonneg (by exact Int.pow_nonneg (by decide))]
  omega
theorem bit_i {x : Int} (hx : 0 ≤ x) : (((x.toNat &&& (1 : Int).toNat : Nat) : Int)) = x % 2 := by
  have : x.toNat &&& (1 : Int).toNat = x.toNat % 2 := Nat.and_one_is_mod _
  rw [this]; omega
theorem wr_small {x : Int} (h : 0 ≤ x ∧ x < 18446744073709551616) : wr .u64 x = x := by simp only [wr]; omega
theorem dbl (x : Int) : wr .u64 (x % 2305843009213693951 + x % 2305843009213693951) % 2305843009213693951 = (2 * x) % 2305843009213693951 := by rw [wr_small (by omega)]; omega
theorem dbl1 (x a : Int) : wr .u64 (x % 2305843009213693951 + a % 2305843009213693951) % 2305843009213693951 = (x + a) % 2305843009213693951 := by rw [wr_small (by omega)]; omega
theorem rMul_ct (a b : Int) (ha : 0 ≤ a) (hb : 0 ≤ b) : Ct Tryz.prog 19 [u64 a, u64 b] [] (Is2 (u64 ((a * b) % 2305843009213693951)) []) := by
  refine Ct.introF (E := E 30 0 [.tmp 4] [] [(5, [0, 1, 5, 6])] []) tab_ok Tryz.call19 Tryz.func19 rfl rfl rfl rfl rfl (fun hin => ?_)
  (conv => whnf); refine And.intro (by decide) (And.intro (by decide) ?_)
  have hb1 : 0 ≤ b % 2305843009213693951 ∧ b % 2305843009213693951 < 2305843009213693951 := by omega
  (conv => whnf); refine LoopI.mk (fun n vs os => ∃ i : Int, vs = [u64 (a % 2305843009213693951), u64 (b % 2305843009213693951), u64 ((a * ((b % 2305843009213693951) / 2 ^ (i + 1).toNat)) % 2305843009213693951), i64 i] ∧ os = [] ∧ -1 ≤ i ∧ i ≤ 60 ∧ n = (i + 1).toNat) 61 ⟨60, ?_, rfl, by decide, by decide, rfl⟩ ?_
  · have : b % 2305843009213693951 / 2 ^ (60 + 1 : Int).toNat = 0 := Int.ediv_eq_zero_of_lt (by omega) (by show _ < (2305843009213693952 : Int); omega)
    rw [this, Int.mul_zero]; rfl
  rintro n _ _ ⟨i, rfl, rfl, h1, h2, rfl⟩
  (conv => whnf); refine cond_d (fun h => ?_) (fun h => ?_)
  · obtain ⟨k, rfl⟩ := Int.eq_ofNat_of_zero_le h
    have e1 : wr .u64 (k : Int) = k := by simp only [wr]; omega
    have e2 : min (wr .u64 (k : Int)).toNat IntKind.u64.bits = k := by rw [e1]; show min k 64 = k; omega
    have hq : 0 ≤ b % 2305843009213693951 / 2 ^ k := Int.ediv_nonneg hb1.1 (Int.pow_nonneg (by decide))
    have hs := shr_step hb1.1 (i := k)
    have hk1 : ((k : Int) + 1).toNat = k + 1 := by omega
    have hk2 : ((k : Int) - 1 + 1).toNat = k := by omega
    (conv => whnf); refine And.intro (by decide) ?_
    (conv => whnf); refine cond_d (fun h2 => ?_) (fun h2 => ?_)
    · (conv => whnf); refine And.intro (by decide) ?_
      (conv => whnf); refine And.intro (by omega) ?_
      conv => whnf
      refine ⟨k, by omega, (k : Int) - 1, ?_, rfl, by omega, by omega, by omega⟩
      rw [e2, bit_i hq] at h2
      show [_, _, u64 _, i64 _] = [_, _, u64 _, i64 _]
      rw [hk1, hk2, dbl, dbl1, hs, h2, Int.mul_add, Int.mul_one, Int.mul_left_comm]
    · (conv => whnf); refine And.intro (by omega) ?_
      conv => whnf
      refine ⟨k, by omega, (k : Int) - 1, ?_, rfl, by omega, by omega, by omega⟩
      rw [e2, bit_i hq] at h2
      show [_, _, u64 _, i64 _] = [_, _, u64 _, i64 _]
      rw [hk1, hk2, dbl, hs, show b % 2305843009213693951 / 2 ^ k % 2 = 0 from by omega, Int.add_zero, Int.mul_left_comm]
  · obtain rfl : i = -1 := by omega
    refine isInt ?_
    have : b % 2305843009213693951 / 2 ^ (-1 + 1 : Int).toNat = b % 2305843009213693951 := by simp
    rw [this, emod_mul_r]

/-! ## products, the program's way -/
theorem and_low (k : Nat) {x : Int} (hx : 0 ≤ x) : ((x.toNat &&& (2 ^ k - 1) : Nat) : Int) = x % 2 ^ k := by
  rw [Nat.and_two_pow_sub_one_eq_mod]
  obtain ⟨n, rfl⟩ := Int.eq_ofNat_of_zero_le hx
  simp
theorem and32 {x : Int} (hx : 0 ≤ x) : ((x.toNat &&& (4294967295 : Int).toNat : Nat) : Int) = x % 4294967296 := and_low 32 hx
theorem andP {x : Int} (hx : 0 ≤ x) : ((x.toNat &&& (2305843009213693951 : Int).toNat : Nat) : Int) = x % 2305843009213693952 := and_low 61 hx
theorem mulB {x y : Int} (hx : 0 ≤ x ∧ x ≤ 4294967295) (hy : 0 ≤ y ∧ y ≤ 4294967295) : 0 ≤ x * y ∧ x * y ≤ 18446744065119617025 := by
  refine ⟨Int.mul_nonneg hx.1 hy.1, ?_⟩
  have h1 := Int.mul_le_mul_of_nonneg_right hx.2 hy.1
  have h2 : 4294967295 * y ≤ 4294967295 * 4294967295 := by omega
  omega
theorem p32 : (2 : Int) ^ min (Int.toNat 32) IntKind.u64.bits = 4294967296 := rfl
theorem mul64_pure {x0 x1 y0 y1 : Int} (hx0 : 0 ≤ x0 ∧ x0 ≤ 4294967295) (hx1 : 0 ≤ x1 ∧ x1 ≤ 4294967295) (hy0 : 0 ≤ y0 ∧ y0 ≤ 4294967295) (hy1 : 0 ≤ y1 ∧ y1 ≤ 4294967295) :
    wr .u64 (wr .u64 (wr .u64 (x1 * y1) + wr .u64 (wr .u64 (x1 * y0) + wr .u64 (x0 * y0) / 4294967296) / 4294967296) + wr .u64 (wr .u64 (wr .u64 (x1 * y0) + wr .u64 (x0 * y0) / 4294967296) % 4294967296 + wr .u64 (x0 * y1)) / 4294967296) =
      ((4294967296 * x1 + x0) * (4294967296 * y1 + y0)) / 18446744073709551616 := by
  have e : (4294967296 * x1 + x0) * (4294967296 * y1 + y0) = 18446744073709551616 * (x1 * y1) + 4294967296 * (x1 * y0 + x0 * y1) + x0 * y0 := by grind
  have b11 := mulB hx1 hy1; have b10 := mulB hx1 hy0; have b01 := mulB hx0 hy1; have b00 := mulB hx0 hy0
  rw [e]
  generalize x1 * y1 = p11 at *
  generalize x1 * y0 = p10 at *
  generalize x0 * y1 = p01 at *
  generalize x0 * y0 = p00 at *
  rw [wr_small (x := p11) (by omega), wr_small (x := p10) (by omega), wr_small (x := p00) (by omega), wr_small (x := p01) (by omega), wr_small (x := p10 + p00 / 4294967296) (by omega),
    wr_small (x := p11 + (p10 + p00 / 4294967296) / 4294967296) (by omega), wr_small (x := (p10 + p00 / 4294967296) % 4294967296 + p01) (by omega), wr_small (by omega)]
  omega
theorem Mul64_ct (x y : Int) (hx : 0 ≤ x ∧ x < 18446744073709551616) (hy : 0 ≤ y ∧ y < 18446744073709551616) : Ct Tryz.prog 99 [u64 x, u64 y] [] (Is2 (.tup [u64 (x * y / 18446744073709551616), u64 (x * y % 18446744073709551616)]) []) := by
  refine Ct.introF (E := E 51 0 [.tmp 4, .tmp 5] [] [] []) tab_ok Tryz.call99 Tryz.func99 rfl rfl rfl rfl rfl (fun hin => ?_)
  conv => whnf
  (conv => whnf); refine And.intro ?_ rfl
  simp only [p32]
  have hw : 0 ≤ wr IntKind.u64 (wr IntKind.u64 (x / 4294967296 * (y % 4294967296)) + wr IntKind.u64 (x % 4294967296 * (y % 4294967296)) / 4294967296) := by simp only [wr]; omega
  rw [and32 hx.1, and32 hy.1, and32 hw, mul64_pure (by omega) (by omega) (by omega) (by omega), Int.mul_ediv_add_emod, Int.mul_ediv_add_emod]
  rfl
theorem p61 : (2 : Int) ^ min (Int.toNat 61) IntKind.u64.bits = 2305843009213693952 := rfl
theorem p58 : (2 : Int) ^ min (Int.toNat 58) IntKind.u64.bits = 288230376151711744 := rfl
theorem p3 : (2 : Int) ^ min (Int.toNat 3) IntKind.u64.bits = 8 := rfl
theorem or_low {a b : Int} (ha : 0 ≤ a ∧ a < 8) (hb : 0 ≤ b) : ((a.toNat ||| (8 * b).toNat : Nat) : Int) = a + 8 * b := by
  obtain ⟨m, rfl⟩ := Int.eq_ofNat_of_zero_le ha.1
  obtain ⟨n, rfl⟩ := Int.eq_ofNat_of_zero_le hb
  have h := Nat.shiftLeft_add_eq_or_of_lt (b := m) (i := 3) (by omega) n
  rw [Nat.shiftLeft_eq] at h
  have e1 : ((m : Int)).toNat = m := rfl
  have e2 : (8 * (n : Int)).toNat = n * 2 ^ 3 := by omega
  rw [e1, e2, Nat.or_comm, ← h]; omega
theorem whole_pure {hi lo : Int} (hh : 0 ≤ hi ∧ hi < 18446744073709551616) (hl : 0 ≤ lo ∧ lo < 18446744073709551616) : (lo % 2305843009213693952 + (lo / 2305843009213693952 + 8 * (hi % 2305843009213693952)) % 2305843009213693952 + hi / 288230376151711744) % 2305843009213693951 = (hi * 18446744073709551616 + lo) % 2305843009213693951 := by
  have h1 : (lo / 2305843009213693952 + 8 * (hi % 2305843009213693952)) % 2305843009213693952 = (lo / 2305843009213693952 + 8 * hi) % 2305843009213693952 := by omega
  have h2 : (lo / 2305843009213693952 + 8 * hi) / 2305843009213693952 = hi / 288230376151711744 := by omega
  have h3 : hi * 18446744073709551616 + lo = lo % 2305843009213693952 + 2305843009213693952 * (lo / 2305843009213693952 + 8 * hi) := by omega
  rw [h1, ← h2, h3]
  generalize lo / 2305843009213693952 + 8 * hi = q
  generalize lo % 2305843009213693952 = l
  have h4 : l + 2305843009213693952 * q = (l + q % 2305843009213693952 + q / 2305843009213693952) + 2305843009213693951 * (q % 2305843009213693952 + 2305843009213693953 * (q / 2305843009213693952)) := by omega
  rw [h4, Int.add_mul_emod_self_left]
theorem whole_ct (hi lo : Int) (hh : 0 ≤ hi ∧ hi < 18446744073709551616) (hl : 0 ≤ lo ∧ lo < 18446744073709551616) : Ct Tryz.prog 98 [u64 hi, u64 lo] [] (Is2 (u64 ((hi * 18446744073709551616 + lo) % 2305843009213693951)) []) := by
  refine Ct.introF (E := E 24 0 [.tmp 4] [] [] []) tab_ok Tryz.call98 Tryz.func98 rfl rfl rfl rfl rfl (fun hin => ?_)
  (conv => whnf); refine And.intro (by decide) (isInt ?_)
  simp only [p61, p58, p3]
  have e1 : wr .u64 (hi * 8) = 8 * (hi % 2305843009213693952) := by simp only [wr]; omega
  rw [e1, andP hl.1, or_low (by omega) (by omega), andP (by omega), wr_small (x := lo % 2305843009213693952 + _) (by omega), wr_small (by omega)]
  exact whole_pure hh hl
theorem times_ct (a b : Int) (ha : 0 ≤ a ∧ a < 2305843009213693951) (hb : 0 ≤ b ∧ b < 2305843009213693951) : Ct Tryz.prog 80 [u64 a, u64 b] [] (Is2 (u64 ((a * b) % 2305843009213693951)) []) := by
  refine Ct.introF (E := E 11 0 [.tmp 4] [] [] []) tab_ok Tryz.call80 Tryz.func80 rfl rfl rfl rfl rfl (fun hin => ?_)
  (conv => whnf); refine (Mul64_ct a b (by omega) (by omega)).use ?_
  have h0 : 0 ≤ a * b := Int.mul_nonneg ha.1 hb.1
  have h1 : a * b < 340282366920938463463374607431768211456 := by
    have h1 := Int.mul_le_mul_of_nonneg_right (show a ≤ 18446744073709551615 by omega) hb.1
    omega
  (conv => whnf); refine (whole_ct _ _ (by omega) (by omega)).use ?_
  refine isInt ?_
  congr 1; omega
theorem doPlus_ct (a b : Int) : Ct Tryz.prog 78 [.fn 79 [] [], u64 a, u64 b] [] (Is2 (u64 ((a + b) % 2305843009213693951)) []) := by
  refine Ct.introF (E := E 13 0 [.tmp 6] [] [] []) tab_ok Tryz.call78 Tryz.func78 rfl rfl rfl rfl rfl (fun hin => ?_)
  (conv => whnf); refine (Mod_ct a).use ?_
  (conv => whnf); refine (Mod_ct b).use ?_
  (conv => whnf); refine (plus_ct _ _ (by omega) (by omega)).use ?_
  exact isInt (by omega)
theorem doMinus_ct (a b : Int) : Ct Tryz.prog 78 [.fn 93 [] [], u64 a, u64 b] [] (Is2 (u64 ((a - b) % 2305843009213693951)) []) := by
  refine Ct.introF (E := E 13 0 [.tmp 6] [] [] []) tab_ok Tryz.call78 Tryz.func78 rfl rfl rfl rfl rfl (fun hin => ?_)
  (conv => whnf); refine (Mod_ct a).use ?_
  (conv => whnf); refine (Mod_ct b).use ?_
  (conv => whnf); refine (minus_ct _ _ (by omega) (by omega)).use ?_
  exact isInt (by omega)
theorem doTimes_ct (a b : Int) : Ct Tryz.prog 78 [.fn 80 [] [], u64 a, u64 b] [] (Is2 (u64 ((a * b) % 2305843009213693951)) []) := by
  refine Ct.introF (E := E 13 0 [.tmp 6] [] [] []) tab_ok Tryz.call78 Tryz.func78 rfl rfl rfl rfl rfl (fun hin => ?_)
  (conv => whnf); refine (Mod_ct a).use ?_
  (conv => whnf); refine (Mod_ct b).use ?_
  (conv => whnf); refine (times_ct _ _ (by omega) (by omega)).use ?_
  exact isInt (by rw [emod_mul_l, emod_mul_r])
theorem Add_ct (a b : Int) : Ct Tryz.prog 54 [u64 a, u64 b] [] (Is2 (u64 ((a + b) % 2305843009213693951)) []) := by
  refine Ct.introF (E := E 8 0 [.tmp 4] [] [] []) tab_ok Tryz.call54 Tryz.func54 rfl rfl rfl rfl rfl (fun hin => ?_)
  exact (doPlus_ct a b).use (isInt rfl)
theorem Sub_ct (a b : Int) : Ct Tryz.prog 72 [u64 a, u64 b] [] (Is2 (u64 ((a - b) % 2305843009213693951)) []) := by
  refine Ct.introF (E := E 8 0 [.tmp 4] [] [] []) tab_ok Tryz.call72 Tryz.func72 rfl rfl rfl rfl rfl (fun hin => ?_)
  exact (doMinus_ct a b).use (isInt rfl)
theorem Mul_ct (a b : Int) : Ct Tryz.prog 55 [u64 a, u64 b] [] (Is2 (u64 ((a * b) % 2305843009213693951)) []) := by
  refine Ct.introF (E := E 8 0 [.tmp 4] [] [] []) tab_ok Tryz.call55 Tryz.func55 rfl rfl rfl rfl rfl (fun hin => ?_)
  exact (doTimes_ct a b).use (isInt rfl)
end Go.Proofs.YtofkdfodehfpdaaGreat

/- 2^61 - 1 is a prime, and 37 generates: each number that is not 0 has an inverse. No function of the program is proved here. -/
namespace Go.Num

theorem nmul_l (a b : Nat) : (a % 2305843009213693951 * b) % 2305843009213693951 = (a * b) % 2305843009213693951 := by rw [Nat.mul_mod, Nat.mod_mod, ← Nat.mul_mod]
theorem nmul_r (a b : Nat) : (a * (b % 2305843009213693951)) % 2305843009213693951 = (a * b) % 2305843009213693951 := by rw [Nat.mul_mod, Nat.mod_mod, ← Nat.mul_mod]
/-- Is a power of 37 equal to 1? -/
def One (n : Nat) : Prop := 37 ^ n % 2305843009213693951 = 1

theorem One.add {m n : Nat} (h : One m) : 37 ^ (m + n) % 2305843009213693951 = 37 ^ n % 2305843009213693951 := by
  rw [Nat.pow_add, ← nmul_l, h, Nat.one_mul]
theorem One.mul {m : Nat} (h : One m) (k : Nat) : One (m * k) := by
  induction k with
  | zero => rfl
  | succ k ih => unfold One; rw [Nat.mul_succ, Nat.add_comm, h.add]; exact ih
theorem One.mod {m n : Nat} (h : One m) (k : One n) : One (n % m) := by
  have e : m * (n / m) + n % m = n := Nat.div_add_mod n m
  have := (h.mul (n / m)).add (n := n % m)
  rw [e] at this
  unfold One at *
  rw [← this]; exact k
theorem One.gcd (m n : Nat) : One m → One n → One (Nat.gcd m n) := by
  induction m, n using Nat.gcd.induction with
  | H0 n => intro _ h; rw [Nat.gcd_zero_left]; exact h
  | H1 m n hm ih => intro h k; rw [Nat.gcd_rec]; exact ih (h.mod k) h

theorem pw_nat (n : Nat) (h : n < 2 ^ 64) : pw 37 n = ((37 ^ n % 2305843009213693951 : Nat) : Int) := by
  rw [pw_eq 37 h]
  rw [Int.natCast_emod, Int.natCast_pow]; rfl
theorem one_of {n : Nat} (h : n < 2 ^ 64) (k : pw 37 n = 1) : One n := by
  rw [pw_nat n h] at k
  exact_mod_cast k
theorem one_top : One 2305843009213693950 := one_of (by decide) (by decide +kernel)
theorem not_one {n : Nat} (h : n < 2 ^ 64) (k : pw 37 n ≠ 1) : ¬ One n := by
  intro e
  apply k
  rw [pw_nat n h]
  exact_mod_cast e

/-- Numbers that nothing divides. -/
def prm (q : Nat) : Bool := Nat.blt 1 q && (List.range q).all fun d => Nat.ble d 1 || !(Nat.beq (q % d) 0)
theorem prm_ok {q d : Nat} (h : prm q = true) (hd : d ∣ q) : d = 1 ∨ d = q := by
  unfold prm at h
  simp only [Bool.and_eq_true, Nat.blt_eq, List.all_eq_true, Bool.or_eq_true, Bool.not_eq_true'] at h
  have hle := Nat.le_of_dvd (by omega) hd
  by_cases e : d = q
  · exact .inr e
  · left
    have := h.2 d (List.mem_range.2 (by omega))
    rcases this with h1 | h1
    · have := Nat.le_of_ble_eq_true h1
      have h0 : d ≠ 0 := by rintro rfl; have := Nat.eq_zero_of_zero_dvd hd; omega
      omega
    · have h2 := Nat.mod_eq_zero_of_dvd hd
      rw [h2] at h1; cases h1
theorem cop {m q : Nat} (h : prm q = true) (hn : ¬ q ∣ m) : Nat.gcd m q = 1 := by
  rcases prm_ok h (Nat.gcd_dvd_right m q) with h1 | h1
  · exact h1
  · exact absurd (h1 ▸ Nat.gcd_dvd_left m q) hn

theorem not_mid {d : Nat} (h0 : 0 < d) (h1 : d < 2305843009213693950) : ¬ One d := by
  intro h
  have hg := One.gcd _ _ h one_top
  generalize hh : Nat.gcd d 2305843009213693950 = g at hg
  have hgd : g ∣ 2305843009213693950 := hh ▸ Nat.gcd_dvd_right _ _
  have hgl : g ≤ d := hh ▸ Nat.le_of_dvd h0 (Nat.gcd_dvd_left _ _)
  obtain ⟨m, hm⟩ := hgd
  have hm1 : m ≠ 1 := by rintro rfl; omega
  have key : ∀ q c : Nat, q * c = 2305843009213693950 → ¬ One c → ¬ q ∣ m := by
    intro q c hqc hc ⟨k, hk⟩
    apply hc
    have : c = g * k := by
      have hq : 0 < q := Nat.pos_of_ne_zero (by rintro rfl; omega)
      apply Nat.eq_of_mul_eq_mul_left hq
      rw [hqc, hm, hk, Nat.mul_left_comm]
    rw [this]; exact hg.mul k
  have c2 := cop (q := 2) (m := m) (by decide) (key 2 1152921504606846975 (by decide) (not_one (by decide) (by decide +kernel)))
  have c3 := cop (q := 3) (m := m) (by decide) (key 3 768614336404564650 (by decide) (not_one (by decide) (by decide +kernel)))
  have c5 := cop (q := 5) (m := m) (by decide) (key 5 461168601842738790 (by decide) (not_one (by decide) (by decide +kernel)))
  have c7 := cop (q := 7) (m := m) (by decide) (key 7 329406144173384850 (by decide) (not_one (by decide) (by decide +kernel)))
  have c11 := cop (q := 11) (m := m) (by decide) (key 11 209622091746699450 (by decide) (not_one (by decide) (by decide +kernel)))
  have c13 := cop (q := 13) (m := m) (by decide) (key 13 177372539170284150 (by decide) (not_one (by decide) (by decide +kernel)))
  have c31 := cop (q := 31) (m := m) (by decide) (key 31 74382032555280450 (by decide) (not_one (by decide) (by decide +kernel)))
  have c41 := cop (q := 41) (m := m) (by decide) (key 41 56240073395455950 (by decide) (not_one (by decide) (by decide +kernel)))
  have c61 := cop (q := 61) (m := m) (by decide) (key 61 37800705069076950 (by decide) (not_one (by decide) (by decide +kernel)))
  have c151 := cop (q := 151) (m := m) (by decide +kernel) (key 151 15270483504726450 (by decide) (not_one (by decide) (by decide +kernel)))
  have c331 := cop (q := 331) (m := m) (by decide +kernel) (key 331 6966293079195450 (by decide) (not_one (by decide) (by decide +kernel)))
  have c1321 := cop (q := 1321) (m := m) (by decide +kernel) (key 1321 1745528394559950 (by decide) (not_one (by decide) (by decide +kernel)))
  have cm : ∀ {a b : Nat}, Nat.gcd m a = 1 → Nat.gcd m b = 1 → Nat.gcd m (a * b) = 1 := fun ha hb => Nat.Coprime.mul_right ha hb
  have hall := cm c2 (cm c3 (cm c3 (cm c5 (cm c5 (cm c7 (cm c11 (cm c13 (cm c31 (cm c41 (cm c61 (cm c151 (cm c331 c1321))))))))))))
  have hd : m ∣ 2305843009213693950 := ⟨g, by rw [hm, Nat.mul_comm]⟩
  have : Nat.gcd m 2305843009213693950 = m := Nat.gcd_eq_left hd
  have e : (2 * (3 * (3 * (5 * (5 * (7 * (11 * (13 * (31 * (41 * (61 * (151 * (331 * 1321)))))))))))) : Nat) = 2305843009213693950 := by decide
  rw [e, this] at hall
  exact hm1 hall

theorem inj_gen {T : Nat} (hT : One T) (hm : ∀ d, 0 < d → d < T → ¬ One d) {i j : Nat} (hi : i < T) (hj : j < T) (h : 37 ^ i % 2305843009213693951 = 37 ^ j % 2305843009213693951) : i = j := by
  have key : ∀ i j : Nat, i < j → j < T → 37 ^ i % 2305843009213693951 = 37 ^ j % 2305843009213693951 → False := by
    intro i j hij hj h
    refine hm (j - i) (by omega) (by omega) ?_
    have h1 : (37 ^ (T - i) * 37 ^ i) % 2305843009213693951 = (37 ^ (T - i) * 37 ^ j) % 2305843009213693951 := by rw [← nmul_r, h, nmul_r]
    rw [← Nat.pow_add, ← Nat.pow_add, show T - i + i = T from by omega, show T - i + j = T + (j - i) from by omega, hT.add] at h1
    unfold One; rw [← h1]; exact hT
  rcases Nat.lt_trichotomy i j with h1 | h1 | h1
  · exact (key i j h1 hj h).elim
  · exact h1
  · exact (key j i h1 hi h.symm).elim
theorem inj {i j : Nat} (hi : i < 2305843009213693950) (hj : j < 2305843009213693950) (h : 37 ^ i % 2305843009213693951 = 37 ^ j % 2305843009213693951) : i = j := inj_gen one_top (fun _ h0 h1 => not_mid h0 h1) hi hj h

theorem nonzero_gen {T : Nat} (hT : One (T + 1)) (i : Nat) : 37 ^ i % 2305843009213693951 ≠ 0 := by
  intro h
  have h1 : 37 ^ ((T + 1) * i) % 2305843009213693951 = 1 := hT.mul i
  have e : (T + 1) * i = i + T * i := by rw [Nat.add_mul]; omega
  rw [e, Nat.pow_add, ← nmul_l, h, Nat.zero_mul] at h1
  cases h1
theorem nonzero (i : Nat) : 37 ^ i % 2305843009213693951 ≠ 0 := nonzero_gen (T := 2305843009213693949) one_top i

theorem pigeon : ∀ (n : Nat) (f : Nat → Nat), (∀ i, i < n → f i < n) → (∀ i j, i < n → j < n → f i = f j → i = j) → ∀ y, y < n → ∃ i, i < n ∧ f i = y
  | 0, _, _, _, y, h => by omega
  | n + 1, f, hr, hi, y, hy => by
    have hv := hr n (by omega)
    have ih := pigeon n (fun i => if f i = n then f n else f i) (fun i h => by
      try simp only
      split
      · rename_i e
        have : f n ≠ n := fun e2 => by have := hi i n (by omega) (by omega) (by rw [e, e2]); omega
        omega
      · have := hr i (by omega); omega) (fun i j hi' hj' h => by
      try simp only at h
      split at h <;> split at h
      · rename_i a b; exact hi i j (by omega) (by omega) (by rw [a, b])
      · rename_i a b; have := hi n j (by omega) (by omega) h; omega
      · rename_i a b; have := hi i n (by omega) (by omega) h; omega
      · exact hi i j (by omega) (by omega) h)
    by_cases e1 : y = f n
    · exact ⟨n, by omega, e1.symm⟩
    · by_cases e2 : y = n
      · have hvn : f n < n := by omega
        obtain ⟨i, h1, h2⟩ := ih (f n) hvn
        try simp only at h2
        split at h2
        · rename_i e; exact ⟨i, by omega, by rw [e, e2]⟩
        · have := hi i n (by omega) (by omega) h2; omega
      · obtain ⟨i, h1, h2⟩ := ih y (by omega)
        try simp only at h2
        split at h2
        · exact absurd h2.symm e1
        · exact ⟨i, by omega, h2⟩

theorem fermat_gen {T : Nat} (hT1 : T + 1 = 2305843009213693951) (hT : One T) (inj : ∀ {i j : Nat}, i < T → j < T → 37 ^ i % 2305843009213693951 = 37 ^ j % 2305843009213693951 → i = j) {a : Nat} (h : a % 2305843009213693951 ≠ 0) : a ^ T % 2305843009213693951 = 1 := by
  have hlt : a % 2305843009213693951 < 2305843009213693951 := Nat.mod_lt _ (by decide)
  obtain ⟨i, _, hi⟩ := pigeon T (fun i => 37 ^ i % 2305843009213693951 - 1) (fun i _ => by
    have := nonzero i
    have h2 : 37 ^ i % 2305843009213693951 < 2305843009213693951 := Nat.mod_lt _ (by decide)
    show 37 ^ i % 2305843009213693951 - 1 < T
    generalize 37 ^ i % 2305843009213693951 = z at *
    omega) (fun i j hi hj h => by
    have h1 := nonzero i; have h2 := nonzero j
    refine inj hi hj ?_
    try simp only at h
    generalize 37 ^ i % 2305843009213693951 = z at *
    generalize 37 ^ j % 2305843009213693951 = z' at *
    omega) (a % 2305843009213693951 - 1) (by omega)
  have h1 := nonzero i
  try simp only at hi
  have e : a % 2305843009213693951 = 37 ^ i % 2305843009213693951 := by
    generalize 37 ^ i % 2305843009213693951 = z at *
    omega
  rw [Nat.pow_mod, e, ← Nat.pow_mod, ← Nat.pow_mul, Nat.mul_comm]
  exact hT.mul i

/-- What a number that is not 0 times its inverse is. -/
theorem inv_gen (k : Nat) (hk : k < 2 ^ 64) (hf : ∀ a : Nat, a % 2305843009213693951 ≠ 0 → a ^ (k + 1) % 2305843009213693951 = 1) {a : Int} (h : a % 2305843009213693951 ≠ 0) : (a * pw a k) % 2305843009213693951 = 1 := by
  rw [pw_eq a hk, emod_mul_r]
  have e : a * a ^ k = a ^ (k + 1) := by rw [Int.mul_comm, ← Int.pow_succ]
  rw [e, ← pow_mod]
  obtain ⟨n, hn⟩ := Int.eq_ofNat_of_zero_le (show 0 ≤ a % 2305843009213693951 by omega)
  rw [hn]
  have hne : n % 2305843009213693951 ≠ 0 := by omega
  have := hf n hne
  rw [← Int.natCast_pow]
  generalize n ^ (k + 1) = z at *
  omega
theorem inv_all {k : Nat} (hk : k < 2 ^ 64) (hT1 : k + 2 = 2305843009213693951) (hT : One (k + 1)) (hi : ∀ {i j : Nat}, i < k + 1 → j < k + 1 → 37 ^ i % 2305843009213693951 = 37 ^ j % 2305843009213693951 → i = j) {a : Int} (h : a % 2305843009213693951 ≠ 0) : (a * pw a k) % 2305843009213693951 = 1 :=
  inv_gen k hk (fun _ h => fermat_gen (T := k + 1) hT1 hT hi h) h
theorem inv_ok {a : Int} (h : a % 2305843009213693951 ≠ 0) : (a * inv a) % 2305843009213693951 = 1 := inv_all (by decide) rfl one_top inj h
theorem pw_zero_gen {k : Nat} (hk : k < 2 ^ 64) (h0 : k ≠ 0) {a : Int} (h : a % 2305843009213693951 = 0) : pw a k = 0 := by
  rw [pw_eq a hk, ← pow_mod, h, Int.zero_pow h0]; rfl
theorem inv_zero {a : Int} (h : a % 2305843009213693951 = 0) : inv a = 0 := by
  exact pw_zero_gen (by decide) (by decide) h
theorem inv_rng (a : Int) : 0 ≤ inv a ∧ inv a < 2305843009213693951 := pw_rng a _
end Go.Num

/- Package prime and its reference: powers and inverses. -/
namespace Go.Proofs.YtofkdfodehfpdaaGreat
open Go.V Go.Num
open Go.Eng (wr)
set_option maxRecDepth 100000
theorem and1 {n : Int} (h : 0 ≤ n) : ((n.toNat &&& (1 : Int).toNat : Nat) : Int) = n % 2 := bit_i h
theorem div_nn {a b : Int} (ha : 0 ≤ a) (hb : 0 ≤ b) : 0 ≤ a / b := Int.ediv_nonneg ha hb
/-- The inverse is the only one. -/
theorem inv_uniq {a t : Int} (h : a % 2305843009213693951 ≠ 0) (ht : 0 ≤ t ∧ t < 2305843009213693951) (e : (a * t) % 2305843009213693951 = 1) : t = inv a := by
  have h1 : (t * (a * inv a)) % 2305843009213693951 = t := by rw [← emod_mul_r, inv_ok h, Int.mul_one]; exact Int.emod_eq_of_lt ht.1 ht.2
  have h2 : (t * (a * inv a)) % 2305843009213693951 = inv a := by
    rw [← Int.mul_assoc, Int.mul_comm t a, ← emod_mul_l, e, Int.one_mul]
    exact Int.emod_eq_of_lt (inv_rng a).1 (inv_rng a).2
  rw [← h1, h2]
theorem pow_even (q : Int) {m : Nat} (h : m % 2 = 0) : (q * q) ^ (m / 2) = q ^ m := by
  have e : m = 2 * (m / 2) := by omega
  have : q * q = q ^ 2 := by rw [Int.pow_succ, Int.pow_succ, Int.pow_zero, Int.one_mul]
  rw [this, ← Int.pow_mul, ← e]
theorem pow_odd (q : Int) {m : Nat} (h : m % 2 = 1) : q * (q * q) ^ (m / 2) = q ^ m := by
  have e : m = 2 * (m / 2) + 1 := by omega
  have : q * q = q ^ 2 := by rw [Int.pow_succ, Int.pow_succ, Int.pow_zero, Int.one_mul]
  rw [this, ← Int.pow_mul, Int.mul_comm, ← Int.pow_succ]
  congr 1; omega
theorem Pow_ct (a n0 : Int) (hn : 0 ≤ n0 ∧ n0 < 18446744073709551616) : Ct Tryz.prog 95 [u64 a, u64 n0] [] (Is2 (u64 (pw a n0.toNat)) []) := by
  refine Ct.introF (E := E 23 0 [.tmp 4] [] [(2, [1, 5, 6])] []) tab_ok Tryz.call95 Tryz.func95 rfl rfl rfl rfl rfl (fun hin => ?_)
  (conv => whnf); refine (Mod_ct a).use ?_
  (conv => whnf); refine LoopI.mk (fun m vs os => ∃ (k : Nat) (out sq : Int), vs = [u64 (k : Int), u64 out, u64 sq] ∧ os = [] ∧ 0 ≤ out ∧ out < 2305843009213693951 ∧ 0 ≤ sq ∧ sq < 2305843009213693951 ∧ k < 18446744073709551616 ∧ (out * sq ^ k) % 2305843009213693951 = (a ^ n0.toNat) % 2305843009213693951 ∧ m = k) n0.toNat ⟨n0.toNat, 1, a % 2305843009213693951, by rw [Int.toNat_of_nonneg hn.1], rfl, by decide, by decide, by omega, by omega, by omega, by rw [Int.one_mul, pow_mod], rfl⟩ ?_
  rintro m _ _ ⟨k, out, sq, rfl, rfl, ho1, ho2, hs1, hs2, hk, hE, rfl⟩
  (conv => whnf); refine cond_d (fun h => ?_) (fun h => ?_)
  · have hd : (m : Int) / 2 ^ min (Int.toNat 1) IntKind.u64.bits = ((m / 2 : Nat) : Int) := by show (m : Int) / 2 = _; omega
    have hb := and1 (n := (m : Int)) (by omega)
    (conv => whnf); refine cond_d (fun h2 => ?_) (fun h2 => ?_)
    · (conv => whnf); refine (times_ct _ _ ⟨ho1, ho2⟩ ⟨hs1, hs2⟩).use ?_
      (conv => whnf); refine (times_ct _ _ ⟨hs1, hs2⟩ ⟨hs1, hs2⟩).use ?_
      conv => whnf
      refine ⟨m / 2, by omega, m / 2, out * sq % 2305843009213693951, sq * sq % 2305843009213693951, ?_, rfl, ?_, ?_, ?_, ?_, by omega, ?_, rfl⟩
      · rw [hd]
      · omega
      · omega
      · omega
      · omega
      · rw [← hE, emod_mul_l, ← emod_mul_r, pow_mod, emod_mul_r, Int.mul_assoc]
        congr 2
        exact pow_odd sq (by omega)
    · (conv => whnf); refine (times_ct _ _ ⟨hs1, hs2⟩ ⟨hs1, hs2⟩).use ?_
      conv => whnf
      refine ⟨m / 2, by omega, m / 2, out, sq * sq % 2305843009213693951, ?_, rfl, ho1, ho2, ?_, ?_, by omega, ?_, rfl⟩
      · rw [hd]
      · omega
      · omega
      · rw [← hE, ← emod_mul_r, pow_mod, emod_mul_r]
        congr 2
        exact pow_even sq (by omega)
  · have h0 : m = 0 := by omega
    subst h0
    refine isInt ?_
    rw [pw_eq a (by omega), ← hE, Int.pow_zero, Int.mul_one]
    exact (Int.emod_eq_of_lt ho1 ho2).symm
theorem Inv_ct (a : Int) : Ct Tryz.prog 73 [u64 a] [] (Is2 (.tup [u64 (inv a), i64 (if a % 2305843009213693951 = 0 then 1 else 0)]) []) := by
  refine Ct.introF (E := E 9 0 [.tmp 2, .tmp 3] [] [] []) tab_ok Tryz.call73 Tryz.func73 rfl rfl rfl rfl rfl (fun hin => ?_)
  (conv => whnf); refine (Mod_ct a).use ?_
  (conv => whnf); refine cond_d (fun h => ?_) (fun h => ?_)
  · rw [inv_zero h, if_pos h]
    exact Is2.mk rfl
  · rw [if_neg h]
    (conv => whnf); refine (Pow_ct a _ (by decide)).use ?_
    exact Is2.mk rfl
theorem rInv_ct (a : Int) (ha : 0 ≤ a ∧ a < 18446744073709551616) : Ct Tryz.prog 33 [u64 a] [] (Is2 (u64 (inv a)) []) := by
  refine Ct.introF (E := E 28 0 [.tmp 2] [] [(3, [3, 4, 5, 6])] []) tab_ok Tryz.call33 Tryz.func33 rfl rfl rfl rfl rfl (fun hin => ?_)
  (conv => whnf); refine And.intro (by decide) ?_
  (conv => whnf); refine LoopI.mk (fun m vs os => ∃ r0 r1 t0 t1 : Int, vs = [u64 r0, u64 r1, u64 t0, u64 t1] ∧ os = [] ∧ 0 ≤ r0 ∧ r0 ≤ 2305843009213693951 ∧ 0 ≤ r1 ∧ r1 < 2305843009213693951 ∧ 0 ≤ t0 ∧ t0 < 2305843009213693951 ∧ 0 ≤ t1 ∧ t1 < 2305843009213693951 ∧ (a * t0 - r0) % 2305843009213693951 = 0 ∧ (a * t1 - r1) % 2305843009213693951 = 0 ∧ (a % 2305843009213693951 = 0 ∧ t0 = 0 ∧ r1 = 0 ∨ ∃ u v : Int, u * r0 + v * r1 = 1) ∧ m = r1.toNat) (a % 2305843009213693951).toNat ⟨2305843009213693951, a % 2305843009213693951, 0, 1, rfl, rfl, by decide, by decide, by omega, by omega, by decide, by decide, by decide, by decide, by omega, by omega, ?_, rfl⟩ ?_
  · by_cases h : a % 2305843009213693951 = 0
    · exact .inl ⟨h, rfl, h⟩
    · right
      have h1 := inv_ok h
      rw [← emod_mul_l] at h1
      refine ⟨- (a % 2305843009213693951 * inv a / 2305843009213693951), inv a, ?_⟩
      rw [Int.mul_comm (inv a)]
      generalize a % 2305843009213693951 * inv a = z at *
      omega
  rintro m _ _ ⟨r0, r1, t0, t1, rfl, rfl, h1, h2, h3, h4, h5, h6, h7, h8, hA, hB, hC, rfl⟩
  (conv => whnf); refine cond_d (fun h => ?_) (fun h => ?_)
  · (conv => whnf); refine And.intro (by omega) ?_
    (conv => whnf); refine (rMul_ct _ _ (div_nn h1 h3) h7).use ?_
    (conv => whnf); refine (rSub_ct _ _).use ?_
    conv => whnf
    have hp : 0 < r1 := by omega
    have hm := Int.emod_lt_of_pos r0 hp
    have hm0 := Int.emod_nonneg r0 h
    have hd := Int.mul_ediv_add_emod r0 r1
    have hq : 0 ≤ r0 / r1 := div_nn h1 h3
    have hq1 : 0 ≤ r1 * (r0 / r1) := Int.mul_nonneg h3 hq
    have hw : wr IntKind.u64 (r0 - wr IntKind.u64 (r0 / r1 * r1)) = r0 % r1 := by
      rw [Int.mul_comm (r0 / r1)]
      generalize r1 * (r0 / r1) = z at *
      rw [wr_small (x := z) (by omega), wr_small (by omega)]
      omega
    refine ⟨(r0 % r1).toNat, by omega, r1, r0 % r1, t1, (t0 - r0 / r1 * t1 % 2305843009213693951) % 2305843009213693951, ?_, rfl, h3, by omega, hm0, by omega, h7, h8, by omega, by omega, hB, ?_, ?_, rfl⟩
    · rw [hw]
    · have e : a * ((t0 - r0 / r1 * t1 % 2305843009213693951) % 2305843009213693951) - r0 % r1 = (a * t0 - r0) - r0 / r1 * (a * t1 - r1) + 2305843009213693951 * (a * (r0 / r1 * t1 / 2305843009213693951) - a * ((t0 - r0 / r1 * t1 % 2305843009213693951) / 2305843009213693951)) := by
        have e1 : r0 % r1 = r0 - r1 * (r0 / r1) := by omega
        have e2 : (t0 - r0 / r1 * t1 % 2305843009213693951) % 2305843009213693951 = t0 - r0 / r1 * t1 + 2305843009213693951 * (r0 / r1 * t1 / 2305843009213693951 - (t0 - r0 / r1 * t1 % 2305843009213693951) / 2305843009213693951) := by omega
        rw [e1, e2]
        generalize (t0 - r0 / r1 * t1 % 2305843009213693951) / 2305843009213693951 = x1
        generalize r0 / r1 * t1 / 2305843009213693951 = x2
        generalize r0 / r1 = q
        simp only [Int.mul_sub, Int.mul_add, Int.mul_left_comm a 2305843009213693951]
        rw [Int.mul_left_comm a q t1, Int.mul_comm r1 q]
        generalize q * r1 = y1
        generalize q * (a * t1) = y2
        generalize a * t0 = y3
        generalize a * x1 = y4
        generalize a * x2 = y5
        omega
      rw [e]
      obtain ⟨k1, hk1⟩ := Int.dvd_of_emod_eq_zero hA
      obtain ⟨k2, hk2⟩ := Int.dvd_of_emod_eq_zero hB
      rw [hk1, hk2, Int.mul_left_comm]
      generalize r0 / r1 * k2 = y
      generalize (a * (r0 / r1 * t1 / 2305843009213693951) - a * ((t0 - r0 / r1 * t1 % 2305843009213693951) / 2305843009213693951)) = z
      omega
    · right
      rcases hC with ⟨_, _, h0⟩ | ⟨u, v, huv⟩
      · exact absurd h0 h
      · refine ⟨u * (r0 / r1) + v, u, ?_⟩
        rw [← huv]
        have e1 : r0 % r1 = r0 - r1 * (r0 / r1) := by omega
        rw [e1, Int.add_mul, Int.mul_sub, Int.mul_assoc, Int.mul_comm r1 (r0 / r1)]
        omega
  · have h0 : r1 = 0 := by omega
    subst h0
    refine isInt ?_
    by_cases hz : a % 2305843009213693951 = 0
    · rw [inv_zero hz]
      rcases hC with ⟨_, h9, _⟩ | ⟨u, v, huv⟩
      · exact h9
      · rw [Int.mul_zero, Int.add_zero] at huv
        have hr : r0 % 2305843009213693951 = 0 := by
          have : (a * t0) % 2305843009213693951 = 0 := by rw [← emod_mul_l, hz, Int.zero_mul]; rfl
          omega
        have : 0 < r0 := by
          rcases Int.lt_or_eq_of_le h1 with h1 | h1
          · exact h1
          · rw [← h1, Int.mul_zero] at huv; cases huv
        have h9 : r0 = 2305843009213693951 := by omega
        rw [h9] at huv; omega
    · rcases hC with ⟨h9, _⟩ | ⟨u, v, huv⟩
      · exact absurd h9 hz
      · rw [Int.mul_zero, Int.add_zero] at huv
        have h9 : r0 = 1 := Int.eq_one_of_mul_eq_one_left h1 huv
        subst h9
        exact inv_uniq hz ⟨h5, h6⟩ (by omega)
end Go.Proofs.YtofkdfodehfpdaaGreat

/- Cards, parcels, openings, as data. -/
namespace Go.Proofs.YtofkdfodehfpdaaGreat.Wrd
open Go.V Go.Num
open Go.Eng (wr)
set_option maxRecDepth 100000
/-- Cards, parcels, openings. -/
abbrev Card := Int × Int × Int
abbrev Parc := Int × Int × List UInt8
abbrev Opng := Int × Bool × List Int
def cardD (c : Card) : D := .agg [.int .i64 c.1, .int .u64 c.2.1, .int .u64 c.2.2]
def parcD (x : Parc) : D := .agg [.int .i64 x.1, .int .i64 x.2.1, .ro (bytesD x.2.2)]
def opngD (x : Opng) : D := .agg [.int .i64 x.1, .bool x.2.1, .ro (x.2.2.map (D.int .u64))]
theorem map_at {α : Type} {l : List α} {f : α → D} {i : Nat} {x : α} (h : l[i]? = some x) : (l.map f)[(i : Int).toNat]? = some (f x) := by
  rw [Int.toNat_natCast, List.getElem?_map, h]; rfl
theorem get_some {α : Type} {l : List α} {i : Nat} (h : i < l.length) : ∃ x, l[i]? = some x := ⟨l[i], List.getElem?_eq_getElem h⟩
theorem getD_map {α : Type} {l : List α} {g : α → Int} {i : Nat} {x : α} (h : l[i]? = some x) : (l.map g).getD i 0 = g x := by
  rw [List.getD_eq_getElem?_getD, List.getElem?_map, h]; rfl
theorem len_D {α : Type} {l : List α} {f : α → D} : (l.map f).length = l.length := List.length_map _
end Go.Proofs.YtofkdfodehfpdaaGreat.Wrd

/- Package poly and its reference, part A: lists. -/
namespace Go.Proofs.YtofkdfodehfpdaaGreat
open Go.V Go.Num
open Go.Eng (wr)
set_option maxRecDepth 100000
abbrev li (xs : List Int) : List D := xs.map (.int .u64)
abbrev L (xs : List Int) : AV := .d (.ro (li xs))
theorem li_len (a : List Int) : (li a).length = a.length := List.length_map _
theorem li_get {a : List Int} {i : Nat} (h : i < a.length) : (li a)[(i : Int).toNat]? = some (.int .u64 (a.getD i 0)) := by
  rw [Int.toNat_natCast, List.getElem?_map, List.getElem?_eq_getElem h, List.getD_eq_getElem?_getD, List.getElem?_eq_getElem h]; rfl
theorem getD_at {a : List Int} {i : Nat} (h : i < a.length) : a[i]? = some (a.getD i 0) := by
  rw [List.getD_eq_getElem?_getD, List.getElem?_eq_getElem h]; rfl
theorem take_succ' {a : List Int} {i : Nat} (h : i < a.length) : a.take (i + 1) = a.take i ++ [a.getD i 0] := by
  rw [List.take_add_one, getD_at h]; rfl
end Go.Proofs.YtofkdfodehfpdaaGreat

/- Package cipher: bits and blocks, in plain Lean. No function of the program is proved here. -/
namespace Go.Proofs.YtofkdfodehfpdaaGreat
open Go.V Go.Num
open Go.Eng (wr)
abbrev u32 (n : Int) : AV := .d (.int .u32 n)
abbrev u8 (n : Int) : AV := .d (.int .u8 n)
abbrev l32 (xs : List Int) : List D := xs.map (.int .u32)
abbrev l8 (xs : List Int) : List D := xs.map (.int .u8)
abbrev R32 (xs : List Int) : AV := .d (.ro (l32 xs))
abbrev R8 (xs : List Int) : AV := .d (.ro (l8 xs))
abbrev A32 (xs : List Int) : AV := .d (.agg (l32 xs))
abbrev A8 (xs : List Int) : AV := .d (.agg (l8 xs))
theorem l32_len (a : List Int) : (l32 a).length = a.length := List.length_map _
theorem l8_len (a : List Int) : (l8 a).length = a.length := List.length_map _
theorem l32_get {a : List Int} {i : Nat} (h : i < a.length) : (l32 a)[i]? = some (.int .u32 (a.getD i 0)) := by
  rw [List.getElem?_map, List.getElem?_eq_getElem h, List.getD_eq_getElem?_getD, List.getElem?_eq_getElem h]; rfl
theorem l8_get {a : List Int} {i : Nat} (h : i < a.length) : (l8 a)[i]? = some (.int .u8 (a.getD i 0)) := by
  rw [List.getElem?_map, List.getElem?_eq_getElem h, List.getD_eq_getElem?_getD, List.getElem?_eq_getElem h]; rfl
theorem setV_one {α : Type} {cs : List α} {o : Nat} {b : α} (h : o < cs.length) : setV cs o [b] = cs.set o b := by
  unfold setV
  rw [List.set_eq_take_append_cons_drop, if_pos h, List.append_assoc]; rfl
theorem l32_set {a : List Int} {i : Nat} {x : Int} (h : i < a.length) : setV (l32 a) i [.int .u32 x] = l32 (a.set i x) := by
  rw [setV_one (by simpa using h)]; exact List.map_set.symm
theorem l8_set {a : List Int} {i : Nat} {x : Int} (h : i < a.length) : setV (l8 a) i [.int .u8 x] = l8 (a.set i x) := by
  rw [setV_one (by simpa using h)]; exact List.map_set.symm
theorem getD_set (a : List Int) (i j : Nat) (x : Int) : (a.set i x).getD j 0 = if i = j ∧ j < a.length then x else a.getD j 0 := by
  rw [List.getD_eq_getElem?_getD, List.getElem?_set, List.getD_eq_getElem?_getD]
  by_cases h : i = j
  · subst h
    by_cases h2 : i < a.length
    · simp [h2]
    · simp [h2]
  · simp [h]
/-- All numbers are bytes. -/
def By (l : List Int) : Prop := ∀ x ∈ l, 0 ≤ x ∧ x ≤ 255
theorem By.getD {l : List Int} (h : By l) (i : Nat) : 0 ≤ l.getD i 0 ∧ l.getD i 0 ≤ 255 := by
  rw [List.getD_eq_getElem?_getD]
  cases hx : l[i]? with
  | none => exact ⟨by simp, by simp⟩
  | some x => exact h x (List.mem_of_getElem? hx)
/-- All numbers have 32 bits. -/
def U4 (l : List Int) : Prop := ∀ x ∈ l, 0 ≤ x ∧ x ≤ 4294967295
theorem U4.getD {l : List Int} (h : U4 l) (i : Nat) : 0 ≤ l.getD i 0 ∧ l.getD i 0 ≤ 4294967295 := by
  rw [List.getD_eq_getElem?_getD]
  cases hx : l[i]? with
  | none => exact ⟨by simp, by simp⟩
  | some x => exact h x (List.mem_of_getElem? hx)
theorem U4.set {l : List Int} (h : U4 l) (i : Nat) {x : Int} (hx : 0 ≤ x ∧ x ≤ 4294967295) : U4 (l.set i x) := fun y hy => by
  rcases List.mem_or_eq_of_mem_set hy with h1 | rfl
  · exact h y h1
  · exact hx
def ad (a b : Int) : Int := wr .u32 (a + b)
def xr (a b : Int) : Int := ((a.toNat ^^^ b.toNat : Nat) : Int)
def rt (x : Int) (k : Nat) : Int := (((wr .u32 (x * 2 ^ k)).toNat ||| (x / 2 ^ (32 - k)).toNat : Nat) : Int)
theorem and31 {k : Int} (h : 0 ≤ k ∧ k < 32) : (((wr .u64 k).toNat &&& (31 : Int).toNat : Nat) : Int) = k := by
  rw [wr_small (by omega)]
  have := and_low 5 h.1
  have e : ((2 : Int) ^ 5) = 32 := rfl
  rw [e] at this
  have e2 : (31 : Int).toNat = 2 ^ 5 - 1 := rfl
  rw [e2, this]; omega
def qrt (a b c d : Int) : Int × Int × Int × Int :=
  let a1 := ad a b; let d1 := rt (xr d a1) 16; let c1 := ad c d1; let b1 := rt (xr b c1) 12
  let a2 := ad a1 b1; let d2 := rt (xr d1 a2) 8; let c2 := ad c1 d2; let b2 := rt (xr b1 c2) 7
  (a2, b2, c2, d2)
def qL (s : List Int) (a b c d : Nat) : List Int :=
  let q := qrt (s.getD a 0) (s.getD b 0) (s.getD c 0) (s.getD d 0)
  (((s.set a q.1).set b q.2.1).set c q.2.2.1).set d q.2.2.2
theorem qL_len (s : List Int) (a b c d : Nat) : (qL s a b c d).length = s.length := by simp [qL]
/-- The same, number by number in the other order. -/
theorem qL_steps {s : List Int} {a b c d : Nat} (ha : a < s.length) (hb : b < s.length) (hc : c < s.length) (hd : d < s.length) (hab : a ≠ b) (hac : a ≠ c) (had : a ≠ d) (hbc : b ≠ c) (hbd : b ≠ d) (hcd : c ≠ d)
    {a1 b1 c1 d1 a2 b2 c2 d2 : Int} (e1 : a1 = ad (s.getD a 0) (s.getD b 0)) (e2 : d1 = rt (xr (s.getD d 0) a1) 16) (e3 : c1 = ad (s.getD c 0) d1) (e4 : b1 = rt (xr (s.getD b 0) c1) 12)
    (e5 : a2 = ad a1 b1) (e6 : d2 = rt (xr d1 a2) 8) (e7 : c2 = ad c1 d2) (e8 : b2 = rt (xr b1 c2) 7) :
    (((((((s.set a a1).set d d1).set c c1).set b b1).set a a2).set d d2).set c c2).set b b2 = qL s a b c d := by
  have e : qrt (s.getD a 0) (s.getD b 0) (s.getD c 0) (s.getD d 0) = (a2, b2, c2, d2) := by subst e8 e7 e6 e5 e4 e3 e2 e1; rfl
  unfold qL
  rw [e]
  apply List.ext_getElem?
  intro j
  simp only [List.getElem?_set, List.length_set]
  by_cases h1 : b = j
  · subst h1; simp [hb, hbc, hbd, Ne.symm hbc, Ne.symm hbd, hab, Ne.symm hab]
  by_cases h2 : c = j
  · subst h2; simp [hc, hcd, Ne.symm hcd, hbc, hac, Ne.symm hac, h1]
  by_cases h3 : d = j
  · subst h3; simp [hd, h1, h2]
  by_cases h4 : a = j
  · subst h4; simp [ha, h1, h2, h3]
  · simp [h1, h2, h3, h4]
def colL (s : List Int) : List Int := qL (qL (qL (qL s 0 4 8 12) 1 5 9 13) 2 6 10 14) 3 7 11 15
def slpL (s : List Int) : List Int := qL (qL (qL (qL s 0 5 10 15) 1 6 11 12) 2 7 8 13) 3 4 9 14
def rndL (s : List Int) : List Int := slpL (colL s)
def rndN : Nat → List Int → List Int
  | 0, s => s
  | k + 1, s => rndL (rndN k s)
theorem rndL_len (s : List Int) : (rndL s).length = s.length := by simp [rndL, slpL, colL, qL_len]
theorem rndN_len : ∀ (k : Nat) (s : List Int), (rndN k s).length = s.length
  | 0, _ => rfl
  | k + 1, s => (rndL_len _).trans (rndN_len k s)
/-- Four bytes as a number. -/
def nm4 (b : List Int) (o : Nat) : Int := b.getD o 0 + 256 * b.getD (o + 1) 0 + 65536 * b.getD (o + 2) 0 + 16777216 * b.getD (o + 3) 0
theorem nm4_rng {b : List Int} (h : By b) (o : Nat) : 0 ≤ nm4 b o ∧ nm4 b o ≤ 4294967295 := by
  have h0 := h.getD o; have h1 := h.getD (o + 1); have h2 := h.getD (o + 2); have h3 := h.getD (o + 3)
  unfold nm4; omega
def startL (key : List Int) (ctr : Int) (nonce : List Int) : List Int :=
  [0x61707865, 0x3320646e, 0x79622d32, 0x6b206574, nm4 key 0, nm4 key 4, nm4 key 8, nm4 key 12, nm4 key 16, nm4 key 20, nm4 key 24, nm4 key 28, ctr, nm4 nonce 0, nm4 nonce 4, nm4 nonce 8]
theorem startL_len (key : List Int) (ctr : Int) (nonce : List Int) : (startL key ctr nonce).length = 16 := rfl
def sumL (key : List Int) (ctr : Int) (nonce : List Int) (i : Nat) : Int := ad ((rndN 10 (startL key ctr nonce)).getD i 0) ((startL key ctr nonce).getD i 0)
def byt (n : Int) (k : Nat) : Int := n / 256 ^ k % 256
def blkL (key : List Int) (ctr : Int) (nonce : List Int) : List Int := (List.range 64).map fun j => byt (sumL key ctr nonce (j / 4)) (j % 4)
theorem blkL_len (key : List Int) (ctr : Int) (nonce : List Int) : (blkL key ctr nonce).length = 64 := by simp [blkL]
theorem blkL_at (key : List Int) (ctr : Int) (nonce : List Int) {j : Nat} (h : j < 64) : (blkL key ctr nonce).getD j 0 = byt (sumL key ctr nonce (j / 4)) (j % 4) := by
  unfold blkL
  rw [List.getD_eq_getElem?_getD, List.getElem?_map, List.getElem?_range h]; rfl
theorem byt_rng (n : Int) (k : Nat) : 0 ≤ byt n k ∧ byt n k ≤ 255 := by unfold byt; omega
theorem blkL_by (key : List Int) (ctr : Int) (nonce : List Int) : By (blkL key ctr nonce) := fun x hx => by
  obtain ⟨j, _, rfl⟩ := List.mem_map.1 hx; exact byt_rng _ _
theorem blkL_u8 (key : List Int) (ctr : Int) (nonce : List Int) (j : Nat) : 0 ≤ (blkL key ctr nonce).getD j 0 ∧ (blkL key ctr nonce).getD j 0 ≤ 255 := (blkL_by key ctr nonce).getD j
/-- Bytes under a stream. -/
def xorL (key : List Int) (ctr : Int) (nonce : List Int) (b : List Int) : List Int := (List.range b.length).map fun i => xr (b.getD i 0) ((blkL key (wr .u32 (ctr + (i / 64 : Nat))) nonce).getD (i % 64) 0)
theorem xorL_len (key : List Int) (ctr : Int) (nonce : List Int) (b : List Int) : (xorL key ctr nonce b).length = b.length := by simp [xorL]
theorem xorL_at (key : List Int) (ctr : Int) (nonce : List Int) (b : List Int) {i : Nat} (h : i < b.length) : (xorL key ctr nonce b).getD i 0 = xr (b.getD i 0) ((blkL key (wr .u32 (ctr + (i / 64 : Nat))) nonce).getD (i % 64) 0) := by
  unfold xorL
  rw [List.getD_eq_getElem?_getD, List.getElem?_map, List.getElem?_range h]; rfl
theorem xr_rng8 {a b : Int} (ha : 0 ≤ a ∧ a ≤ 255) (hb : 0 ≤ b ∧ b ≤ 255) : 0 ≤ xr a b ∧ xr a b ≤ 255 := by
  have := Nat.xor_lt_two_pow (n := 8) (x := a.toNat) (y := b.toNat) (by omega) (by omega)
  unfold xr; omega
theorem or_add {a b : Int} {k : Nat} (ha : 0 ≤ a ∧ a < 2 ^ k) (hb : 0 ≤ b) : ((a.toNat ||| (b * 2 ^ k).toNat : Nat) : Int) = a + b * 2 ^ k := by
  obtain ⟨m, rfl⟩ := Int.eq_ofNat_of_zero_le ha.1
  obtain ⟨n, rfl⟩ := Int.eq_ofNat_of_zero_le hb
  have hm : m < 2 ^ k := by have := ha.2; exact_mod_cast this
  have h := Nat.shiftLeft_add_eq_or_of_lt hm n
  rw [Nat.shiftLeft_eq] at h
  have e2 : ((n : Int) * 2 ^ k) = ((n * 2 ^ k : Nat) : Int) := by simp
  rw [e2]
  show ((m ||| n * 2 ^ k : Nat) : Int) = _
  rw [Nat.or_comm, ← h]
  push_cast
  omega
end Go.Proofs.YtofkdfodehfpdaaGreat

/- Package cipher: quarter rounds, as the program and as the reference makes them. -/
namespace Go.Proofs.YtofkdfodehfpdaaGreat
open Go.V Go.Num
open Go.Eng (wr)
set_option maxRecDepth 100000
set_option maxHeartbeats 4000000
theorem Rot_ct (x : Int) (k : Nat) (hk : 0 < k ∧ k < 32) : Ct Tryz.prog 121 [u32 x, i64 k] [] (Is2 (u32 (rt x k)) []) := by
  refine Ct.introF (E := E 17 0 [.tmp 4] [] [] []) tab_ok Tryz.call121 Tryz.func121 rfl rfl rfl rfl rfl (fun hin => ?_)
  refine isInt ?_
  have e := and31 (k := (k : Int)) (by omega)
  rw [e, wr_small (by omega)]
  have e1 : min (k : Int).toNat 32 = k := by omega
  have e2 : min (32 - (k : Int)).toNat 32 = 32 - k := by omega
  unfold rt
  show (((wr .u32 (x * 2 ^ (min (k : Int).toNat 32))).toNat ||| (x / 2 ^ (min (32 - (k : Int)).toNat 32)).toNat : Nat) : Int) = _
  rw [e1, e2]
theorem half_ct (a b d : Int) (n : Nat) (hn : 0 < n ∧ n < 32) : Ct Tryz.prog 120 [u32 a, u32 b, u32 d, i64 n] [] (Is2 (.tup [u32 (ad a b), u32 (rt (xr d (ad a b)) n)]) []) := by
  refine Ct.introF (E := E 19 0 [.tmp 8, .tmp 9] [] [] []) tab_ok Tryz.call120 Tryz.func120 rfl rfl rfl rfl rfl (fun hin => ?_)
  (conv => whnf); refine (Rot_ct (xr d (ad a b)) n hn).use ?_
  exact Is2.mk rfl
theorem Quarter_ct (a b c d : Int) : Ct Tryz.prog 119 [u32 a, u32 b, u32 c, u32 d] [] (Is2 (.tup [u32 (qrt a b c d).1, u32 (qrt a b c d).2.1, u32 (qrt a b c d).2.2.1, u32 (qrt a b c d).2.2.2]) []) := by
  refine Ct.introF (E := E 44 0 [.tmp 8, .tmp 9, .tmp 10, .tmp 11] [] [] []) tab_ok Tryz.call119 Tryz.func119 rfl rfl rfl rfl rfl (fun hin => ?_)
  (conv => whnf); refine (half_ct _ _ _ 16 (by decide)).use ?_
  (conv => whnf); refine (half_ct _ _ _ 12 (by decide)).use ?_
  (conv => whnf); refine (half_ct _ _ _ 8 (by decide)).use ?_
  (conv => whnf); refine (half_ct _ _ _ 7 (by decide)).use ?_
  exact Is2.mk rfl
theorem l32_ix {a : List Int} {i : Nat} (h : i < a.length) : (l32 a)[0 + (i : Int).toNat * 1]? = some (.int .u32 (a.getD i 0)) := by
  rw [Nat.zero_add, Nat.mul_one, Int.toNat_natCast]; exact l32_get h
theorem l32_st {a : List Int} {i : Nat} {x : Int} (h : i < a.length) : setV (l32 a) (0 + (i : Int).toNat * 1) [.int .u32 x] = l32 (a.set i x) := by
  rw [Nat.zero_add, Nat.mul_one, Int.toNat_natCast]; exact l32_set h
theorem quarter_ct (s : List Int) (a b c d : Nat) (hs : s.length = 16) (ha : a < 16) (hb : b < 16) (hc : c < 16) (hd : d < 16) : Ct Tryz.prog 118 [.ptr 0 0, i64 a, i64 b, i64 c, i64 d] [.arr 154 (l32 s)] (Is2 (.tup []) [.arr 154 (l32 (qL s a b c d))]) := by
  refine Ct.introF (E := E 52 1 [] [] [] []) tab_ok Tryz.call118 Tryz.func118 rfl rfl rfl rfl rfl (fun hin => ?_)
  (conv => whnf); refine DrawI.mkTF 30 [[0], [1], [0], [2], [0], [3], [0], [4], [0], [1], [19], [20, 21], [22], [0], [2], [24], [25, 26], [27], [0], [3], [29], [30, 31], [32], [0], [4], [34], [35, 36], [37], [23, 28, 33, 38], [39]] [(2, 13, 0), (3, 14, 2), (4, 15, 0), (5, 16, 3), (6, 17, 0), (7, 18, 4), (30, 40, 10), (31, 41, 10), (32, 42, 10), (33, 43, 10), (34, 44, 11), (37, 46, 13), (40, 48, 15), (43, 50, 17)] (by decide +kernel) ?_
  repeat (first | refine DrawO.mkF _ (And.intro rfl rfl) ?_ | refine DrawO.mkF _ (Idx.mk _ rfl (And.intro rfl rfl)) ?_)
  refine DrawO.mkF _ (And.intro (by first | omega | (dsimp only [List.length, cond]; omega) | decide) (And.intro rfl rfl)) ?_
  refine DrawO.mkF (u32 (s.getD a 0)) (Idx.mk _ (l32_ix (by omega)) (And.intro rfl rfl)) ?_
  repeat (first | refine DrawO.mkF _ (And.intro rfl rfl) ?_ | refine DrawO.mkF _ (Idx.mk _ rfl (And.intro rfl rfl)) ?_)
  refine DrawO.mkF _ (And.intro (by first | omega | (dsimp only [List.length, cond]; omega) | decide) (And.intro rfl rfl)) ?_
  refine DrawO.mkF (u32 (s.getD b 0)) (Idx.mk _ (l32_ix (by omega)) (And.intro rfl rfl)) ?_
  repeat (first | refine DrawO.mkF _ (And.intro rfl rfl) ?_ | refine DrawO.mkF _ (Idx.mk _ rfl (And.intro rfl rfl)) ?_)
  refine DrawO.mkF _ (And.intro (by first | omega | (dsimp only [List.length, cond]; omega) | decide) (And.intro rfl rfl)) ?_
  refine DrawO.mkF (u32 (s.getD c 0)) (Idx.mk _ (l32_ix (by omega)) (And.intro rfl rfl)) ?_
  repeat (first | refine DrawO.mkF _ (And.intro rfl rfl) ?_ | refine DrawO.mkF _ (Idx.mk _ rfl (And.intro rfl rfl)) ?_)
  refine DrawO.mkF _ (And.intro (by first | omega | (dsimp only [List.length, cond]; omega) | decide) (And.intro rfl rfl)) ?_
  refine DrawO.mkF (u32 (s.getD d 0)) (Idx.mk _ (l32_ix (by omega)) (And.intro rfl rfl)) ?_
  refine DrawO.mkF _ ((Quarter_ct _ _ _ _).use (And.intro rfl rfl)) ?_
  repeat (first | refine DrawO.mkF _ (And.intro rfl rfl) ?_ | refine DrawO.mkF _ (Idx.mk _ rfl (And.intro rfl rfl)) ?_)
  (conv => whnf); refine And.intro (by omega) ?_
  (conv => whnf)
  (conv => whnf); refine And.intro ⟨rfl, by show 0 + (a : Int).toNat * 1 + 1 ≤ _; rw [l32_len]; omega⟩ ?_
  (conv => whnf)
  (conv => whnf); refine And.intro (by omega) ?_
  (conv => whnf)
  (conv => whnf); refine And.intro ⟨rfl, by dsimp only [D.cells]; rw [l32_st (by omega), l32_len, List.length_set]; omega⟩ ?_
  (conv => whnf)
  (conv => whnf); refine And.intro (by omega) ?_
  (conv => whnf)
  (conv => whnf); refine And.intro ⟨rfl, by dsimp only [D.cells]; rw [l32_st (by omega), l32_st (by rw [List.length_set]; omega), l32_len, List.length_set, List.length_set]; omega⟩ ?_
  (conv => whnf)
  (conv => whnf); refine And.intro (by omega) ?_
  (conv => whnf)
  (conv => whnf); refine And.intro ⟨rfl, by dsimp only [D.cells]; rw [l32_st (by omega), l32_st (by rw [List.length_set]; omega), l32_st (by rw [List.length_set, List.length_set]; omega), l32_len, List.length_set, List.length_set, List.length_set]; omega⟩ ?_
  (conv => whnf)
  refine ⟨rfl, ?_⟩
  show _ = [Obj.arr _ (setV (setV (setV (setV (l32 s) (0 + (a : Int).toNat * 1) [.int .u32 _]) (0 + (b : Int).toNat * 1) [.int .u32 _]) (0 + (c : Int).toNat * 1) [.int .u32 _]) (0 + (d : Int).toNat * 1) [.int .u32 _])]
  rw [l32_st (by omega), l32_st (by rw [List.length_set]; omega), l32_st (by rw [List.length_set, List.length_set]; omega), l32_st (by rw [List.length_set, List.length_set, List.length_set]; omega)]
  rfl
end Go.Proofs.YtofkdfodehfpdaaGreat

/- Package cipher: columns and slopes, numbers and bytes. -/
namespace Go.Proofs.YtofkdfodehfpdaaGreat
open Go.V Go.Num
open Go.Eng (wr)
set_option maxRecDepth 100000
set_option maxHeartbeats 4000000
theorem quarter_ct2 (s : List Int) (a b c d : Nat) (hs : s.length = 16) (ha : a < 16) (hb : b < 16) (hc : c < 16) (hd : d < 16) {a' b' c' d' : Int} (ea : a' = a) (eb : b' = b) (ec : c' = c) (ed : d' = d) : Ct Tryz.prog 118 [.ptr 0 0, i64 a', i64 b', i64 c', i64 d'] [.arr 154 (l32 s)] (Is2 (.tup []) [.arr 154 (l32 (qL s a b c d))]) := by
  subst ea; subst eb; subst ec; subst ed
  exact quarter_ct s a b c d hs ha hb hc hd
def colN : Nat → List Int → List Int
  | 0, s => s
  | i + 1, s => qL (colN i s) i (4 + i) (8 + i) (12 + i)
def slpN : Nat → List Int → List Int
  | 0, s => s
  | i + 1, s => qL (slpN i s) i (4 + (i + 1) % 4) (8 + (i + 2) % 4) (12 + (i + 3) % 4)
theorem colN_len : ∀ (i : Nat) (s : List Int), (colN i s).length = s.length
  | 0, _ => rfl
  | i + 1, s => (qL_len _ _ _ _ _).trans (colN_len i s)
theorem slpN_len : ∀ (i : Nat) (s : List Int), (slpN i s).length = s.length
  | 0, _ => rfl
  | i + 1, s => (qL_len _ _ _ _ _).trans (slpN_len i s)
theorem colN4 (s : List Int) : colN 4 s = colL s := rfl
theorem slpN4 (s : List Int) : slpN 4 s = slpL s := rfl
theorem columns_ct (s : List Int) (hs : s.length = 16) : Ct Tryz.prog 114 [.ptr 0 0] [.arr 154 (l32 s)] (Is2 (.tup []) [.arr 154 (l32 (colL s))]) := by
  refine Ct.introF (E := E 16 1 [] [] [(1, [0, 3])] []) tab_ok Tryz.call114 Tryz.func114 rfl rfl rfl rfl rfl (fun hin => ?_)
  (conv => whnf); refine LoopI.mk (fun n vs os => ∃ i : Nat, vs = [.ptr 0 0, i64 i] ∧ os = [.arr 154 (l32 (colN i s))] ∧ i ≤ 4 ∧ n = 4 - i) 4 ⟨0, rfl, rfl, by omega, rfl⟩ ?_
  rintro n _ _ ⟨i, rfl, rfl, h1, rfl⟩
  (conv => whnf); refine cond_d (fun h2 => ?_) (fun h2 => ?_)
  · (conv => whnf); refine And.intro (by first | omega | (dsimp only [List.length, cond]; omega) | (show (-9223372036854775808 : Int) ≤ _ ∧ _ ≤ (9223372036854775807 : Int); omega) | decide) ?_
    (conv => whnf); refine And.intro (by first | omega | (dsimp only [List.length, cond]; omega) | (show (-9223372036854775808 : Int) ≤ _ ∧ _ ≤ (9223372036854775807 : Int); omega) | decide) ?_
    (conv => whnf); refine And.intro (by first | omega | (dsimp only [List.length, cond]; omega) | (show (-9223372036854775808 : Int) ≤ _ ∧ _ ≤ (9223372036854775807 : Int); omega) | decide) ?_
    (conv => whnf); refine (quarter_ct2 (colN i s) i (4 + i) (8 + i) (12 + i) ((colN_len i s).trans hs) (by omega) (by omega) (by omega) (by omega) rfl (by omega) (by omega) (by omega)).use ?_
    (conv => whnf); refine And.intro (by first | omega | (dsimp only [List.length, cond]; omega) | (show (-9223372036854775808 : Int) ≤ _ ∧ _ ≤ (9223372036854775807 : Int); omega) | decide) ?_
    conv => whnf
    exact ⟨4 - (i + 1), by omega, i + 1, rfl, rfl, by omega, rfl⟩
  · obtain rfl : i = 4 := by omega
    exact Is2.mk rfl
theorem slopes_ct (s : List Int) (hs : s.length = 16) : Ct Tryz.prog 115 [.ptr 0 0] [.arr 154 (l32 s)] (Is2 (.tup []) [.arr 154 (l32 (slpL s))]) := by
  refine Ct.introF (E := E 22 1 [] [] [(1, [0, 3])] []) tab_ok Tryz.call115 Tryz.func115 rfl rfl rfl rfl rfl (fun hin => ?_)
  (conv => whnf); refine LoopI.mk (fun n vs os => ∃ i : Nat, vs = [.ptr 0 0, i64 i] ∧ os = [.arr 154 (l32 (slpN i s))] ∧ i ≤ 4 ∧ n = 4 - i) 4 ⟨0, rfl, rfl, by omega, rfl⟩ ?_
  rintro n _ _ ⟨i, rfl, rfl, h1, rfl⟩
  (conv => whnf); refine cond_d (fun h2 => ?_) (fun h2 => ?_)
  · (conv => whnf); refine And.intro (by first | omega | (dsimp only [List.length, cond]; omega) | (show (-9223372036854775808 : Int) ≤ _ ∧ _ ≤ (9223372036854775807 : Int); omega) | decide) ?_
    (conv => whnf); refine And.intro (by first | omega | (dsimp only [List.length, cond]; omega) | (show (-9223372036854775808 : Int) ≤ _ ∧ _ ≤ (9223372036854775807 : Int); omega) | decide) ?_
    (conv => whnf); refine And.intro (by first | omega | (dsimp only [List.length, cond]; omega) | (show (-9223372036854775808 : Int) ≤ _ ∧ _ ≤ (9223372036854775807 : Int); omega) | decide) ?_
    (conv => whnf); refine And.intro (by first | omega | (dsimp only [List.length, cond]; omega) | (show (-9223372036854775808 : Int) ≤ _ ∧ _ ≤ (9223372036854775807 : Int); omega) | decide) ?_
    (conv => whnf); refine And.intro (by first | omega | (dsimp only [List.length, cond]; omega) | (show (-9223372036854775808 : Int) ≤ _ ∧ _ ≤ (9223372036854775807 : Int); omega) | decide) ?_
    (conv => whnf); refine And.intro (by first | omega | (dsimp only [List.length, cond]; omega) | (show (-9223372036854775808 : Int) ≤ _ ∧ _ ≤ (9223372036854775807 : Int); omega) | decide) ?_
    (conv => whnf); refine And.intro (by first | omega | (dsimp only [List.length, cond]; omega) | (show (-9223372036854775808 : Int) ≤ _ ∧ _ ≤ (9223372036854775807 : Int); omega) | decide) ?_
    (conv => whnf); refine And.intro (by first | omega | (dsimp only [List.length, cond]; omega) | (show (-9223372036854775808 : Int) ≤ _ ∧ _ ≤ (9223372036854775807 : Int); omega) | decide) ?_
    (conv => whnf); refine And.intro (by first | omega | (dsimp only [List.length, cond]; omega) | (show (-9223372036854775808 : Int) ≤ _ ∧ _ ≤ (9223372036854775807 : Int); omega) | decide) ?_
    (conv => whnf); refine (quarter_ct2 (slpN i s) i (4 + (i + 1) % 4) (8 + (i + 2) % 4) (12 + (i + 3) % 4) ((slpN_len i s).trans hs) (by omega) (by omega) (by omega) (by omega) rfl (by omega) (by omega) (by omega)).use ?_
    (conv => whnf); refine And.intro (by first | omega | (dsimp only [List.length, cond]; omega) | (show (-9223372036854775808 : Int) ≤ _ ∧ _ ≤ (9223372036854775807 : Int); omega) | decide) ?_
    conv => whnf
    exact ⟨4 - (i + 1), by omega, i + 1, rfl, rfl, by omega, rfl⟩
  · obtain rfl : i = 4 := by omega
    exact Is2.mk rfl
theorem turn_ct (x : Int) (k : Nat) (hk : 0 < k ∧ k < 32) : Ct Tryz.prog 108 [u32 x, u64 k] [] (Is2 (u32 (rt x k)) []) := by
  refine Ct.introF (E := E 13 0 [.tmp 4] [] [] []) tab_ok Tryz.call108 Tryz.func108 rfl rfl rfl rfl rfl (fun hin => ?_)
  refine isInt ?_
  rw [wr_small (by omega)]
  have e1 : min (k : Int).toNat 32 = k := by omega
  have e2 : min (32 - (k : Int)).toNat 32 = 32 - k := by omega
  unfold rt
  show (((wr .u32 (x * 2 ^ (min (k : Int).toNat 32))).toNat ||| (x / 2 ^ (min (32 - (k : Int)).toNat 32)).toNat : Nat) : Int) = _
  rw [e1, e2]
theorem by_of {b : List Int} (h : okX (.ro (l8 b))) : By b := fun x hx => by
  have := h.2 (.int .u8 x) (by
    rw [show cellsOf (l8 b) = l8 b from by rw [cellsOf_one]; intro y hy; obtain ⟨z, _, rfl⟩ := List.mem_map.1 hy; rfl]
    exact List.mem_map_of_mem hx)
  exact this
theorem or4 {a b c d : Int} (ha : 0 ≤ a ∧ a ≤ 255) (hb : 0 ≤ b ∧ b ≤ 255) (hc : 0 ≤ c ∧ c ≤ 255) (hd : 0 ≤ d ∧ d ≤ 255) :
    ((((((((a.toNat ||| (wr .u32 (b * 256)).toNat : Nat) : Int).toNat ||| (wr .u32 (c * 65536)).toNat : Nat) : Int)).toNat ||| (wr .u32 (d * 16777216)).toNat : Nat) : Int)) = a + 256 * b + 65536 * c + 16777216 * d := by
  have h1 : wr .u32 (b * 256) = b * 2 ^ 8 := by simp only [wr]; omega
  have h2 : wr .u32 (c * 65536) = c * 2 ^ 16 := by simp only [wr]; omega
  have h3 : wr .u32 (d * 16777216) = d * 2 ^ 24 := by simp only [wr]; omega
  rw [h1, h2, h3, or_add (by omega) hb.1, or_add (by omega) hc.1, or_add (by omega) hd.1]
  omega
theorem add4 {a b c d : Int} (ha : 0 ≤ a ∧ a ≤ 255) (hb : 0 ≤ b ∧ b ≤ 255) (hc : 0 ≤ c ∧ c ≤ 255) (hd : 0 ≤ d ∧ d ≤ 255) :
    wr .u32 (wr .u32 (wr .u32 (a + wr .u32 (b * 256)) + wr .u32 (c * 65536)) + wr .u32 (d * 16777216)) = a + 256 * b + 65536 * c + 16777216 * d := by
  have sm : ∀ {x : Int}, 0 ≤ x ∧ x < 4294967296 → wr .u32 x = x := fun h => by simp only [wr]; omega
  rw [sm (x := b * 256) (by omega), sm (x := c * 65536) (by omega), sm (x := d * 16777216) (by omega), sm (x := a + b * 256) (by omega), sm (x := a + b * 256 + c * 65536) (by omega), sm (by omega)]
  omega
theorem number_ct (b : List Int) (h4 : 4 ≤ b.length) : Ct Tryz.prog 117 [R8 b] [] (Is2 (u32 (nm4 b 0)) []) := by
  refine Ct.introF (E := E 25 0 [.tmp 2] [] [] []) tab_ok Tryz.call117 Tryz.func117 rfl rfl rfl rfl rfl (fun hin => ?_)
  have hb := by_of hin.1
  (conv => whnf); refine DrawI.mkF 21 [[0], [3], [4], [5], [0], [7], [8], [9], [10], [6, 11], [0], [13], [14], [15], [16], [12, 17], [0], [19], [20], [21], [22]] (by decide +kernel) ?_
  repeat (first | refine DrawO.mkF _ (And.intro rfl rfl) ?_ | refine DrawO.mkF _ (Idx.mk _ rfl (And.intro rfl rfl)) ?_)
  refine DrawO.mkF _ (And.intro (by omega) (Idx.mk _ (l8_get (i := 0) (by omega)) (And.intro rfl rfl))) ?_
  repeat (first | refine DrawO.mkF _ (And.intro rfl rfl) ?_ | refine DrawO.mkF _ (Idx.mk _ rfl (And.intro rfl rfl)) ?_)
  refine DrawO.mkF _ (And.intro (by omega) (Idx.mk _ (l8_get (i := 1) (by omega)) (And.intro rfl rfl))) ?_
  repeat (first | refine DrawO.mkF _ (And.intro rfl rfl) ?_ | refine DrawO.mkF _ (Idx.mk _ rfl (And.intro rfl rfl)) ?_)
  refine DrawO.mkF _ (And.intro (by omega) (Idx.mk _ (l8_get (i := 2) (by omega)) (And.intro rfl rfl))) ?_
  repeat (first | refine DrawO.mkF _ (And.intro rfl rfl) ?_ | refine DrawO.mkF _ (Idx.mk _ rfl (And.intro rfl rfl)) ?_)
  refine DrawO.mkF _ (And.intro (by omega) (Idx.mk _ (l8_get (i := 3) (by omega)) (And.intro rfl rfl))) ?_
  repeat (first | refine DrawO.mkF _ (And.intro rfl rfl) ?_ | refine DrawO.mkF _ (Idx.mk _ rfl (And.intro rfl rfl)) ?_)
  refine isInt ?_
  exact or4 (hb.getD 0) (hb.getD 1) (hb.getD 2) (hb.getD 3)
theorem rnumber_ct (b : List Int) (h4 : 4 ≤ b.length) : Ct Tryz.prog 39 [R8 b] [] (Is2 (u32 (nm4 b 0)) []) := by
  refine Ct.introF (E := E 25 0 [.tmp 2] [] [] []) tab_ok Tryz.call39 Tryz.func39 rfl rfl rfl rfl rfl (fun hin => ?_)
  have hb := by_of hin.1
  (conv => whnf); refine DrawI.mkF 21 [[0], [3], [4], [5], [0], [7], [8], [9], [10], [6, 11], [0], [13], [14], [15], [16], [12, 17], [0], [19], [20], [21], [22]] (by decide +kernel) ?_
  repeat (first | refine DrawO.mkF _ (And.intro rfl rfl) ?_ | refine DrawO.mkF _ (Idx.mk _ rfl (And.intro rfl rfl)) ?_)
  refine DrawO.mkF _ (And.intro (by omega) (Idx.mk _ (l8_get (i := 0) (by omega)) (And.intro rfl rfl))) ?_
  repeat (first | refine DrawO.mkF _ (And.intro rfl rfl) ?_ | refine DrawO.mkF _ (Idx.mk _ rfl (And.intro rfl rfl)) ?_)
  refine DrawO.mkF _ (And.intro (by omega) (Idx.mk _ (l8_get (i := 1) (by omega)) (And.intro rfl rfl))) ?_
  repeat (first | refine DrawO.mkF _ (And.intro rfl rfl) ?_ | refine DrawO.mkF _ (Idx.mk _ rfl (And.intro rfl rfl)) ?_)
  refine DrawO.mkF _ (And.intro (by omega) (Idx.mk _ (l8_get (i := 2) (by omega)) (And.intro rfl rfl))) ?_
  repeat (first | refine DrawO.mkF _ (And.intro rfl rfl) ?_ | refine DrawO.mkF _ (Idx.mk _ rfl (And.intro rfl rfl)) ?_)
  refine DrawO.mkF _ (And.intro (by omega) (Idx.mk _ (l8_get (i := 3) (by omega)) (And.intro rfl rfl))) ?_
  repeat (first | refine DrawO.mkF _ (And.intro rfl rfl) ?_ | refine DrawO.mkF _ (Idx.mk _ rfl (And.intro rfl rfl)) ?_)
  refine isInt ?_
  exact add4 (hb.getD 0) (hb.getD 1) (hb.getD 2) (hb.getD 3)
def putN (o : Nat) (n : Int) : Nat → List Int → List Int
  | 0, cs => cs
  | k + 1, cs => (putN o n k cs).set (o + k) (byt n k)
theorem putN_len (o : Nat) (n : Int) : ∀ (k : Nat) (cs : List Int), (putN o n k cs).length = cs.length
  | 0, _ => rfl
  | k + 1, cs => by simp [putN, putN_len o n k cs]
theorem putN_at (o : Nat) (n : Int) (cs : List Int) (j : Nat) : ∀ (k : Nat), o + k ≤ cs.length → (putN o n k cs).getD j 0 = if o ≤ j ∧ j < o + k then byt n (j - o) else cs.getD j 0
  | 0, _ => by unfold putN; rw [if_neg (by omega)]
  | k + 1, h => by
    unfold putN
    rw [getD_set, putN_len, putN_at o n cs j k (by omega)]
    by_cases e : o + k = j
    · subst e
      rw [if_pos ⟨rfl, by omega⟩, if_pos (by omega)]; congr 1; omega
    · rw [if_neg (fun h => e h.1)]
      by_cases e2 : o ≤ j ∧ j < o + k
      · rw [if_pos e2, if_pos (by omega)]
      · rw [if_neg e2, if_neg (by omega)]
theorem p256 (i : Nat) (h : 8 * i ≤ 64) (w : Nat) (hw : 8 * i ≤ w) : (2 : Int) ^ (min (8 * (i : Int)).toNat w) = 256 ^ i := by
  have : min (8 * (i : Int)).toNat w = 8 * i := by omega
  rw [this, Int.pow_mul]; rfl
theorem put_ct (cs : List Int) (o len : Nat) (n : Int) (h : o + 4 ≤ cs.length) (hl : 4 ≤ len) : Ct Tryz.prog 116 [.av 0 1 o len, u32 n] [.arr 129 (l8 cs)] (Is2 (.tup []) [.arr 129 (l8 (putN o n 4 cs))]) := by
  refine Ct.introF (E := E 17 1 [] [] [(1, [0, 1, 5])] []) tab_ok Tryz.call116 Tryz.func116 rfl rfl rfl rfl rfl (fun hin => ?_)
  (conv => whnf); refine LoopI.mk (fun m vs os => ∃ i : Nat, vs = [.av 0 1 o len, u32 n, i64 i] ∧ os = [.arr 129 (l8 (putN o n i cs))] ∧ i ≤ 4 ∧ m = 4 - i) 4 ⟨0, rfl, rfl, by omega, rfl⟩ ?_
  rintro m _ _ ⟨i, rfl, rfl, h1, rfl⟩
  (conv => whnf); refine cond_d (fun h2 => ?_) (fun h2 => ?_)
  · (conv => whnf); refine And.intro (by first | omega | (dsimp only [List.length, cond]; omega) | (show (-9223372036854775808 : Int) ≤ _ ∧ _ ≤ (9223372036854775807 : Int); omega) | decide) ?_
    (conv => whnf); refine And.intro (by first | omega | (dsimp only [List.length, cond]; omega) | (show (-9223372036854775808 : Int) ≤ _ ∧ _ ≤ (9223372036854775807 : Int); omega) | decide) ?_
    (conv => whnf); refine And.intro (by first | omega | (dsimp only [List.length, cond]; omega) | (show (-9223372036854775808 : Int) ≤ _ ∧ _ ≤ (9223372036854775807 : Int); omega) | decide) ?_
    conv => whnf
    (conv => whnf); refine And.intro ⟨rfl, by show o + (i : Int).toNat + 1 ≤ _; rw [l8_len, putN_len]; omega⟩ ?_
    (conv => whnf); refine And.intro (by first | omega | (dsimp only [List.length, cond]; omega) | (show (-9223372036854775808 : Int) ≤ _ ∧ _ ≤ (9223372036854775807 : Int); omega) | decide) ?_
    conv => whnf
    refine ⟨4 - (i + 1), by omega, i + 1, rfl, ?_, by omega, rfl⟩
    show [Obj.arr _ (setV (l8 (putN o n i cs)) (o + i) [.int .u8 (wr .u8 (n / 2 ^ (min (8 * (i : Int)).toNat 32)))])] = _
    rw [p256 i (by omega) 32 (by omega), l8_set (by rw [putN_len]; omega)]
    rfl
  · obtain rfl : i = 4 := by omega
    exact Is2.mk rfl
end Go.Proofs.YtofkdfodehfpdaaGreat

/- Package cipher: blocks. -/
namespace Go.Proofs.YtofkdfodehfpdaaGreat
open Go.V Go.Num
open Go.Eng (wr)
set_option maxRecDepth 100000
set_option maxHeartbeats 4000000
theorem ext_getD {a b : List Int} (hl : a.length = b.length) (h : ∀ j, j < a.length → a.getD j 0 = b.getD j 0) : a = b := by
  apply List.ext_getElem?
  intro j
  rcases Nat.lt_or_ge j a.length with h1 | h1
  · have := h j h1
    rw [List.getD_eq_getElem?_getD, List.getD_eq_getElem?_getD, List.getElem?_eq_getElem h1, List.getElem?_eq_getElem (by omega)] at this
    rw [List.getElem?_eq_getElem h1, List.getElem?_eq_getElem (by omega)]
    simpa using this
  · rw [List.getElem?_eq_none h1, List.getElem?_eq_none (by omega)]
theorem l32_ix1 {a : List Int} {i : Nat} (h : i < a.length) : (l32 a)[(i : Int).toNat * 1]? = some (.int .u32 (a.getD i 0)) := by
  rw [Nat.mul_one, Int.toNat_natCast]; exact l32_get h
theorem nm4_drop (b : List Int) (k : Nat) : nm4 (b.drop k) 0 = nm4 b k := by
  have e : ∀ i, (b.drop k).getD i 0 = b.getD (k + i) 0 := fun i => by
    rw [List.getD_eq_getElem?_getD, List.getElem?_drop, List.getD_eq_getElem?_getD]
  unfold nm4; rw [e, e, e, e]; rfl
theorem nm4_take (b : List Int) (k : Nat) (h : 4 ≤ k) : nm4 (b.take k) 0 = nm4 b 0 := by
  have e : ∀ i, i < 4 → (b.take k).getD i 0 = b.getD i 0 := fun i hi => by
    rw [List.getD_eq_getElem?_getD, List.getElem?_take, if_pos (by omega), List.getD_eq_getElem?_getD]
  unfold nm4; rw [e 0 (by omega), e _ (by omega), e _ (by omega), e _ (by omega)]
/-- The first rows of a state, as far as they are laid. -/
def stA (key : List Int) : Nat → List Int
  | 0 => [0x61707865, 0x3320646e, 0x79622d32, 0x6b206574, 0, 0, 0, 0, 0, 0, 0, 0, 0, 0, 0, 0]
  | i + 1 => (stA key i).set (4 + i) (nm4 key (4 * i))
def stB (key : List Int) (ctr : Int) (nonce : List Int) : Nat → List Int
  | 0 => (stA key 8).set 12 ctr
  | i + 1 => (stB key ctr nonce i).set (13 + i) (nm4 nonce (4 * i))
theorem stA_len (key : List Int) : ∀ i, (stA key i).length = 16
  | 0 => rfl
  | i + 1 => by simp [stA, stA_len key i]
theorem stB_len (key : List Int) (ctr : Int) (nonce : List Int) : ∀ i, (stB key ctr nonce i).length = 16
  | 0 => by simp [stB, stA_len]
  | i + 1 => by simp [stB, stB_len key ctr nonce i]
theorem stB3 (key : List Int) (ctr : Int) (nonce : List Int) : stB key ctr nonce 3 = startL key ctr nonce := rfl
theorem l8_sl {xs : List Int} {f l h : Nat} : ((l8 xs).drop (f + l)).take h = l8 ((xs.drop (f + l)).take h) := by rw [List.map_drop.symm, List.map_take.symm]
theorem num_sl (b : List Int) {i f n : Nat} (h : f + 4 * i + 4 ≤ b.length) (h2 : 4 * i + 4 ≤ n) : Ct Tryz.prog 117 [.d (.ro (((l8 b).drop (f + (4 * (i : Int)).toNat)).take (n - (4 * (i : Int)).toNat)))] [] (Is2 (u32 (nm4 b (f + 4 * i))) []) := by
  have e : (4 * (i : Int)).toNat = 4 * i := by omega
  rw [e, l8_sl]
  have := number_ct ((b.drop (f + 4 * i)).take (n - 4 * i)) (by rw [List.length_take, List.length_drop]; omega)
  rw [nm4_take _ _ (by omega), nm4_drop] at this
  exact this
theorem start_ct (key nonce : List Int) (ctr : Int) (hk : key.length = 32) (hn : nonce.length = 12) : Ct Tryz.prog 113 [A8 key, u32 ctr, A8 nonce] [] (Is2 (A32 (startL key ctr nonce)) []) := by
  refine Ct.introF (E := E 36 0 [.cell 6 154] [] [(3, [1, 3, 5, 6, 7, 11]), (9, [5, 6, 7, 24])] [(2, [.fz 3, .fz 5])]) tab_ok Tryz.call113 Tryz.func113 rfl rfl rfl rfl rfl (fun hin => ?_)
  (conv => whnf); refine And.intro (by first | omega | (dsimp only [List.length, cond]; omega) | (show (-9223372036854775808 : Int) ≤ _ ∧ _ ≤ (9223372036854775807 : Int); omega) | decide) ?_
  (conv => whnf); refine LoopI.mk (fun n vs os => ∃ i : Nat, vs = [u32 ctr, .rp (l8 key) 0, .rp (l8 nonce) 0, .ptr 0 0, .ptr 1 0, i64 i] ∧ os = [.arr 154 (l32 (List.replicate 16 0)), .arr 154 (l32 (stA key i))] ∧ i ≤ 8 ∧ n = 8 - i) 8 ⟨0, rfl, rfl, by omega, rfl⟩ ?_
  · rintro n _ _ ⟨i, rfl, rfl, h1, rfl⟩
    (conv => whnf); refine cond_d (fun h2 => ?_) (fun h2 => ?_)
    · (conv => whnf); refine And.intro (by first | omega | (dsimp only [List.length, cond]; omega) | (show (-9223372036854775808 : Int) ≤ _ ∧ _ ≤ (9223372036854775807 : Int); omega) | decide) ?_
      (conv => whnf); refine And.intro (by first | omega | (dsimp only [List.length, cond]; omega) | (show (-9223372036854775808 : Int) ≤ _ ∧ _ ≤ (9223372036854775807 : Int); omega) | decide) ?_
      (conv => whnf); refine And.intro ⟨by show 0 + 32 ≤ _; rw [l8_len]; omega, by decide⟩ ?_
      (conv => whnf)
      (conv => whnf); refine And.intro (by omega) ?_
      have hc := num_sl key (i := i) (f := 0) (n := 32) (by omega) (by omega)
      (conv => whnf); refine (hc).use ?_
      (conv => whnf); refine And.intro (by first | omega | (dsimp only [List.length, cond]; omega) | (show (-9223372036854775808 : Int) ≤ _ ∧ _ ≤ (9223372036854775807 : Int); omega) | decide) ?_
      have e : 0 + (4 + (i : Int)).toNat * 1 = 4 + i := by omega
      (conv => whnf)
      (conv => whnf); refine And.intro ⟨rfl, by show 0 + (4 + (i : Int)).toNat * 1 + 1 ≤ _; rw [e, l32_len, stA_len]; omega⟩ ?_
      (conv => whnf); refine And.intro (by first | omega | (dsimp only [List.length, cond]; omega) | (show (-9223372036854775808 : Int) ≤ _ ∧ _ ≤ (9223372036854775807 : Int); omega) | decide) ?_
      (conv => whnf)
      refine ⟨8 - (i + 1), by omega, i + 1, rfl, ?_, by omega, rfl⟩
      show [_, Obj.arr _ (setV (l32 (stA key i)) (0 + (4 + (i : Int)).toNat * 1) [.int .u32 (nm4 key (0 + 4 * i))])] = _
      rw [e, l32_set (by rw [stA_len]; omega), Nat.zero_add]; rfl
    · obtain rfl : i = 8 := by omega
      (conv => whnf); refine And.intro (by omega) ?_
      (conv => whnf)
      (conv => whnf); refine And.intro ⟨rfl, by show 12 + 1 ≤ _; rw [l32_len, stA_len]; omega⟩ ?_
      (conv => whnf); refine LoopI.mk (fun n vs os => ∃ i : Nat, vs = [.rp (l8 nonce) 0, .ptr 0 0, .ptr 1 0, i64 i] ∧ os = [.arr 154 (l32 (List.replicate 16 0)), .arr 154 (l32 (stB key ctr nonce i))] ∧ i ≤ 3 ∧ n = 3 - i) 3 ⟨0, rfl, ?_, by omega, rfl⟩ ?_
      · show [_, Obj.arr _ (setV (l32 (stA key 8)) 12 [.int .u32 ctr])] = _
        rw [l32_set (by rw [stA_len]; omega)]; rfl
      rintro n _ _ ⟨i, rfl, rfl, h1, rfl⟩
      (conv => whnf); refine cond_d (fun h2 => ?_) (fun h2 => ?_)
      · (conv => whnf); refine And.intro (by first | omega | (dsimp only [List.length, cond]; omega) | (show (-9223372036854775808 : Int) ≤ _ ∧ _ ≤ (9223372036854775807 : Int); omega) | decide) ?_
        (conv => whnf); refine And.intro (by first | omega | (dsimp only [List.length, cond]; omega) | (show (-9223372036854775808 : Int) ≤ _ ∧ _ ≤ (9223372036854775807 : Int); omega) | decide) ?_
        (conv => whnf); refine And.intro ⟨by show 0 + 12 ≤ _; rw [l8_len]; omega, by decide⟩ ?_
        (conv => whnf)
        (conv => whnf); refine And.intro (by omega) ?_
        have hc := num_sl nonce (i := i) (f := 0) (n := 12) (by omega) (by omega)
        (conv => whnf); refine (hc).use ?_
        (conv => whnf); refine And.intro (by first | omega | (dsimp only [List.length, cond]; omega) | (show (-9223372036854775808 : Int) ≤ _ ∧ _ ≤ (9223372036854775807 : Int); omega) | decide) ?_
        have e : 0 + (13 + (i : Int)).toNat * 1 = 13 + i := by omega
        (conv => whnf)
        (conv => whnf); refine And.intro ⟨rfl, by show 0 + (13 + (i : Int)).toNat * 1 + 1 ≤ _; rw [e, l32_len, stB_len]; omega⟩ ?_
        (conv => whnf); refine And.intro (by first | omega | (dsimp only [List.length, cond]; omega) | (show (-9223372036854775808 : Int) ≤ _ ∧ _ ≤ (9223372036854775807 : Int); omega) | decide) ?_
        (conv => whnf)
        refine ⟨3 - (i + 1), by omega, i + 1, rfl, ?_, by omega, rfl⟩
        show [_, Obj.arr _ (setV (l32 (stB key ctr nonce i)) (0 + (13 + (i : Int)).toNat * 1) [.int .u32 (nm4 nonce (0 + 4 * i))])] = _
        rw [e, l32_set (by rw [stB_len]; omega), Nat.zero_add]; rfl
      · obtain rfl : i = 3 := by omega
        have hl : (l32 (stB key ctr nonce 3)).length = 16 := by rw [l32_len, stB_len]
        (conv => whnf); refine And.intro hl ?_
        (conv => whnf)
        (conv => whnf); refine And.intro ⟨hl, rfl⟩ ?_
        (conv => whnf)
        (conv => whnf); refine And.intro hl ?_
        (conv => whnf); refine And.intro hl ?_
        exact Is2.mk rfl
def blkP (key : List Int) (ctr : Int) (nonce : List Int) (i : Nat) (cs : List Int) : Prop := cs.length = 64 ∧ ∀ j, j < 4 * i → cs.getD j 0 = (blkL key ctr nonce).getD j 0
theorem blkP_full {key : List Int} {ctr : Int} {nonce : List Int} {cs : List Int} (h : blkP key ctr nonce 16 cs) : cs = blkL key ctr nonce := ext_getD (by rw [h.1, blkL_len]) (fun j hj => h.2 j (by rw [h.1] at hj; omega))
theorem blkP_step {key : List Int} {ctr : Int} {nonce : List Int} {i : Nat} {cs : List Int} (hi : i < 16) (h : blkP key ctr nonce i cs) : blkP key ctr nonce (i + 1) (putN (4 * i) (sumL key ctr nonce i) 4 cs) := by
  refine ⟨by rw [putN_len]; exact h.1, fun j hj => ?_⟩
  rw [putN_at _ _ _ _ _ (by rw [h.1]; omega)]
  by_cases e : 4 * i ≤ j
  · rw [if_pos ⟨e, by omega⟩, blkL_at _ _ _ (by omega), show j / 4 = i from by omega, show j - 4 * i = j % 4 from by omega]
  · rw [if_neg (by omega)]; exact h.2 j (by omega)
theorem Block_ct (key nonce : List Int) (ctr : Int) (hk : key.length = 32) (hn : nonce.length = 12) : Ct Tryz.prog 109 [A8 key, u32 ctr, A8 nonce] [] (Is2 (A8 (blkL key ctr nonce)) []) := by
  refine Ct.introF (E := E 38 0 [.cell 6 129] [] [(4, [6, 7, 8, 17]), (10, [6, 7, 9, 22, 23])] []) tab_ok Tryz.call109 Tryz.func109 rfl rfl rfl rfl rfl (fun hin => ?_)
  have hk' : (l8 key).length = 32 := by rw [l8_len, hk]
  have hn' : (l8 nonce).length = 12 := by rw [l8_len, hn]
  have hs' : (l32 (startL key ctr nonce)).length = 16 := by rw [l32_len]; rfl
  (conv => whnf); refine And.intro hk' ?_
  (conv => whnf); refine And.intro hn' ?_
  (conv => whnf); refine (start_ct key nonce ctr hk hn).use ?_
  (conv => whnf)
  (conv => whnf); refine And.intro ⟨hs', rfl⟩ ?_
  (conv => whnf); refine And.intro hs' ?_
  (conv => whnf)
  (conv => whnf); refine And.intro ⟨hs', rfl⟩ ?_
  (conv => whnf); refine LoopI.mk (fun n vs os => ∃ i : Nat, vs = [.ptr 0 0, .ptr 1 0, .ptr 2 0, i64 i] ∧ os = [.arr 129 (l8 (List.replicate 64 0)), .arr 154 (l32 (startL key ctr nonce)), .arr 154 (l32 (rndN i (startL key ctr nonce)))] ∧ i ≤ 10 ∧ n = 10 - i) 10 ⟨0, rfl, rfl, by omega, rfl⟩ ?_
  rintro n _ _ ⟨i, rfl, rfl, h1, rfl⟩
  have hl0 : (rndN i (startL key ctr nonce)).length = 16 := (rndN_len _ _).trans rfl
  (conv => whnf); refine cond_d (fun h2 => ?_) (fun h2 => ?_)
  · (conv => whnf); refine (columns_ct (rndN i (startL key ctr nonce)) hl0).use ?_
    (conv => whnf); refine (slopes_ct (colL (rndN i (startL key ctr nonce))) (by simp [colL, qL_len, hl0])).use ?_
    (conv => whnf); refine And.intro (by first | omega | (dsimp only [List.length, cond]; omega) | (show (-9223372036854775808 : Int) ≤ _ ∧ _ ≤ (9223372036854775807 : Int); omega) | decide) ?_
    (conv => whnf)
    exact ⟨10 - (i + 1), by omega, i + 1, rfl, rfl, by omega, rfl⟩
  obtain rfl : i = 10 := by omega
  have hr' : (l32 (rndN 10 (startL key ctr nonce))).length = 16 := by rw [l32_len]; exact hl0
  (conv => whnf); refine And.intro hr' ?_
  (conv => whnf); refine LoopI.mk (fun n vs os => ∃ S G i cs, vs = [.ptr 0 0, .ptr 1 0, .ptr 2 0, A32 S, i64 (i : Nat)] ∧ os = [.arr 129 (l8 (List.replicate 64 0)), .arr 154 (l32 G), .arr 129 (l8 cs)] ∧ i ≤ 16 ∧ blkP key ctr nonce i cs ∧ S.length = 16 ∧ G.length = 16 ∧ (∀ j, sumL key ctr nonce j = ad (S.getD j 0) (G.getD j 0)) ∧ n = 16 - i) 16 ⟨rndN 10 (startL key ctr nonce), startL key ctr nonce, 0, List.replicate 64 0, rfl, rfl, by omega, ⟨rfl, fun j hj => by omega⟩, hl0, rfl, fun _ => rfl, rfl⟩ ?_
  rintro n _ _ ⟨S, G, i, cs, rfl, rfl, h1, hp, hS, hG, hsum, rfl⟩
  clear hl0 hr' hs'
  (conv => whnf); refine cond_d (fun h2 => ?_) (fun h2 => ?_)
  · (conv => whnf); refine And.intro (by omega) ?_
    (conv => whnf)
    (conv => whnf); refine Idx.mk (.int .u32 (S.getD i 0)) (l32_ix1 (by omega)) ?_
    (conv => whnf); refine DrawI.mkF 8 [[10], [27], [9, 28], [11], [10], [7, 31], [32], [30, 33]] (by decide +kernel) ?_
    repeat (first | refine DrawO.mkF _ (And.intro rfl rfl) ?_ | refine DrawO.mkF _ (Idx.mk _ rfl (And.intro rfl rfl)) ?_)
    refine DrawO.mkF _ (And.intro (by first | omega | (dsimp only [List.length, cond]; omega) | decide) (And.intro rfl rfl)) ?_
    refine DrawO.mkF _ (And.intro (by omega) (And.intro (by omega) (And.intro rfl rfl))) ?_
    repeat (first | refine DrawO.mkF _ (And.intro rfl rfl) ?_ | refine DrawO.mkF _ (Idx.mk _ rfl (And.intro rfl rfl)) ?_)
    refine DrawO.mkF _ (And.intro (by first | omega | (dsimp only [List.length, cond]; omega) | decide) (And.intro rfl rfl)) ?_
    refine DrawO.mkF (u32 (G.getD i 0)) (Idx.mk _ (l32_ix (by omega)) (And.intro rfl rfl)) ?_
    repeat (first | refine DrawO.mkF _ (And.intro rfl rfl) ?_ | refine DrawO.mkF _ (Idx.mk _ rfl (And.intro rfl rfl)) ?_)
    have e4 : 0 + (4 * (i : Int)).toNat = 4 * i := by omega
    have hput := put_ct cs (0 + (4 * (i : Int)).toNat) (64 - (4 * (i : Int)).toNat) (ad (S.getD i 0) (G.getD i 0)) (by have := hp.1; omega) (by omega)
    (conv => whnf); refine (hput).use ?_
    (conv => whnf); refine And.intro (by first | omega | (dsimp only [List.length, cond]; omega) | (show (-9223372036854775808 : Int) ≤ _ ∧ _ ≤ (9223372036854775807 : Int); omega) | decide) ?_
    (conv => whnf)
    exact ⟨16 - (i + 1), by omega, S, G, i + 1, putN (0 + (4 * (i : Int)).toNat) (ad (S.getD i 0) (G.getD i 0)) 4 cs, rfl, rfl, by omega, by rw [e4, ← hsum]; exact blkP_step (by omega) hp, hS, hG, hsum, rfl⟩
  · obtain rfl : i = 16 := by omega
    have hl : (l8 cs).length = 64 := by rw [l8_len]; exact hp.1
    (conv => whnf); refine And.intro hl ?_
    (conv => whnf)
    (conv => whnf); refine And.intro ⟨hl, rfl⟩ ?_
    (conv => whnf); refine And.intro hl ?_
    (conv => whnf); refine And.intro hl ?_
    rw [← blkP_full hp]
    exact Is2.mk rfl
end Go.Proofs.YtofkdfodehfpdaaGreat

/- The reference's cipher: quarter rounds. -/
namespace Go.Proofs.YtofkdfodehfpdaaGreat
open Go.V Go.Num
open Go.Eng (wr)
set_option maxRecDepth 100000
set_option maxHeartbeats 4000000
theorem l32_sc {a : List Int} {i : Nat} {x : Int} (h : i < a.length) : setV (l32 a) (0 + (i : Int).toNat * 1) (D.int .u32 x).cells = l32 (a.set i x) := l32_st h
theorem l32_ge {a : List Int} {i : Nat} {y : Int} (h : i < a.length) (e : a.getD i 0 = y) : (l32 a)[0 + (i : Int).toNat * 1]? = some (.int .u32 y) := by rw [l32_ix h, e]
def stO (s : List Int) : List V.Obj := [.arr 144 (l32 s), .arr 144 (l32 (List.replicate 16 0))]
theorem rQuarter_ct (s : List Int) (a b c d : Nat) (hs : s.length = 16) (ha : a < 16) (hb : b < 16) (hc : c < 16) (hd : d < 16) (hab : a ≠ b) (hac : a ≠ c) (had : a ≠ d) (hbc : b ≠ c) (hbd : b ≠ d) (hcd : c ≠ d) :
    Ct Tryz.prog 100 [A32 s, i64 a, i64 b, i64 c, i64 d] [] (Is2 (A32 (qL s a b c d)) []) := by
  refine Ct.introF (E := E 84 0 [.cell 10 144] [(2, [1, 2, 3, 4, 5, 10]), (3, [1, 2, 3, 4, 5, 10]), (4, [1, 2, 3, 4, 5, 10]), (5, [1, 2, 3, 4, 5, 10]), (6, [1, 2, 3, 4, 5, 10]), (7, [2, 3, 4, 5, 10]), (8, [2, 3, 5, 10]), (9, [5, 10])] [] []) tab_ok Tryz.call100 Tryz.func100 rfl rfl rfl rfl rfl (fun hin => ?_)
  obtain ⟨a1, ha1⟩ : ∃ z, z = ad (s.getD a 0) (s.getD b 0) := ⟨_, rfl⟩
  (conv => whnf); refine JoinI.mk (fun vs os => vs = [i64 a, i64 b, i64 c, i64 d, .ptr 0 0, .ptr 1 0] ∧ os = stO (s.set a a1)) ?_ ?_
  · (conv => whnf); refine DrawI.mkF 6 [[1], [5, 11], [12], [2], [5, 14], [15]] (by decide +kernel) ?_
    repeat (first | refine DrawO.mkF _ (And.intro rfl rfl) ?_ | refine DrawO.mkF _ (Idx.mk _ rfl (And.intro rfl rfl)) ?_)
    refine DrawO.mkF _ (And.intro (by first | omega | (dsimp only [List.length, cond]; omega) | decide) (And.intro rfl rfl)) ?_
    refine DrawO.mkF (u32 (s.getD a 0)) (Idx.mk _ (l32_ge (by first | omega | (simp only [List.length_set]; omega)) (by first | rfl | simp [getD_set, List.length_set, hs, ha, hb, hc, hd, hab, hac, had, hbc, hbd, hcd, Ne.symm hab, Ne.symm hac, Ne.symm had, Ne.symm hbc, Ne.symm hbd, Ne.symm hcd])) (And.intro rfl rfl)) ?_
    repeat (first | refine DrawO.mkF _ (And.intro rfl rfl) ?_ | refine DrawO.mkF _ (Idx.mk _ rfl (And.intro rfl rfl)) ?_)
    refine DrawO.mkF _ (And.intro (by first | omega | (dsimp only [List.length, cond]; omega) | decide) (And.intro rfl rfl)) ?_
    refine DrawO.mkF (u32 (s.getD b 0)) (Idx.mk _ (l32_ge (by first | omega | (simp only [List.length_set]; omega)) (by first | rfl | simp [getD_set, List.length_set, hs, ha, hb, hc, hd, hab, hac, had, hbc, hbd, hcd, Ne.symm hab, Ne.symm hac, Ne.symm had, Ne.symm hbc, Ne.symm hbd, Ne.symm hcd])) (And.intro rfl rfl)) ?_
    repeat (first | refine DrawO.mkF _ (And.intro rfl rfl) ?_ | refine DrawO.mkF _ (Idx.mk _ rfl (And.intro rfl rfl)) ?_)
    (conv => whnf); refine And.intro (by omega) ?_
    (conv => whnf)
    (conv => whnf); refine And.intro ⟨rfl, by show 0 + (a : Int).toNat * 1 + 1 ≤ _; first | (rw [l32_len]; simp only [List.length_set]; omega) | (show _ ≤ (l32 s).length; rw [l32_len]; omega)⟩ ?_
    (conv => whnf)
    refine ⟨rfl, ?_⟩
    show [Obj.arr _ (setV (l32 s) (0 + (a : Int).toNat * 1) (D.int .u32 (ad (s.getD a 0) (s.getD b 0))).cells), _] = _
    rw [← ha1, l32_sc (by first | omega | (simp only [List.length_set]; omega))]; rfl
  rintro _ _ ⟨rfl, rfl⟩
  obtain ⟨d1, hd1⟩ : ∃ z, z = rt (xr (s.getD d 0) (a1)) 16 := ⟨_, rfl⟩
  (conv => whnf); refine JoinI.mk (fun vs os => vs = [i64 a, i64 b, i64 c, i64 d, .ptr 0 0, .ptr 1 0] ∧ os = stO ((s.set a a1).set d d1)) ?_ ?_
  · (conv => whnf); refine DrawI.mkF 9 [[4], [4], [5, 20], [21], [1], [5, 23], [24], [22, 25], [26]] (by decide +kernel) ?_
    repeat (first | refine DrawO.mkF _ (And.intro rfl rfl) ?_ | refine DrawO.mkF _ (Idx.mk _ rfl (And.intro rfl rfl)) ?_)
    refine DrawO.mkF _ (And.intro (by first | omega | (dsimp only [List.length, cond]; omega) | decide) (And.intro rfl rfl)) ?_
    refine DrawO.mkF (u32 (s.getD d 0)) (Idx.mk _ (l32_ge (by first | omega | (simp only [List.length_set]; omega)) (by first | rfl | simp [getD_set, List.length_set, hs, ha, hb, hc, hd, hab, hac, had, hbc, hbd, hcd, Ne.symm hab, Ne.symm hac, Ne.symm had, Ne.symm hbc, Ne.symm hbd, Ne.symm hcd])) (And.intro rfl rfl)) ?_
    repeat (first | refine DrawO.mkF _ (And.intro rfl rfl) ?_ | refine DrawO.mkF _ (Idx.mk _ rfl (And.intro rfl rfl)) ?_)
    refine DrawO.mkF _ (And.intro (by first | omega | (dsimp only [List.length, cond]; omega) | decide) (And.intro rfl rfl)) ?_
    refine DrawO.mkF (u32 (a1)) (Idx.mk _ (l32_ge (by first | omega | (simp only [List.length_set]; omega)) (by first | rfl | simp [getD_set, List.length_set, hs, ha, hb, hc, hd, hab, hac, had, hbc, hbd, hcd, Ne.symm hab, Ne.symm hac, Ne.symm had, Ne.symm hbc, Ne.symm hbd, Ne.symm hcd])) (And.intro rfl rfl)) ?_
    repeat (first | refine DrawO.mkF _ (And.intro rfl rfl) ?_ | refine DrawO.mkF _ (Idx.mk _ rfl (And.intro rfl rfl)) ?_)
    refine DrawO.mkF (u32 d1) ((turn_ct (xr (s.getD d 0) (a1)) 16 (by decide)).use (by rw [← hd1]; exact And.intro rfl rfl)) ?_
    (conv => whnf); refine And.intro (by omega) ?_
    (conv => whnf)
    (conv => whnf); refine And.intro ⟨rfl, by show 0 + (d : Int).toNat * 1 + 1 ≤ _; first | (rw [l32_len]; simp only [List.length_set]; omega) | (show _ ≤ (l32 s).length; rw [l32_len]; omega)⟩ ?_
    (conv => whnf)
    refine ⟨rfl, ?_⟩
    show [Obj.arr _ (setV (l32 (s.set a a1)) (0 + (d : Int).toNat * 1) (D.int .u32 d1).cells), _] = _
    rw [l32_sc (by first | omega | (simp only [List.length_set]; omega))]; rfl
  rintro _ _ ⟨rfl, rfl⟩
  obtain ⟨c1, hc1⟩ : ∃ z, z = ad (s.getD c 0) (d1) := ⟨_, rfl⟩
  (conv => whnf); refine JoinI.mk (fun vs os => vs = [i64 a, i64 b, i64 c, i64 d, .ptr 0 0, .ptr 1 0] ∧ os = stO (((s.set a a1).set d d1).set c c1)) ?_ ?_
  · (conv => whnf); refine DrawI.mkF 6 [[3], [5, 29], [30], [4], [5, 32], [33]] (by decide +kernel) ?_
    repeat (first | refine DrawO.mkF _ (And.intro rfl rfl) ?_ | refine DrawO.mkF _ (Idx.mk _ rfl (And.intro rfl rfl)) ?_)
    refine DrawO.mkF _ (And.intro (by first | omega | (dsimp only [List.length, cond]; omega) | decide) (And.intro rfl rfl)) ?_
    refine DrawO.mkF (u32 (s.getD c 0)) (Idx.mk _ (l32_ge (by first | omega | (simp only [List.length_set]; omega)) (by first | rfl | simp [getD_set, List.length_set, hs, ha, hb, hc, hd, hab, hac, had, hbc, hbd, hcd, Ne.symm hab, Ne.symm hac, Ne.symm had, Ne.symm hbc, Ne.symm hbd, Ne.symm hcd])) (And.intro rfl rfl)) ?_
    repeat (first | refine DrawO.mkF _ (And.intro rfl rfl) ?_ | refine DrawO.mkF _ (Idx.mk _ rfl (And.intro rfl rfl)) ?_)
    refine DrawO.mkF _ (And.intro (by first | omega | (dsimp only [List.length, cond]; omega) | decide) (And.intro rfl rfl)) ?_
    refine DrawO.mkF (u32 (d1)) (Idx.mk _ (l32_ge (by first | omega | (simp only [List.length_set]; omega)) (by first | rfl | simp [getD_set, List.length_set, hs, ha, hb, hc, hd, hab, hac, had, hbc, hbd, hcd, Ne.symm hab, Ne.symm hac, Ne.symm had, Ne.symm hbc, Ne.symm hbd, Ne.symm hcd])) (And.intro rfl rfl)) ?_
    repeat (first | refine DrawO.mkF _ (And.intro rfl rfl) ?_ | refine DrawO.mkF _ (Idx.mk _ rfl (And.intro rfl rfl)) ?_)
    (conv => whnf); refine And.intro (by omega) ?_
    (conv => whnf)
    (conv => whnf); refine And.intro ⟨rfl, by show 0 + (c : Int).toNat * 1 + 1 ≤ _; first | (rw [l32_len]; simp only [List.length_set]; omega) | (show _ ≤ (l32 s).length; rw [l32_len]; omega)⟩ ?_
    (conv => whnf)
    refine ⟨rfl, ?_⟩
    show [Obj.arr _ (setV (l32 ((s.set a a1).set d d1)) (0 + (c : Int).toNat * 1) (D.int .u32 (ad (s.getD c 0) (d1))).cells), _] = _
    rw [← hc1, l32_sc (by first | omega | (simp only [List.length_set]; omega))]; rfl
  rintro _ _ ⟨rfl, rfl⟩
  obtain ⟨b1, hb1⟩ : ∃ z, z = rt (xr (s.getD b 0) (c1)) 12 := ⟨_, rfl⟩
  (conv => whnf); refine JoinI.mk (fun vs os => vs = [i64 a, i64 b, i64 c, i64 d, .ptr 0 0, .ptr 1 0] ∧ os = stO ((((s.set a a1).set d d1).set c c1).set b b1)) ?_ ?_
  · (conv => whnf); refine DrawI.mkF 9 [[2], [2], [5, 38], [39], [3], [5, 41], [42], [40, 43], [44]] (by decide +kernel) ?_
    repeat (first | refine DrawO.mkF _ (And.intro rfl rfl) ?_ | refine DrawO.mkF _ (Idx.mk _ rfl (And.intro rfl rfl)) ?_)
    refine DrawO.mkF _ (And.intro (by first | omega | (dsimp only [List.length, cond]; omega) | decide) (And.intro rfl rfl)) ?_
    refine DrawO.mkF (u32 (s.getD b 0)) (Idx.mk _ (l32_ge (by first | omega | (simp only [List.length_set]; omega)) (by first | rfl | simp [getD_set, List.length_set, hs, ha, hb, hc, hd, hab, hac, had, hbc, hbd, hcd, Ne.symm hab, Ne.symm hac, Ne.symm had, Ne.symm hbc, Ne.symm hbd, Ne.symm hcd])) (And.intro rfl rfl)) ?_
    repeat (first | refine DrawO.mkF _ (And.intro rfl rfl) ?_ | refine DrawO.mkF _ (Idx.mk _ rfl (And.intro rfl rfl)) ?_)
    refine DrawO.mkF _ (And.intro (by first | omega | (dsimp only [List.length, cond]; omega) | decide) (And.intro rfl rfl)) ?_
    refine DrawO.mkF (u32 (c1)) (Idx.mk _ (l32_ge (by first | omega | (simp only [List.length_set]; omega)) (by first | rfl | simp [getD_set, List.length_set, hs, ha, hb, hc, hd, hab, hac, had, hbc, hbd, hcd, Ne.symm hab, Ne.symm hac, Ne.symm had, Ne.symm hbc, Ne.symm hbd, Ne.symm hcd])) (And.intro rfl rfl)) ?_
    repeat (first | refine DrawO.mkF _ (And.intro rfl rfl) ?_ | refine DrawO.mkF _ (Idx.mk _ rfl (And.intro rfl rfl)) ?_)
    refine DrawO.mkF (u32 b1) ((turn_ct (xr (s.getD b 0) (c1)) 12 (by decide)).use (by rw [← hb1]; exact And.intro rfl rfl)) ?_
    (conv => whnf); refine And.intro (by omega) ?_
    (conv => whnf)
    (conv => whnf); refine And.intro ⟨rfl, by show 0 + (b : Int).toNat * 1 + 1 ≤ _; first | (rw [l32_len]; simp only [List.length_set]; omega) | (show _ ≤ (l32 s).length; rw [l32_len]; omega)⟩ ?_
    (conv => whnf)
    refine ⟨rfl, ?_⟩
    show [Obj.arr _ (setV (l32 (((s.set a a1).set d d1).set c c1)) (0 + (b : Int).toNat * 1) (D.int .u32 b1).cells), _] = _
    rw [l32_sc (by first | omega | (simp only [List.length_set]; omega))]; rfl
  rintro _ _ ⟨rfl, rfl⟩
  obtain ⟨a2, ha2⟩ : ∃ z, z = ad (a1) (b1) := ⟨_, rfl⟩
  (conv => whnf); refine JoinI.mk (fun vs os => vs = [i64 a, i64 b, i64 c, i64 d, .ptr 0 0, .ptr 1 0] ∧ os = stO (((((s.set a a1).set d d1).set c c1).set b b1).set a a2)) ?_ ?_
  · (conv => whnf); refine DrawI.mkF 6 [[1], [5, 47], [48], [2], [5, 50], [51]] (by decide +kernel) ?_
    repeat (first | refine DrawO.mkF _ (And.intro rfl rfl) ?_ | refine DrawO.mkF _ (Idx.mk _ rfl (And.intro rfl rfl)) ?_)
    refine DrawO.mkF _ (And.intro (by first | omega | (dsimp only [List.length, cond]; omega) | decide) (And.intro rfl rfl)) ?_
    refine DrawO.mkF (u32 (a1)) (Idx.mk _ (l32_ge (by first | omega | (simp only [List.length_set]; omega)) (by first | rfl | simp [getD_set, List.length_set, hs, ha, hb, hc, hd, hab, hac, had, hbc, hbd, hcd, Ne.symm hab, Ne.symm hac, Ne.symm had, Ne.symm hbc, Ne.symm hbd, Ne.symm hcd])) (And.intro rfl rfl)) ?_
    repeat (first | refine DrawO.mkF _ (And.intro rfl rfl) ?_ | refine DrawO.mkF _ (Idx.mk _ rfl (And.intro rfl rfl)) ?_)
    refine DrawO.mkF _ (And.intro (by first | omega | (dsimp only [List.length, cond]; omega) | decide) (And.intro rfl rfl)) ?_
    refine DrawO.mkF (u32 (b1)) (Idx.mk _ (l32_ge (by first | omega | (simp only [List.length_set]; omega)) (by first | rfl | simp [getD_set, List.length_set, hs, ha, hb, hc, hd, hab, hac, had, hbc, hbd, hcd, Ne.symm hab, Ne.symm hac, Ne.symm had, Ne.symm hbc, Ne.symm hbd, Ne.symm hcd])) (And.intro rfl rfl)) ?_
    repeat (first | refine DrawO.mkF _ (And.intro rfl rfl) ?_ | refine DrawO.mkF _ (Idx.mk _ rfl (And.intro rfl rfl)) ?_)
    (conv => whnf); refine And.intro (by omega) ?_
    (conv => whnf)
    (conv => whnf); refine And.intro ⟨rfl, by show 0 + (a : Int).toNat * 1 + 1 ≤ _; first | (rw [l32_len]; simp only [List.length_set]; omega) | (show _ ≤ (l32 s).length; rw [l32_len]; omega)⟩ ?_
    (conv => whnf)
    refine ⟨rfl, ?_⟩
    show [Obj.arr _ (setV (l32 ((((s.set a a1).set d d1).set c c1).set b b1)) (0 + (a : Int).toNat * 1) (D.int .u32 (ad (a1) (b1))).cells), _] = _
    rw [← ha2, l32_sc (by first | omega | (simp only [List.length_set]; omega))]; rfl
  rintro _ _ ⟨rfl, rfl⟩
  obtain ⟨d2, hd2⟩ : ∃ z, z = rt (xr (d1) (a2)) 8 := ⟨_, rfl⟩
  (conv => whnf); refine JoinI.mk (fun vs os => vs = [i64 b, i64 c, i64 d, .ptr 0 0, .ptr 1 0] ∧ os = stO ((((((s.set a a1).set d d1).set c c1).set b b1).set a a2).set d d2)) ?_ ?_
  · (conv => whnf); refine DrawI.mkF 9 [[4], [4], [5, 56], [57], [1], [5, 59], [60], [58, 61], [62]] (by decide +kernel) ?_
    repeat (first | refine DrawO.mkF _ (And.intro rfl rfl) ?_ | refine DrawO.mkF _ (Idx.mk _ rfl (And.intro rfl rfl)) ?_)
    refine DrawO.mkF _ (And.intro (by first | omega | (dsimp only [List.length, cond]; omega) | decide) (And.intro rfl rfl)) ?_
    refine DrawO.mkF (u32 (d1)) (Idx.mk _ (l32_ge (by first | omega | (simp only [List.length_set]; omega)) (by first | rfl | simp [getD_set, List.length_set, hs, ha, hb, hc, hd, hab, hac, had, hbc, hbd, hcd, Ne.symm hab, Ne.symm hac, Ne.symm had, Ne.symm hbc, Ne.symm hbd, Ne.symm hcd])) (And.intro rfl rfl)) ?_
    repeat (first | refine DrawO.mkF _ (And.intro rfl rfl) ?_ | refine DrawO.mkF _ (Idx.mk _ rfl (And.intro rfl rfl)) ?_)
    refine DrawO.mkF _ (And.intro (by first | omega | (dsimp only [List.length, cond]; omega) | decide) (And.intro rfl rfl)) ?_
    refine DrawO.mkF (u32 (a2)) (Idx.mk _ (l32_ge (by first | omega | (simp only [List.length_set]; omega)) (by first | rfl | simp [getD_set, List.length_set, hs, ha, hb, hc, hd, hab, hac, had, hbc, hbd, hcd, Ne.symm hab, Ne.symm hac, Ne.symm had, Ne.symm hbc, Ne.symm hbd, Ne.symm hcd])) (And.intro rfl rfl)) ?_
    repeat (first | refine DrawO.mkF _ (And.intro rfl rfl) ?_ | refine DrawO.mkF _ (Idx.mk _ rfl (And.intro rfl rfl)) ?_)
    refine DrawO.mkF (u32 d2) ((turn_ct (xr (d1) (a2)) 8 (by decide)).use (by rw [← hd2]; exact And.intro rfl rfl)) ?_
    (conv => whnf); refine And.intro (by omega) ?_
    (conv => whnf)
    (conv => whnf); refine And.intro ⟨rfl, by show 0 + (d : Int).toNat * 1 + 1 ≤ _; first | (rw [l32_len]; simp only [List.length_set]; omega) | (show _ ≤ (l32 s).length; rw [l32_len]; omega)⟩ ?_
    (conv => whnf)
    refine ⟨rfl, ?_⟩
    show [Obj.arr _ (setV (l32 (((((s.set a a1).set d d1).set c c1).set b b1).set a a2)) (0 + (d : Int).toNat * 1) (D.int .u32 d2).cells), _] = _
    rw [l32_sc (by first | omega | (simp only [List.length_set]; omega))]; rfl
  rintro _ _ ⟨rfl, rfl⟩
  obtain ⟨c2, hc2⟩ : ∃ z, z = ad (c1) (d2) := ⟨_, rfl⟩
  (conv => whnf); refine JoinI.mk (fun vs os => vs = [i64 b, i64 c, .ptr 0 0, .ptr 1 0] ∧ os = stO (((((((s.set a a1).set d d1).set c c1).set b b1).set a a2).set d d2).set c c2)) ?_ ?_
  · (conv => whnf); refine DrawI.mkF 6 [[3], [5, 65], [66], [4], [5, 68], [69]] (by decide +kernel) ?_
    repeat (first | refine DrawO.mkF _ (And.intro rfl rfl) ?_ | refine DrawO.mkF _ (Idx.mk _ rfl (And.intro rfl rfl)) ?_)
    refine DrawO.mkF _ (And.intro (by first | omega | (dsimp only [List.length, cond]; omega) | decide) (And.intro rfl rfl)) ?_
    refine DrawO.mkF (u32 (c1)) (Idx.mk _ (l32_ge (by first | omega | (simp only [List.length_set]; omega)) (by first | rfl | simp [getD_set, List.length_set, hs, ha, hb, hc, hd, hab, hac, had, hbc, hbd, hcd, Ne.symm hab, Ne.symm hac, Ne.symm had, Ne.symm hbc, Ne.symm hbd, Ne.symm hcd])) (And.intro rfl rfl)) ?_
    repeat (first | refine DrawO.mkF _ (And.intro rfl rfl) ?_ | refine DrawO.mkF _ (Idx.mk _ rfl (And.intro rfl rfl)) ?_)
    refine DrawO.mkF _ (And.intro (by first | omega | (dsimp only [List.length, cond]; omega) | decide) (And.intro rfl rfl)) ?_
    refine DrawO.mkF (u32 (d2)) (Idx.mk _ (l32_ge (by first | omega | (simp only [List.length_set]; omega)) (by first | rfl | simp [getD_set, List.length_set, hs, ha, hb, hc, hd, hab, hac, had, hbc, hbd, hcd, Ne.symm hab, Ne.symm hac, Ne.symm had, Ne.symm hbc, Ne.symm hbd, Ne.symm hcd])) (And.intro rfl rfl)) ?_
    repeat (first | refine DrawO.mkF _ (And.intro rfl rfl) ?_ | refine DrawO.mkF _ (Idx.mk _ rfl (And.intro rfl rfl)) ?_)
    (conv => whnf); refine And.intro (by omega) ?_
    (conv => whnf)
    (conv => whnf); refine And.intro ⟨rfl, by show 0 + (c : Int).toNat * 1 + 1 ≤ _; first | (rw [l32_len]; simp only [List.length_set]; omega) | (show _ ≤ (l32 s).length; rw [l32_len]; omega)⟩ ?_
    (conv => whnf)
    refine ⟨rfl, ?_⟩
    show [Obj.arr _ (setV (l32 ((((((s.set a a1).set d d1).set c c1).set b b1).set a a2).set d d2)) (0 + (c : Int).toNat * 1) (D.int .u32 (ad (c1) (d2))).cells), _] = _
    rw [← hc2, l32_sc (by first | omega | (simp only [List.length_set]; omega))]; rfl
  rintro _ _ ⟨rfl, rfl⟩
  obtain ⟨b2, hb2⟩ : ∃ z, z = rt (xr (b1) (c2)) 7 := ⟨_, rfl⟩
  (conv => whnf); refine JoinI.mk (fun vs os => vs = [.ptr 0 0, .ptr 1 0] ∧ os = stO ((((((((s.set a a1).set d d1).set c c1).set b b1).set a a2).set d d2).set c c2).set b b2)) ?_ ?_
  · (conv => whnf); refine DrawI.mkF 9 [[2], [2], [5, 74], [75], [3], [5, 77], [78], [76, 79], [80]] (by decide +kernel) ?_
    repeat (first | refine DrawO.mkF _ (And.intro rfl rfl) ?_ | refine DrawO.mkF _ (Idx.mk _ rfl (And.intro rfl rfl)) ?_)
    refine DrawO.mkF _ (And.intro (by first | omega | (dsimp only [List.length, cond]; omega) | decide) (And.intro rfl rfl)) ?_
    refine DrawO.mkF (u32 (b1)) (Idx.mk _ (l32_ge (by first | omega | (simp only [List.length_set]; omega)) (by first | rfl | simp [getD_set, List.length_set, hs, ha, hb, hc, hd, hab, hac, had, hbc, hbd, hcd, Ne.symm hab, Ne.symm hac, Ne.symm had, Ne.symm hbc, Ne.symm hbd, Ne.symm hcd])) (And.intro rfl rfl)) ?_
    repeat (first | refine DrawO.mkF _ (And.intro rfl rfl) ?_ | refine DrawO.mkF _ (Idx.mk _ rfl (And.intro rfl rfl)) ?_)
    refine DrawO.mkF _ (And.intro (by first | omega | (dsimp only [List.length, cond]; omega) | decide) (And.intro rfl rfl)) ?_
    refine DrawO.mkF (u32 (c2)) (Idx.mk _ (l32_ge (by first | omega | (simp only [List.length_set]; omega)) (by first | rfl | simp [getD_set, List.length_set, hs, ha, hb, hc, hd, hab, hac, had, hbc, hbd, hcd, Ne.symm hab, Ne.symm hac, Ne.symm had, Ne.symm hbc, Ne.symm hbd, Ne.symm hcd])) (And.intro rfl rfl)) ?_
    repeat (first | refine DrawO.mkF _ (And.intro rfl rfl) ?_ | refine DrawO.mkF _ (Idx.mk _ rfl (And.intro rfl rfl)) ?_)
    refine DrawO.mkF (u32 b2) ((turn_ct (xr (b1) (c2)) 7 (by decide)).use (by rw [← hb2]; exact And.intro rfl rfl)) ?_
    (conv => whnf); refine And.intro (by omega) ?_
    (conv => whnf)
    (conv => whnf); refine And.intro ⟨rfl, by show 0 + (b : Int).toNat * 1 + 1 ≤ _; first | (rw [l32_len]; simp only [List.length_set]; omega) | (show _ ≤ (l32 s).length; rw [l32_len]; omega)⟩ ?_
    (conv => whnf)
    refine ⟨rfl, ?_⟩
    show [Obj.arr _ (setV (l32 (((((((s.set a a1).set d d1).set c c1).set b b1).set a a2).set d d2).set c c2)) (0 + (b : Int).toNat * 1) (D.int .u32 b2).cells), _] = _
    rw [l32_sc (by first | omega | (simp only [List.length_set]; omega))]; rfl
  rintro _ _ ⟨rfl, rfl⟩
  have hq : ((((((((s.set a a1).set d d1).set c c1).set b b1).set a a2).set d d2).set c c2).set b b2) = qL s a b c d := qL_steps (by omega) (by omega) (by omega) (by omega) hab hac had hbc hbd hcd ha1 hd1 hc1 hb1 ha2 hd2 hc2 hb2
  rw [hq]
  have hl : (l32 (qL s a b c d)).length = 16 := by rw [l32_len, qL_len]; exact hs
  (conv => whnf); refine And.intro hl ?_
  (conv => whnf)
  (conv => whnf); refine And.intro ⟨hl, rfl⟩ ?_
  (conv => whnf); refine And.intro hl ?_
  (conv => whnf); refine And.intro hl ?_
  exact Is2.mk rfl
end Go.Proofs.YtofkdfodehfpdaaGreat

/- The reference's cipher: blocks. -/
namespace Go.Proofs.YtofkdfodehfpdaaGreat
open Go.V Go.Num
open Go.Eng (wr)
set_option maxRecDepth 100000
set_option maxHeartbeats 4000000
theorem rnum_sl (b : List Int) {i f : Nat} (h : f + 4 * i + 4 ≤ b.length) : Ct Tryz.prog 39 [.d (.ro (((l8 b).drop (f + (4 * (i : Int)).toNat)).take ((4 * (i : Int) + 4).toNat - (4 * (i : Int)).toNat)))] [] (Is2 (u32 (nm4 b (f + 4 * i))) []) := by
  have e : (4 * (i : Int)).toNat = 4 * i := by omega
  have e2 : (4 * (i : Int) + 4).toNat - 4 * i = 4 := by omega
  rw [e, e2, l8_sl]
  have := rnumber_ct ((b.drop (f + 4 * i)).take 4) (by rw [List.length_take, List.length_drop]; omega)
  rw [nm4_take _ _ (by omega), nm4_drop] at this
  exact this
theorem rBlock_ct (key nonce : List Int) (ctr : Int) (hk : key.length = 32) (hn : nonce.length = 12) : Ct Tryz.prog 81 [A8 key, u32 ctr, A8 nonce] [] (Is2 (A8 (blkL key ctr nonce)) []) := by
  refine Ct.introF (E := E 95 0 [.cell 6 129] [] [(3, [1, 3, 5, 6, 7, 8]), (8, [5, 6, 7, 9]), (13, [6, 7, 10, 11]), (25, [6, 7, 10, 12, 13]), (29, [6, 7, 10, 12, 13, 14, 15])] [(1, [.fz 3, .fz 5])]) tab_ok Tryz.call81 Tryz.func81 rfl rfl rfl rfl rfl (fun hin => ?_)
  (conv => whnf); refine And.intro ⟨rfl, rfl⟩ ?_
  (conv => whnf); refine LoopI.mk (fun n vs os => ∃ i : Nat, vs = [u32 ctr, .rp (l8 key) 0, .rp (l8 nonce) 0, .ptr 0 0, .ptr 1 0, i64 i] ∧ os = [.arr 129 (l8 (List.replicate 64 0)), .arr 144 (l32 (stA key i))] ∧ i ≤ 8 ∧ n = 8 - i) 8 ⟨0, rfl, rfl, by omega, rfl⟩ ?_
  rintro n _ _ ⟨i, rfl, rfl, h1, rfl⟩
  (conv => whnf); refine cond_d (fun h2 => ?_) (fun h2 => ?_)
  · (conv => whnf); refine And.intro (by first | omega | (dsimp only [List.length, cond]; omega) | (show (-9223372036854775808 : Int) ≤ _ ∧ _ ≤ (9223372036854775807 : Int); omega) | decide) ?_
    (conv => whnf); refine And.intro (by first | omega | (dsimp only [List.length, cond]; omega) | (show (-9223372036854775808 : Int) ≤ _ ∧ _ ≤ (9223372036854775807 : Int); omega) | decide) ?_
    (conv => whnf); refine And.intro (by first | omega | (dsimp only [List.length, cond]; omega) | (show (-9223372036854775808 : Int) ≤ _ ∧ _ ≤ (9223372036854775807 : Int); omega) | decide) ?_
    (conv => whnf); refine And.intro (by first | omega | (dsimp only [List.length, cond]; omega) | (show (-9223372036854775808 : Int) ≤ _ ∧ _ ≤ (9223372036854775807 : Int); omega) | decide) ?_
    (conv => whnf); refine And.intro ⟨by show 0 + 32 ≤ _; rw [l8_len]; omega, by decide⟩ ?_
    (conv => whnf)
    (conv => whnf); refine And.intro (by omega) ?_
    have hc := rnum_sl key (i := i) (f := 0) (by omega)
    (conv => whnf); refine (hc).use ?_
    (conv => whnf); refine And.intro (by first | omega | (dsimp only [List.length, cond]; omega) | (show (-9223372036854775808 : Int) ≤ _ ∧ _ ≤ (9223372036854775807 : Int); omega) | decide) ?_
    have e : 0 + (4 + (i : Int)).toNat * 1 = 4 + i := by omega
    (conv => whnf)
    (conv => whnf); refine And.intro ⟨rfl, by show 0 + (4 + (i : Int)).toNat * 1 + 1 ≤ _; rw [e, l32_len, stA_len]; omega⟩ ?_
    (conv => whnf); refine And.intro (by first | omega | (dsimp only [List.length, cond]; omega) | (show (-9223372036854775808 : Int) ≤ _ ∧ _ ≤ (9223372036854775807 : Int); omega) | decide) ?_
    (conv => whnf)
    refine ⟨8 - (i + 1), by omega, i + 1, rfl, ?_, by omega, rfl⟩
    show [_, Obj.arr _ (setV (l32 (stA key i)) (0 + (4 + (i : Int)).toNat * 1) [.int .u32 (nm4 key (0 + 4 * i))])] = _
    rw [e, l32_set (by rw [stA_len]; omega), Nat.zero_add]; rfl
  obtain rfl : i = 8 := by omega
  (conv => whnf); refine And.intro (by omega) ?_
  (conv => whnf)
  (conv => whnf); refine And.intro ⟨rfl, by show 12 + 1 ≤ _; rw [l32_len, stA_len]; omega⟩ ?_
  (conv => whnf); refine LoopI.mk (fun n vs os => ∃ i : Nat, vs = [.rp (l8 nonce) 0, .ptr 0 0, .ptr 1 0, i64 i] ∧ os = [.arr 129 (l8 (List.replicate 64 0)), .arr 144 (l32 (stB key ctr nonce i))] ∧ i ≤ 3 ∧ n = 3 - i) 3 ⟨0, rfl, ?_, by omega, rfl⟩ ?_
  · show [_, Obj.arr _ (setV (l32 (stA key 8)) 12 [.int .u32 ctr])] = _
    rw [l32_set (by rw [stA_len]; omega)]; rfl
  rintro n _ _ ⟨i, rfl, rfl, h1, rfl⟩
  (conv => whnf); refine cond_d (fun h2 => ?_) (fun h2 => ?_)
  · (conv => whnf); refine And.intro (by first | omega | (dsimp only [List.length, cond]; omega) | (show (-9223372036854775808 : Int) ≤ _ ∧ _ ≤ (9223372036854775807 : Int); omega) | decide) ?_
    (conv => whnf); refine And.intro (by first | omega | (dsimp only [List.length, cond]; omega) | (show (-9223372036854775808 : Int) ≤ _ ∧ _ ≤ (9223372036854775807 : Int); omega) | decide) ?_
    (conv => whnf); refine And.intro (by first | omega | (dsimp only [List.length, cond]; omega) | (show (-9223372036854775808 : Int) ≤ _ ∧ _ ≤ (9223372036854775807 : Int); omega) | decide) ?_
    (conv => whnf); refine And.intro (by first | omega | (dsimp only [List.length, cond]; omega) | (show (-9223372036854775808 : Int) ≤ _ ∧ _ ≤ (9223372036854775807 : Int); omega) | decide) ?_
    (conv => whnf); refine And.intro ⟨by show 0 + 12 ≤ _; rw [l8_len]; omega, by decide⟩ ?_
    (conv => whnf)
    (conv => whnf); refine And.intro (by omega) ?_
    have hc := rnum_sl nonce (i := i) (f := 0) (by omega)
    (conv => whnf); refine (hc).use ?_
    (conv => whnf); refine And.intro (by first | omega | (dsimp only [List.length, cond]; omega) | (show (-9223372036854775808 : Int) ≤ _ ∧ _ ≤ (9223372036854775807 : Int); omega) | decide) ?_
    have e : 0 + (13 + (i : Int)).toNat * 1 = 13 + i := by omega
    (conv => whnf)
    (conv => whnf); refine And.intro ⟨rfl, by show 0 + (13 + (i : Int)).toNat * 1 + 1 ≤ _; rw [e, l32_len, stB_len]; omega⟩ ?_
    (conv => whnf); refine And.intro (by first | omega | (dsimp only [List.length, cond]; omega) | (show (-9223372036854775808 : Int) ≤ _ ∧ _ ≤ (9223372036854775807 : Int); omega) | decide) ?_
    (conv => whnf)
    refine ⟨3 - (i + 1), by omega, i + 1, rfl, ?_, by omega, rfl⟩
    show [_, Obj.arr _ (setV (l32 (stB key ctr nonce i)) (0 + (13 + (i : Int)).toNat * 1) [.int .u32 (nm4 nonce (0 + 4 * i))])] = _
    rw [e, l32_set (by rw [stB_len]; omega), Nat.zero_add]; rfl
  obtain rfl : i = 3 := by omega
  have hs' : (l32 (stB key ctr nonce 3)).length = 16 := by rw [l32_len, stB_len]
  (conv => whnf); refine And.intro hs' ?_
  (conv => whnf)
  (conv => whnf); refine And.intro ⟨hs', rfl⟩ ?_
  (conv => whnf); refine LoopI.mk (fun n vs os => ∃ (i : Nat) (S : List Int), vs = [.ptr 0 0, .ptr 1 0, .ptr 2 0, i64 i] ∧ os = [.arr 129 (l8 (List.replicate 64 0)), .arr 144 (l32 (startL key ctr nonce)), .arr 144 (l32 S)] ∧ i ≤ 10 ∧ S.length = 16 ∧ S = rndN i (startL key ctr nonce) ∧ n = 10 - i) 10 ⟨0, startL key ctr nonce, rfl, rfl, by omega, rfl, rfl, rfl⟩ ?_
  clear hs'
  rintro n _ _ ⟨i, S, rfl, rfl, h1, hl0, hSe, rfl⟩
  (conv => whnf); refine cond_d (fun h2 => ?_) (fun h2 => ?_)
  · have go : ∀ {s : List Int} {a b c d : Nat}, s.length = 16 → (qL s a b c d).length = 16 := fun h => by rw [qL_len]; exact h
    have lg : ∀ {s : List Int}, s.length = 16 → (l32 s).length = 16 := fun h => by rw [l32_len]; exact h
    obtain ⟨S1, e1⟩ : ∃ z, z = qL S 0 4 8 12 := ⟨_, rfl⟩
    obtain ⟨S2, e2⟩ : ∃ z, z = qL S1 1 5 9 13 := ⟨_, rfl⟩
    obtain ⟨S3, e3⟩ : ∃ z, z = qL S2 2 6 10 14 := ⟨_, rfl⟩
    obtain ⟨S4, e4⟩ : ∃ z, z = qL S3 3 7 11 15 := ⟨_, rfl⟩
    obtain ⟨S5, e5⟩ : ∃ z, z = qL S4 0 5 10 15 := ⟨_, rfl⟩
    obtain ⟨S6, e6⟩ : ∃ z, z = qL S5 1 6 11 12 := ⟨_, rfl⟩
    obtain ⟨S7, e7⟩ : ∃ z, z = qL S6 2 7 8 13 := ⟨_, rfl⟩
    obtain ⟨S8, e8⟩ : ∃ z, z = qL S7 3 4 9 14 := ⟨_, rfl⟩
    have l1 : S1.length = 16 := by rw [e1]; exact go hl0
    have l2 : S2.length = 16 := by rw [e2]; exact go l1
    have l3 : S3.length = 16 := by rw [e3]; exact go l2
    have l4 : S4.length = 16 := by rw [e4]; exact go l3
    have l5 : S5.length = 16 := by rw [e5]; exact go l4
    have l6 : S6.length = 16 := by rw [e6]; exact go l5
    have l7 : S7.length = 16 := by rw [e7]; exact go l6
    have l8' : S8.length = 16 := by rw [e8]; exact go l7
    have c1 := rQuarter_ct S 0 4 8 12 hl0 (by decide) (by decide) (by decide) (by decide) (by decide) (by decide) (by decide) (by decide) (by decide) (by decide)
    have c2 := rQuarter_ct S1 1 5 9 13 l1 (by decide) (by decide) (by decide) (by decide) (by decide) (by decide) (by decide) (by decide) (by decide) (by decide)
    have c3 := rQuarter_ct S2 2 6 10 14 l2 (by decide) (by decide) (by decide) (by decide) (by decide) (by decide) (by decide) (by decide) (by decide) (by decide)
    have c4 := rQuarter_ct S3 3 7 11 15 l3 (by decide) (by decide) (by decide) (by decide) (by decide) (by decide) (by decide) (by decide) (by decide) (by decide)
    have c5 := rQuarter_ct S4 0 5 10 15 l4 (by decide) (by decide) (by decide) (by decide) (by decide) (by decide) (by decide) (by decide) (by decide) (by decide)
    have c6 := rQuarter_ct S5 1 6 11 12 l5 (by decide) (by decide) (by decide) (by decide) (by decide) (by decide) (by decide) (by decide) (by decide) (by decide)
    have c7 := rQuarter_ct S6 2 7 8 13 l6 (by decide) (by decide) (by decide) (by decide) (by decide) (by decide) (by decide) (by decide) (by decide) (by decide)
    have c8 := rQuarter_ct S7 3 4 9 14 l7 (by decide) (by decide) (by decide) (by decide) (by decide) (by decide) (by decide) (by decide) (by decide) (by decide)
    rw [← e1] at c1; rw [← e2] at c2; rw [← e3] at c3; rw [← e4] at c4; rw [← e5] at c5; rw [← e6] at c6; rw [← e7] at c7; rw [← e8] at c8
    (conv => whnf); refine And.intro (lg hl0) ?_
    (conv => whnf); refine (c1).use ?_
    (conv => whnf)
    (conv => whnf); refine And.intro ⟨lg l1, lg hl0⟩ ?_
    (conv => whnf); refine And.intro (lg l1) ?_
    (conv => whnf); refine (c2).use ?_
    (conv => whnf)
    (conv => whnf); refine And.intro ⟨lg l2, lg l1⟩ ?_
    (conv => whnf); refine And.intro (lg l2) ?_
    (conv => whnf); refine (c3).use ?_
    (conv => whnf)
    (conv => whnf); refine And.intro ⟨lg l3, lg l2⟩ ?_
    (conv => whnf); refine And.intro (lg l3) ?_
    (conv => whnf); refine (c4).use ?_
    (conv => whnf)
    (conv => whnf); refine And.intro ⟨lg l4, lg l3⟩ ?_
    (conv => whnf); refine And.intro (lg l4) ?_
    (conv => whnf); refine (c5).use ?_
    (conv => whnf)
    (conv => whnf); refine And.intro ⟨lg l5, lg l4⟩ ?_
    (conv => whnf); refine And.intro (lg l5) ?_
    (conv => whnf); refine (c6).use ?_
    (conv => whnf)
    (conv => whnf); refine And.intro ⟨lg l6, lg l5⟩ ?_
    (conv => whnf); refine And.intro (lg l6) ?_
    (conv => whnf); refine (c7).use ?_
    (conv => whnf)
    (conv => whnf); refine And.intro ⟨lg l7, lg l6⟩ ?_
    (conv => whnf); refine And.intro (lg l7) ?_
    (conv => whnf); refine (c8).use ?_
    (conv => whnf)
    (conv => whnf); refine And.intro ⟨lg l8', lg l7⟩ ?_
    (conv => whnf); refine And.intro (by first | omega | (dsimp only [List.length, cond]; omega) | (show (-9223372036854775808 : Int) ≤ _ ∧ _ ≤ (9223372036854775807 : Int); omega) | decide) ?_
    (conv => whnf)
    exact ⟨10 - (i + 1), by omega, i + 1, S8, rfl, rfl, by omega, l8', by rw [e8, e7, e6, e5, e4, e3, e2, e1, hSe]; rfl, rfl⟩
  obtain rfl : i = 10 := by omega
  (conv => whnf); refine And.intro ⟨rfl, rfl⟩ ?_
  (conv => whnf); refine LoopI.mk (fun n vs os => ∃ S G i cs, vs = [.ptr 0 0, .ptr 1 0, .ptr 2 0, .ptr 3 0, i64 (i : Nat)] ∧ os = [.arr 129 (l8 (List.replicate 64 0)), .arr 144 (l32 G), .arr 144 (l32 S), .arr 129 (l8 cs)] ∧ i ≤ 16 ∧ blkP key ctr nonce i cs ∧ S.length = 16 ∧ G.length = 16 ∧ (∀ j, sumL key ctr nonce j = ad (S.getD j 0) (G.getD j 0)) ∧ n = 16 - i) 16 ⟨S, startL key ctr nonce, 0, List.replicate 64 0, rfl, rfl, by omega, ⟨rfl, fun j hj => by omega⟩, hl0, rfl, fun _ => by rw [hSe]; rfl, rfl⟩ ?_
  clear hSe hl0
  rintro n _ _ ⟨S, G, i, cs, rfl, rfl, h1, hp, hS, hG, hsum, rfl⟩
  (conv => whnf); refine cond_d (fun h2 => ?_) (fun h2 => ?_)
  · (conv => whnf); refine DrawI.mkF 6 [[13], [10, 73], [74], [13], [7, 76], [77]] (by decide +kernel) ?_
    repeat (first | refine DrawO.mkF _ (And.intro rfl rfl) ?_ | refine DrawO.mkF _ (Idx.mk _ rfl (And.intro rfl rfl)) ?_)
    refine DrawO.mkF _ (And.intro (by first | omega | (dsimp only [List.length, cond]; omega) | decide) (And.intro rfl rfl)) ?_
    refine DrawO.mkF (u32 (S.getD i 0)) (Idx.mk _ (l32_ix (by omega)) (And.intro rfl rfl)) ?_
    repeat (first | refine DrawO.mkF _ (And.intro rfl rfl) ?_ | refine DrawO.mkF _ (Idx.mk _ rfl (And.intro rfl rfl)) ?_)
    refine DrawO.mkF _ (And.intro (by first | omega | (dsimp only [List.length, cond]; omega) | decide) (And.intro rfl rfl)) ?_
    refine DrawO.mkF (u32 (G.getD i 0)) (Idx.mk _ (l32_ix (by omega)) (And.intro rfl rfl)) ?_
    obtain ⟨N, hN⟩ : ∃ z, z = ad (S.getD i 0) (G.getD i 0) := ⟨_, rfl⟩
    (conv => whnf); refine LoopI.mk (fun n vs os => ∃ k : Nat, vs = [.ptr 0 0, .ptr 1 0, .ptr 2 0, .ptr 3 0, i64 i, u32 (N / 256 ^ k), i64 k] ∧ os = [.arr 129 (l8 (List.replicate 64 0)), .arr 144 (l32 G), .arr 144 (l32 S), .arr 129 (l8 (putN (4 * i) N k cs))] ∧ k ≤ 4 ∧ n = 4 - k) 4 ⟨0, by rw [hN, Int.pow_zero, Int.ediv_one]; rfl, rfl, by omega, rfl⟩ ?_
    rintro n _ _ ⟨k, rfl, rfl, h3, rfl⟩
    have hlen : (l8 (putN (4 * i) N k cs)).length = 64 := by rw [l8_len, putN_len]; exact hp.1
    (conv => whnf); refine cond_d (fun h4 => ?_) (fun h4 => ?_)
    · (conv => whnf); refine And.intro (by first | omega | (dsimp only [List.length, cond]; omega) | (show (-9223372036854775808 : Int) ≤ _ ∧ _ ≤ (9223372036854775807 : Int); omega) | decide) ?_
      (conv => whnf); refine And.intro (by first | omega | (dsimp only [List.length, cond]; omega) | (show (-9223372036854775808 : Int) ≤ _ ∧ _ ≤ (9223372036854775807 : Int); omega) | decide) ?_
      (conv => whnf); refine And.intro (by first | omega | (dsimp only [List.length, cond]; omega) | (show (-9223372036854775808 : Int) ≤ _ ∧ _ ≤ (9223372036854775807 : Int); omega) | decide) ?_
      (conv => whnf); refine And.intro (by first | omega | (dsimp only [List.length, cond]; omega) | (show (-9223372036854775808 : Int) ≤ _ ∧ _ ≤ (9223372036854775807 : Int); omega) | decide) ?_
      have e : 0 + (4 * (i : Int) + k).toNat * 1 = 4 * i + k := by omega
      (conv => whnf)
      (conv => whnf); refine And.intro ⟨rfl, by show 0 + (4 * (i : Int) + k).toNat * 1 + 1 ≤ _; rw [hlen]; omega⟩ ?_
      (conv => whnf); refine And.intro (by first | omega | (dsimp only [List.length, cond]; omega) | (show (-9223372036854775808 : Int) ≤ _ ∧ _ ≤ (9223372036854775807 : Int); omega) | decide) ?_
      (conv => whnf); refine And.intro (by first | omega | (dsimp only [List.length, cond]; omega) | (show (-9223372036854775808 : Int) ≤ _ ∧ _ ≤ (9223372036854775807 : Int); omega) | decide) ?_
      (conv => whnf)
      refine ⟨4 - (k + 1), by omega, k + 1, ?_, ?_, by omega, rfl⟩
      · have : N / 256 ^ k / 256 = N / 256 ^ (k + 1) := by rw [Int.ediv_ediv_of_nonneg (Int.pow_nonneg (by decide)), ← Int.pow_succ]
        rw [← this]; rfl
      · show [_, _, _, Obj.arr _ (setV (l8 (putN (4 * i) N k cs)) (0 + (4 * (i : Int) + k).toNat * 1) [.int .u8 (wr .u8 (N / 256 ^ k % 256))])] = _
        have e3 : wr .u8 (N / 256 ^ k % 256) = byt N k := by unfold byt; simp only [wr]; omega
        rw [e, e3, l8_set (by rw [putN_len, hp.1]; omega)]; rfl
    · obtain rfl : k = 4 := by omega
      (conv => whnf); refine And.intro (by first | omega | (dsimp only [List.length, cond]; omega) | (show (-9223372036854775808 : Int) ≤ _ ∧ _ ≤ (9223372036854775807 : Int); omega) | decide) ?_
      (conv => whnf)
      exact ⟨16 - (i + 1), by omega, S, G, i + 1, putN (4 * i) N 4 cs, rfl, rfl, by omega, by rw [hN, ← hsum]; exact blkP_step (by omega) hp, hS, hG, hsum, rfl⟩
  · obtain rfl : i = 16 := by omega
    have hl : (l8 cs).length = 64 := by rw [l8_len]; exact hp.1
    (conv => whnf); refine And.intro hl ?_
    (conv => whnf)
    (conv => whnf); refine And.intro ⟨hl, rfl⟩ ?_
    (conv => whnf); refine And.intro hl ?_
    (conv => whnf); refine And.intro hl ?_
    rw [← blkP_full hp]
    exact Is2.mk rfl
end Go.Proofs.YtofkdfodehfpdaaGreat

/- Package cipher and its reference: bytes under a stream. -/
namespace Go.Proofs.YtofkdfodehfpdaaGreat
open Go.V Go.Num
open Go.Eng (wr)
set_option maxRecDepth 100000
set_option maxHeartbeats 4000000
theorem l8_one (xs : List Int) : ∀ y ∈ l8 xs, y.cells.length = 1 := fun y hy => by obtain ⟨z, _, rfl⟩ := List.mem_map.1 hy; rfl
theorem l8_app (xs ys : List Int) : l8 xs ++ l8 ys = l8 (xs ++ ys) := List.map_append.symm
theorem l8_take (xs : List Int) (n : Nat) : (l8 xs).take n = l8 (xs.take n) := List.map_take.symm
theorem l8_drop (xs : List Int) (n : Nat) : (l8 xs).drop n = l8 (xs.drop n) := List.map_drop.symm
theorem l8_rep (n : Nat) (x : Int) : List.replicate n (D.int .u8 x) = l8 (List.replicate n x) := List.map_replicate.symm
theorem row8 {e sz : Nat} {xs ys : List Int} (h : xs = ys) : Obj.row e sz (l8 xs) = Obj.row e sz (l8 ys) := by rw [h]
theorem take_succG {a : List Int} {i : Nat} (h : i < a.length) : a.take (i + 1) = a.take i ++ [a.getD i 0] := take_succ' h
theorem wr_add (c : Int) (a b : Int) : wr .u32 (wr .u32 (c + a) + b) = wr .u32 (c + (a + b)) := by simp only [wr]; omega
theorem Xor_ct (key nonce b : List Int) (ctr : Int) (hk : key.length = 32) (hn : nonce.length = 12) (hb : b.length ≤ 1000000) : Ct Tryz.prog 101 [A8 key, u32 ctr, A8 nonce, R8 b] [] (Is2 (.sl 0) [.row 5 1 (l8 (xorL key ctr nonce b))]) := by
  refine Ct.introF (E := E 51 0 [.tmp 8] [] [(2, [1, 3, 4, 6, 9]), (6, [1, 3, 4, 6, 9, 10, 11, 29, 30, 31])] [(1, [.fz 4, .fz 6])]) tab_ok Tryz.call101 Tryz.func101 rfl rfl rfl rfl rfl (fun hin => ?_)
  have hlb := l8_len b
  have hc0 : 0 ≤ ctr ∧ ctr ≤ 4294967295 := hin.2.1
  (conv => whnf); refine And.intro (by first | omega | (dsimp only [List.length, cond]; omega) | (show (-9223372036854775808 : Int) ≤ _ ∧ _ ≤ (9223372036854775807 : Int); omega) | decide) ?_
  obtain ⟨X, hX⟩ : ∃ z, z = xorL key ctr nonce b := ⟨_, rfl⟩
  have hXl : X.length = b.length := by rw [hX, xorL_len]
  (conv => whnf); refine LoopI.mk (fun n vs os => ∃ k : Nat, vs = [u32 (wr .u32 (ctr + k)), R8 (b.drop (64 * k)), .rp (l8 key) 0, .rp (l8 nonce) 0, .sl 0] ∧ os = [.row 5 1 (l8 (X.take (64 * k)))] ∧ n = b.length - 64 * k) b.length ⟨0, ?_, rfl, rfl⟩ ?_
  · show [u32 ctr, R8 b, _, _, _] = _
    have : wr .u32 (ctr + (0 : Nat)) = ctr := by simp only [wr]; omega
    rw [this]; rfl
  rintro n _ _ ⟨k, rfl, rfl, rfl⟩
  have hd : (l8 (b.drop (64 * k))).length = b.length - 64 * k := by rw [l8_len, List.length_drop]
  (conv => whnf); refine cond_d (fun h1 => ?_) (fun h1 => ?_)
  · have hk' : (l8 key).length = 32 := by rw [l8_len, hk]
    have hn' : (l8 nonce).length = 12 := by rw [l8_len, hn]
    have hB := blkL_len key (wr .u32 (ctr + k)) nonce
    have hB' : (l8 (blkL key (wr .u32 (ctr + k)) nonce)).length = 64 := by rw [l8_len, hB]
    (conv => whnf); refine And.intro hk' ?_
    (conv => whnf); refine And.intro hn' ?_
    (conv => whnf); refine (Block_ct key nonce (wr .u32 (ctr + k)) hk hn).use ?_
    (conv => whnf)
    (conv => whnf); refine And.intro ⟨hB', rfl⟩ ?_
    (conv => whnf); refine And.intro (by first | omega | (dsimp only [List.length, cond]; omega) | (show (-9223372036854775808 : Int) ≤ _ ∧ _ ≤ (9223372036854775807 : Int); omega) | decide) ?_
    obtain ⟨m, hm⟩ : ∃ m : Nat, min ((l8 (b.drop (64 * k))).length : Int) 64 = m := ⟨min (l8 (b.drop (64 * k))).length 64, by omega⟩
    have hmm : m = min (b.length - 64 * k) 64 := by omega
    have ht : ((l8 (b.drop (64 * k))).take (min ((l8 (b.drop (64 * k))).length : Int) 64).toNat) = l8 ((b.drop (64 * k)).take m) := by rw [hm, l8_take]; rfl
    have htl : ((b.drop (64 * k)).take m).length = m := by rw [List.length_take, List.length_drop]; omega
    (conv => whnf); refine LoopI.mk (fun n vs os => ∃ (i : Nat) (B : List Int), vs = [u32 (wr .u32 (ctr + k)), R8 (b.drop (64 * k)), .rp (l8 key) 0, .rp (l8 nonce) 0, .sl 0, .ptr 1 0, i64 m, R8 ((b.drop (64 * k)).take m), i64 m, i64 i] ∧ os = [.row 5 1 (l8 (X.take (64 * k + i))), .arr 129 (l8 B)] ∧ i ≤ m ∧ B = blkL key (wr .u32 (ctr + k)) nonce ∧ B.length = 64 ∧ n = m - i) m ⟨0, _, ?_, rfl, Nat.zero_le _, rfl, hB, rfl⟩ ?_
    · show [_, _, _, _, _, _, i64 (min ((l8 (b.drop (64 * k))).length : Int) 64), .d (.ro ((l8 (b.drop (64 * k))).take (min ((l8 (b.drop (64 * k))).length : Int) 64).toNat)), i64 ((l8 (b.drop (64 * k))).take (min ((l8 (b.drop (64 * k))).length : Int) 64).toNat).length, _] = _
      rw [ht, hm, l8_len, htl]; rfl
    rintro n _ _ ⟨i, B, rfl, rfl, h2, hBe, hBl, rfl⟩
    (conv => whnf); refine cond_d (fun h3 => ?_) (fun h3 => ?_)
    · have hi : i < m := by omega
      have hxi : X.getD (64 * k + i) 0 = xr (b.getD (64 * k + i) 0) (B.getD i 0) := by
        rw [hX, xorL_at _ _ _ _ (by omega), hBe, show (64 * k + i) / 64 = k from by omega, show (64 * k + i) % 64 = i from by omega]
      have hbi : ((b.drop (64 * k)).take m).getD i 0 = b.getD (64 * k + i) 0 := by
        rw [List.getD_eq_getElem?_getD, List.getElem?_take, if_pos hi, List.getElem?_drop, List.getD_eq_getElem?_getD]
      (conv => whnf); refine And.intro (by first | omega | (dsimp only [List.length, cond]; omega) | (show (-9223372036854775808 : Int) ≤ _ ∧ _ ≤ (9223372036854775807 : Int); omega) | decide) ?_
      (conv => whnf); refine Idx.mk (.int .u8 (b.getD (64 * k + i) 0)) (by rw [← hbi]; exact l8_get (by omega)) ?_
      (conv => whnf)
      (conv => whnf); refine Idx.mk _ rfl ?_
      (conv => whnf); refine And.intro (by first | omega | (dsimp only [List.length, cond]; omega) | (show (-9223372036854775808 : Int) ≤ _ ∧ _ ≤ (9223372036854775807 : Int); omega) | decide) ?_
      (conv => whnf); refine Idx.mk (.int .u8 (B.getD i 0)) (by show (l8 B)[0 + (i : Int).toNat * 1]? = _; rw [Nat.zero_add, Nat.mul_one, Int.toNat_natCast]; exact l8_get (by omega)) ?_
      have htk : (l8 (X.take (64 * k + i))).length = 64 * k + i := by rw [l8_len, List.length_take]; omega
      (conv => whnf); refine And.intro ⟨by rw [htk]; dsimp only [List.length]; omega, fun y hy => by cases hy with | head => rfl | tail _ h => cases h⟩ ?_
      (conv => whnf); refine And.intro (by first | omega | (dsimp only [List.length, cond]; omega) | (show (-9223372036854775808 : Int) ≤ _ ∧ _ ≤ (9223372036854775807 : Int); omega) | decide) ?_
      (conv => whnf)
      refine ⟨m - (i + 1), by omega, i + 1, B, rfl, ?_, by omega, hBe, hBl, rfl⟩
      show [Obj.row _ _ (l8 (X.take (64 * k + i)) ++ [D.int .u8 (xr (b.getD (64 * k + i) 0) (B.getD i 0))]), _] = _
      rw [← hxi, show [D.int .u8 (X.getD (64 * k + i) 0)] = l8 [X.getD (64 * k + i) 0] from rfl, l8_app, ← take_succG (by omega)]; rfl
    · obtain rfl : i = m := by omega
      (conv => whnf)
      (conv => whnf); refine And.intro ⟨by omega, l8_one _⟩ ?_
      (conv => whnf)
      refine ⟨b.length - 64 * (k + 1), by omega, k + 1, ?_, ?_, rfl⟩
      · show [u32 (wr .u32 (wr .u32 (ctr + k) + 1)), AV.d (.ro ((l8 (b.drop (64 * k))).drop (i : Int).toNat)), _, _, _] = _
        have e : b.drop (64 * k + i) = b.drop (64 * (k + 1)) := by
          by_cases e : i = 64
          · rw [e]; congr 1
          · rw [List.drop_eq_nil_of_le (by omega), List.drop_eq_nil_of_le (by omega)]
        rw [wr_add, l8_drop, Int.toNat_natCast, List.drop_drop, e]; rfl
      · have e : X.take (64 * k + i) = X.take (64 * (k + 1)) := by
          by_cases e : i = 64
          · rw [e]; congr 1
          · rw [List.take_of_length_le (by omega), List.take_of_length_le (by omega)]
        rw [e]; rfl
  · have hfull : X.take (64 * k) = X := List.take_of_length_le (by omega)
    rw [hfull, hX]
    exact Is2.mk rfl
end Go.Proofs.YtofkdfodehfpdaaGreat

/- The reference's cipher: bytes under a stream. -/
namespace Go.Proofs.YtofkdfodehfpdaaGreat
open Go.V Go.Num
open Go.Eng (wr)
set_option maxRecDepth 100000
set_option maxHeartbeats 4000000
theorem l8_setr (xs : List Int) (i : Nat) (x : Int) : (l8 xs).set (i : Int).toNat (.int .u8 x) = l8 (xs.set i x) := List.map_set.symm
theorem l8_geti {a : List Int} {i : Nat} (h : i < a.length) : (l8 a)[(i : Int).toNat]? = some (.int .u8 (a.getD i 0)) := l8_get h
theorem wr_addw (c n : Int) : wr .u32 (c + wr .u32 n) = wr .u32 (c + n) := by simp only [wr]; omega
theorem rXor_ct (key nonce b : List Int) (ctr : Int) (hk : key.length = 32) (hn : nonce.length = 12) (hb : b.length ≤ 1000000) : Ct Tryz.prog 56 [A8 key, u32 ctr, A8 nonce, R8 b] [] (Is2 (R8 (xorL key ctr nonce b)) []) := by
  refine Ct.introF (E := E 46 0 [.tmp 8] [(8, [1, 3, 4, 6, 9, 10, 11])] [(4, [1, 3, 4, 6, 9, 10, 11])] [(1, [.fz 4, .fz 6]), (1000009, [.fz 8])]) tab_ok Tryz.call56 Tryz.func56 rfl rfl rfl rfl rfl (fun hin => ?_)
  have hlb := l8_len b
  (conv => whnf); refine And.intro (by first | omega | (dsimp only [List.length, cond]; omega) | (show (-9223372036854775808 : Int) ≤ _ ∧ _ ≤ (9223372036854775807 : Int); omega) | decide) ?_
  (conv => whnf)
  (conv => whnf); refine And.intro ⟨rfl, rfl⟩ ?_
  obtain ⟨X, hX⟩ : ∃ z, z = xorL key ctr nonce b := ⟨_, rfl⟩
  have hXl : X.length = b.length := by rw [hX, xorL_len]
  (conv => whnf); refine LoopI.mk (fun n vs os => ∃ (i : Nat) (ys B : List Int), vs = [u32 ctr, R8 b, .rp (l8 key) 0, .rp (l8 nonce) 0, .sl 0, .ptr 1 0, i64 i] ∧ os = [.row 5 1 (l8 ys), .arr 129 (l8 B)] ∧ i ≤ b.length ∧ ys.length = b.length ∧ (∀ j, j < i → ys.getD j 0 = X.getD j 0) ∧ B.length = 64 ∧ (i % 64 ≠ 0 → B = blkL key (wr .u32 (ctr + (i / 64 : Nat))) nonce) ∧ n = b.length - i) b.length ⟨0, List.replicate b.length 0, List.replicate 64 0, rfl, ?_, Nat.zero_le _, by simp, fun j hj => by omega, rfl, fun h => absurd rfl h, rfl⟩ ?_
  · show [Obj.row _ _ (List.replicate ((l8 b).length : Int).toNat (D.int .u8 0)), _] = _
    rw [hlb, Int.toNat_natCast, l8_rep]; rfl
  rintro n _ _ ⟨i, ys, B, rfl, rfl, h1, hyl, hys, hBl, hB, rfl⟩
  (conv => whnf); refine cond_d (fun h2 => ?_) (fun h2 => ?_)
  · (conv => whnf); refine JoinI.mk (fun vs os => ∃ B : List Int, vs = [u32 ctr, R8 b, .rp (l8 key) 0, .rp (l8 nonce) 0, .sl 0, .ptr 1 0, i64 i] ∧ os = [.row 5 1 (l8 ys), .arr 129 (l8 B)] ∧ B.length = 64 ∧ B = blkL key (wr .u32 (ctr + (i / 64 : Nat))) nonce) ?_ ?_
    · (conv => whnf); refine And.intro (by first | omega | (dsimp only [List.length, cond]; omega) | (show (-9223372036854775808 : Int) ≤ _ ∧ _ ≤ (9223372036854775807 : Int); omega) | decide) ?_
      (conv => whnf); refine cond_d (fun h3 => ?_) (fun h3 => ?_)
      · have hk' : (l8 key).length = 32 := by rw [l8_len, hk]
        have hn' : (l8 nonce).length = 12 := by rw [l8_len, hn]
        (conv => whnf); refine And.intro hk' ?_
        (conv => whnf); refine And.intro (by omega) ?_
        (conv => whnf); refine And.intro hn' ?_
        (conv => whnf); refine (rBlock_ct key nonce _ hk hn).use ?_
        (conv => whnf)
        (conv => whnf); refine And.intro ⟨by rw [show (D.agg (l8 (blkL key (wr .u32 (ctr + wr .u32 ((i : Int) / 64))) nonce))).cells = l8 (blkL key (wr .u32 (ctr + wr .u32 ((i : Int) / 64))) nonce) from rfl, l8_len, blkL_len], by rw [l8_len]; exact hBl⟩ ?_
        (conv => whnf)
        refine ⟨blkL key (wr .u32 (ctr + wr .u32 ((i : Int) / 64))) nonce, rfl, rfl, blkL_len _ _ _, ?_⟩
        rw [wr_addw]; rfl
      · (conv => whnf)
        exact ⟨B, rfl, rfl, hBl, hB (by omega)⟩
    rintro _ _ ⟨B, rfl, rfl, hBl, hB⟩
    (conv => whnf); refine DrawI.mkF 11 [[9], [11], [3], [11], [35, 36], [37], [11], [39], [10, 40], [41], [38, 42]] (by decide +kernel) ?_
    repeat (first | refine DrawO.mkF _ (And.intro rfl rfl) ?_ | refine DrawO.mkF _ (Idx.mk _ rfl (And.intro rfl rfl)) ?_)
    refine DrawO.mkF _ (And.intro (by omega) (Idx.mk _ (l8_geti (by omega)) (And.intro rfl rfl))) ?_
    repeat (first | refine DrawO.mkF _ (And.intro rfl rfl) ?_ | refine DrawO.mkF _ (Idx.mk _ rfl (And.intro rfl rfl)) ?_)
    refine DrawO.mkF _ (And.intro (by first | omega | (dsimp only [List.length, cond]; omega) | decide) (And.intro rfl rfl)) ?_
    refine DrawO.mkF _ (And.intro (by first | omega | (dsimp only [List.length, cond]; omega) | decide) (And.intro rfl rfl)) ?_
    refine DrawO.mkF (u8 (B.getD (i % 64) 0)) (Idx.mk _ (by show (l8 B)[0 + ((i : Int) % 64).toNat * 1]? = _; rw [show 0 + ((i : Int) % 64).toNat * 1 = i % 64 from by omega]; exact l8_get (by omega)) (And.intro rfl rfl)) ?_
    repeat (first | refine DrawO.mkF _ (And.intro rfl rfl) ?_ | refine DrawO.mkF _ (Idx.mk _ rfl (And.intro rfl rfl)) ?_)
    have hlz := l8_len ys
    (conv => whnf); refine And.intro (by first | omega | (dsimp only [List.length, cond]; omega) | (show (-9223372036854775808 : Int) ≤ _ ∧ _ ≤ (9223372036854775807 : Int); omega) | decide) ?_
    (conv => whnf); refine Idx.mk _ (l8_geti (by omega)) ?_
    (conv => whnf); refine And.intro (by first | omega | (dsimp only [List.length, cond]; omega) | (show (-9223372036854775808 : Int) ≤ _ ∧ _ ≤ (9223372036854775807 : Int); omega) | decide) ?_
    (conv => whnf)
    refine ⟨b.length - (i + 1), by omega, i + 1, ys.set i (xr (b.getD i 0) (B.getD (i % 64) 0)), B, rfl, ?_, by omega, by rw [List.length_set]; exact hyl, fun j hj => ?_, hBl, fun h => ?_, rfl⟩
    · rw [← l8_setr]; rfl
    · rw [getD_set]
      by_cases e : i = j
      · subst e
        rw [if_pos ⟨rfl, by omega⟩, hX, xorL_at _ _ _ _ (by omega), hB]
      · rw [if_neg (fun h => e h.1)]; exact hys j (by omega)
    · rw [hB, show (i + 1) / 64 = i / 64 from by omega]
  · have e : ys = X := ext_getD (by omega) (fun j hj => hys j (by omega))
    rw [e, hX]
    exact Is2.mk rfl
end Go.Proofs.YtofkdfodehfpdaaGreat

/- Package stream and its reference: nonces, bytes of a stream. -/
namespace Go.Proofs.YtofkdfodehfpdaaGreat
open Go.V Go.Num
open Go.Eng (wr)
set_option maxRecDepth 100000
set_option maxHeartbeats 4000000
theorem place_ct (t : TypeId) (cs : List Int) (o len : Nat) (n : Int) (h : o + len ≤ cs.length) (hl : len ≤ 8) : Ct Tryz.prog 110 [.av 0 1 o len, u64 n] [.arr t (l8 cs)] (Is2 (.tup []) [.arr t (l8 (putN o n len cs))]) := by
  refine Ct.introF (E := E 19 1 [] [] [(1, [0, 1, 6, 7])] []) tab_ok Tryz.call110 Tryz.func110 rfl rfl rfl rfl rfl (fun hin => ?_)
  (conv => whnf); refine LoopI.mk (fun m vs os => ∃ i : Nat, vs = [.av 0 1 o len, u64 n, i64 len, i64 i] ∧ os = [.arr t (l8 (putN o n i cs))] ∧ i ≤ len ∧ m = len - i) len ⟨0, rfl, rfl, by omega, rfl⟩ ?_
  rintro m _ _ ⟨i, rfl, rfl, h1, rfl⟩
  (conv => whnf); refine cond_d (fun h2 => ?_) (fun h2 => ?_)
  · (conv => whnf); refine And.intro (by first | omega | (dsimp only [List.length, cond]; omega) | (show (-9223372036854775808 : Int) ≤ _ ∧ _ ≤ (9223372036854775807 : Int); omega) | decide) ?_
    (conv => whnf); refine And.intro (by first | omega | (dsimp only [List.length, cond]; omega) | (show (-9223372036854775808 : Int) ≤ _ ∧ _ ≤ (9223372036854775807 : Int); omega) | decide) ?_
    (conv => whnf); refine And.intro (by first | omega | (dsimp only [List.length, cond]; omega) | (show (-9223372036854775808 : Int) ≤ _ ∧ _ ≤ (9223372036854775807 : Int); omega) | decide) ?_
    conv => whnf
    (conv => whnf); refine And.intro ⟨rfl, by show o + (i : Int).toNat + 1 ≤ _; rw [l8_len, putN_len]; omega⟩ ?_
    (conv => whnf); refine And.intro (by first | omega | (dsimp only [List.length, cond]; omega) | (show (-9223372036854775808 : Int) ≤ _ ∧ _ ≤ (9223372036854775807 : Int); omega) | decide) ?_
    conv => whnf
    refine ⟨len - (i + 1), by omega, i + 1, rfl, ?_, by omega, rfl⟩
    show [Obj.arr _ (setV (l8 (putN o n i cs)) (o + i) [.int .u8 (wr .u8 (n / 2 ^ (min (8 * (i : Int)).toNat 64)))])] = _
    rw [p256 i (by omega) 64 (by omega), l8_set (by rw [putN_len]; omega)]
    rfl
  · obtain rfl : i = len := by omega
    exact Is2.mk rfl
def nonL (tag : Int) : List Int := putN 0 tag 4 (List.replicate 12 0)
theorem nonL_len (tag : Int) : (nonL tag).length = 12 := by simp [nonL, putN_len]
theorem nonL_eq (tag : Int) : nonL tag = [byt tag 0, byt tag 1, byt tag 2, byt tag 3, 0, 0, 0, 0, 0, 0, 0, 0] := rfl
theorem Nonce_ct (tag : Int) : Ct Tryz.prog 102 [u32 tag] [] (Is2 (A8 (nonL tag)) []) := by
  refine Ct.introF (E := E 9 0 [.cell 2 104] [] [] []) tab_ok Tryz.call102 Tryz.func102 rfl rfl rfl rfl rfl (fun hin => ?_)
  (conv => whnf); refine And.intro (by first | omega | (dsimp only [List.length, cond]; omega) | (show (-9223372036854775808 : Int) ≤ _ ∧ _ ≤ (9223372036854775807 : Int); omega) | decide) ?_
  (conv => whnf); refine And.intro (by first | omega | (dsimp only [List.length, cond]; omega) | (show (-9223372036854775808 : Int) ≤ _ ∧ _ ≤ (9223372036854775807 : Int); omega) | decide) ?_
  (conv => whnf); refine (place_ct _ (List.replicate 12 0) 0 4 tag (by decide) (by decide)).use ?_
  have hl : (l8 (putN 0 tag 4 (List.replicate 12 0))).length = 12 := by rw [l8_len, putN_len]; rfl
  (conv => whnf); refine And.intro hl ?_
  (conv => whnf)
  (conv => whnf); refine And.intro ⟨hl, rfl⟩ ?_
  (conv => whnf); refine And.intro hl ?_
  (conv => whnf); refine And.intro hl ?_
  exact Is2.mk rfl
theorem byt_0 (n : Int) : byt n 0 = n % 256 := by unfold byt; rw [Int.pow_zero, Int.ediv_one]
theorem byt_1 (n : Int) : byt n 1 = n / 256 % 256 := rfl
theorem byt_2 (n : Int) : byt n 2 = n / 65536 % 256 := rfl
theorem byt_3 (n : Int) : byt n 3 = n / 16777216 % 256 := rfl
theorem rNonce_ct (tag : Int) : Ct Tryz.prog 57 [u32 tag] [] (Is2 (A8 (nonL tag)) []) := by
  refine Ct.introF (E := E 15 0 [.cell 2 104] [] [] []) tab_ok Tryz.call57 Tryz.func57 rfl rfl rfl rfl rfl (fun hin => ?_)
  (conv => whnf); refine And.intro ⟨rfl, rfl⟩ ?_
  (conv => whnf); refine And.intro rfl ?_
  (conv => whnf); refine And.intro rfl ?_
  refine Is2.mk ?_
  show A8 (nonL tag) = A8 [tag % 256, tag / 256 % 256, tag / 65536 % 256, tag / 16777216 % 256, 0, 0, 0, 0, 0, 0, 0, 0]
  rw [nonL_eq, byt_0, byt_1, byt_2, byt_3]
def clampN (n : Int) (m : Nat) : Nat := (min (max n 0) m).toNat
def bytesL (seed : List Int) (tag n : Int) : List Int := xorL seed 0 (nonL tag) (List.replicate (clampN n 65536) 0)
theorem bytesL_len (seed : List Int) (tag n : Int) : (bytesL seed tag n).length = clampN n 65536 := by unfold bytesL; rw [xorL_len, List.length_replicate]
theorem XorZ_ct (key nonce : List Int) (k : Nat) (hk : key.length = 32) (hn : nonce.length = 12) (hb : k ≤ 1000000) : Ct Tryz.prog 101 [A8 key, u32 0, A8 nonce, .d (.ro (List.replicate k (.int .u8 0)))] [] (Is2 (.sl 0) [.row 5 1 (l8 (xorL key 0 nonce (List.replicate k 0)))]) := by
  rw [l8_rep]; exact Xor_ct key nonce _ 0 hk hn (by rw [List.length_replicate]; exact hb)
theorem rXorZ_ct (key nonce : List Int) (k : Nat) (hk : key.length = 32) (hn : nonce.length = 12) (hb : k ≤ 1000000) : Ct Tryz.prog 56 [A8 key, u32 0, A8 nonce, .d (.ro (List.replicate k (.int .u8 0)))] [] (Is2 (R8 (xorL key 0 nonce (List.replicate k 0))) []) := by
  rw [l8_rep]; exact rXor_ct key nonce _ 0 hk hn (by rw [List.length_replicate]; exact hb)
theorem Bytes_ct (seed : List Int) (tag n : Int) (hs : seed.length = 32) : Ct Tryz.prog 86 [A8 seed, u32 tag, i64 n] [] (Is2 (.sl 0) [.row 5 1 (l8 (bytesL seed tag n))]) := by
  refine Ct.introF (E := E 15 0 [.tmp 6] [] [] [(1, [.fz 3])]) tab_ok Tryz.call86 Tryz.func86 rfl rfl rfl rfl rfl (fun hin => ?_)
  have hs' : (l8 seed).length = 32 := by rw [l8_len, hs]
  (conv => whnf); refine DrawI.mkF 7 [[3], [1], [8], [2], [10], [11], [12]] (by decide +kernel) ?_
  refine DrawO.mkF (A8 seed) (And.intro hs' (And.intro rfl rfl)) ?_
  repeat (first | refine DrawO.mkF _ (And.intro rfl rfl) ?_ | refine DrawO.mkF _ (Idx.mk _ rfl (And.intro rfl rfl)) ?_)
  refine DrawO.mkF _ ((Nonce_ct tag).use (And.intro rfl rfl)) ?_
  repeat (first | refine DrawO.mkF _ (And.intro rfl rfl) ?_ | refine DrawO.mkF _ (Idx.mk _ rfl (And.intro rfl rfl)) ?_)
  refine DrawO.roF (List.replicate (min (max n 0) 65536).toNat (.int .u8 0)) 5 1 (And.intro (by dsimp only [cond]; omega) (And.intro rfl rfl)) ?_
  (conv => whnf); refine (XorZ_ct seed (nonL tag) (min (max n 0) 65536).toNat hs (nonL_len tag) (by omega)).use ?_
  exact Is2.mk rfl
theorem rBytes_ct (seed : List Int) (tag n : Int) (hs : seed.length = 32) : Ct Tryz.prog 38 [A8 seed, u32 tag, i64 n] [] (Is2 (R8 (bytesL seed tag n)) []) := by
  refine Ct.introF (E := E 17 0 [.tmp 6] [(3, [1, 2, 3]), (5, [1, 2, 3])] [] [(1, [.fz 3])]) tab_ok Tryz.call38 Tryz.func38 rfl rfl rfl rfl rfl (fun hin => ?_)
  have hs' : (l8 seed).length = 32 := by rw [l8_len, hs]
  (conv => whnf); refine JoinI.mk (fun vs os => vs = [u32 tag, i64 (max n 0), .rp (l8 seed) 0] ∧ os = []) ?_ ?_
  · (conv => whnf); refine cond_d (fun h => ?_) (fun h => ?_)
    · (conv => whnf)
      refine ⟨?_, rfl⟩
      rw [show max n 0 = 0 from by omega]; rfl
    · (conv => whnf)
      refine ⟨?_, rfl⟩
      rw [show max n 0 = n from by omega]; rfl
  rintro _ _ ⟨rfl, rfl⟩
  (conv => whnf); refine JoinI.mk (fun vs os => vs = [u32 tag, i64 (min (max n 0) 65536), .rp (l8 seed) 0] ∧ os = []) ?_ ?_
  · (conv => whnf); refine cond_d (fun h => ?_) (fun h => ?_)
    · (conv => whnf)
      refine ⟨?_, rfl⟩
      rw [show min (max n 0) 65536 = 65536 from by omega]
    · (conv => whnf)
      refine ⟨?_, rfl⟩
      rw [show min (max n 0) 65536 = max n 0 from by omega]
  rintro _ _ ⟨rfl, rfl⟩
  (conv => whnf); refine DrawI.mkF 5 [[3], [1], [12], [2], [14]] (by decide +kernel) ?_
  refine DrawO.mkF (A8 seed) (And.intro hs' (And.intro rfl rfl)) ?_
  repeat (first | refine DrawO.mkF _ (And.intro rfl rfl) ?_ | refine DrawO.mkF _ (Idx.mk _ rfl (And.intro rfl rfl)) ?_)
  refine DrawO.mkF _ ((rNonce_ct tag).use (And.intro rfl rfl)) ?_
  repeat (first | refine DrawO.mkF _ (And.intro rfl rfl) ?_ | refine DrawO.mkF _ (Idx.mk _ rfl (And.intro rfl rfl)) ?_)
  refine DrawO.roF (List.replicate (min (max n 0) 65536).toNat (.int .u8 0)) 5 1 (And.intro (by dsimp only [cond]; omega) (And.intro rfl rfl)) ?_
  (conv => whnf); refine (rXorZ_ct seed (nonL tag) (min (max n 0) 65536).toNat hs (nonL_len tag) (by omega)).use ?_
  exact Is2.mk rfl
end Go.Proofs.YtofkdfodehfpdaaGreat

/- Package stream and its reference: vectors, seeds of numbers. -/
namespace Go.Proofs.YtofkdfodehfpdaaGreat
open Go.V Go.Num
open Go.Eng (wr)
set_option maxRecDepth 100000
set_option maxHeartbeats 4000000
theorem l32_rep (n : Nat) (x : Int) : List.replicate n (D.int .u32 x) = l32 (List.replicate n x) := List.map_replicate.symm
theorem l32_setr (xs : List Int) (i : Nat) (x : Int) : (l32 xs).set (i : Int).toNat (.int .u32 x) = l32 (xs.set i x) := List.map_set.symm
theorem l32_geti {a : List Int} {i : Nat} (h : i < a.length) : (l32 a)[(i : Int).toNat]? = some (.int .u32 (a.getD i 0)) := l32_get h
/-- A vector of a seed's stream. -/
def vecL (seed : List Int) (tag n : Int) : List Int := (List.range (clampN n 256)).map fun i => nm4 (bytesL seed tag (4 * (clampN n 256 : Nat))) (4 * i)
theorem vecL_len (seed : List Int) (tag n : Int) : (vecL seed tag n).length = clampN n 256 := by simp [vecL]
theorem vecL_at (seed : List Int) (tag n : Int) {i : Nat} (h : i < clampN n 256) : (vecL seed tag n).getD i 0 = nm4 (bytesL seed tag (4 * (clampN n 256 : Nat))) (4 * i) := by
  unfold vecL
  rw [List.getD_eq_getElem?_getD, List.getElem?_map, List.getElem?_range h]; rfl
theorem clampN_le (n : Int) (m : Nat) : clampN n m ≤ m := by unfold clampN; omega
theorem bytesV_len (seed : List Int) (tag : Int) (m : Nat) (h : m ≤ 256) : (bytesL seed tag (4 * (m : Nat))).length = 4 * m := by rw [bytesL_len]; unfold clampN; omega
theorem bytesL_by (seed : List Int) (tag n : Int) : By (bytesL seed tag n) := fun x hx => by
  unfold bytesL xorL at hx
  obtain ⟨j, _, rfl⟩ := List.mem_map.1 hx
  refine xr_rng8 ?_ (blkL_u8 _ _ _ _)
  have : (List.replicate (clampN n 65536) (0 : Int)).getD j 0 = 0 := by
    rw [List.getD_eq_getElem?_getD, List.getElem?_replicate]; split <;> rfl
  rw [this]; omega
/-- Some of the bytes of a number. -/
def prt (b : List Int) (i : Nat) : Nat → Int
  | 0 => 0
  | k + 1 => prt b i k + b.getD (4 * i + k) 0 * 2 ^ (8 * k)
theorem prt4 (b : List Int) (i : Nat) : prt b i 4 = nm4 b (4 * i) := by
  show 0 + b.getD (4 * i + 0) 0 * 1 + b.getD (4 * i + 1) 0 * 256 + b.getD (4 * i + 2) 0 * 65536 + b.getD (4 * i + 3) 0 * 16777216 = _
  unfold nm4; rw [Nat.add_zero]; omega
theorem prt_rng {b : List Int} (h : By b) (i : Nat) : ∀ k, 0 ≤ prt b i k ∧ prt b i k < 2 ^ (8 * k)
  | 0 => by simp [prt]
  | k + 1 => by
    have h1 := prt_rng h i k
    have h2 := h.getD (4 * i + k)
    have h3 : (2 : Int) ^ (8 * (k + 1)) = 256 * 2 ^ (8 * k) := by rw [Nat.mul_add, Int.pow_add]; omega
    have h4 := Int.mul_le_mul_of_nonneg_right h2.2 (show (0 : Int) ≤ 2 ^ (8 * k) from Int.pow_nonneg (by decide))
    have h5 := Int.mul_nonneg h2.1 (show (0 : Int) ≤ 2 ^ (8 * k) from Int.pow_nonneg (by decide))
    unfold prt
    omega
theorem prt_or {b : List Int} (h : By b) (i k : Nat) (hk : k < 4) : (((prt b i k).toNat ||| (wr .u32 (b.getD (4 * i + k) 0 * 2 ^ (min (8 * (k : Int)).toNat 32))).toNat : Nat) : Int) = prt b i (k + 1) := by
  have h1 := prt_rng h i k
  have h2 := h.getD (4 * i + k)
  have e : min (8 * (k : Int)).toNat 32 = 8 * k := by omega
  have h3 : wr .u32 (b.getD (4 * i + k) 0 * 2 ^ (8 * k)) = b.getD (4 * i + k) 0 * 2 ^ (8 * k) := by
    have hp : (2 : Int) ^ (8 * k) ≤ 16777216 := by
      rcases k with _ | _ | _ | _ | k
      · decide
      · decide
      · decide
      · decide
      · omega
    have h4 := Int.mul_le_mul_of_nonneg_right h2.2 (show (0 : Int) ≤ 2 ^ (8 * k) from Int.pow_nonneg (by decide))
    have h5 := Int.mul_nonneg h2.1 (show (0 : Int) ≤ 2 ^ (8 * k) from Int.pow_nonneg (by decide))
    simp only [wr]; omega
  rw [e, h3, or_add h1 h2.1]; rfl
theorem Vector_ct (seed : List Int) (tag n : Int) (hs : seed.length = 32) : Ct Tryz.prog 65 [A8 seed, u32 tag, i64 n] [] (Is2 (R32 (vecL seed tag n)) []) := by
  refine Ct.introF (E := E 44 0 [.tmp 6] [] [(4, [8, 22, 23, 24])] [(1, [.fz 3]), (1000001, [.fz 7]), (1000008, [.fz 6])]) tab_ok Tryz.call65 Tryz.func65 rfl rfl rfl rfl rfl (fun hin => ?_)
  have hs' : (l8 seed).length = 32 := by rw [l8_len, hs]
  (conv => whnf); refine And.intro hs' ?_
  (conv => whnf); refine And.intro (by dsimp only [cond]; omega) ?_
  obtain ⟨m, hm⟩ : ∃ z, z = clampN n 256 := ⟨_, rfl⟩
  have hmi : min (max n 0) 256 = (m : Int) := by rw [hm]; unfold clampN; omega
  have hm256 : m ≤ 256 := by rw [hm]; exact clampN_le _ _
  have hB := Bytes_ct seed tag (4 * min (max n 0) 256) hs
  rw [hmi] at hB
  obtain ⟨B, hBe⟩ : ∃ z, z = bytesL seed tag (4 * (m : Nat)) := ⟨_, rfl⟩
  have hBl : B.length = 4 * m := by rw [hBe]; exact bytesV_len seed tag m hm256
  have hBy : By B := by rw [hBe]; exact bytesL_by _ _ _
  rw [← hBe] at hB
  have hB2 : Ct Tryz.prog 86 [A8 seed, u32 tag, i64 (4 * min (max n 0) 256)] [] (Is2 (.sl 0) [.row 5 1 (l8 B)]) := by rw [hmi]; exact hB
  (conv => whnf); refine (hB2).use ?_
  have hlB := l8_len B
  (conv => whnf); refine And.intro (by first | omega | (dsimp only [List.length, cond]; omega) | (show (-9223372036854775808 : Int) ≤ _ ∧ _ ≤ (9223372036854775807 : Int); omega) | decide) ?_
  (conv => whnf); refine And.intro (by first | omega | (dsimp only [List.length, cond]; omega) | (show (-9223372036854775808 : Int) ≤ _ ∧ _ ≤ (9223372036854775807 : Int); omega) | decide) ?_
  (conv => whnf); refine LoopI.mk (fun q vs os => ∃ (i : Nat) (ys : List Int), vs = [.sl 0, R8 B, i64 (4 * m : Nat), i64 i] ∧ os = [.row 31 1 (l32 ys)] ∧ i ≤ 4 * m ∧ ys.length = m ∧ (∀ j, j < m → ys.getD j 0 = prt B j (min (i - 4 * j) 4)) ∧ q = 4 * m - i) (4 * m) ⟨0, List.replicate m 0, ?_, ?_, Nat.zero_le _, by simp, fun j hj => ?_, rfl⟩ ?_
  · rw [hlB, hBl]; rfl
  · show [Obj.row _ _ (List.replicate (((l8 B).length : Int) / 4).toNat (D.int .u32 0))] = _
    rw [hlB, hBl, show (((4 * m : Nat) : Int) / 4).toNat = m from by omega, l32_rep]
  · rw [show min (0 - 4 * j) 4 = 0 from by omega, List.getD_eq_getElem?_getD, List.getElem?_replicate, if_pos hj]; rfl
  rintro q _ _ ⟨i, ys, rfl, rfl, h1, hyl, hys, rfl⟩
  have hly := l32_len ys
  (conv => whnf); refine cond_d (fun h2 => ?_) (fun h2 => ?_)
  · (conv => whnf); refine And.intro (by first | omega | (dsimp only [List.length, cond]; omega) | (show (-9223372036854775808 : Int) ≤ _ ∧ _ ≤ (9223372036854775807 : Int); omega) | decide) ?_
    (conv => whnf); refine Idx.mk _ (l8_geti (by omega)) ?_
    (conv => whnf); refine Idx.mk _ rfl ?_
    (conv => whnf); refine DrawI.mkF 11 [[8], [9], [30], [29, 31], [32], [10], [34], [9], [36], [37], [35, 38]] (by decide +kernel) ?_
    repeat (first | refine DrawO.mkF _ (And.intro rfl rfl) ?_ | refine DrawO.mkF _ (Idx.mk _ rfl (And.intro rfl rfl)) ?_)
    refine DrawO.mkF _ (And.intro (by first | omega | (dsimp only [List.length, cond]; omega) | decide) (And.intro rfl rfl)) ?_
    refine DrawO.mkF _ (And.intro (by first | omega | (dsimp only [List.length, cond]; omega) | decide) (And.intro rfl rfl)) ?_
    obtain ⟨Y, hY⟩ : ∃ z, z = ys.getD (i / 4) 0 := ⟨_, rfl⟩
    obtain ⟨C, hC⟩ : ∃ z, z = B.getD i 0 := ⟨_, rfl⟩
    have hg : (l32 ys)[((i : Int) / 4).toNat]? = some (.int .u32 Y) := by
      rw [show ((i : Int) / 4).toNat = i / 4 from by omega, hY]; exact l32_get (by omega)
    refine DrawO.mkF (u32 Y) (Idx.mk _ hg (Idx.mk _ rfl (And.intro rfl rfl))) ?_
    repeat (first | refine DrawO.mkF _ (And.intro rfl rfl) ?_ | refine DrawO.mkF _ (Idx.mk _ rfl (And.intro rfl rfl)) ?_)
    refine DrawO.mkF _ (And.intro (by first | omega | (dsimp only [List.length, cond]; omega) | decide) (And.intro rfl rfl)) ?_
    refine DrawO.mkF _ (And.intro (by first | omega | (dsimp only [List.length, cond]; omega) | decide) (And.intro rfl rfl)) ?_
    refine DrawO.mkF (u32 (wr .u32 (C * 2 ^ (min (8 * ((i : Int) % 4)).toNat 32)))) (And.intro (by omega) (by rw [hC]; exact And.intro rfl rfl)) ?_
    repeat (first | refine DrawO.mkF _ (And.intro rfl rfl) ?_ | refine DrawO.mkF _ (Idx.mk _ rfl (And.intro rfl rfl)) ?_)
    (conv => whnf); refine And.intro (by first | omega | (dsimp only [List.length, cond]; omega) | (show (-9223372036854775808 : Int) ≤ _ ∧ _ ≤ (9223372036854775807 : Int); omega) | decide) ?_
    (conv => whnf); refine Idx.mk _ hg ?_
    (conv => whnf); refine And.intro (by first | omega | (dsimp only [List.length, cond]; omega) | (show (-9223372036854775808 : Int) ≤ _ ∧ _ ≤ (9223372036854775807 : Int); omega) | decide) ?_
    (conv => whnf)
    refine ⟨4 * m - (i + 1), by omega, i + 1, ys.set (i / 4) (prt B (i / 4) (i % 4 + 1)), rfl, ?_, by omega, by rw [List.length_set]; exact hyl, fun j hj => ?_, rfl⟩
    · have e1 : Y = prt B (i / 4) (i % 4) := by rw [hY, hys _ (by omega)]; congr 1; omega
      have e2 := prt_or hBy (i / 4) (i % 4) (by omega)
      rw [show 4 * (i / 4) + i % 4 = i from by omega, ← e1] at e2
      rw [← e2, hC, show (((i % 4 : Nat)) : Int) = (i : Int) % 4 from by omega, ← show ((i : Int) / 4).toNat = i / 4 from by omega]
      exact congrArg (fun z => [Obj.row _ _ z]) List.map_set.symm
    · rw [getD_set]
      by_cases e : i / 4 = j
      · subst e
        rw [if_pos ⟨rfl, by omega⟩]; congr 1; omega
      · rw [if_neg (fun h => e h.1), hys j hj]; congr 1; omega
  · have e : ys = vecL seed tag n := ext_getD (by rw [vecL_len, ← hm, hyl]) (fun j hj => by
      rw [hys j (by omega), vecL_at _ _ _ (by omega), ← hm, ← hBe, ← prt4]; congr 1; omega)
    rw [e]
    exact Is2.mk rfl
theorem rVector_ct (seed : List Int) (tag n : Int) (hs : seed.length = 32) : Ct Tryz.prog 23 [A8 seed, u32 tag, i64 n] [] (Is2 (R32 (vecL seed tag n)) []) := by
  refine Ct.introF (E := E 38 0 [.tmp 6] [(3, [1, 2, 3]), (5, [1, 2, 3])] [(8, [2, 7, 8, 9])] [(1, [.fz 3]), (1000011, [.fz 6])]) tab_ok Tryz.call23 Tryz.func23 rfl rfl rfl rfl rfl (fun hin => ?_)
  have hs' : (l8 seed).length = 32 := by rw [l8_len, hs]
  (conv => whnf); refine JoinI.mk (fun vs os => vs = [u32 tag, i64 (max n 0), .rp (l8 seed) 0] ∧ os = []) ?_ ?_
  · (conv => whnf); refine cond_d (fun h => ?_) (fun h => ?_)
    · (conv => whnf)
      refine ⟨?_, rfl⟩
      rw [show max n 0 = 0 from by omega]; rfl
    · (conv => whnf)
      refine ⟨?_, rfl⟩
      rw [show max n 0 = n from by omega]; rfl
  rintro _ _ ⟨rfl, rfl⟩
  obtain ⟨m, hm⟩ : ∃ z, z = clampN n 256 := ⟨_, rfl⟩
  have hmi : min (max n 0) 256 = (m : Int) := by rw [hm]; unfold clampN; omega
  have hm256 : m ≤ 256 := by rw [hm]; exact clampN_le _ _
  (conv => whnf); refine JoinI.mk (fun vs os => vs = [u32 tag, i64 m, .rp (l8 seed) 0] ∧ os = []) ?_ ?_
  · (conv => whnf); refine cond_d (fun h => ?_) (fun h => ?_)
    · (conv => whnf)
      refine ⟨?_, rfl⟩
      rw [← hmi, show min (max n 0) 256 = 256 from by omega]
    · (conv => whnf)
      refine ⟨?_, rfl⟩
      rw [← hmi, show min (max n 0) 256 = max n 0 from by omega]
  rintro _ _ ⟨rfl, rfl⟩
  (conv => whnf); refine And.intro hs' ?_
  (conv => whnf); refine And.intro (by first | omega | (dsimp only [List.length, cond]; omega) | (show (-9223372036854775808 : Int) ≤ _ ∧ _ ≤ (9223372036854775807 : Int); omega) | decide) ?_
  have hB := rBytes_ct seed tag (4 * (m : Nat)) hs
  obtain ⟨B, hBe⟩ : ∃ z, z = bytesL seed tag (4 * (m : Nat)) := ⟨_, rfl⟩
  have hBl : B.length = 4 * m := by rw [hBe]; exact bytesV_len seed tag m hm256
  rw [← hBe] at hB
  (conv => whnf); refine (hB).use ?_
  have hlB := l8_len B
  (conv => whnf); refine And.intro (by first | omega | (dsimp only [List.length, cond]; omega) | (show (-9223372036854775808 : Int) ≤ _ ∧ _ ≤ (9223372036854775807 : Int); omega) | decide) ?_
  (conv => whnf); refine LoopI.mk (fun q vs os => ∃ (i : Nat) (ys : List Int), vs = [i64 m, R8 B, .sl 0, i64 i] ∧ os = [.row 31 1 (l32 ys)] ∧ i ≤ m ∧ ys.length = m ∧ (∀ j, j < i → ys.getD j 0 = nm4 B (4 * j)) ∧ q = m - i) m ⟨0, List.replicate m 0, rfl, ?_, Nat.zero_le _, by simp, fun j hj => by omega, rfl⟩ ?_
  · show [Obj.row _ _ (List.replicate (m : Int).toNat (D.int .u32 0))] = _
    rw [Int.toNat_natCast, l32_rep]
  rintro q _ _ ⟨i, ys, rfl, rfl, h1, hyl, hys, rfl⟩
  have hly := l32_len ys
  (conv => whnf); refine cond_d (fun h2 => ?_) (fun h2 => ?_)
  · (conv => whnf); refine And.intro (by first | omega | (dsimp only [List.length, cond]; omega) | (show (-9223372036854775808 : Int) ≤ _ ∧ _ ≤ (9223372036854775807 : Int); omega) | decide) ?_
    (conv => whnf); refine And.intro (by first | omega | (dsimp only [List.length, cond]; omega) | (show (-9223372036854775808 : Int) ≤ _ ∧ _ ≤ (9223372036854775807 : Int); omega) | decide) ?_
    (conv => whnf); refine And.intro (by first | omega | (dsimp only [List.length, cond]; omega) | (show (-9223372036854775808 : Int) ≤ _ ∧ _ ≤ (9223372036854775807 : Int); omega) | decide) ?_
    (conv => whnf); refine And.intro ⟨by omega, l8_one _⟩ ?_
    have hc : Ct Tryz.prog 39 [.d (.ro (((l8 B).take (4 * (i : Int) + 4).toNat).drop (4 * (i : Int)).toNat))] [] (Is2 (u32 (nm4 B (4 * i))) []) := by
      rw [l8_take, l8_drop, show (4 * (i : Int) + 4).toNat = 4 * i + 4 from by omega, show (4 * (i : Int)).toNat = 4 * i from by omega]
      have h := rnumber_ct ((B.take (4 * i + 4)).drop (4 * i)) (by rw [List.length_drop, List.length_take]; omega)
      rw [nm4_drop] at h
      have e : nm4 (B.take (4 * i + 4)) (4 * i) = nm4 B (4 * i) := by
        have ee : ∀ k, k < 4 * i + 4 → (B.take (4 * i + 4)).getD k 0 = B.getD k 0 := fun k hk => by
          rw [List.getD_eq_getElem?_getD, List.getElem?_take, if_pos hk, List.getD_eq_getElem?_getD]
        unfold nm4; rw [ee _ (by omega), ee _ (by omega), ee _ (by omega), ee _ (by omega)]
      rw [e] at h; exact h
    (conv => whnf); refine (hc).use ?_
    (conv => whnf); refine And.intro (by first | omega | (dsimp only [List.length, cond]; omega) | (show (-9223372036854775808 : Int) ≤ _ ∧ _ ≤ (9223372036854775807 : Int); omega) | decide) ?_
    (conv => whnf); refine Idx.mk _ (l32_geti (by omega)) ?_
    (conv => whnf); refine And.intro (by first | omega | (dsimp only [List.length, cond]; omega) | (show (-9223372036854775808 : Int) ≤ _ ∧ _ ≤ (9223372036854775807 : Int); omega) | decide) ?_
    (conv => whnf)
    refine ⟨m - (i + 1), by omega, i + 1, ys.set i (nm4 B (4 * i)), rfl, ?_, by omega, by rw [List.length_set]; exact hyl, fun j hj => ?_, rfl⟩
    · rw [← l32_setr]; rfl
    · rw [getD_set]
      by_cases e : i = j
      · subst e
        rw [if_pos ⟨rfl, by omega⟩]
      · rw [if_neg (fun h => e h.1)]; exact hys j (by omega)
  · have e : ys = vecL seed tag n := ext_getD (by rw [vecL_len, ← hm, hyl]) (fun j hj => by
      rw [hys j (by omega), vecL_at _ _ _ (by omega), ← hm, ← hBe])
    rw [e]
    exact Is2.mk rfl
end Go.Proofs.YtofkdfodehfpdaaGreat

/- Package stream and its reference: seeds of numbers. -/
namespace Go.Proofs.YtofkdfodehfpdaaGreat
open Go.V Go.Num
open Go.Eng (wr)
set_option maxRecDepth 100000
set_option maxHeartbeats 4000000
def seedOf (n : Int) : List Int := putN 0 n 8 (List.replicate 32 0)
theorem seedOf_len (n : Int) : (seedOf n).length = 32 := by simp [seedOf, putN_len]
/-- A seed of a number. -/
def derL (n tag : Int) : List Int := bytesL (seedOf n) tag 32
theorem derL_len (n tag : Int) : (derL n tag).length = 32 := by unfold derL; rw [bytesL_len]; rfl
theorem Derive_ct (n tag : Int) : Ct Tryz.prog 104 [u64 n, u32 tag] [] (Is2 (A8 (derL n tag)) []) := by
  refine Ct.introF (E := E 16 0 [.cell 4 90] [] [] []) tab_ok Tryz.call104 Tryz.func104 rfl rfl rfl rfl rfl (fun hin => ?_)
  (conv => whnf); refine And.intro (by first | omega | (dsimp only [List.length, cond]; omega) | (show (-9223372036854775808 : Int) ≤ _ ∧ _ ≤ (9223372036854775807 : Int); omega) | decide) ?_
  (conv => whnf); refine And.intro (by first | omega | (dsimp only [List.length, cond]; omega) | (show (-9223372036854775808 : Int) ≤ _ ∧ _ ≤ (9223372036854775807 : Int); omega) | decide) ?_
  (conv => whnf); refine (place_ct _ (List.replicate 32 0) 0 8 n (by decide) (by decide)).use ?_
  have hl : (l8 (putN 0 n 8 (List.replicate 32 0))).length = 32 := by rw [l8_len, putN_len]; rfl
  (conv => whnf); refine DrawI.mkF 4 [[6], [5], [1], [11, 12]] (by decide +kernel) ?_
  refine DrawO.mkF (.av 2 1 0 32) (And.intro (by decide) (And.intro rfl rfl)) ?_
  refine DrawO.mkF (A8 (seedOf n)) (And.intro hl (And.intro rfl rfl)) ?_
  repeat (first | refine DrawO.mkF _ (And.intro rfl rfl) ?_ | refine DrawO.mkF _ (Idx.mk _ rfl (And.intro rfl rfl)) ?_)
  refine DrawO.roF (l8 (derL n tag)) 5 1 ((Bytes_ct (seedOf n) tag 32 (seedOf_len n)).use (And.intro rfl rfl)) ?_
  have hb : (l8 (derL n tag)).length = 32 := by rw [l8_len, derL_len]
  (conv => whnf); refine And.intro ⟨by decide, fun y hy => by obtain ⟨z, _, rfl⟩ := List.mem_map.1 hy; rfl⟩ ?_
  have e : ∀ cs : List D, cs.length = 32 → cs.take 0 ++ (l8 (derL n tag)).take (min (l8 (derL n tag)).length 32) ++ cs.drop (0 + min (l8 (derL n tag)).length 32) = l8 (derL n tag) := fun cs hcs => by
    rw [hb, List.take_zero, List.nil_append, List.take_of_length_le (by omega), List.drop_eq_nil_of_le (by omega), List.append_nil]
  (conv => whnf)
  (conv => whnf); refine And.intro (by rw [e _ rfl]; exact hb) ?_
  (conv => whnf)
  (conv => whnf); refine And.intro ⟨by rw [e _ rfl]; exact hb, rfl⟩ ?_
  rw [e _ rfl]
  (conv => whnf); refine And.intro hb ?_
  (conv => whnf); refine And.intro hb ?_
  exact Is2.mk rfl
theorem rDerive_ct (n tag : Int) : Ct Tryz.prog 37 [u64 n, u32 tag] [] (Is2 (A8 (derL n tag)) []) := by
  refine Ct.introF (E := E 38 0 [.cell 4 46] [] [(3, [0, 1, 4, 5, 6]), (9, [4, 7, 8, 9])] []) tab_ok Tryz.call37 Tryz.func37 rfl rfl rfl rfl rfl (fun hin => ?_)
  (conv => whnf); refine And.intro ⟨rfl, rfl⟩ ?_
  (conv => whnf); refine LoopI.mk (fun m vs os => ∃ i : Nat, vs = [u64 n, u32 tag, .ptr 0 0, .ptr 1 0, i64 i] ∧ os = [.arr 46 (l8 (List.replicate 32 0)), .arr 46 (l8 (putN 0 n i (List.replicate 32 0)))] ∧ i ≤ 8 ∧ m = 8 - i) 8 ⟨0, rfl, rfl, by omega, rfl⟩ ?_
  rintro m _ _ ⟨i, rfl, rfl, h1, rfl⟩
  (conv => whnf); refine cond_d (fun h2 => ?_) (fun h2 => ?_)
  · (conv => whnf); refine And.intro (by first | omega | (dsimp only [List.length, cond]; omega) | (show (-9223372036854775808 : Int) ≤ _ ∧ _ ≤ (9223372036854775807 : Int); omega) | decide) ?_
    (conv => whnf); refine And.intro (by first | omega | (dsimp only [List.length, cond]; omega) | (show (-9223372036854775808 : Int) ≤ _ ∧ _ ≤ (9223372036854775807 : Int); omega) | decide) ?_
    have e : 0 + (i : Int).toNat * 1 = 0 + i := by omega
    (conv => whnf)
    (conv => whnf); refine And.intro ⟨rfl, by show 0 + (i : Int).toNat * 1 + 1 ≤ _; rw [e, l8_len, putN_len, List.length_replicate]; omega⟩ ?_
    (conv => whnf); refine And.intro (by first | omega | (dsimp only [List.length, cond]; omega) | (show (-9223372036854775808 : Int) ≤ _ ∧ _ ≤ (9223372036854775807 : Int); omega) | decide) ?_
    (conv => whnf)
    refine ⟨8 - (i + 1), by omega, i + 1, rfl, ?_, by omega, rfl⟩
    show [_, Obj.arr _ (setV (l8 (putN 0 n i (List.replicate 32 0))) (0 + (i : Int).toNat * 1) [.int .u8 (wr .u8 (n / 2 ^ (min (wr .u64 (8 * (i : Int))).toNat 64)))])] = _
    rw [wr_small (by omega), p256 i (by omega) 64 (by omega), e, l8_set (by rw [putN_len, List.length_replicate]; omega)]
    rfl
  obtain rfl : i = 8 := by omega
  have hl : (l8 (seedOf n)).length = 32 := by rw [l8_len, seedOf_len]
  (conv => whnf); refine And.intro hl ?_
  (conv => whnf); refine (rBytes_ct (seedOf n) tag 32 (seedOf_len n)).use ?_
  (conv => whnf); refine And.intro ⟨rfl, rfl⟩ ?_
  (conv => whnf); refine LoopI.mk (fun m vs os => ∃ (i : Nat) (ys B : List Int), vs = [.ptr 0 0, R8 B, .ptr 1 0, i64 i] ∧ os = [.arr 46 (l8 (List.replicate 32 0)), .arr 46 (l8 ys)] ∧ i ≤ 32 ∧ ys.length = 32 ∧ B = derL n tag ∧ B.length = 32 ∧ (∀ j, j < i → ys.getD j 0 = B.getD j 0) ∧ m = 32 - i) 32 ⟨0, List.replicate 32 0, derL n tag, rfl, rfl, by omega, rfl, rfl, derL_len n tag, fun j hj => by omega, rfl⟩ ?_
  rintro m _ _ ⟨i, ys, B, rfl, rfl, h1, hyl, hBe, hBl, hys, rfl⟩
  (conv => whnf); refine cond_d (fun h2 => ?_) (fun h2 => ?_)
  · (conv => whnf); refine And.intro (by first | omega | (dsimp only [List.length, cond]; omega) | (show (-9223372036854775808 : Int) ≤ _ ∧ _ ≤ (9223372036854775807 : Int); omega) | decide) ?_
    (conv => whnf); refine Idx.mk _ (l8_geti (by omega)) ?_
    (conv => whnf); refine Idx.mk _ rfl ?_
    (conv => whnf); refine And.intro (by first | omega | (dsimp only [List.length, cond]; omega) | (show (-9223372036854775808 : Int) ≤ _ ∧ _ ≤ (9223372036854775807 : Int); omega) | decide) ?_
    have e : 0 + (i : Int).toNat * 1 = i := by omega
    (conv => whnf)
    (conv => whnf); refine And.intro ⟨rfl, by show 0 + (i : Int).toNat * 1 + 1 ≤ _; rw [e, l8_len]; omega⟩ ?_
    (conv => whnf); refine And.intro (by first | omega | (dsimp only [List.length, cond]; omega) | (show (-9223372036854775808 : Int) ≤ _ ∧ _ ≤ (9223372036854775807 : Int); omega) | decide) ?_
    (conv => whnf)
    refine ⟨32 - (i + 1), by omega, i + 1, ys.set i (B.getD i 0), B, rfl, ?_, by omega, by rw [List.length_set]; exact hyl, hBe, hBl, fun j hj => ?_, rfl⟩
    · show [_, Obj.arr _ (setV (l8 ys) (0 + (i : Int).toNat * 1) [.int .u8 (B.getD i 0)])] = _
      rw [e, l8_set (by omega)]; rfl
    · rw [getD_set]
      by_cases e : i = j
      · subst e; rw [if_pos ⟨rfl, by omega⟩]
      · rw [if_neg (fun h => e h.1)]; exact hys j (by omega)
  · have e : ys = derL n tag := ext_getD (by rw [derL_len, hyl]) (fun j hj => by rw [hys j (by omega), hBe])
    have hy : (l8 ys).length = 32 := by rw [l8_len]; exact hyl
    (conv => whnf); refine And.intro hy ?_
    (conv => whnf)
    (conv => whnf); refine And.intro ⟨hy, rfl⟩ ?_
    (conv => whnf); refine And.intro hy ?_
    (conv => whnf); refine And.intro hy ?_
    rw [← e]
    exact Is2.mk rfl
end Go.Proofs.YtofkdfodehfpdaaGreat

/- Polynomials as lists of numbers: sums, products, coefficients. No function of the program is proved here. -/
namespace Go.Num

/-- A coefficient. -/
def co (xs : List Int) (k : Nat) : Int := xs.getD k 0
theorem co_nil (k : Nat) : co [] k = 0 := by simp [co]
theorem co_zero (x : Int) (xs : List Int) : co (x :: xs) 0 = x := rfl
theorem co_succ (x : Int) (xs : List Int) (k : Nat) : co (x :: xs) (k + 1) = co xs k := rfl
theorem co_out {xs : List Int} {k : Nat} (h : xs.length ≤ k) : co xs k = 0 := by
  unfold co; rw [List.getD_eq_getElem?_getD, List.getElem?_eq_none h]; rfl
theorem co_at {xs : List Int} {k : Nat} (h : k < xs.length) : xs[k]? = some (co xs k) := by
  unfold co; rw [List.getD_eq_getElem?_getD, List.getElem?_eq_getElem h]; rfl
theorem co_set (xs : List Int) (i : Nat) (v : Int) (k : Nat) : co (xs.set i v) k = if k = i ∧ i < xs.length then v else co xs k := by
  unfold co
  rw [List.getD_eq_getElem?_getD, List.getElem?_set, List.getD_eq_getElem?_getD]
  by_cases e : i = k
  · subst e
    by_cases h : i < xs.length
    · simp [h]
    · simp [h]
  · rw [if_neg e, if_neg (by rintro ⟨rfl, _⟩; exact e rfl)]
theorem co_map (f : Int → Int) (h0 : f 0 = 0) (xs : List Int) (k : Nat) : co (xs.map f) k = f (co xs k) := by
  unfold co
  rw [List.getD_eq_getElem?_getD, List.getElem?_map, List.getD_eq_getElem?_getD]
  cases xs[k]? with
  | none => exact h0.symm
  | some x => rfl
theorem co_take (xs : List Int) (i k : Nat) : co (xs.take i) k = if k < i then co xs k else 0 := by
  unfold co
  rw [List.getD_eq_getElem?_getD, List.getElem?_take, List.getD_eq_getElem?_getD]
  split <;> rfl
theorem co_ext {xs ys : List Int} (hl : xs.length = ys.length) (h : ∀ k, co xs k = co ys k) : xs = ys := by
  apply List.ext_getElem? ; intro k
  by_cases hk : k < xs.length
  · rw [co_at hk, co_at (by omega), h]
  · rw [List.getElem?_eq_none (by omega), List.getElem?_eq_none (by omega)]
theorem co_rep (n : Nat) (k : Nat) : co (List.replicate n 0) k = 0 := by
  unfold co; rw [List.getD_eq_getElem?_getD, List.getElem?_replicate]; split <;> rfl

/-- Without the zeros at the end. -/
def nz : List Int → List Int
  | [] => []
  | x :: xs => match nz xs with
    | [] => if x = 0 then [] else [x]
    | y :: ys => x :: y :: ys
theorem nz_cons (x : Int) (xs : List Int) : nz (x :: xs) = if nz xs = [] then (if x = 0 then [] else [x]) else x :: nz xs := by
  simp only [nz]
  split
  · rename_i h; rw [h, if_pos rfl]
  · rename_i h; rw [h, if_neg (by simp)]
theorem nz_zero (xs : List Int) : nz (xs ++ [0]) = nz xs := by
  induction xs with
  | nil => rfl
  | cons x xs ih => rw [List.cons_append, nz_cons, nz_cons, ih]
theorem nz_keep (xs : List Int) {x : Int} (h : x ≠ 0) : nz (xs ++ [x]) = xs ++ [x] := by
  induction xs with
  | nil => simp [nz, h]
  | cons y xs ih => rw [List.cons_append, nz_cons, ih, if_neg (by simp)]
theorem nz_len (xs : List Int) : (nz xs).length ≤ xs.length := by
  induction xs with
  | nil => exact Nat.le_refl _
  | cons x xs ih =>
    rw [nz_cons]
    split
    · split <;> simp
    · simpa using ih
theorem co_nz (xs : List Int) : ∀ k, co (nz xs) k = co xs k := by
  induction xs with
  | nil => intro k; rfl
  | cons x xs ih =>
    intro k
    rw [nz_cons]
    split
    · rename_i h
      have h0 : ∀ k, co xs k = 0 := fun k => by rw [← ih, h, co_nil]
      cases k with
      | zero => split <;> simp_all [co_zero, co_nil]
      | succ k => rw [co_succ, h0]; split <;> simp [co_nil, co_succ]
    · cases k with
      | zero => rfl
      | succ k => rw [co_succ, co_succ, ih]
def md (xs : List Int) : List Int := xs.map (· % 2305843009213693951)
theorem md_len (xs : List Int) : (md xs).length = xs.length := List.length_map _
theorem co_md (xs : List Int) (k : Nat) : co (md xs) k = co xs k % 2305843009213693951 := co_map (· % 2305843009213693951) rfl xs k
def tr (xs : List Int) : List Int := nz (md xs)
theorem tr_len (xs : List Int) : (tr xs).length ≤ xs.length := Nat.le_trans (nz_len _) (by rw [md_len]; exact Nat.le_refl _)
theorem co_tr (xs : List Int) (k : Nat) : co (tr xs) k = co xs k % 2305843009213693951 := by unfold tr; rw [co_nz, co_md]
theorem tr_congr {xs ys : List Int} (hl : xs.length = ys.length) (h : ∀ k, co xs k % 2305843009213693951 = co ys k % 2305843009213693951) : tr xs = tr ys := by
  unfold tr
  rw [co_ext (xs := md xs) (ys := md ys) (by rw [md_len, md_len, hl]) (fun k => by rw [co_md, co_md, h])]

def padd : List Int → List Int → List Int
  | [], ys => ys
  | xs, [] => xs
  | x :: xs, y :: ys => (x + y) :: padd xs ys
theorem co_padd : ∀ (xs ys : List Int) (k : Nat), co (padd xs ys) k = co xs k + co ys k
  | [], ys, k => by unfold padd; rw [co_nil]; omega
  | x :: xs, [], k => by unfold padd; rw [co_nil]; omega
  | x :: xs, y :: ys, 0 => rfl
  | x :: xs, y :: ys, k + 1 => by unfold padd; rw [co_succ, co_succ, co_succ, co_padd]
theorem padd_len : ∀ (xs ys : List Int), (padd xs ys).length = max xs.length ys.length
  | [], ys => by simp [padd]
  | x :: xs, [] => by simp [padd]
  | x :: xs, y :: ys => by simp [padd, padd_len xs ys]
def addS (a b : List Int) : List Int := tr (padd a b)
theorem addS_comm (a b : List Int) : addS a b = addS b a := tr_congr (by rw [padd_len, padd_len, Nat.max_comm]) (fun k => by rw [co_padd, co_padd, Int.add_comm])

def pmul : List Int → List Int → List Int
  | [], _ => []
  | x :: xs, ys => padd (ys.map (x * ·)) (0 :: pmul xs ys)
theorem pmul_len : ∀ (xs ys : List Int), xs ≠ [] → ys ≠ [] → (pmul xs ys).length = xs.length + ys.length - 1
  | [], _, h, _ => absurd rfl h
  | [x], ys, _, h => by
    have := List.length_pos_iff.2 h
    simp [pmul, padd_len]; omega
  | x :: y :: xs, ys, _, h => by
    have := List.length_pos_iff.2 h
    have ih := pmul_len (y :: xs) ys (by simp) h
    unfold pmul
    rw [padd_len, List.length_map, List.length_cons, ih]
    simp only [List.length_cons]
    omega
theorem co_pmul_take (ys : List Int) : ∀ (xs : List Int) (i k : Nat), i < xs.length → co (pmul (xs.take (i + 1)) ys) k = co (pmul (xs.take i) ys) k + (if i ≤ k then co xs i * co ys (k - i) else 0)
  | [], i, k, h => by simp at h
  | x :: xs, 0, k, _ => by
    simp only [List.take_succ_cons, List.take_zero, pmul]
    rw [co_padd, co_map _ (Int.mul_zero x), co_nil, co_zero, if_pos (Nat.zero_le _), Nat.sub_zero]
    cases k with
    | zero => rw [co_zero]; omega
    | succ k => rw [co_succ, co_nil]; omega
  | x :: xs, i + 1, k, h => by
    rw [List.take_succ_cons, List.take_succ_cons]
    unfold pmul
    rw [co_padd, co_padd, co_succ]
    cases k with
    | zero => rw [co_zero, co_zero, if_neg (by omega)]; omega
    | succ k =>
      rw [co_succ, co_succ, co_pmul_take ys xs i k (by simpa using h), Nat.add_sub_add_right]
      by_cases e : i ≤ k
      · rw [if_pos e, if_pos (by omega)]; omega
      · rw [if_neg e, if_neg (by omega)]; omega
def mulS (a b : List Int) : List Int := tr (pmul (tr a) (tr b))
theorem nz_zeros {xs : List Int} (h : ∀ k, co xs k = 0) : nz xs = [] := by
  induction xs with
  | nil => rfl
  | cons x xs ih =>
    rw [nz_cons, ih (fun k => h (k + 1)), if_pos rfl, if_pos (show x = 0 from h 0)]
theorem co_pmul_nil : ∀ (xs : List Int) (k : Nat), co (pmul xs []) k = 0
  | [], k => co_nil k
  | x :: xs, k => by
    unfold pmul
    rw [co_padd]
    cases k with
    | zero => rfl
    | succ k => rw [co_succ, co_pmul_nil xs k]; rfl
theorem mulS_nil {a b : List Int} (h : tr a = [] ∨ tr b = []) : mulS a b = [] := by
  unfold mulS
  rcases h with h | h
  · rw [h]; rfl
  · rw [h]; unfold tr; exact nz_zeros (fun k => by rw [co_md, co_pmul_nil]; rfl)
theorem mulS_len (a b : List Int) : (mulS a b).length ≤ a.length + b.length - 1 := by
  by_cases h : tr a = [] ∨ tr b = []
  · rw [mulS_nil h]; exact Nat.zero_le _
  · have h1 : tr a ≠ [] := fun e => h (.inl e)
    have h2 : tr b ≠ [] := fun e => h (.inr e)
    have h3 := tr_len (pmul (tr a) (tr b))
    rw [pmul_len _ _ h1 h2] at h3
    have h4 := tr_len a
    have h5 := tr_len b
    have h6 := List.length_pos_iff.2 h1
    have h7 := List.length_pos_iff.2 h2
    unfold mulS
    omega
theorem nz_take (xs : List Int) : xs.take (nz xs).length = nz xs := by
  induction xs with
  | nil => rfl
  | cons x xs ih =>
    rw [nz_cons]
    split
    · split
      · rfl
      · simp
    · rw [List.length_cons, List.take_succ_cons, ih]
/-- A polynomial's value. -/
def ev : List Int → Int → Int
  | [], _ => 0
  | a :: cs, x => a + x * ev cs x
theorem ev_take (x : Int) : ∀ (xs : List Int) (i : Nat), i < xs.length → ev (xs.take (i + 1)) x = ev (xs.take i) x + co xs i * x ^ i
  | [], i, h => by simp at h
  | a :: cs, 0, _ => by simp [ev, co_zero]
  | a :: cs, i + 1, h => by
    rw [List.take_succ_cons, List.take_succ_cons]
    unfold ev
    rw [ev_take x cs i (by simpa using h), Int.mul_add, co_succ, Int.pow_succ, Int.mul_left_comm x, Int.mul_comm x (x ^ i)]
    omega
end Go.Num

/- Package poly and its reference, part B: lists cut to their size. -/
namespace Go.Proofs.YtofkdfodehfpdaaGreat
open Go.V Go.Num
open Go.Eng (wr)
set_option maxRecDepth 100000
theorem li_cells (xs : List Int) : ∀ y ∈ li xs, y.cells.length = 1 := by
  intro y hy
  obtain ⟨x, _, rfl⟩ := List.mem_map.1 hy
  rfl
theorem isRo {xs ys : List D} (h : ys = xs) : Is2 (.d (.ro xs)) [] (.d (.ro ys)) [] := by subst h; exact ⟨rfl, rfl⟩
theorem isRow {e sz : Nat} {xs ys : List D} (h : ys = xs) : Is2 (.sl 0) [.row e sz xs] (.sl 0) [.row e sz ys] := by subst h; exact ⟨rfl, rfl⟩
theorem row1 {e sz : Nat} {xs ys : List D} (h : xs = ys) : [Obj.row e sz xs] = [Obj.row e sz ys] := by rw [h]
theorem li_app (xs ys : List Int) : li xs ++ li ys = li (xs ++ ys) := List.map_append.symm
theorem ClipO_ct (xs : List D) (hb : (xs.length : Int) ≤ 9223372036854775807) : Ct Tryz.prog 107 [.sl 0] [.row 23 1 xs] (Is2 (.sl 1) [.gone, .row 23 1 xs]) := by
  refine Ct.introF (E := E 9 1 [.tmp 2] [] [] []) tab_ok Tryz.call107 Tryz.func107 rfl rfl rfl rfl rfl (fun hin => ?_)
  (conv => whnf); refine And.intro ⟨by omega, by omega, by omega⟩ ?_
  rw [show List.take ((xs.length : Int)).toNat xs = xs from List.take_of_length_le (by omega)]
  exact Is2.mk rfl
theorem Clone_ct (xs : List Int) (h1 : xs.length ≤ 1000000) : Ct Tryz.prog 96 [L xs] [] (Is2 (.sl 0) [.row 23 1 (li xs)]) := by
  refine Ct.introF (E := E 8 0 [.tmp 2] [] [] [(1000002, [.own 2 23 1])]) tab_ok Tryz.call96 Tryz.func96 rfl rfl rfl rfl rfl (fun hin => ?_)
  have hl := li_len xs
  intro b hb
  (conv => whnf); refine cond_i (fun h => ?_) (fun h => ?_)
  · refine isRow ?_
    by_cases e : xs = []
    · rw [e]; rfl
    · exfalso
      have := hb (by intro e2; apply e; cases xs with | nil => rfl | cons x xs => simp [cellsOf, li] at e2; exact absurd e2 (by simp [D.cells]))
      rw [h] at this; cases this
  · (conv => whnf); refine And.intro ⟨by dsimp only [List.length]; omega, li_cells _⟩ (isRow rfl)
theorem getD_app {a : List Int} {x : Int} {i : Nat} (h : i = a.length) : (a ++ [x])[i]? = some x := by subst h; simp
theorem trimO_ct (xs : List Int) (h1 : xs.length ≤ 1000000) : Ct Tryz.prog 97 [L xs] [] (Is2 (.sl 0) [.row 23 1 (li (tr xs))]) := by
  refine Ct.introF (E := E 38 0 [.tmp 2] [] [(3, [3, 7, 8, 9]), (7, [3])] []) tab_ok Tryz.call97 Tryz.func97 rfl rfl rfl rfl rfl (fun hin => ?_)
  have hl := li_len xs
  (conv => whnf); refine LoopI.mk (fun n vs os => ∃ i : Nat, vs = [.sl 0, L xs, i64 xs.length, i64 i] ∧ os = [.row 23 1 (li (md (xs.take i)))] ∧ i ≤ xs.length ∧ n = xs.length - i) xs.length ⟨0, by rw [hl]; rfl, rfl, Nat.zero_le _, rfl⟩ ?_
  rintro n _ _ ⟨i, rfl, rfl, h2, rfl⟩
  (conv => whnf); refine cond_d (fun h3 => ?_) (fun h3 => ?_)
  · (conv => whnf); refine And.intro (by omega) (Idx.mk _ (li_get (by omega)) ?_)
    (conv => whnf); refine Idx.mk _ rfl ?_
    (conv => whnf); refine (Mod_ct _).use ?_
    (conv => whnf); refine And.intro ⟨?_, li_cells [_]⟩ ?_
    · dsimp only; simp [md]; omega
    (conv => whnf); refine And.intro (by first | omega | (dsimp only [List.length, cond]; omega) | (show (-9223372036854775808 : Int) ≤ _ ∧ _ ≤ (9223372036854775807 : Int); omega) | decide) ?_
    conv => whnf
    refine ⟨xs.length - (i + 1), by omega, i + 1, rfl, row1 ?_, by omega, rfl⟩
    rw [take_succ' (by omega)]
    simp [md]
  · have e1 : xs.take i = xs := List.take_of_length_le (by omega)
    rw [e1]
    (conv => whnf); refine LoopI.mk (fun n vs os => ∃ ys : List Int, vs = [.sl 0] ∧ os = [.row 23 1 (li ys)] ∧ nz ys = tr xs ∧ ys.length ≤ 1000000 ∧ n = ys.length) (md xs).length ⟨_, rfl, rfl, rfl, by simp [md]; exact h1, rfl⟩ ?_
    rintro n _ _ ⟨ys, rfl, rfl, h4, h7, rfl⟩
    have hy := li_len ys
    (conv => whnf); refine cond_d (fun h5 => ?_) (fun h5 => ?_)
    · obtain ⟨zs, z, rfl⟩ : ∃ zs z, ys = zs ++ [z] := ⟨_, _, (List.dropLast_concat_getLast (by rintro rfl; exact absurd h5 (by decide))).symm⟩
      rw [List.length_append, List.length_singleton] at hy h7
      have hg : (li (zs ++ [z]))[(((li (zs ++ [z])).length : Int) - 1).toNat]? = some (.int .u64 z) := by
        rw [hy, ← li_app, List.getElem?_append_right (by rw [li_len]; omega), li_len]
        have : (((zs.length + 1 : Nat) : Int) - 1).toNat - zs.length = 0 := by omega
        rw [this]; rfl
      (conv => whnf); refine And.intro (by first | omega | (dsimp only [List.length, cond]; omega) | (show (-9223372036854775808 : Int) ≤ _ ∧ _ ≤ (9223372036854775807 : Int); omega) | decide) ?_
      (conv => whnf); refine And.intro (by first | omega | (dsimp only [List.length, cond]; omega) | (show (-9223372036854775808 : Int) ≤ _ ∧ _ ≤ (9223372036854775807 : Int); omega) | decide) ?_
      (conv => whnf); refine Idx.mk _ hg ?_
      (conv => whnf); refine Idx.mk _ rfl ?_
      (conv => whnf); refine cond_d (fun h6 => ?_) (fun h6 => ?_)
      · (conv => whnf); refine And.intro (by first | omega | (dsimp only [List.length, cond]; omega) | (show (-9223372036854775808 : Int) ≤ _ ∧ _ ≤ (9223372036854775807 : Int); omega) | decide) ?_
        (conv => whnf); refine And.intro (by first | omega | (dsimp only [List.length, cond]; omega) | (show (-9223372036854775808 : Int) ≤ _ ∧ _ ≤ (9223372036854775807 : Int); omega) | decide) ?_
        conv => whnf
        refine ⟨zs.length, by simp, zs, rfl, row1 ?_, ?_, by omega, rfl⟩
        · rw [hy, ← li_app]
          have : (((zs.length + 1 : Nat) : Int) - 1).toNat = (li zs).length := by rw [li_len]; omega
          rw [this]; exact List.take_left' rfl
        · rw [← h4, h6, nz_zero]
      · (conv => whnf); refine (ClipO_ct _ (by omega)).use ?_
        refine isRow ?_
        rw [← h4, nz_keep _ h6]
    · have h0 : ys = [] := by cases ys with | nil => rfl | cons y ys => rw [List.length_cons] at hy; omega
      subst h0
      (conv => whnf); refine (ClipO_ct _ (by decide)).use ?_
      refine isRow ?_
      rw [← h4]; rfl
theorem trim_ct (xs : List Int) (h1 : xs.length ≤ 1000000) : Ct Tryz.prog 97 [L xs] [] (Is2 (L (tr xs)) []) := Ct.frz (trimO_ct xs h1)
end Go.Proofs.YtofkdfodehfpdaaGreat

/- Package poly, part C: sums and products. -/
namespace Go.Proofs.YtofkdfodehfpdaaGreat
open Go.V Go.Num
open Go.Eng (wr)
set_option maxRecDepth 100000
set_option maxHeartbeats 4000000
theorem li_at {a : List Int} {k : Int} {n : Nat} (hk : k = n) (h : n < a.length) : (li a)[k.toNat]? = some (.int .u64 (a.getD n 0)) := by subst hk; exact li_get h
theorem li_set (zs : List Int) (i : Nat) (v : Int) : (li zs).set (i : Int).toNat (.int .u64 v) = li (zs.set i v) := by rw [Int.toNat_natCast]; exact List.map_set.symm
theorem pAddO_ct (a b : List Int) (ha : a.length ≤ 100000) (hb : b.length ≤ 100000) : Ct Tryz.prog 74 [L a, L b] [] (Is2 (.sl 0) [.row 23 1 (li (addS a b))]) := by
  refine Ct.introF (E := E 36 0 [.tmp 4] [(3, [0, 1])] [(5, [5, 17, 18, 19])] []) tab_ok Tryz.call74 Tryz.func74 rfl rfl rfl rfl rfl (fun hin => ?_)
  have hla := li_len a
  have hlb := li_len b
  (conv => whnf); refine JoinI.mk (fun vs os => ∃ p q : List Int, vs = [L p, L q] ∧ os = [] ∧ q.length ≤ p.length ∧ p.length ≤ 100000 ∧ addS p q = addS a b) ?_ ?_
  · (conv => whnf); refine cond_d (fun h => ?_) (fun h => ?_)
    · conv => whnf
      exact ⟨b, a, rfl, rfl, by omega, hb, addS_comm b a⟩
    · conv => whnf
      exact ⟨a, b, rfl, rfl, by omega, ha, rfl⟩
  rintro _ _ ⟨p, q, rfl, rfl, h1, h2, h3⟩
  have hlp := li_len p
  have hlq := li_len q
  (conv => whnf); refine (Clone_ct p (by omega)).use ?_
  (conv => whnf); refine LoopI.mk (fun n vs os => ∃ (i : Nat) (zs : List Int), vs = [.sl 0, L q, i64 q.length, i64 i] ∧ os = [.row 23 1 (li zs)] ∧ i ≤ q.length ∧ zs.length = p.length ∧ (∀ k, co zs k % 2305843009213693951 = (co p k + (if k < i then co q k else 0)) % 2305843009213693951) ∧ n = q.length - i) q.length ⟨0, p, by rw [hlq]; rfl, rfl, Nat.zero_le _, rfl, fun k => by simp, rfl⟩ ?_
  rintro n _ _ ⟨i, zs, rfl, rfl, h4, h5, h6, rfl⟩
  have hlz := li_len zs
  (conv => whnf); refine cond_d (fun h7 => ?_) (fun h7 => ?_)
  · (conv => whnf); refine And.intro (by omega) (Idx.mk _ (li_get (by omega)) ?_)
    (conv => whnf); refine Idx.mk _ rfl ?_
    (conv => whnf); refine And.intro (by first | omega | (dsimp only [List.length, cond]; omega) | (show (-9223372036854775808 : Int) ≤ _ ∧ _ ≤ (9223372036854775807 : Int); omega) | decide) ?_
    (conv => whnf); refine Idx.mk _ (li_get (by omega)) ?_
    (conv => whnf); refine Idx.mk _ rfl ?_
    (conv => whnf); refine (Add_ct _ _).use ?_
    (conv => whnf); refine And.intro (by first | omega | (dsimp only [List.length, cond]; omega) | (show (-9223372036854775808 : Int) ≤ _ ∧ _ ≤ (9223372036854775807 : Int); omega) | decide) ?_
    (conv => whnf); refine Idx.mk _ (li_get (by omega)) ?_
    (conv => whnf); refine And.intro (by first | omega | (dsimp only [List.length, cond]; omega) | (show (-9223372036854775808 : Int) ≤ _ ∧ _ ≤ (9223372036854775807 : Int); omega) | decide) ?_
    conv => whnf
    refine ⟨q.length - (i + 1), by omega, i + 1, zs.set i ((co zs i + co q i) % 2305843009213693951), rfl, row1 ?_, by omega, by rw [List.length_set]; exact h5, fun k => ?_, rfl⟩
    · exact li_set zs i _
    · rw [co_set]
      have h8 := h6 k
      by_cases e : k = i
      · subst e
        rw [if_pos ⟨rfl, by omega⟩, if_pos (by omega)]
        rw [if_neg (by omega)] at h8
        omega
      · rw [if_neg (fun h => e h.1), h8]
        by_cases e2 : k < i
        · rw [if_pos e2, if_pos (by omega)]
        · rw [if_neg e2, if_neg (by omega)]
  · (conv => whnf); refine (trimO_ct zs (by omega)).use ?_
    refine isRow ?_
    rw [← h3]
    have : tr zs = addS p q := tr_congr (by rw [padd_len, h5]; omega) (fun k => by
      rw [h6, co_padd]
      by_cases e : k < i
      · rw [if_pos e]
      · rw [if_neg e, co_out (xs := q) (by omega)])
    rw [this]
theorem pAdd_ct (a b : List Int) (ha : a.length ≤ 100000) (hb : b.length ≤ 100000) : Ct Tryz.prog 74 [L a, L b] [] (Is2 (L (addS a b)) []) := Ct.frz (pAddO_ct a b ha hb)
theorem pMul_ct (a b : List Int) (ha : a.length ≤ 100000) (hb : b.length ≤ 100000) : Ct Tryz.prog 75 [L a, L b] [] (Is2 (L (mulS a b)) []) := by
  refine Ct.introF (E := E 62 0 [.tmp 4] [] [(6, [1, 5, 29, 30, 31]), (9, [1, 5, 6, 7, 29, 30, 31, 36, 37, 38])] [(1000003, [.nl 4])]) tab_ok Tryz.call75 Tryz.func75 rfl rfl rfl rfl rfl (fun hin => ?_)
  (conv => whnf); refine (trim_ct a (by omega)).use ?_
  (conv => whnf); refine (trim_ct b (by omega)).use ?_
  have hla := tr_len a
  have hlb := tr_len b
  have hm : mulS a b = tr (pmul (tr a) (tr b)) := rfl
  have hnil := mulS_nil (a := a) (b := b)
  generalize tr a = p at *
  generalize tr b = q at *
  have hlp := li_len p
  have hlq := li_len q
  have hret : p.length = 0 ∨ q.length = 0 → mulS a b = [] := fun h => hnil (h.imp (fun h => by simpa using h) (fun h => by simpa using h))
  (conv => whnf); refine cond_d (fun h => ?_) (fun h => ?_)
  · refine Is2.mk ?_
    rw [hret (.inl (by omega))]; rfl
  (conv => whnf); refine cond_d (fun h' => ?_) (fun h' => ?_)
  · refine Is2.mk ?_
    rw [hret (.inr (by omega))]; rfl
  have hlen := pmul_len p q (by rintro rfl; exact h rfl) (by rintro rfl; exact h' rfl)
  (conv => whnf); refine And.intro (by first | omega | (dsimp only [List.length, cond]; omega) | (show (-9223372036854775808 : Int) ≤ _ ∧ _ ≤ (9223372036854775807 : Int); omega) | decide) ?_
  (conv => whnf); refine And.intro (by first | omega | (dsimp only [List.length, cond]; omega) | (show (-9223372036854775808 : Int) ≤ _ ∧ _ ≤ (9223372036854775807 : Int); omega) | decide) ?_
  (conv => whnf); refine And.intro (by first | omega | (dsimp only [List.length, cond]; omega) | (show (-9223372036854775808 : Int) ≤ _ ∧ _ ≤ (9223372036854775807 : Int); omega) | decide) ?_
  have hqp : 0 < q.length := by omega
  (conv => whnf); refine LoopI.mk (fun n vs os => ∃ (i : Nat) (zs : List Int), vs = [L q, .sl 0, L p, i64 p.length, i64 i] ∧ os = [.row 23 1 (li zs)] ∧ i ≤ p.length ∧ zs.length = p.length + q.length - 1 ∧ (∀ k, co zs k % 2305843009213693951 = co (pmul (p.take i) q) k % 2305843009213693951) ∧ n = p.length - i) p.length ⟨0, List.replicate (p.length + q.length - 1) 0, by rw [hlp]; rfl, row1 ?_, Nat.zero_le _, List.length_replicate, fun k => by rw [co_rep]; rfl, rfl⟩ ?_
  · have e : ((((li p).length : Int) + ((li q).length : Int) - 1).toNat) = p.length + q.length - 1 := by omega
    rw [e]; exact List.map_replicate.symm
  rintro n _ _ ⟨i, zs, rfl, rfl, h4, h5, h6, rfl⟩
  (conv => whnf); refine cond_d (fun h7 => ?_) (fun h7 => ?_)
  · (conv => whnf); refine And.intro (by omega) (Idx.mk _ (li_get (by omega)) ?_)
    (conv => whnf); refine Idx.mk _ rfl ?_
    (conv => whnf); refine LoopI.mk (fun n vs os => ∃ (j : Nat) (ys : List Int), vs = [L q, .sl 0, i64 i, u64 (p.getD i 0), L p, i64 p.length, i64 i, L q, i64 q.length, i64 j] ∧ os = [.row 23 1 (li ys)] ∧ j ≤ q.length ∧ ys.length = p.length + q.length - 1 ∧ (∀ k, co ys k % 2305843009213693951 = (co (pmul (p.take i) q) k + (if i ≤ k ∧ k < i + j then co p i * co q (k - i) else 0)) % 2305843009213693951) ∧ n = q.length - j) q.length ⟨0, zs, by rw [hlq]; rfl, rfl, Nat.zero_le _, h5, fun k => by rw [h6, if_neg (by omega), Int.add_zero], rfl⟩ ?_
    rintro n _ _ ⟨j, ys, rfl, rfl, k4, k5, k6, rfl⟩
    have hly := li_len ys
    (conv => whnf); refine cond_d (fun k7 => ?_) (fun k7 => ?_)
    · (conv => whnf); refine And.intro (by omega) (Idx.mk _ (li_get (by omega)) ?_)
      (conv => whnf); refine Idx.mk _ rfl ?_
      (conv => whnf); refine DrawI.mkF 14 [[5], [6], [8], [44, 45], [5], [6], [8], [48, 49], [47, 50], [51], [7], [9], [53, 54], [52, 55]] (by decide +kernel) ?_
      repeat (first | refine DrawO.mkF _ (And.intro rfl rfl) ?_ | refine DrawO.mkF _ (Idx.mk _ rfl (And.intro rfl rfl)) ?_)
      refine DrawO.mkF _ (And.intro (by first | omega | (dsimp only [List.length, cond]; omega) | decide) (And.intro rfl rfl)) ?_
      repeat (first | refine DrawO.mkF _ (And.intro rfl rfl) ?_ | refine DrawO.mkF _ (Idx.mk _ rfl (And.intro rfl rfl)) ?_)
      refine DrawO.mkF _ (And.intro (by first | omega | (dsimp only [List.length, cond]; omega) | decide) (And.intro rfl rfl)) ?_
      refine DrawO.mkF _ (And.intro (by omega) (And.intro rfl rfl)) ?_
      refine DrawO.mkF _ (Idx.mk _ (li_at (n := i + j) (by omega) (by omega)) (Idx.mk _ rfl (And.intro rfl rfl))) ?_
      repeat (first | refine DrawO.mkF _ (And.intro rfl rfl) ?_ | refine DrawO.mkF _ (Idx.mk _ rfl (And.intro rfl rfl)) ?_)
      refine DrawO.mkF _ ((Mul_ct _ _).use (And.intro rfl rfl)) ?_
      refine DrawO.mkF _ ((Add_ct _ _).use (And.intro rfl rfl)) ?_
      (conv => whnf); refine And.intro (by first | omega | (dsimp only [List.length, cond]; omega) | (show (-9223372036854775808 : Int) ≤ _ ∧ _ ≤ (9223372036854775807 : Int); omega) | decide) ?_
      (conv => whnf); refine Idx.mk _ (li_at (n := i + j) (by omega) (by omega)) ?_
      (conv => whnf); refine And.intro (by first | omega | (dsimp only [List.length, cond]; omega) | (show (-9223372036854775808 : Int) ≤ _ ∧ _ ≤ (9223372036854775807 : Int); omega) | decide) ?_
      conv => whnf
      refine ⟨q.length - (j + 1), by omega, j + 1, ys.set (i + j) ((co ys (i + j) + co p i * co q j % 2305843009213693951) % 2305843009213693951), rfl, row1 ?_, by omega, by rw [List.length_set]; exact k5, fun k => ?_, rfl⟩
      · have e : ((i : Int) + (j : Int)) = ((i + j : Nat) : Int) := by omega
        rw [e]; exact li_set ys (i + j) _
      · rw [co_set]
        have h8 := k6 k
        by_cases e : k = i + j
        · subst e
          rw [if_pos ⟨rfl, by omega⟩, if_pos (by omega), Nat.add_sub_cancel_left]
          rw [if_neg (by omega)] at h8
          omega
        · rw [if_neg (fun h => e h.1), h8]
          by_cases e2 : i ≤ k ∧ k < i + j
          · rw [if_pos e2, if_pos (by omega)]
          · rw [if_neg e2, if_neg (by omega)]
    · (conv => whnf); refine And.intro (by first | omega | (dsimp only [List.length, cond]; omega) | (show (-9223372036854775808 : Int) ≤ _ ∧ _ ≤ (9223372036854775807 : Int); omega) | decide) ?_
      conv => whnf
      refine ⟨p.length - (i + 1), by omega, i + 1, ys, rfl, rfl, by omega, k5, fun k => ?_, rfl⟩
      rw [k6, co_pmul_take q p i k (by omega)]
      by_cases e : i ≤ k
      · rw [if_pos e]
        by_cases e2 : k < i + j
        · rw [if_pos ⟨e, e2⟩]
        · rw [if_neg (by omega), co_out (xs := q) (by omega), Int.mul_zero]
      · rw [if_neg e, if_neg (by omega)]
  · (conv => whnf); refine (trim_ct zs (by omega)).use ?_
    refine Is2.mk ?_
    rw [List.take_of_length_le (by omega)] at h6
    rw [hm, tr_congr (xs := zs) (ys := pmul p q) (by omega) h6]
end Go.Proofs.YtofkdfodehfpdaaGreat

/- Package poly's reference: values, lists cut to their size. -/
namespace Go.Proofs.YtofkdfodehfpdaaGreat
open Go.V Go.Num
open Go.Eng (wr)
set_option maxRecDepth 100000
set_option maxHeartbeats 4000000
theorem li_rng {xs : List Int} (h : ∀ y ∈ cellsOf (li xs), ok0 y) : ∀ i, i < xs.length → 0 ≤ xs.getD i 0 := by
  intro i hi
  have hm : D.int .u64 (xs.getD i 0) ∈ cellsOf (li xs) := by
    unfold cellsOf
    rw [List.mem_flatMap]
    exact ⟨.int .u64 (xs.getD i 0), List.mem_of_getElem? (li_get hi), by simp [D.cells]⟩
  exact (inr_u64 (h _ hm)).1
theorem rAt_ct (xs : List Int) (x : Int) (hl : xs.length ≤ 1000000) (hx : 0 ≤ x) : Ct Tryz.prog 24 [L xs, u64 x] [] (Is2 (u64 (ev xs x % 2305843009213693951)) []) := by
  refine Ct.introF (E := E 26 0 [.tmp 4] [] [(3, [0, 1, 5, 6, 7])] []) tab_ok Tryz.call24 Tryz.func24 rfl rfl rfl rfl rfl (fun hin => ?_)
  have hr := li_rng hin.1.2
  have hlx := li_len xs
  (conv => whnf); refine LoopI.mk (fun n vs os => ∃ (i : Nat) (s p : Int), vs = [L xs, u64 x, u64 s, u64 p, i64 i] ∧ os = [] ∧ i ≤ xs.length ∧ 0 ≤ s ∧ s < 2305843009213693951 ∧ 0 ≤ p ∧ s % 2305843009213693951 = ev (xs.take i) x % 2305843009213693951 ∧ p % 2305843009213693951 = x ^ i % 2305843009213693951 ∧ n = xs.length - i) xs.length ⟨0, 0, 1, rfl, rfl, Nat.zero_le _, by decide, by decide, by decide, rfl, by simp, rfl⟩ ?_
  rintro n _ _ ⟨i, s, p, rfl, rfl, h1, h2, h3, h4, h5, h6, rfl⟩
  (conv => whnf); refine cond_d (fun h7 => ?_) (fun h7 => ?_)
  · have hi : i < xs.length := by omega
    (conv => whnf); refine And.intro (by first | omega | (dsimp only [List.length, cond]; omega) | (show (-9223372036854775808 : Int) ≤ _ ∧ _ ≤ (9223372036854775807 : Int); omega) | decide) ?_
    (conv => whnf); refine Idx.mk _ (li_get hi) ?_
    (conv => whnf); refine Idx.mk _ rfl ?_
    (conv => whnf); refine (rMul_ct _ _ (hr i hi) h4).use ?_
    (conv => whnf); refine (rAdd_ct _ _).use ?_
    (conv => whnf); refine (rMul_ct _ _ h4 hx).use ?_
    (conv => whnf); refine And.intro (by first | omega | (dsimp only [List.length, cond]; omega) | (show (-9223372036854775808 : Int) ≤ _ ∧ _ ≤ (9223372036854775807 : Int); omega) | decide) ?_
    conv => whnf
    refine ⟨xs.length - (i + 1), by omega, i + 1, _, _, rfl, rfl, by omega, by omega, by omega, by omega, ?_, ?_, rfl⟩
    · rw [ev_take x xs i hi]
      have e : (co xs i * p) % 2305843009213693951 = (co xs i * x ^ i) % 2305843009213693951 := by rw [← emod_mul_r, h6, emod_mul_r]
      have e2 : xs.getD i 0 = co xs i := rfl
      rw [e2]
      omega
    · rw [Int.pow_succ, ← emod_mul_l (x ^ i), ← h6, emod_mul_l]
      omega
  · rw [List.take_of_length_le (by omega)] at h5
    refine isInt ?_
    rw [← h5]; omega
end Go.Proofs.YtofkdfodehfpdaaGreat

/- Package poly: points, what is sound. -/
namespace Go.Proofs.YtofkdfodehfpdaaGreat
open Go.V Go.Num
open Go.Eng (wr)
set_option maxRecDepth 100000
set_option maxHeartbeats 4000000
abbrev pt (p : Int × Int) : D := .agg [.int .i64 p.1, .int .u64 p.2]
abbrev lp (ps : List (Int × Int)) : List D := ps.map pt
abbrev LP (ps : List (Int × Int)) : AV := .d (.ro (lp ps))
theorem lp_len (a : List (Int × Int)) : (lp a).length = a.length := List.length_map _
theorem lp_get {a : List (Int × Int)} {i : Nat} (h : i < a.length) : (lp a)[(i : Int).toNat]? = some (pt (a.getD i (0, 0))) := by
  rw [Int.toNat_natCast, List.getElem?_map, List.getElem?_eq_getElem h, List.getD_eq_getElem?_getD, List.getElem?_eq_getElem h]; rfl
theorem same_ct (p : Int × Int) (a b : Int) : Ct Tryz.prog 106 [.d (pt p), .ptr 0 0] [.vec 60 [.d (.int .i64 a), .d (.int .u64 b)]] (Is2 (.d (.bool (decide (p.1 = a)))) [.vec 60 [.d (.int .i64 a), .d (.int .u64 b)]]) := by
  refine Ct.introF (E := E 9 1 [.tmp 3] [] [] []) tab_ok Tryz.call106 Tryz.func106 rfl rfl rfl rfl rfl (fun hin => ?_)
  exact ⟨rfl, rfl⟩
/-- Where a first coordinate stands first. -/
def fstAt (a : Int) (ps : List (Int × Int)) : Bool := ps.any fun p => decide (p.1 = a)
theorem fstAt_take {a : Int} {ps : List (Int × Int)} {i : Nat} (h : i < ps.length) : fstAt a (ps.take (i + 1)) = (fstAt a (ps.take i) || decide ((ps.getD i (0, 0)).1 = a)) := by
  unfold fstAt
  rw [List.take_add_one, List.any_append, List.getD_eq_getElem?_getD, List.getElem?_eq_getElem h]
  simp
theorem Index_ct (ps : List (Int × Int)) (a b : Int) : Ct Tryz.prog 112 [LP ps, .fn 106 [] [.ptr 0 0]] [.vec 60 [.d (.int .i64 a), .d (.int .u64 b)]] (fun r os => ∃ k : Int, r = i64 k ∧ os = [.vec 60 [.d (.int .i64 a), .d (.int .u64 b)]] ∧ (0 ≤ k ↔ fstAt a ps = true)) := by
  refine Ct.introF (E := E 19 1 [.tmp 4] [] [(2, [0, 1, 7, 8])] []) tab_ok Tryz.call112 Tryz.func112 rfl rfl rfl rfl rfl (fun hin => ?_)
  have hl := lp_len ps
  have hb := hin.1.1
  (conv => whnf); refine LoopI.mk (fun n vs os => ∃ i : Nat, vs = [LP ps, .fn 106 [] [.ptr 0 0], i64 ps.length, i64 i] ∧ os = [.vec 60 [.d (.int .i64 a), .d (.int .u64 b)]] ∧ i ≤ ps.length ∧ fstAt a (ps.take i) = false ∧ n = ps.length - i) ps.length ⟨0, by rw [hl]; rfl, rfl, Nat.zero_le _, rfl, rfl⟩ ?_
  rintro n _ _ ⟨i, rfl, rfl, h1, h2, rfl⟩
  (conv => whnf); refine cond_d (fun h7 => ?_) (fun h7 => ?_)
  · have hi : i < ps.length := by omega
    (conv => whnf); refine And.intro (by first | omega | (dsimp only [List.length, cond]; omega) | (show (-9223372036854775808 : Int) ≤ _ ∧ _ ≤ (9223372036854775807 : Int); omega) | decide) ?_
    (conv => whnf); refine Idx.mk _ (lp_get hi) ?_
    (conv => whnf); refine (same_ct _ a b).use ?_
    (conv => whnf); refine cond_d (fun h8 => ?_) (fun h8 => ?_)
    · conv => whnf
      refine ⟨i, rfl, rfl, ⟨fun _ => ?_, fun _ => by omega⟩⟩
      unfold fstAt
      rw [List.any_eq_true]
      have hm : ps.getD i (0, 0) ∈ ps := by
        rw [List.getD_eq_getElem?_getD, List.getElem?_eq_getElem hi]
        exact List.getElem_mem hi
      exact ⟨_, hm, by rw [h8]; simp⟩
    · (conv => whnf); refine And.intro (by first | omega | (dsimp only [List.length, cond]; omega) | (show (-9223372036854775808 : Int) ≤ _ ∧ _ ≤ (9223372036854775807 : Int); omega) | decide) ?_
      conv => whnf
      refine ⟨ps.length - (i + 1), by omega, i + 1, rfl, rfl, by omega, ?_, rfl⟩
      rw [fstAt_take hi, h2, decide_eq_false h8]; rfl
  · rw [List.take_of_length_le (by omega)] at h2
    exact ⟨-1, rfl, rfl, by rw [h2]; simp⟩
theorem Has_ct (ps : List (Int × Int)) (a b : Int) : Ct Tryz.prog 105 [LP ps, .fn 106 [] [.ptr 0 0]] [.vec 60 [.d (.int .i64 a), .d (.int .u64 b)]] (Is2 (.d (.bool (fstAt a ps))) [.vec 60 [.d (.int .i64 a), .d (.int .u64 b)]]) := by
  refine Ct.introF (E := E 9 1 [.tmp 4] [] [] []) tab_ok Tryz.call105 Tryz.func105 rfl rfl rfl rfl rfl (fun hin => ?_)
  refine (Index_ct ps a b).mono (fun r os h => ?_)
  obtain ⟨k, rfl, rfl, hk⟩ := h
  conv => whnf
  refine ⟨?_, rfl⟩
  have : decide (0 ≤ k) = fstAt a ps := by
    cases h : fstAt a ps with
    | true => exact decide_eq_true (hk.2 h)
    | false => exact decide_eq_false (fun h2 => by rw [hk.1 h2] at h; cases h)
  rw [← this]
/-- Two points at one place. -/
def tw (ps : List (Int × Int)) : Bool := (List.range ps.length).any fun i => fstAt (ps.getD i (0, 0)).1 (ps.take i)
theorem twice_ct (ps : List (Int × Int)) : Ct Tryz.prog 92 [LP ps] [] (Is2 (.d (.bool (tw ps))) []) := by
  refine Ct.introF (E := E 18 0 [.tmp 2] [] [(2, [0, 5, 6, 7])] []) tab_ok Tryz.call92 Tryz.func92 rfl rfl rfl rfl rfl (fun hin => ?_)
  have hl := lp_len ps
  have hb := hin.1.1
  (conv => whnf); refine LoopI.mk (fun n vs os => ∃ i : Nat, vs = [LP ps, LP ps, i64 ps.length, i64 i] ∧ os = [] ∧ i ≤ ps.length ∧ (∀ j, j < i → fstAt (ps.getD j (0, 0)).1 (ps.take j) = false) ∧ n = ps.length - i) ps.length ⟨0, by rw [lp_len]; rfl, rfl, Nat.zero_le _, fun j h => by omega, rfl⟩ ?_
  rintro n _ _ ⟨i, rfl, rfl, h1, h2, rfl⟩
  (conv => whnf); refine cond_d (fun h7 => ?_) (fun h7 => ?_)
  · have hi : i < ps.length := by omega
    (conv => whnf); refine And.intro (by first | omega | (dsimp only [List.length, cond]; omega) | (show (-9223372036854775808 : Int) ≤ _ ∧ _ ≤ (9223372036854775807 : Int); omega) | decide) ?_
    (conv => whnf); refine Idx.mk _ (lp_get hi) ?_
    (conv => whnf); refine And.intro (by first | omega | (dsimp only [List.length, cond]; omega) | (show (-9223372036854775808 : Int) ≤ _ ∧ _ ≤ (9223372036854775807 : Int); omega) | decide) ?_
    have e : (lp ps).take (i : Int).toNat = lp (ps.take i) := by rw [Int.toNat_natCast]; exact List.map_take.symm
    refine Ct.use (r := .d (.bool (fstAt (ps.getD i (0, 0)).1 (ps.take i)))) (os' := [.vec 60 [.d (.int .i64 (ps.getD i (0, 0)).1), .d (.int .u64 (ps.getD i (0, 0)).2)]]) ?_ ?_
    · have := Has_ct (ps.take i) (ps.getD i (0, 0)).1 (ps.getD i (0, 0)).2
      unfold LP at this
      rw [← e] at this
      exact this
    (conv => whnf); refine cond_i (fun h8 => ?_) (fun h8 => ?_)
    · refine isBool ?_
      unfold tw
      rw [List.any_eq_true.2 ⟨i, List.mem_range.2 hi, h8⟩]
    · (conv => whnf); refine And.intro (by first | omega | (dsimp only [List.length, cond]; omega) | (show (-9223372036854775808 : Int) ≤ _ ∧ _ ≤ (9223372036854775807 : Int); omega) | decide) ?_
      conv => whnf
      refine ⟨ps.length - (i + 1), by omega, i + 1, rfl, rfl, by omega, fun j hj => ?_, rfl⟩
      by_cases ej : j = i
      · subst ej; exact h8
      · exact h2 j (by omega)
  · refine isBool ?_
    refine ((Bool.eq_false_iff.2 (fun h => ?_) : tw ps = false)).symm
    unfold tw at h
    rw [List.any_eq_true] at h
    obtain ⟨j, hj, hf⟩ := h
    have := h2 j (by have := List.mem_range.1 hj; omega)
    rw [this] at hf; cases hf
/-- A point that does not do. -/
def badP (p : Int × Int) : Bool := decide (p.1 < 1) || decide (p.1 > 64) || decide (p.2 ≥ 2305843009213693951)
def soundS (ps : List (Int × Int)) : Int := if ps.length = 0 then 1 else if ps.length > 64 then 1 else if tw ps = true then 1 else if ps.any badP = true then 4 else 0
theorem sound_ct (ps : List (Int × Int)) : Ct Tryz.prog 71 [LP ps] [] (Is2 (i64 (soundS ps)) []) := by
  refine Ct.introF (E := E 37 0 [.tmp 2] [] [(4, [17, 18, 19])] []) tab_ok Tryz.call71 Tryz.func71 rfl rfl rfl rfl rfl (fun hin => ?_)
  have hl := lp_len ps
  have hb := hin.1.1
  unfold soundS
  (conv => whnf); refine cond_d (fun h => ?_) (fun h => ?_)
  · rw [if_pos (by omega)]; exact Is2.mk rfl
  rw [if_neg (by omega)]
  (conv => whnf); refine cond_d (fun h' => ?_) (fun h' => ?_)
  · rw [if_pos (by omega)]; exact Is2.mk rfl
  rw [if_neg (by omega)]
  (conv => whnf); refine (twice_ct ps).use ?_
  (conv => whnf); refine cond_i (fun h2 => ?_) (fun h2 => ?_)
  · rw [if_pos h2]; exact Is2.mk rfl
  rw [if_neg (by rw [h2]; simp)]
  (conv => whnf); refine LoopI.mk (fun n vs os => ∃ i : Nat, vs = [LP ps, i64 ps.length, i64 i] ∧ os = [] ∧ i ≤ ps.length ∧ (∀ j, j < i → badP (ps.getD j (0, 0)) = false) ∧ n = ps.length - i) ps.length ⟨0, by rw [lp_len]; rfl, rfl, Nat.zero_le _, fun j h => by omega, rfl⟩ ?_
  rintro n _ _ ⟨i, rfl, rfl, h3, h4, rfl⟩
  (conv => whnf); refine cond_d (fun h7 => ?_) (fun h7 => ?_)
  · have hi : i < ps.length := by omega
    have hbad : badP (ps.getD i (0, 0)) = true → ps.any badP = true := fun h => by
      rw [List.any_eq_true]
      refine ⟨_, ?_, h⟩
      rw [List.getD_eq_getElem?_getD, List.getElem?_eq_getElem hi]
      exact List.getElem_mem hi
    (conv => whnf); refine And.intro (by first | omega | (dsimp only [List.length, cond]; omega) | (show (-9223372036854775808 : Int) ≤ _ ∧ _ ≤ (9223372036854775807 : Int); omega) | decide) ?_
    (conv => whnf); refine Idx.mk _ (lp_get hi) ?_
    (conv => whnf); refine cond_d (fun k1 => ?_) (fun k1 => ?_)
    · rw [if_pos (hbad (by unfold badP; rw [decide_eq_true k1]; rfl))]; exact Is2.mk rfl
    (conv => whnf); refine cond_d (fun k2 => ?_) (fun k2 => ?_)
    · rw [if_pos (hbad (by unfold badP; rw [decide_eq_true (p := _ > _) k2]; simp))]; exact Is2.mk rfl
    (conv => whnf); refine cond_d (fun k3 => ?_) (fun k3 => ?_)
    · rw [if_pos (hbad (by unfold badP; rw [decide_eq_true (p := _ ≥ _) k3]; simp))]; exact Is2.mk rfl
    (conv => whnf); refine And.intro (by first | omega | (dsimp only [List.length, cond]; omega) | (show (-9223372036854775808 : Int) ≤ _ ∧ _ ≤ (9223372036854775807 : Int); omega) | decide) ?_
    conv => whnf
    refine ⟨ps.length - (i + 1), by omega, i + 1, rfl, rfl, by omega, fun j hj => ?_, rfl⟩
    by_cases ej : j = i
    · subst ej
      unfold badP
      rw [decide_eq_false k1, decide_eq_false (p := _ > _) k2, decide_eq_false (p := _ ≥ _) k3]; rfl
    · exact h4 j (by omega)
  · rw [if_neg (fun h => ?_)]
    · exact Is2.mk rfl
    · rw [List.any_eq_true] at h
      obtain ⟨p, hp, hf⟩ := h
      obtain ⟨j, hj, rfl⟩ := List.getElem_of_mem hp
      have := h4 j (by omega)
      rw [List.getD_eq_getElem?_getD, List.getElem?_eq_getElem hj] at this
      rw [Option.getD_some] at this
      rw [this] at hf; cases hf
end Go.Proofs.YtofkdfodehfpdaaGreat

/- Package poly: one polynomial that is one at a point and zero at the others. -/
namespace Go.Proofs.YtofkdfodehfpdaaGreat
open Go.V Go.Num
open Go.Eng (wr)
set_option maxRecDepth 100000
set_option maxHeartbeats 4000000
/-- The first coordinates of all but one. -/
def ot (ps : List (Int × Int)) (n i : Nat) : List Int := ((List.range i).filter (fun j => !decide (j = n))).map (fun j => (ps.getD j (0, 0)).1)
theorem ot_step (ps : List (Int × Int)) (n i : Nat) : ot ps n (i + 1) = if i = n then ot ps n i else ot ps n i ++ [(ps.getD i (0, 0)).1] := by
  unfold ot
  rw [List.range_succ, List.filter_append, List.map_append]
  by_cases h : i = n
  · rw [if_pos h]; simp [h]
  · rw [if_neg h]; simp [h]
theorem ot_len (ps : List (Int × Int)) (n i : Nat) : (ot ps n i).length ≤ i := by
  unfold ot
  rw [List.length_map]
  exact Nat.le_trans (List.length_filter_le _ _) (by rw [List.length_range]; exact Nat.le_refl _)
def prS (rs : List Int) : List Int := rs.foldl (fun o r => mulS o [(0 - r) % 2305843009213693951, 1]) [1]
def blS (x : Int) (rs : List Int) : Int := rs.foldl (fun b r => (b * ((x - r) % 2305843009213693951)) % 2305843009213693951) 1
theorem prS_app (rs : List Int) (r : Int) : prS (rs ++ [r]) = mulS (prS rs) [(0 - r) % 2305843009213693951, 1] := by unfold prS; rw [List.foldl_append]; rfl
theorem blS_app (x : Int) (rs : List Int) (r : Int) : blS x (rs ++ [r]) = (blS x rs * ((x - r) % 2305843009213693951)) % 2305843009213693951 := by unfold blS; rw [List.foldl_append]; rfl
theorem prS_len (rs : List Int) : (prS rs).length ≤ rs.length + 1 := by
  have : ∀ (rs o : List Int), (rs.foldl (fun o r => mulS o [(0 - r) % 2305843009213693951, 1]) o).length ≤ rs.length + o.length := by
    intro rs
    induction rs with
    | nil => intro o; simp
    | cons r rs ih =>
      intro o
      rw [List.foldl_cons, List.length_cons]
      have h1 := ih (mulS o [(0 - r) % 2305843009213693951, 1])
      have h2 := mulS_len o [(0 - r) % 2305843009213693951, 1]
      simp only [List.length_cons, List.length_nil] at h2
      omega
  exact this rs [1]
def baseS (ps : List (Int × Int)) (n : Nat) : List Int := mulS (prS (ot ps n ps.length)) [inv (blS (ps.getD n (0, 0)).1 (ot ps n ps.length))]
theorem base_ct (ps : List (Int × Int)) (n : Nat) (hn : n < ps.length) (hl : ps.length ≤ 64) (hx : ∀ j, j < ps.length → 0 ≤ (ps.getD j (0, 0)).1 ∧ (ps.getD j (0, 0)).1 ≤ 64) : Ct Tryz.prog 76 [LP ps, i64 n] [] (Is2 (L (baseS ps n)) []) := by
  refine Ct.introF (E := E 51 0 [.tmp 4] [] [(3, [0, 1, 5, 6, 12, 13, 14])] [(1000001, [.fz 5])]) tab_ok Tryz.call76 Tryz.func76 rfl rfl rfl rfl rfl (fun hin => ?_)
  have hlp := lp_len ps
  have hw : ∀ j, j < ps.length → wr .u64 (ps.getD j (0, 0)).1 = (ps.getD j (0, 0)).1 := fun j hj => wr_small (by have := hx j hj; omega)
  conv => whnf
  (conv => whnf); refine LoopI.mk (fun q vs os => ∃ i : Nat, vs = [LP ps, i64 n, L (prS (ot ps n i)), u64 (blS (ps.getD n (0, 0)).1 (ot ps n i)), LP ps, i64 ps.length, i64 i] ∧ os = [] ∧ i ≤ ps.length ∧ q = ps.length - i) ps.length ⟨0, by rw [hlp]; rfl, rfl, Nat.zero_le _, rfl⟩ ?_
  rintro q _ _ ⟨i, rfl, rfl, h1, rfl⟩
  (conv => whnf); refine cond_d (fun h2 => ?_) (fun h2 => ?_)
  · have hi : i < ps.length := by omega
    (conv => whnf); refine And.intro (by first | omega | (dsimp only [List.length, cond]; omega) | (show (-9223372036854775808 : Int) ≤ _ ∧ _ ≤ (9223372036854775807 : Int); omega) | decide) ?_
    (conv => whnf); refine Idx.mk _ (lp_get hi) ?_
    (conv => whnf); refine cond_d (fun h3 => ?_) (fun h3 => ?_)
    · (conv => whnf); refine (Sub_ct _ _).use ?_
      (conv => whnf); refine (pMul_ct (prS (ot ps n i)) [(0 - wr .u64 (ps.getD i (0, 0)).1) % 2305843009213693951, 1] (by have := prS_len (ot ps n i); have := ot_len ps n i; omega) (by simp)).use ?_
      (conv => whnf); refine DrawI.mkF 11 [[6], [0], [1], [30, 31], [32], [33], [34], [8], [36], [37], [35, 38]] (by decide +kernel) ?_
      repeat (first | refine DrawO.mkF _ (And.intro rfl rfl) ?_ | refine DrawO.mkF _ (Idx.mk _ rfl (And.intro rfl rfl)) ?_)
      refine DrawO.mkF _ (And.intro (by omega) (Idx.mk _ (lp_get hn) (And.intro rfl rfl))) ?_
      repeat (first | refine DrawO.mkF _ (And.intro rfl rfl) ?_ | refine DrawO.mkF _ (Idx.mk _ rfl (And.intro rfl rfl)) ?_)
      refine DrawO.mkF _ ((Sub_ct _ _).use (And.intro rfl rfl)) ?_
      (conv => whnf); refine (Mul_ct _ _).use ?_
      (conv => whnf); refine And.intro (by first | omega | (dsimp only [List.length, cond]; omega) | (show (-9223372036854775808 : Int) ≤ _ ∧ _ ≤ (9223372036854775807 : Int); omega) | decide) ?_
      conv => whnf
      refine ⟨ps.length - (i + 1), by omega, i + 1, ?_, rfl, by omega, rfl⟩
      rw [ot_step, if_neg (by omega), prS_app, blS_app, hw i hi, hw n hn]; rfl
    · (conv => whnf); refine And.intro (by first | omega | (dsimp only [List.length, cond]; omega) | (show (-9223372036854775808 : Int) ≤ _ ∧ _ ≤ (9223372036854775807 : Int); omega) | decide) ?_
      conv => whnf
      refine ⟨ps.length - (i + 1), by omega, i + 1, ?_, rfl, by omega, rfl⟩
      rw [ot_step, if_pos (by omega)]; rfl
  · have e : i = ps.length := by omega
    rw [e]
    (conv => whnf); refine (Inv_ct _).use ?_
    (conv => whnf); refine (pMul_ct (prS (ot ps n ps.length)) [_] (by have := prS_len (ot ps n ps.length); have := ot_len ps n ps.length; omega) (by simp)).use ?_
    exact isRo rfl
end Go.Proofs.YtofkdfodehfpdaaGreat

/- Package poly: the polynomial through points. -/
namespace Go.Proofs.YtofkdfodehfpdaaGreat
open Go.V Go.Num
open Go.Eng (wr)
set_option maxRecDepth 100000
set_option maxHeartbeats 4000000
def sumS (ps : List (Int × Int)) (i : Nat) : List Int := (List.range i).foldl (fun o j => addS o (mulS (baseS ps j) [(ps.getD j (0, 0)).2])) []
theorem sumS_step (ps : List (Int × Int)) (i : Nat) : sumS ps (i + 1) = addS (sumS ps i) (mulS (baseS ps i) [(ps.getD i (0, 0)).2]) := by unfold sumS; rw [List.range_succ, List.foldl_append]; rfl
theorem addS_len (a b : List Int) : (addS a b).length ≤ max a.length b.length := by unfold addS; exact Nat.le_trans (tr_len _) (by rw [padd_len]; exact Nat.le_refl _)
theorem baseS_len (ps : List (Int × Int)) (n : Nat) : (baseS ps n).length ≤ ps.length + 1 := by
  have h1 := mulS_len (prS (ot ps n ps.length)) [inv (blS (ps.getD n (0, 0)).1 (ot ps n ps.length))]
  have h2 := prS_len (ot ps n ps.length)
  have h3 := ot_len ps n ps.length
  simp only [List.length_singleton] at h1
  unfold baseS; omega
theorem sumS_len (ps : List (Int × Int)) : ∀ i, (sumS ps i).length ≤ ps.length + 1
  | 0 => Nat.zero_le _
  | i + 1 => by
    rw [sumS_step]
    have h1 := addS_len (sumS ps i) (mulS (baseS ps i) [(ps.getD i (0, 0)).2])
    have h2 := sumS_len ps i
    have h3 := mulS_len (baseS ps i) [(ps.getD i (0, 0)).2]
    have h4 := baseS_len ps i
    simp only [List.length_singleton] at h3
    omega
def thrS (ps : List (Int × Int)) : List Int := if soundS ps = 0 then sumS ps ps.length else []
theorem sound_rng {ps : List (Int × Int)} (h : soundS ps = 0) : 0 < ps.length ∧ ps.length ≤ 64 ∧ tw ps = false ∧ ∀ j, j < ps.length → 1 ≤ (ps.getD j (0, 0)).1 ∧ (ps.getD j (0, 0)).1 ≤ 64 ∧ (ps.getD j (0, 0)).2 < 2305843009213693951 := by
  unfold soundS at h
  split at h
  · cases h
  rename_i h1
  split at h
  · cases h
  rename_i h2
  split at h
  · cases h
  rename_i h3
  split at h
  · cases h
  rename_i h4
  refine ⟨by omega, by omega, by simpa using h3, fun j hj => ?_⟩
  have h5 : badP (ps.getD j (0, 0)) = false := by
    cases hb : badP (ps.getD j (0, 0)) with
    | false => rfl
    | true =>
      exfalso; apply h4
      rw [List.any_eq_true]
      refine ⟨_, ?_, hb⟩
      rw [List.getD_eq_getElem?_getD, List.getElem?_eq_getElem hj]
      exact List.getElem_mem hj
  unfold badP at h5
  simp only [Bool.or_eq_false_iff, decide_eq_false_iff_not] at h5
  omega
theorem Through_ct (ps : List (Int × Int)) : Ct Tryz.prog 52 [LP ps] [] (Is2 (.tup [L (thrS ps), i64 (soundS ps)]) []) := by
  refine Ct.introF (E := E 32 0 [.tmp 2, .tmp 3] [] [(6, [0, 5, 14, 15, 16])] [(1000003, [.nl 2]), (1000004, [.fz 5])]) tab_ok Tryz.call52 Tryz.func52 rfl rfl rfl rfl rfl (fun hin => ?_)
  have hlp := lp_len ps
  (conv => whnf); refine (sound_ct ps).use ?_
  unfold thrS
  (conv => whnf); refine cond_d (fun h => ?_) (fun h => ?_)
  · rw [if_neg h]; exact Is2.mk rfl
  have h0 : soundS ps = 0 := Decidable.of_not_not h
  rw [h0, if_pos rfl]
  obtain ⟨hs1, hs2, _, hs3⟩ := sound_rng h0
  (conv => whnf); refine LoopI.mk (fun q vs os => ∃ i : Nat, vs = [LP ps, L (sumS ps i), LP ps, i64 ps.length, i64 i] ∧ os = [] ∧ i ≤ ps.length ∧ q = ps.length - i) ps.length ⟨0, by rw [hlp]; rfl, rfl, Nat.zero_le _, rfl⟩ ?_
  rintro q _ _ ⟨i, rfl, rfl, h1, rfl⟩
  (conv => whnf); refine cond_d (fun h2 => ?_) (fun h2 => ?_)
  · have hi : i < ps.length := by omega
    (conv => whnf); refine And.intro (by first | omega | (dsimp only [List.length, cond]; omega) | (show (-9223372036854775808 : Int) ≤ _ ∧ _ ≤ (9223372036854775807 : Int); omega) | decide) ?_
    (conv => whnf); refine Idx.mk _ (lp_get hi) ?_
    (conv => whnf); refine DrawI.mkF 8 [[5], [0], [6], [22, 23], [7], [25], [26], [24, 27]] (by decide +kernel) ?_
    repeat (first | refine DrawO.mkF _ (And.intro rfl rfl) ?_ | refine DrawO.mkF _ (Idx.mk _ rfl (And.intro rfl rfl)) ?_)
    refine DrawO.mkF _ ((base_ct ps i hi hs2 (fun j hj => by have := hs3 j hj; omega)).use (And.intro rfl rfl)) ?_
    repeat (first | refine DrawO.mkF _ (And.intro rfl rfl) ?_ | refine DrawO.mkF _ (Idx.mk _ rfl (And.intro rfl rfl)) ?_)
    refine DrawO.roF [.int .u64 (ps.getD i (0, 0)).2] _ _ (And.intro rfl rfl) ?_
    refine DrawO.mkF _ ((pMul_ct (baseS ps i) [(ps.getD i (0, 0)).2] (by have := baseS_len ps i; omega) (by simp)).use (And.intro rfl rfl)) ?_
    (conv => whnf); refine (pAdd_ct (sumS ps i) (mulS (baseS ps i) [(ps.getD i (0, 0)).2]) (by have := sumS_len ps i; omega) (by have h3 := mulS_len (baseS ps i) [(ps.getD i (0, 0)).2]; have := baseS_len ps i; simp only [List.length_singleton] at h3; omega)).use ?_
    (conv => whnf); refine And.intro (by first | omega | (dsimp only [List.length, cond]; omega) | (show (-9223372036854775808 : Int) ≤ _ ∧ _ ≤ (9223372036854775807 : Int); omega) | decide) ?_
    conv => whnf
    refine ⟨ps.length - (i + 1), by omega, i + 1, ?_, rfl, by omega, rfl⟩
    rw [sumS_step]; rfl
  · have e : i = ps.length := by omega
    rw [e]; exact Is2.mk rfl
/-- The same, a row of one's own. -/
theorem ThroughO_ct (ps : List (Int × Int)) (h0 : soundS ps = 0) : Ct Tryz.prog 52 [LP ps] [] (Is2 (.tup [.sl 0, i64 0]) [.row 23 1 (li (thrS ps))]) := by
  refine Ct.introF (E := E 32 0 [.tmp 2, .tmp 3] [] [(6, [0, 5, 14, 15, 16])] []) tab_ok Tryz.call52 Tryz.func52 rfl rfl rfl rfl rfl (fun hin => ?_)
  have hlp := lp_len ps
  (conv => whnf); refine (sound_ct ps).use ?_
  unfold thrS
  rw [if_pos h0]
  (conv => whnf); refine cond_n (fun h => h h0) ?_
  obtain ⟨hs1, hs2, _, hs3⟩ := sound_rng h0
  (conv => whnf); refine LoopI.mk (fun q vs os => ∃ i : Nat, vs = [LP ps, .sl 0, LP ps, i64 ps.length, i64 i] ∧ os = [.row 23 1 (li (sumS ps i))] ∧ i ≤ ps.length ∧ q = ps.length - i) ps.length ⟨0, by rw [hlp]; rfl, rfl, Nat.zero_le _, rfl⟩ ?_
  rintro q _ _ ⟨i, rfl, rfl, h1, rfl⟩
  (conv => whnf); refine cond_d (fun h2 => ?_) (fun h2 => ?_)
  · have hi : i < ps.length := by omega
    (conv => whnf); refine And.intro (by first | omega | (dsimp only [List.length, cond]; omega) | (show (-9223372036854775808 : Int) ≤ _ ∧ _ ≤ (9223372036854775807 : Int); omega) | decide) ?_
    (conv => whnf); refine Idx.mk _ (lp_get hi) ?_
    (conv => whnf); refine DrawI.mkF 8 [[5], [0], [6], [22, 23], [7], [25], [26], [24, 27]] (by decide +kernel) ?_
    repeat (first | refine DrawO.mkF _ (And.intro rfl rfl) ?_ | refine DrawO.mkF _ (Idx.mk _ rfl (And.intro rfl rfl)) ?_)
    refine DrawO.mkF _ ((base_ct ps i hi hs2 (fun j hj => by have := hs3 j hj; omega)).use (And.intro rfl rfl)) ?_
    repeat (first | refine DrawO.mkF _ (And.intro rfl rfl) ?_ | refine DrawO.mkF _ (Idx.mk _ rfl (And.intro rfl rfl)) ?_)
    refine DrawO.roF [.int .u64 (ps.getD i (0, 0)).2] _ _ (And.intro rfl rfl) ?_
    refine DrawO.mkF _ ((pMul_ct (baseS ps i) [(ps.getD i (0, 0)).2] (by have := baseS_len ps i; omega) (by simp)).use (And.intro rfl rfl)) ?_
    (conv => whnf); refine (pAddO_ct (sumS ps i) (mulS (baseS ps i) [(ps.getD i (0, 0)).2]) (by have := sumS_len ps i; omega) (by have h3 := mulS_len (baseS ps i) [(ps.getD i (0, 0)).2]; have := baseS_len ps i; simp only [List.length_singleton] at h3; omega)).use ?_
    (conv => whnf); refine And.intro (by first | omega | (dsimp only [List.length, cond]; omega) | (show (-9223372036854775808 : Int) ≤ _ ∧ _ ≤ (9223372036854775807 : Int); omega) | decide) ?_
    conv => whnf
    refine ⟨ps.length - (i + 1), by omega, i + 1, rfl, row1 ?_, by omega, rfl⟩
    rw [sumS_step]
  · have e : i = ps.length := by omega
    rw [e]; exact Is2.mk rfl
end Go.Proofs.YtofkdfodehfpdaaGreat

/- Package poly: the value at zero. -/
namespace Go.Proofs.YtofkdfodehfpdaaGreat
open Go.V Go.Num
open Go.Eng (wr)
set_option maxRecDepth 100000
set_option maxHeartbeats 4000000
def topS (y : Int) (rs : List Int) : Int := rs.foldl (fun t r => (t * r) % 2305843009213693951) y
def botS (x : Int) (rs : List Int) : Int := rs.foldl (fun b r => (b * ((r - x) % 2305843009213693951)) % 2305843009213693951) 1
theorem topS_app (y : Int) (rs : List Int) (r : Int) : topS y (rs ++ [r]) = (topS y rs * r) % 2305843009213693951 := by unfold topS; rw [List.foldl_append]; rfl
theorem botS_app (x : Int) (rs : List Int) (r : Int) : botS x (rs ++ [r]) = (botS x rs * ((r - x) % 2305843009213693951)) % 2305843009213693951 := by unfold botS; rw [List.foldl_append]; rfl
def zeS (ps : List (Int × Int)) (i : Nat) : Int := (List.range i).foldl (fun s j => (s + (topS (ps.getD j (0, 0)).2 (ot ps j ps.length) * inv (botS (ps.getD j (0, 0)).1 (ot ps j ps.length))) % 2305843009213693951) % 2305843009213693951) 0
theorem zeS_step (ps : List (Int × Int)) (i : Nat) : zeS ps (i + 1) = (zeS ps i + (topS (ps.getD i (0, 0)).2 (ot ps i ps.length) * inv (botS (ps.getD i (0, 0)).1 (ot ps i ps.length))) % 2305843009213693951) % 2305843009213693951 := by unfold zeS; rw [List.range_succ, List.foldl_append]; rfl
def zeroS (ps : List (Int × Int)) : Int := if soundS ps = 0 then zeS ps ps.length else 0
theorem Zero_ct (ps : List (Int × Int)) : Ct Tryz.prog 51 [LP ps] [] (Is2 (.tup [u64 (zeroS ps), i64 (soundS ps)]) []) := by
  refine Ct.introF (E := E 65 0 [.tmp 2, .tmp 3] [] [(6, [0, 5, 19, 20, 21]), (10, [0, 5, 6, 7, 8, 9, 19, 20, 21, 28, 29, 30])] []) tab_ok Tryz.call51 Tryz.func51 rfl rfl rfl rfl rfl (fun hin => ?_)
  have hlp := lp_len ps
  (conv => whnf); refine (sound_ct ps).use ?_
  unfold zeroS
  (conv => whnf); refine cond_d (fun h => ?_) (fun h => ?_)
  · rw [if_neg h]; exact Is2.mk rfl
  have h0 : soundS ps = 0 := Decidable.of_not_not h
  rw [h0, if_pos rfl]
  obtain ⟨hs1, hs2, _, hs3⟩ := sound_rng h0
  have hw : ∀ j, j < ps.length → wr .u64 (ps.getD j (0, 0)).1 = (ps.getD j (0, 0)).1 := fun j hj => wr_small (by have := hs3 j hj; omega)
  (conv => whnf); refine LoopI.mk (fun q vs os => ∃ i : Nat, vs = [LP ps, u64 (zeS ps i), LP ps, i64 ps.length, i64 i] ∧ os = [] ∧ i ≤ ps.length ∧ q = ps.length - i) ps.length ⟨0, by rw [hlp]; rfl, rfl, Nat.zero_le _, rfl⟩ ?_
  rintro q _ _ ⟨i, rfl, rfl, h1, rfl⟩
  (conv => whnf); refine cond_d (fun h2 => ?_) (fun h2 => ?_)
  · have hi : i < ps.length := by omega
    (conv => whnf); refine And.intro (by first | omega | (dsimp only [List.length, cond]; omega) | (show (-9223372036854775808 : Int) ≤ _ ∧ _ ≤ (9223372036854775807 : Int); omega) | decide) ?_
    (conv => whnf); refine Idx.mk _ (lp_get hi) ?_
    (conv => whnf); refine LoopI.mk (fun q vs os => ∃ j : Nat, vs = [LP ps, u64 (zeS ps i), i64 i, .ptr 0 0, u64 (topS (ps.getD i (0, 0)).2 (ot ps i j)), u64 (botS (ps.getD i (0, 0)).1 (ot ps i j)), LP ps, i64 ps.length, i64 i, LP ps, i64 ps.length, i64 j] ∧ os = [.vec 60 [.d (.int .i64 (ps.getD i (0, 0)).1), .d (.int .u64 (ps.getD i (0, 0)).2)]] ∧ j ≤ ps.length ∧ q = ps.length - j) ps.length ⟨0, by rw [hlp]; rfl, rfl, Nat.zero_le _, rfl⟩ ?_
    rintro q _ _ ⟨j, rfl, rfl, k1, rfl⟩
    (conv => whnf); refine cond_d (fun k2 => ?_) (fun k2 => ?_)
    · have hj : j < ps.length := by omega
      (conv => whnf); refine And.intro (by first | omega | (dsimp only [List.length, cond]; omega) | (show (-9223372036854775808 : Int) ≤ _ ∧ _ ≤ (9223372036854775807 : Int); omega) | decide) ?_
      (conv => whnf); refine Idx.mk _ (lp_get hj) ?_
      (conv => whnf); refine cond_d (fun k3 => ?_) (fun k3 => ?_)
      · (conv => whnf); refine (Mul_ct _ _).use ?_
        (conv => whnf); refine (Sub_ct _ _).use ?_
        (conv => whnf); refine (Mul_ct _ _).use ?_
        (conv => whnf); refine And.intro (by first | omega | (dsimp only [List.length, cond]; omega) | (show (-9223372036854775808 : Int) ≤ _ ∧ _ ≤ (9223372036854775807 : Int); omega) | decide) ?_
        conv => whnf
        refine ⟨ps.length - (j + 1), by omega, j + 1, ?_, rfl, by omega, rfl⟩
        rw [ot_step, if_neg (by omega), topS_app, botS_app, hw i hi, hw j hj]; rfl
      · (conv => whnf); refine And.intro (by first | omega | (dsimp only [List.length, cond]; omega) | (show (-9223372036854775808 : Int) ≤ _ ∧ _ ≤ (9223372036854775807 : Int); omega) | decide) ?_
        conv => whnf
        refine ⟨ps.length - (j + 1), by omega, j + 1, ?_, rfl, by omega, rfl⟩
        rw [ot_step, if_pos (by omega)]; rfl
    · have e : j = ps.length := by omega
      rw [e]
      (conv => whnf); refine (Inv_ct _).use ?_
      (conv => whnf); refine (Mul_ct _ _).use ?_
      (conv => whnf); refine (Add_ct _ _).use ?_
      (conv => whnf); refine And.intro (by first | omega | (dsimp only [List.length, cond]; omega) | (show (-9223372036854775808 : Int) ≤ _ ∧ _ ≤ (9223372036854775807 : Int); omega) | decide) ?_
      conv => whnf
      refine ⟨ps.length - (i + 1), by omega, i + 1, ?_, rfl, by omega, rfl⟩
      rw [zeS_step]; rfl
  · have e : i = ps.length := by omega
    rw [e]; exact Is2.mk rfl
end Go.Proofs.YtofkdfodehfpdaaGreat
