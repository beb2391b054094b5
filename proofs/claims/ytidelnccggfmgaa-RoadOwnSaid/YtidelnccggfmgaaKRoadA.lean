/- Numbers modulo 2^61 - 1: what the program's calls give. No function of the program is proved here. -/
import Derived.Test.YtidelnccggfmgaaJuF
import Derived.Test.YtidelnccggfmgaaJuH
import Derived.Test.YtidelnccggfmgaaJuG
set_option linter.unusedVariables false
set_option linter.unusedSimpArgs false
set_option linter.unnecessarySimpa false
set_option linter.unusedSectionVars false
set_option linter.all false
/- Numbers modulo 2^61 - 1: what the program's calls give. No function of the program is proved here. -/
namespace Go.Num

def pwF : Nat → Int → Nat → Int
  | 0, _, _ => 1
  | k + 1, a, n => if n = 0 then 1 else if n % 2 = 1 then (pwF k (a * a % 2305843009213693951) (n / 2) * a) % 2305843009213693951 else pwF k (a * a % 2305843009213693951) (n / 2)
/-- A power, modulo 2^61 - 1. -/
def pw (a : Int) (n : Nat) : Int := pwF 64 a n

theorem emod_mul_l (a b : Int) : (a % 2305843009213693951 * b) % 2305843009213693951 = (a * b) % 2305843009213693951 := by rw [Int.mul_emod, Int.emod_emod_of_dvd _ (Int.dvd_refl _), ← Int.mul_emod]
theorem emod_mul_r (a b : Int) : (a * (b % 2305843009213693951)) % 2305843009213693951 = (a * b) % 2305843009213693951 := by rw [Int.mul_emod, Int.emod_emod_of_dvd _ (Int.dvd_refl _), ← Int.mul_emod]

theorem pow_mod (a : Int) (n : Nat) : (a % 2305843009213693951) ^ n % 2305843009213693951 = a ^ n % 2305843009213693951 := by
  induction n with
  | zero => simp
  | succ n ih => rw [Int.pow_succ, Int.pow_succ, emod_mul_r, ← emod_mul_l, ih, emod_mul_l]

theorem pwF_eq : ∀ (k : Nat) (a : Int) (n : Nat), n < 2 ^ k → pwF k a n = a ^ n % 2305843009213693951
  | 0, a, n, h => by
    have : n = 0 := by omega
    subst this; simp [pwF]
  | k + 1, a, n, h => by
    unfold pwF
    by_cases h0 : n = 0
    · subst h0; simp
    · rw [if_neg h0]
      have hk : n / 2 < 2 ^ k := by rw [Nat.pow_succ] at h; omega
      rw [pwF_eq k _ _ hk, pow_mod]
      have e2 : (a * a) ^ (n / 2) = a ^ (2 * (n / 2)) := by rw [Int.pow_mul]; congr 1; rw [Int.pow_succ, Int.pow_succ, Int.pow_zero, Int.one_mul]
      split
      · rw [emod_mul_l, e2, ← Int.pow_succ]; congr 2; omega
      · rw [e2]; congr 2; omega
theorem pw_eq (a : Int) {n : Nat} (h : n < 2 ^ 64) : pw a n = a ^ n % 2305843009213693951 := pwF_eq 64 a n h
theorem pwF_rng : ∀ (k : Nat) (a : Int) (n : Nat), 0 ≤ pwF k a n ∧ pwF k a n < 2305843009213693951
  | 0, a, n => by simp [pwF]
  | k + 1, a, n => by
    unfold pwF
    split
    · omega
    · split
      · omega
      · exact pwF_rng k _ _
theorem pw_rng (a : Int) (n : Nat) : 0 ≤ pw a n ∧ pw a n < 2305843009213693951 := pwF_rng 64 a n
def inv (a : Int) : Int := pw a 2305843009213693949
end Go.Num

/- 2^61 - 1 is a prime, and 37 generates: each number that is not 0 has an inverse. No function of the program is proved here. -/
namespace Go.Num

theorem nmul_l (a b : Nat) : (a % 2305843009213693951 * b) % 2305843009213693951 = (a * b) % 2305843009213693951 := by rw [Nat.mul_mod, Nat.mod_mod, ← Nat.mul_mod]
theorem nmul_r (a b : Nat) : (a * (b % 2305843009213693951)) % 2305843009213693951 = (a * b) % 2305843009213693951 := by rw [Nat.mul_mod, Nat.mod_mod, ← Nat.mul_mod]
/-- Is a power of 37 equal to 1? -/
def One (n : Nat) : Prop := 37 ^ n % 2305843009213693951 = 1

theorem One.add {m n : Nat} (h : One m) : 37 ^ (m + n) % 2305843009213693951 = 37 ^ n % 2305843009213693951 := by
  rw [Nat.pow_add, ← nmul_l, h, Nat.one_mul]
theorem One.mul {m : Nat} (h : One m) (k : Nat) : One (m * k) := by
  induction k with
  | zero => rfl
  | succ k ih => unfold One; rw [Nat.mul_succ, Nat.add_comm, h.add]; exact ih
theorem One.mod {m n : Nat} (h : One m) (k : One n) : One (n % m) := by
  have e : m * (n / m) + n % m = n := Nat.div_add_mod n m
  have := (h.mul (n / m)).add (n := n % m)
  rw [e] at this
  unfold One at *
  rw [← this]; exact k
theorem One.gcd (m n : Nat) : One m → One n → One (Nat.gcd m n) := by
  induction m, n using Nat.gcd.induction with
  | H0 n => intro _ h; rw [Nat.gcd_zero_left]; exact h
  | H1 m n hm ih => intro h k; rw [Nat.gcd_rec]; exact ih (h.mod k) h

theorem pw_nat (n : Nat) (h : n < 2 ^ 64) : pw 37 n = ((37 ^ n % 2305843009213693951 : Nat) : Int) := by
  rw [pw_eq 37 h]
  rw [Int.natCast_emod, Int.natCast_pow]; rfl
theorem one_of {n : Nat} (h : n < 2 ^ 64) (k : pw 37 n = 1) : One n := by
  rw [pw_nat n h] at k
  exact_mod_cast k
theorem one_top : One 2305843009213693950 := one_of (by decide) (by decide +kernel)
theorem not_one {n : Nat} (h : n < 2 ^ 64) (k : pw 37 n ≠ 1) : ¬ One n := by
  intro e
  apply k
  rw [pw_nat n h]
  exact_mod_cast e

/-- Numbers that nothing divides. -/
def prm (q : Nat) : Bool := Nat.blt 1 q && (List.range q).all fun d => Nat.ble d 1 || !(Nat.beq (q % d) 0)
theorem prm_ok {q d : Nat} (h : prm q = true) (hd : d ∣ q) : d = 1 ∨ d = q := by
  unfold prm at h
  simp only [Bool.and_eq_true, Nat.blt_eq, List.all_eq_true, Bool.or_eq_true, Bool.not_eq_true'] at h
  have hle := Nat.le_of_dvd (by omega) hd
  by_cases e : d = q
  · exact .inr e
  · left
    have := h.2 d (List.mem_range.2 (by omega))
    rcases this with h1 | h1
    · have := Nat.le_of_ble_eq_true h1
      have h0 : d ≠ 0 := by rintro rfl; have := Nat.eq_zero_of_zero_dvd hd; omega
      omega
    · have h2 := Nat.mod_eq_zero_of_dvd hd
      rw [h2] at h1; cases h1
theorem cop {m q : Nat} (h : prm q = true) (hn : ¬ q ∣ m) : Nat.gcd m q = 1 := by
  rcases prm_ok h (Nat.gcd_dvd_right m q) with h1 | h1
  · exact h1
  · exact absurd (h1 ▸ Nat.gcd_dvd_left m q) hn

theorem not_mid {d : Nat} (h0 : 0 < d) (h1 : d < 2305843009213693950) : ¬ One d := by
  intro h
  have hg := One.gcd _ _ h one_top
  generalize hh : Nat.gcd d 2305843009213693950 = g at hg
  have hgd : g ∣ 2305843009213693950 := hh ▸ Nat.gcd_dvd_right _ _
  have hgl : g ≤ d := hh ▸ Nat.le_of_dvd h0 (Nat.gcd_dvd_left _ _)
  obtain ⟨m, hm⟩ := hgd
  have hm1 : m ≠ 1 := by rintro rfl; omega
  have key : ∀ q c : Nat, q * c = 2305843009213693950 → ¬ One c → ¬ q ∣ m := by
    intro q c hqc hc ⟨k, hk⟩
    apply hc
    have : c = g * k := by
      have hq : 0 < q := Nat.pos_of_ne_zero (by rintro rfl; omega)
      apply Nat.eq_of_mul_eq_mul_left hq
      rw [hqc, hm, hk, Nat.mul_left_comm]
    rw [this]; exact hg.mul k
  have c2 := cop (q := 2) (m := m) (by decide) (key 2 1152921504606846975 (by decide) (not_one (by decide) (by decide +kernel)))
  have c3 := cop (q := 3) (m := m) (by decide) (key 3 768614336404564650 (by decide) (not_one (by decide) (by decide +kernel)))
  have c5 := cop (q := 5) (m := m) (by decide) (key 5 461168601842738790 (by decide) (not_one (by decide) (by decide +kernel)))
  have c7 := cop (q := 7) (m := m) (by decide) (key 7 329406144173384850 (by decide) (not_one (by decide) (by decide +kernel)))
  have c11 := cop (q := 11) (m := m) (by decide) (key 11 209622091746699450 (by decide) (not_one (by decide) (by decide +kernel)))
  have c13 := cop (q := 13) (m := m) (by decide) (key 13 177372539170284150 (by decide) (not_one (by decide) (by decide +kernel)))
  have c31 := cop (q := 31) (m := m) (by decide) (key 31 74382032555280450 (by decide) (not_one (by decide) (by decide +kernel)))
  have c41 := cop (q := 41) (m := m) (by decide) (key 41 56240073395455950 (by decide) (not_one (by decide) (by decide +kernel)))
  have c61 := cop (q := 61) (m := m) (by decide) (key 61 37800705069076950 (by decide) (not_one (by decide) (by decide +kernel)))
  have c151 := cop (q := 151) (m := m) (by decide +kernel) (key 151 15270483504726450 (by decide) (not_one (by decide) (by decide +kernel)))
  have c331 := cop (q := 331) (m := m) (by decide +kernel) (key 331 6966293079195450 (by decide) (not_one (by decide) (by decide +kernel)))
  have c1321 := cop (q := 1321) (m := m) (by decide +kernel) (key 1321 1745528394559950 (by decide) (not_one (by decide) (by decide +kernel)))
  have cm : ∀ {a b : Nat}, Nat.gcd m a = 1 → Nat.gcd m b = 1 → Nat.gcd m (a * b) = 1 := fun ha hb => Nat.Coprime.mul_right ha hb
  have hall := cm c2 (cm c3 (cm c3 (cm c5 (cm c5 (cm c7 (cm c11 (cm c13 (cm c31 (cm c41 (cm c61 (cm c151 (cm c331 c1321))))))))))))
  have hd : m ∣ 2305843009213693950 := ⟨g, by rw [hm, Nat.mul_comm]⟩
  have : Nat.gcd m 2305843009213693950 = m := Nat.gcd_eq_left hd
  have e : (2 * (3 * (3 * (5 * (5 * (7 * (11 * (13 * (31 * (41 * (61 * (151 * (331 * 1321)))))))))))) : Nat) = 2305843009213693950 := by decide
  rw [e, this] at hall
  exact hm1 hall

theorem inj_gen {T : Nat} (hT : One T) (hm : ∀ d, 0 < d → d < T → ¬ One d) {i j : Nat} (hi : i < T) (hj : j < T) (h : 37 ^ i % 2305843009213693951 = 37 ^ j % 2305843009213693951) : i = j := by
  have key : ∀ i j : Nat, i < j → j < T → 37 ^ i % 2305843009213693951 = 37 ^ j % 2305843009213693951 → False := by
    intro i j hij hj h
    refine hm (j - i) (by omega) (by omega) ?_
    have h1 : (37 ^ (T - i) * 37 ^ i) % 2305843009213693951 = (37 ^ (T - i) * 37 ^ j) % 2305843009213693951 := by rw [← nmul_r, h, nmul_r]
    rw [← Nat.pow_add, ← Nat.pow_add, show T - i + i = T from by omega, show T - i + j = T + (j - i) from by omega, hT.add] at h1
    unfold One; rw [← h1]; exact hT
  rcases Nat.lt_trichotomy i j with h1 | h1 | h1
  · exact (key i j h1 hj h).elim
  · exact h1
  · exact (key j i h1 hi h.symm).elim
theorem inj {i j : Nat} (hi : i < 2305843009213693950) (hj : j < 2305843009213693950) (h : 37 ^ i % 2305843009213693951 = 37 ^ j % 2305843009213693951) : i = j := inj_gen one_top (fun _ h0 h1 => not_mid h0 h1) hi hj h

theorem nonzero_gen {T : Nat} (hT : One (T + 1)) (i : Nat) : 37 ^ i % 2305843009213693951 ≠ 0 := by
  intro h
  have h1 : 37 ^ ((T + 1) * i) % 2305843009213693951 = 1 := hT.mul i
  have e : (T + 1) * i = i + T * i := by rw [Nat.add_mul]; omega
  rw [e, Nat.pow_add, ← nmul_l, h, Nat.zero_mul] at h1
  cases h1
theorem nonzero (i : Nat) : 37 ^ i % 2305843009213693951 ≠ 0 := nonzero_gen (T := 2305843009213693949) one_top i

theorem pigeon : ∀ (n : Nat) (f : Nat → Nat), (∀ i, i < n → f i < n) → (∀ i j, i < n → j < n → f i = f j → i = j) → ∀ y, y < n → ∃ i, i < n ∧ f i = y
  | 0, _, _, _, y, h => by omega
  | n + 1, f, hr, hi, y, hy => by
    have hv := hr n (by omega)
    have ih := pigeon n (fun i => if f i = n then f n else f i) (fun i h => by
      try simp only
      split
      · rename_i e
        have : f n ≠ n := fun e2 => by have := hi i n (by omega) (by omega) (by rw [e, e2]); omega
        omega
      · have := hr i (by omega); omega) (fun i j hi' hj' h => by
      try simp only at h
      split at h <;> split at h
      · rename_i a b; exact hi i j (by omega) (by omega) (by rw [a, b])
      · rename_i a b; have := hi n j (by omega) (by omega) h; omega
      · rename_i a b; have := hi i n (by omega) (by omega) h; omega
      · exact hi i j (by omega) (by omega) h)
    by_cases e1 : y = f n
    · exact ⟨n, by omega, e1.symm⟩
    · by_cases e2 : y = n
      · have hvn : f n < n := by omega
        obtain ⟨i, h1, h2⟩ := ih (f n) hvn
        try simp only at h2
        split at h2
        · rename_i e; exact ⟨i, by omega, by rw [e, e2]⟩
        · have := hi i n (by omega) (by omega) h2; omega
      · obtain ⟨i, h1, h2⟩ := ih y (by omega)
        try simp only at h2
        split at h2
        · exact absurd h2.symm e1
        · exact ⟨i, by omega, h2⟩

theorem fermat_gen {T : Nat} (hT1 : T + 1 = 2305843009213693951) (hT : One T) (inj : ∀ {i j : Nat}, i < T → j < T → 37 ^ i % 2305843009213693951 = 37 ^ j % 2305843009213693951 → i = j) {a : Nat} (h : a % 2305843009213693951 ≠ 0) : a ^ T % 2305843009213693951 = 1 := by
  have hlt : a % 2305843009213693951 < 2305843009213693951 := Nat.mod_lt _ (by decide)
  obtain ⟨i, _, hi⟩ := pigeon T (fun i => 37 ^ i % 2305843009213693951 - 1) (fun i _ => by
    have := nonzero i
    have h2 : 37 ^ i % 2305843009213693951 < 2305843009213693951 := Nat.mod_lt _ (by decide)
    show 37 ^ i % 2305843009213693951 - 1 < T
    generalize 37 ^ i % 2305843009213693951 = z at *
    omega) (fun i j hi hj h => by
    have h1 := nonzero i; have h2 := nonzero j
    refine inj hi hj ?_
    try simp only at h
    generalize 37 ^ i % 2305843009213693951 = z at *
    generalize 37 ^ j % 2305843009213693951 = z' at *
    omega) (a % 2305843009213693951 - 1) (by omega)
  have h1 := nonzero i
  try simp only at hi
  have e : a % 2305843009213693951 = 37 ^ i % 2305843009213693951 := by
    generalize 37 ^ i % 2305843009213693951 = z at *
    omega
  rw [Nat.pow_mod, e, ← Nat.pow_mod, ← Nat.pow_mul, Nat.mul_comm]
  exact hT.mul i

/-- What a number that is not 0 times its inverse is. -/
theorem inv_gen (k : Nat) (hk : k < 2 ^ 64) (hf : ∀ a : Nat, a % 2305843009213693951 ≠ 0 → a ^ (k + 1) % 2305843009213693951 = 1) {a : Int} (h : a % 2305843009213693951 ≠ 0) : (a * pw a k) % 2305843009213693951 = 1 := by
  rw [pw_eq a hk, emod_mul_r]
  have e : a * a ^ k = a ^ (k + 1) := by rw [Int.mul_comm, ← Int.pow_succ]
  rw [e, ← pow_mod]
  obtain ⟨n, hn⟩ := Int.eq_ofNat_of_zero_le (show 0 ≤ a % 2305843009213693951 by omega)
  rw [hn]
  have hne : n % 2305843009213693951 ≠ 0 := by omega
  have := hf n hne
  rw [← Int.natCast_pow]
  generalize n ^ (k + 1) = z at *
  omega
theorem inv_all {k : Nat} (hk : k < 2 ^ 64) (hT1 : k + 2 = 2305843009213693951) (hT : One (k + 1)) (hi : ∀ {i j : Nat}, i < k + 1 → j < k + 1 → 37 ^ i % 2305843009213693951 = 37 ^ j % 2305843009213693951 → i = j) {a : Int} (h : a % 2305843009213693951 ≠ 0) : (a * pw a k) % 2305843009213693951 = 1 :=
  inv_gen k hk (fun _ h => fermat_gen (T := k + 1) hT1 hT hi h) h
theorem inv_ok {a : Int} (h : a % 2305843009213693951 ≠ 0) : (a * inv a) % 2305843009213693951 = 1 := inv_all (by decide) rfl one_top inj h
theorem pw_zero_gen {k : Nat} (hk : k < 2 ^ 64) (h0 : k ≠ 0) {a : Int} (h : a % 2305843009213693951 = 0) : pw a k = 0 := by
  rw [pw_eq a hk, ← pow_mod, h, Int.zero_pow h0]; rfl
theorem inv_zero {a : Int} (h : a % 2305843009213693951 = 0) : inv a = 0 := by
  exact pw_zero_gen (by decide) (by decide) h
theorem inv_rng (a : Int) : 0 ≤ inv a ∧ inv a < 2305843009213693951 := pw_rng a _
end Go.Num

/- Roads: letters, the rows that they hold, and what a road is to its callers. -/
namespace Go.Proofs.Ytidelnccggfmgaa.Rod
open Go.V Go.Num
open Go.Eng (wr HS Imm Ent bytesV)
set_option maxRecDepth 100000
set_option maxHeartbeats 4000000
abbrev i64 (n : Int) : AV := .d (.int .i64 n)
/-- A letter. -/
structure Lt where
  d : Int
  bk : Bool
  bt : Bool
  dat : List UInt8
abbrev ltD (x : Lt) : D := .agg [.int .i64 x.d, .bool x.bk, .bool x.bt, .ro (bytesD x.dat)]
/-- A letter of which only the header of its bytes is known. -/
abbrev ltO (x : Lt) (v : Value) : D := .agg [.int .i64 x.d, .bool x.bk, .bool x.bt, .opq v]
theorem bD_len (a : List UInt8) : (bytesD a).length = a.length := List.length_map _
theorem bD_one (xs : List UInt8) : ∀ y ∈ bytesD xs, y.cells.length = 1 := fun y hy => by obtain ⟨z, _, rfl⟩ := List.mem_map.1 hy; rfl
theorem CloneB_ct (xs : List UInt8) (hcap : xs.length ≤ 140737488351232) : Ct Try.prog 70 [.d (.ro (bytesD xs))] [] (Is2 (.sl 0) [.row 5 1 (bytesD xs)]) := by
  refine Ct.introF (E := E 8 0 [.tmp 2] [] [] [(1000002, [.own 2 5 1])]) tab_ok Try.call70 Try.func70 rfl rfl rfl rfl rfl (fun hin => ?_)
  have hl := bD_len xs
  intro b hb
  (conv => whnf); refine cond_i (fun h => ?_) (fun h => ?_)
  · by_cases e : xs = []
    · rw [e]; exact Is2.mk rfl
    · exfalso
      have := hb (by intro e2; apply e; cases xs with | nil => rfl | cons x xs => simp [cellsOf, bytesD] at e2; exact absurd e2 (by simp [D.cells]))
      rw [h] at this; cases this
  · (conv => whnf); refine And.intro ⟨by dsimp only [List.length]; omega, bD_one _⟩ (Is2.mk rfl)
theorem ClipO_ct (xs : List D) (hb : (xs.length : Int) ≤ 9223372036854775807) : Ct Try.prog 69 [.sl 0] [.row 5 1 xs] (Is2 (.sl 1) [.gone, .row 5 1 xs]) := by
  refine Ct.introF (E := E 9 1 [.tmp 2] [] [] []) tab_ok Try.call69 Try.func69 rfl rfl rfl rfl rfl (fun hin => ?_)
  (conv => whnf); refine And.intro ⟨by omega, by omega, by omega⟩ ?_
  rw [show List.take ((xs.length : Int)).toNat xs = xs from List.take_of_length_le (by omega)]
  exact Is2.mk rfl
theorem own_ro (x : Lt) (h : x.dat.length ≤ 140737488351232) : Ct Try.prog 30 [.d (ltD x)] [] (Is2 (.agg [i64 x.d, .d (.bool x.bk), .d (.bool x.bt), .sl 0]) [.row 5 1 (bytesD x.dat)]) := by
  refine Ct.introF (E := E 9 0 [.cell 2 29] [] [] [(2000000, [])]) tab_ok Try.call30 Try.func30 rfl rfl rfl rfl rfl (fun hin => ?_)
  (conv => whnf); refine (CloneB_ct _ h).use ?_
  (conv => whnf); refine (ClipO_ct _ (by rw [bD_len]; omega)).use ?_
  exact Is2.mk rfl
/-! ## Rows of bytes that are told by their headers -/
def Hd (p : Value × List UInt8) : Prop := ∃ A c, p.1 = .slice A p.2.length c
theorem Hd.one {p : Value × List UInt8} (h : Hd p) : p.1.cells = #[p.1] ∧ p.1.oneCell' = true := by
  obtain ⟨A, c, h⟩ := h; rw [h]; exact ⟨rfl, rfl⟩
def innEnt (p : Value × List UInt8) : Ent := .row p.1 5 1 p.2.length (bytesV p.2)
def inn (ps : List (Value × List UInt8)) : Rl where
  rel := fun _ v es => v = .bool true ∧ (∀ p ∈ ps, Hd p) ∧ es = ps.map innEnt
  mono := fun h _ => h
  ne := fun h => by rw [h.1]; exact fun e => by cases e
theorem int4 {I : Imm} {us : List Value} {a : Int} {b c : Bool} {x : D} (h : All2 (RelD I) us [.int .i64 a, .bool b, .bool c, x]) : ∃ u, us = [.int .i64 a, .bool b, .bool c, u] ∧ Eng.InR .i64 a ∧ RelD I u x := by
  obtain ⟨u0, us0, rfl, p0, q0⟩ := h.uncons
  obtain ⟨u1, us1, rfl, p1, q1⟩ := q0.uncons
  obtain ⟨u2, us2, rfl, p2, q2⟩ := q1.uncons
  obtain ⟨u3, us3, rfl, p3, q3⟩ := q2.uncons
  obtain rfl := q3.unnil
  obtain ⟨rfl, hin⟩ := rd_int p0
  cases p1
  cases p2
  exact ⟨u3, rfl, hin, p3⟩
theorem agg4 {I : Imm} {v : Value} {a : Int} {b c : Bool} {x : D} (h : RelD I v (.agg [.int .i64 a, .bool b, .bool c, x])) : ∃ u, v = .agg #[.int .i64 a, .bool b, .bool c, u] ∧ Eng.InR .i64 a ∧ RelD I u x := by
  cases h with
  | @agg us _ hl h1 hx =>
    obtain ⟨u, rfl, h2, h3⟩ := int4 ⟨hl, hx⟩
    exact ⟨u, rfl, h2, h3⟩
theorem mk4 {I : Imm} {a : Int} {b c : Bool} {x : D} {u : Value} (h : Eng.InR .i64 a) (hu : RelD I u x) (h1 : u.oneCell' = true) : RelD I (.agg #[.int .i64 a, .bool b, .bool c, u]) (.agg [.int .i64 a, .bool b, .bool c, x]) :=
  .agg (us := [.int .i64 a, .bool b, .bool c, u]) rfl (fun y hy => by
    simp only [List.mem_cons, List.not_mem_nil, or_false] at hy
    rcases hy with rfl | rfl | rfl | rfl
    · rfl
    · rfl
    · rfl
    · exact h1) (fun j u' y hj hy => by
    match j, hj, hy with
    | 0, hj, hy => cases hj; cases hy; exact .int h
    | 1, hj, hy => cases hj; cases hy; exact .bool
    | 2, hj, hy => cases hj; cases hy; exact .bool
    | 3, hj, hy => cases hj; cases hy; exact hu
    | _ + 4, hj, hy => simp at hj)
/-- What 'own' does to the world. -/
theorem own_run (x : Lt) (h : x.dat.length ≤ 140737488351232) {I : Imm} {u : Value} {w : World} {F : List Ent} (hu : RelD I u (ltD x)) (g : Glob I) (hw : HS I F w) :
    Calls Try.prog 30 #[u] w fun e w' => ∃ I' A c, e = .returned (.agg #[.int .i64 x.d, .bool x.bk, .bool x.bt, .slice A x.dat.length c]) ∧ I.le I' ∧ HS I' (innEnt (.slice A x.dat.length c, x.dat) :: F) w' := by
  refine ((own_ro x h).run I (fun _ => .nilFunc) [u] [] (.one (.d hu)) (.nil g) (fun _ _ => rfl) w F (by simpa using hw)).mono ?_
  rintro e w' ⟨v, I', L', rfl, hle, ⟨ρ', r, os', r1, r2, _, _, _, rfl, rfl⟩, hs⟩
  cases r2 with
  | cons ho hr =>
    cases hr with
    | nil hgl =>
      obtain ⟨A, c, us, q1, q2, q3, ro1, rfl⟩ := ho
      rw [bytesD_cells] at q3
      have hus := bytesD_all q3
      rw [bD_len] at q1
      cases r1 with
      | @agg us2 _ hl h1 hx =>
        match us2, hl, hx with
        | [w0, w1, w2, w3], _, hx =>
          have x0 := hx 0 w0 _ rfl rfl
          have x1 := hx 1 w1 _ rfl rfl
          have x2 := hx 2 w2 _ rfl rfl
          have x3 := hx 3 w3 _ rfl rfl
          cases x0 with
          | d x0 =>
            cases x0
            cases x1 with
            | d x1 =>
              cases x1
              cases x2 with
              | d x2 =>
                cases x2
                cases x3 with
                | sl x3 =>
                  rw [q1] at x3
                  simp only [Value.slice.injEq] at x3
                  obtain ⟨rfl, rfl, rfl⟩ := x3
                  refine ⟨I', _, _, rfl, hle, ?_⟩
                  rw [bD_len, hus] at hs
                  simpa [innEnt] using hs
end Go.Proofs.Ytidelnccggfmgaa.Rod

/- Roads: a letter with bytes of its own, beside a road. -/
namespace Go.Proofs.Ytidelnccggfmgaa.Rod
open Go.V Go.Num
open Go.Eng (wr HS Imm Ent bytesV)
set_option maxRecDepth 100000
set_option maxHeartbeats 4000000
theorem Hd.opq {I : Imm} {p : Value × List UInt8} (h : Hd p) : RelD I p.1 (.opq p.1) := .opq h.one
theorem inn_snoc {I : Imm} {v : Value} {es : List Ent} {ps : List (Value × List UInt8)} {p : Value × List UInt8} (h : (inn ps).rel I v es) (hp : Hd p) : (inn (ps ++ [p])).rel I v (es ++ [innEnt p]) := by
  obtain ⟨h1, h2, h3⟩ := h
  refine ⟨h1, fun q hq => ?_, by rw [h3, List.map_append]; rfl⟩
  rcases List.mem_append.1 hq with hq | hq
  · exact h2 q hq
  · rw [List.mem_singleton.1 hq]; exact hp
/-- What 'own' gives, whatever lies beside it: told by R, and by what was new before. -/
theorem own_fin (x : Lt) {I I' : Imm} {ρ : Nat → Value} {R : Rl} {acc : List (Value × List UInt8)} {es1 es2 F : List Ent} {A : Option Addr} {c : Nat} {w : World} (hin : Eng.InR .i64 x.d)
    (h1 : R.rel I (ρ 0) es1) (h2 : (inn acc).rel I (ρ 1) es2) (hle : I.le I') (hn : ∀ k, 2 ≤ k → ρ k = .nilFunc) (g : Glob I) (hs : HS I' (es1 ++ (innEnt (.slice A x.dat.length c, x.dat) :: (es2 ++ F))) w) :
    ∃ v' I'' L', (Ending.returned (.agg #[.int .i64 x.d, .bool x.bk, .bool x.bt, .slice A x.dat.length c]) = .returned v') ∧ I.le I'' ∧ (∃ ρ' r os', RelA I'' ρ' v' r ∧ RelH I'' ρ' (numb 0 os') L' ∧ (∀ k, os'.length ≤ k → ρ' k = .nilFunc) ∧ 2 ≤ os'.length ∧ (∀ l, ρ l ≠ .nilFunc → ρ' l = ρ l) ∧
      (∃ v, Hd (v, x.dat) ∧ r = .d (ltO x v) ∧ os' = [.abs R, .abs (inn (acc ++ [(v, x.dat)]))])) ∧ HS I'' (L' ++ F) w := by
  have hd : Hd (.slice A x.dat.length c, x.dat) := ⟨A, c, rfl⟩
  refine ⟨_, I', es1 ++ ((es2 ++ [innEnt (.slice A x.dat.length c, x.dat)]) ++ []), rfl, hle, ⟨ρ, .d (ltO x (.slice A x.dat.length c)), [.abs R, .abs (inn (acc ++ [(.slice A x.dat.length c, x.dat)]))], .d (mk4 hin hd.opq rfl), ?_, hn, Nat.le_refl _, fun _ _ => rfl, _, hd, rfl, rfl⟩, ?_⟩
  · exact .cons (R.mono h1 hle) (.cons (inn_snoc ((inn acc).mono h2 hle) hd) (.nil (g.mono hle)))
  · refine hs.perm ?_
    rw [List.append_nil, List.append_assoc, List.append_assoc]
    refine List.Perm.append_left _ ?_
    have p1 : (innEnt (.slice A x.dat.length c, x.dat) :: (es2 ++ F)).Perm (es2 ++ (innEnt (.slice A x.dat.length c, x.dat) :: F)) := (List.perm_middle).symm
    simpa using p1
theorem own_new (x : Lt) (h : x.dat.length ≤ 140737488351232) (R : Rl) (acc : List (Value × List UInt8)) : Ct Try.prog 30 [.d (ltD x)] [.abs R, .abs (inn acc)] (fun r os => ∃ v, Hd (v, x.dat) ∧ r = .d (ltO x v) ∧ os = [.abs R, .abs (inn (acc ++ [(v, x.dat)]))]) := by
  refine ⟨Try.call30, fun I ρ us L a b c w F hw => ?_⟩
  cases b with
  | @cons _ _ _ es1 _ h1 b =>
    cases b with
    | @cons _ _ _ es2 _ h2 b =>
      cases b with
      | nil g =>
        obtain ⟨u, us', rfl, ha, hn⟩ := a.uncons
        obtain rfl := hn.unnil
        cases ha with
        | d ha =>
          have hin := (agg4 ha).choose_spec.2.1
          refine (own_run x h ha g hw).mono ?_
          rintro e w' ⟨I', A, cp, rfl, hle, hs⟩
          refine own_fin x hin h1 h2 hle (fun k hk => c k hk) g (hs.perm ?_)
          rw [List.append_nil, List.append_assoc]
          exact (List.perm_middle).symm
theorem own_inn (x : Lt) (h : x.dat.length ≤ 140737488351232) (ps acc : List (Value × List UInt8)) (v : Value) (hv : (v, x.dat) ∈ ps) : Ct Try.prog 30 [.d (ltO x v)] [.abs (inn ps), .abs (inn acc)] (fun r os => ∃ v, Hd (v, x.dat) ∧ r = .d (ltO x v) ∧ os = [.abs (inn ps), .abs (inn (acc ++ [(v, x.dat)]))]) := by
  refine ⟨Try.call30, fun I ρ us L a b c w F hw => ?_⟩
  cases b with
  | @cons _ _ _ es1 _ h1 b =>
    cases b with
    | @cons _ _ _ es2 _ h2 b =>
      cases b with
      | nil g =>
        obtain ⟨u, us', rfl, ha, hn⟩ := a.uncons
        obtain rfl := hn.unnil
        cases ha with
        | d ha =>
          obtain ⟨u3, rfl, hin, hu3⟩ := agg4 ha
          obtain ⟨k1, k2, k3⟩ := h1
          have hw1 : HS I (es1 ++ (es2 ++ F)) w := by simpa [List.append_assoc] using hw
          obtain ⟨I1, hle1, hw2, hcell, hgive⟩ := HS.lend hw1 (fun e he => by
            rw [k3] at he
            obtain ⟨p, hp, rfl⟩ := List.mem_map.1 he
            obtain ⟨A, cp, hA⟩ := k2 p hp
            exact ⟨A, p.2.length, cp, 5, 1, bytesV p.2, by unfold innEnt; rw [hA]⟩)
          obtain ⟨A, cp, hA⟩ := k2 _ hv
          have hm : Ent.row (.slice A x.dat.length cp) 5 1 x.dat.length (bytesV x.dat) ∈ es1 := by
            rw [k3]
            exact List.mem_map.2 ⟨_, hv, by unfold innEnt; rw [hA]⟩
          obtain ⟨c1, c2, c3⟩ := hcell _ _ _ _ _ _ hm
          have hu : u3 = .slice A x.dat.length cp := by cases hu3; exact hA
          have hro : RelD I1 u3 (.ro (bytesD x.dat)) := by
            rw [hu]
            refine .ro (sz := 1) (us := bytesV x.dat) (bD_len _) c2 c3 (bD_one _) c1 (by rw [bytesD_cells, bD_len]; exact List.length_map _) ?_ ?_
            · intro y hy
              obtain ⟨b, _, rfl⟩ := List.mem_map.1 hy
              rfl
            · intro j u' y hj hy
              rw [bytesD_cells] at hy
              have hj' : (x.dat.map fun b : UInt8 => Value.int .u8 b.toNat)[j]? = some u' := hj
              have hy' : (x.dat.map fun b : UInt8 => D.int .u8 b.toNat)[j]? = some y := hy
              rw [List.getElem?_map] at hj' hy'
              cases hb : x.dat[j]? with
              | none => rw [hb] at hj'; cases hj'
              | some b =>
                rw [hb] at hj' hy'
                simp at hj' hy'
                subst hj'; subst hy'
                exact .int (inr_u8 b)
          have ha1 : RelD I1 (.agg #[.int .i64 x.d, .bool x.bk, .bool x.bt, u3]) (ltD x) := mk4 hin hro (by rw [hu]; rfl)
          refine (own_run x h ha1 (g.mono hle1) hw2).mono ?_
          rintro e w' ⟨I', A', cp', rfl, hle, hs⟩
          obtain ⟨I3, hle3, hs3⟩ := hgive I' _ w' hle hs
          exact own_fin x hin (R := inn ps) ⟨k1, k2, k3⟩ h2 hle3 (fun k hk => c k hk) g hs3
end Go.Proofs.Ytidelnccggfmgaa.Rod

/- Roads: what a road is to its callers, and within its methods. -/
namespace Go.Proofs.Ytidelnccggfmgaa.Rod
open Go.V Go.Num
open Go.Eng (wr HS Imm Ent bytesV)
set_option maxRecDepth 100000
set_option maxHeartbeats 4000000
def ltV (p : Lt × Value) : List Value := [.int .i64 p.1.d, .bool p.1.bk, .bool p.1.bt, p.2]
def okP (p : Lt × Value) : Prop := Eng.InR .i64 p.1.d ∧ Hd (p.2, p.1.dat) ∧ p.1.dat.length ≤ 1000000
abbrev inP (ps : List (Lt × Value)) : List (Value × List UInt8) := ps.map fun p => (p.2, p.1.dat)
def roadE (b : Nat) (sl : Value) (ps : List (Lt × Value)) : List Ent := .blk b 65 [sl] :: .row sl 29 4 ps.length (ps.flatMap ltV) :: (inP ps).map innEnt
/-- A road. -/
def roadR (ls : List Lt) : Rl where
  rel := fun _ v es => ∃ b, v = .pointer (some ⟨b, 0, none⟩) ∧ ((ls = [] ∧ es.Perm [.blk b 65 [.slice none 0 0]]) ∨ ∃ (sl : Value) (ps : List (Lt × Value)), ps.map (·.1) = ls ∧ ps.length ≤ 512 ∧ (∀ p ∈ ps, okP p) ∧ (∃ A c, sl = .slice A ps.length c) ∧ es.Perm (roadE b sl ps))
  mono := fun h _ => h
  ne := fun h => by obtain ⟨b, h, _⟩ := h; rw [h]; exact fun e => by cases e
abbrev encP (ps : List (Lt × Value)) : List D := ps.map fun p => ltO p.1 p.2
abbrev roadO (ps : List (Lt × Value)) (acc : List (Value × List UInt8)) : List V.Obj := [.vec 65 [.sl 3], .abs (inn (inP ps)), .abs (inn acc), .row 29 4 (encP ps)]
abbrev roadN (acc : List (Value × List UInt8)) : List V.Obj := [.vec 65 [.d .nils], .abs (inn []), .abs (inn acc)]
/-- Such objects are a road, and rows beside it. -/
def Packs (ls : List Lt) (ex : List (Value × List UInt8)) (os : List V.Obj) : Prop := 3 ≤ os.length ∧ ∀ I ρ L, RelH I ρ (numb 0 os) L → ∃ es, (roadR ls).rel I (ρ 0) es ∧ (∀ p ∈ ex, Hd p) ∧ L.Perm (es ++ ex.map innEnt)
theorem enc_us : ∀ {I : Imm} {ps : List (Lt × Value)} {us : List Value}, All2 (RelD I) us (cellsOf (encP ps)) → us = ps.flatMap ltV ∧ ∀ p ∈ ps, Eng.InR .i64 p.1.d
  | I, [], us, h => by rw [h.unnil]; exact ⟨rfl, fun p hp => by cases hp⟩
  | I, p :: ps, us, h => by
    have h' : All2 (RelD I) us (D.int .i64 p.1.d :: D.bool p.1.bk :: D.bool p.1.bt :: D.opq p.2 :: cellsOf (encP ps)) := h
    obtain ⟨u0, us0, rfl, p0, q0⟩ := h'.uncons
    obtain ⟨u1, us1, rfl, p1, q1⟩ := q0.uncons
    obtain ⟨u2, us2, rfl, p2, q2⟩ := q1.uncons
    obtain ⟨u3, us3, rfl, p3, q3⟩ := q2.uncons
    obtain ⟨h5, h6⟩ := enc_us q3
    obtain ⟨rfl, hin⟩ := rd_int p0
    cases p1
    cases p2
    cases p3
    rw [h5]
    refine ⟨rfl, fun q hq => ?_⟩
    rcases List.mem_cons.1 hq with rfl | hq
    · exact hin
    · exact h6 q hq
theorem enc_rel {I : Imm} : ∀ {ps : List (Lt × Value)}, (∀ p ∈ ps, okP p) → All2 (RelD I) (ps.flatMap ltV) (cellsOf (encP ps)) ∧ Ones (ps.flatMap ltV)
  | [], _ => ⟨.nil, .nil⟩
  | p :: ps, h => by
    obtain ⟨h1, h2⟩ := enc_rel (fun q hq => h q (List.mem_cons_of_mem _ hq))
    obtain ⟨h3, h4, _⟩ := h p (List.mem_cons_self ..)
    refine ⟨?_, ?_⟩
    · show All2 (RelD I) (Value.int .i64 p.1.d :: Value.bool p.1.bk :: Value.bool p.1.bt :: p.2 :: ps.flatMap ltV) (D.int .i64 p.1.d :: D.bool p.1.bk :: D.bool p.1.bt :: D.opq p.2 :: cellsOf (encP ps))
      exact .cons (.int h3) (.cons .bool (.cons .bool (.cons h4.opq h1)))
    · intro u hu
      have hu' : u ∈ Value.int .i64 p.1.d :: Value.bool p.1.bk :: Value.bool p.1.bt :: p.2 :: ps.flatMap ltV := hu
      simp only [List.mem_cons] at hu'
      rcases hu' with rfl | rfl | rfl | rfl | hu'
      · rfl
      · rfl
      · rfl
      · exact h4.one.2
      · exact h2 u hu'
theorem encP_len (ps : List (Lt × Value)) : (encP ps).length = ps.length := List.length_map _
theorem encP_one (ps : List (Lt × Value)) : ∀ x ∈ encP ps, x.cells.length = 4 := fun x hx => by obtain ⟨p, _, rfl⟩ := List.mem_map.1 hx; rfl
/-- A method's contract, of the road's parts, as one of the road. -/
theorem Ct.road {f : FuncId} {ds : List D} {R : D} {ls ls' : List Lt} (hc : ∀ xs w, (callFunc f xs).run Try.prog w = .ok (.enter f xs) w)
    (h0 : ls = [] → Ct Try.prog f (.ptr 0 0 :: ds.map .d) (roadN []) (fun r os => r = .d R ∧ Packs ls' [] os))
    (h1 : ∀ ps, ps.map (·.1) = ls → ps.length ≤ 512 → (∀ p ∈ ps, okP p) → Ct Try.prog f (.ptr 0 0 :: ds.map .d) (roadO ps []) (fun r os => r = .d R ∧ Packs ls' [] os)) :
    Ct Try.prog f (.ptr 0 0 :: ds.map .d) [.abs (roadR ls)] (Is2 (.d R) [.abs (roadR ls')]) := by
  refine ⟨hc, fun I ρ us L a b c w F hw => ?_⟩
  have hargs : ∀ ρ2 : Nat → Value, ρ2 0 = ρ 0 → All2 (RelA I ρ2) us (.ptr 0 0 :: ds.map .d) := by
    intro ρ2 h2
    obtain ⟨u, us', rfl, p1, p2⟩ := a.uncons
    refine .cons ?_ ⟨p2.1, fun j u y hu hy => ?_⟩
    · cases p1 with
      | ptr p1 => exact .ptr (by rw [h2]; exact p1)
    · have := p2.2 j u y hu hy
      rw [List.getElem?_map] at hy
      cases hd : ds[j]? with
      | none => rw [hd] at hy; cases hy
      | some x => rw [hd] at hy; simp at hy; subst hy; cases this with | d this => exact .d this
  have fin : ∀ {ρ2 : Nat → Value} {e : Ending} {w' : World}, ρ2 0 = ρ 0 → (ρ 0 ≠ .nilFunc) → (∃ v I' L', e = .returned v ∧ I.le I' ∧ (∃ ρ' r os', RelA I' ρ' v r ∧ RelH I' ρ' (numb 0 os') L' ∧ (∀ k, os'.length ≤ k → ρ' k = .nilFunc) ∧ 3 ≤ os'.length ∧ (∀ l, ρ2 l ≠ .nilFunc → ρ' l = ρ2 l) ∧ r = .d R ∧ Packs ls' [] os') ∧ HS I' (L' ++ F) w') →
      ∃ v I' L', e = .returned v ∧ I.le I' ∧ (∃ ρ' r os', RelA I' ρ' v r ∧ RelH I' ρ' (numb 0 os') L' ∧ (∀ k, os'.length ≤ k → ρ' k = .nilFunc) ∧ 1 ≤ os'.length ∧ (∀ l, ρ l ≠ .nilFunc → ρ' l = ρ l) ∧ Is2 (.d R) [.abs (roadR ls')] r os') ∧ HS I' (L' ++ F) w' := by
    rintro ρ2 e w' e2 hne ⟨v, I', L', rfl, hle, ⟨ρ', r, os', r1, r2, r3, r4, r5, rfl, hp⟩, hs⟩
    obtain ⟨es, g1, _, g3⟩ := hp.2 I' ρ' L' r2
    have e3 : ρ' 0 = ρ 0 := by rw [r5 0 (by rw [e2]; exact hne), e2]
    rw [e3] at g1
    refine ⟨v, I', es ++ [], rfl, hle, ⟨ρ, .d R, [.abs (roadR ls')], ?_, .cons g1 (.nil r2.glob), c, Nat.le_refl _, fun _ _ => rfl, rfl, rfl⟩, hs.perm ?_⟩
    · cases r1 with | d r1 => exact .d r1
    · refine List.Perm.append_right F ?_
      simpa using g3
  cases b with
  | @cons _ _ _ es _ h b =>
    cases b with
    | nil g =>
      have hne : ρ 0 ≠ .nilFunc := (roadR ls).ne h
      obtain ⟨b, hb, h⟩ := h
      rcases h with ⟨hl, hp⟩ | ⟨sl, ps, hps, h512, hok, ⟨A, cp, hsl⟩, hp⟩
      · refine ((h0 hl).run I (fun k => if k = 0 then ρ 0 else if k ≤ 2 then .bool true else .nilFunc) us ([.blk b 65 [.slice none 0 0]] ++ ([] ++ ([] ++ []))) (hargs _ rfl) ?_ ?_ w F ?_).mono (fun e w' h => fin (ρ2 := fun k => if k = 0 then ρ 0 else if k ≤ 2 then .bool true else .nilFunc) rfl hne h)
        · refine .cons ⟨b, [.slice none 0 0], hb, .one (.d .nils), .one rfl, rfl⟩ (.cons ⟨rfl, (fun p hp => by cases hp), rfl⟩ (.cons ⟨rfl, (fun p hp => by cases hp), rfl⟩ (.nil g)))
        · intro k hk
          have hk' : 3 ≤ k := hk
          show (if k = 0 then ρ 0 else if k ≤ 2 then .bool true else .nilFunc) = Value.nilFunc
          rw [if_neg (by omega), if_neg (by omega)]
        · refine hw.perm (List.Perm.append_right F ?_)
          simpa using hp
      · refine ((h1 ps hps h512 hok).run I (fun k => if k = 0 then ρ 0 else if k = 3 then sl else if k ≤ 3 then .bool true else .nilFunc) us ([.blk b 65 [sl]] ++ ((inP ps).map innEnt ++ ([] ++ ([.row sl 29 4 ps.length (ps.flatMap ltV)] ++ [])))) (hargs _ rfl) ?_ ?_ w F ?_).mono (fun e w' h => by
            refine fin (ρ2 := fun k => if k = 0 then ρ 0 else if k = 3 then sl else if k ≤ 3 then .bool true else .nilFunc) rfl hne ?_
            obtain ⟨v, I', L', h1, h2, ⟨ρ', r, os', r1, r2, r3, r4, r5⟩, h4⟩ := h
            exact ⟨v, I', L', h1, h2, ⟨ρ', r, os', r1, r2, r3, Nat.le_trans (show 3 ≤ 4 by decide) r4, r5⟩, h4⟩)
        · have h1 : (fun k => if k = 0 then ρ 0 else if k = 3 then sl else if k ≤ 3 then Value.bool true else .nilFunc) 3 = .slice A (encP ps).length cp := by rw [encP_len]; exact hsl
          obtain ⟨e1, e2⟩ := enc_rel (I := I) hok
          refine .cons ⟨b, [sl], hb, .one ?_, ?_, rfl⟩ (.cons ⟨rfl, fun p hp => ?_, rfl⟩ (.cons ⟨rfl, (fun p hp => by cases hp), rfl⟩ (.cons ⟨A, cp, ps.flatMap ltV, h1, encP_one ps, e1, e2, ?_⟩ (.nil g))))
          · rw [hsl]
            exact .sl (c := cp) rfl
          · exact .one (by rw [hsl]; rfl)
          · obtain ⟨q, hq, rfl⟩ := List.mem_map.1 hp
            exact (hok q hq).2.1
          · rw [encP_len, ← hsl]
        · intro k hk
          have hk' : 4 ≤ k := hk
          show (if k = 0 then ρ 0 else if k = 3 then sl else if k ≤ 3 then .bool true else .nilFunc) = Value.nilFunc
          rw [if_neg (by omega), if_neg (by omega), if_neg (by omega)]
        · refine hw.perm (List.Perm.append_right F ?_)
          have : (es ++ []).Perm (roadE b sl ps) := by simpa using hp
          refine this.trans ?_
          unfold roadE
          rw [List.append_nil, List.nil_append]
          show (_ :: _ :: _).Perm (_ :: _)
          refine List.Perm.cons _ ?_
          have p1 := List.perm_append_comm (l₁ := [Ent.row sl 29 4 ps.length (ps.flatMap ltV)]) (l₂ := (inP ps).map innEnt)
          simpa using p1
end Go.Proofs.Ytidelnccggfmgaa.Rod

/- Roads: the methods, of the road's parts. -/
namespace Go.Proofs.Ytidelnccggfmgaa.Rod
open Go.V Go.Num
open Go.Eng (wr HS Imm Ent bytesV)
set_option maxRecDepth 100000
set_option maxHeartbeats 4000000
def inB (n : Int) (k : Nat) : Bool := decide (0 ≤ n) && decide (n < k)
theorem in_ct (ps : List (Lt × Value)) (acc : List (Value × List UInt8)) (n : Int) : Ct Try.prog 71 [.ptr 0 0, i64 n] (roadO ps acc) (Is2 (.d (.bool (inB n ps.length))) (roadO ps acc)) := by
  refine Ct.introF (E := E 16 4 [.tmp 4] [] [] []) tab_ok Try.call71 Try.func71 rfl rfl rfl rfl rfl (fun hin => ?_)
  have hl := encP_len ps
  (conv => whnf); refine cond_d (fun h => ?_) (fun h => ?_)
  · refine isBool ?_
    unfold inB
    rw [decide_eq_true h, hl]; rfl
  · refine isBool ?_
    unfold inB
    rw [decide_eq_false h]; rfl
theorem in0_ct (acc : List (Value × List UInt8)) (n : Int) : Ct Try.prog 71 [.ptr 0 0, i64 n] (roadN acc) (Is2 (.d (.bool false)) (roadN acc)) := by
  refine Ct.introF (E := E 16 3 [.tmp 4] [] [] []) tab_ok Try.call71 Try.func71 rfl rfl rfl rfl rfl (fun hin => ?_)
  (conv => whnf); refine cond_d (fun h => ?_) (fun h => ?_)
  · refine isBool ?_
    exact decide_eq_false (show ¬ n < ((0 : Nat) : Int) by omega)
  · exact Is2.mk rfl
theorem at_ct (ps : List (Lt × Value)) (acc : List (Value × List UInt8)) (n : Int) : Ct Try.prog 31 [.ptr 0 0, i64 n] (roadO ps acc) (Is2 (i64 (if inB n ps.length = true then 0 else 7)) (roadO ps acc)) := by
  refine Ct.introF (E := E 15 4 [.tmp 4] [] [] []) tab_ok Try.call31 Try.func31 rfl rfl rfl rfl rfl (fun hin => ?_)
  (conv => whnf); refine (in_ct ps acc n).use ?_
  cases h : inB n ps.length with
  | true => exact Is2.mk rfl
  | false => exact Is2.mk rfl
theorem at0_ct (acc : List (Value × List UInt8)) (n : Int) : Ct Try.prog 31 [.ptr 0 0, i64 n] (roadN acc) (Is2 (i64 7) (roadN acc)) := by
  refine Ct.introF (E := E 15 3 [.tmp 4] [] [] []) tab_ok Try.call31 Try.func31 rfl rfl rfl rfl rfl (fun hin => ?_)
  (conv => whnf); refine (in0_ct acc n).use ?_
  exact Is2.mk rfl
abbrev sentO (ps : List (Lt × Value)) (acc : List (Value × List UInt8)) (x : Lt) (v : Value) : List V.Obj := [.vec 65 [.sl 4], .abs (inn (inP ps)), .abs (inn (acc ++ [(v, x.dat)])), .gone, .row 29 4 (encP (ps ++ [(x, v)]))]
theorem send_ct (ps : List (Lt × Value)) (acc : List (Value × List UInt8)) (x : Lt) (hp : ps.length < 512) (hx : x.dat.length ≤ 1000000) : Ct Try.prog 14 [.ptr 0 0, .d (ltD x)] (roadO ps acc) (fun r os => ∃ v, Hd (v, x.dat) ∧ r = i64 0 ∧ os = sentO ps acc x v) := by
  refine Ct.introF (E := E 29 4 [.tmp 4] [] [] []) tab_ok Try.call14 Try.func14 rfl rfl rfl rfl rfl (fun hin => ?_)
  have hl := encP_len ps
  (conv => whnf); refine cond_d (fun h => ?_) (fun h => ?_)
  · exfalso; omega
  (conv => whnf); refine DrawI.mixF [⟨[(0, true, [0]), (1, true, [0]), (2, true, [17]), (3, true, [18]), (4, true, [19]), (5, true, [20]), (6, true, [3])], [], some (7, [22])⟩, ⟨[(0, false, [0]), (1, false, [0]), (2, false, [17]), (3, false, [18]), (4, false, [19]), (5, false, [20])], [], some (8, [23])⟩, ⟨[(0, false, [0]), (1, false, [0]), (2, false, [17]), (3, false, [18]), (4, false, [19]), (5, false, [20])], [], some (9, [21, 24])⟩, ⟨[(0, false, [0]), (10, true, [16]), (11, true, [26]), (12, true, [27])], [], some (13, [25, 28])⟩, ⟨[], [], none⟩] [] (by decide +kernel) ?_
  repeat (first | refine DrawO.mkF _ (And.intro rfl rfl) ?_ | refine DrawO.mkF _ (Idx.mk _ rfl (And.intro rfl rfl)) ?_ | refine And.intro rfl ?_)
  (conv => whnf)
  refine (own_new x (by omega) (inn (inP ps)) acc).mono ?_
  rintro _ _ ⟨v, hv, rfl, rfl⟩
  (conv => whnf)
  repeat (first | refine DrawO.mkF _ (And.intro rfl rfl) ?_ | refine DrawO.mkF _ (Idx.mk _ rfl (And.intro rfl rfl)) ?_ | refine And.intro rfl ?_)
  repeat (first | refine DrawO.mkF _ (And.intro rfl rfl) ?_ | refine DrawO.mkF _ (Idx.mk _ rfl (And.intro rfl rfl)) ?_ | refine And.intro rfl ?_)
  (conv => whnf); refine And.intro ⟨show ((encP ps).length + 1) * 40 ≤ 140737488355328 by omega, fun y hy => by rw [List.mem_singleton.1 hy]; rfl⟩ ?_
  repeat (first | refine DrawO.mkF _ (And.intro rfl rfl) ?_ | refine DrawO.mkF _ (Idx.mk _ rfl (And.intro rfl rfl)) ?_ | refine And.intro rfl ?_)
  (conv => whnf)
  refine ⟨v, hv, rfl, ?_⟩
  show _ = [_, _, _, _, V.Obj.row _ _ (List.map _ (ps ++ [(x, v)]))]
  rw [List.map_append]; rfl
theorem sendFull_ct (ps : List (Lt × Value)) (acc : List (Value × List UInt8)) (x : D) (hp : ¬ ps.length < 512) (hx : ∃ a b c d, x = .agg [.int .i64 a, .bool b, .bool c, d]) : Ct Try.prog 14 [.ptr 0 0, .d x] (roadO ps acc) (Is2 (i64 6) (roadO ps acc)) := by
  obtain ⟨a, b, c, d, rfl⟩ := hx
  refine Ct.introF (E := E 29 4 [.tmp 4] [] [] []) tab_ok Try.call14 Try.func14 rfl rfl rfl rfl rfl (fun hin => ?_)
  have hl := encP_len ps
  (conv => whnf); refine cond_d (fun h => ?_) (fun h => ?_)
  · exact Is2.mk rfl
  · exfalso; omega
abbrev sent0 (acc : List (Value × List UInt8)) (x : Lt) (v : Value) : List V.Obj := [.vec 65 [.sl 3], .abs (inn []), .abs (inn (acc ++ [(v, x.dat)])), .row 29 4 (encP [(x, v)])]
theorem send0_ct (acc : List (Value × List UInt8)) (x : Lt) (hx : x.dat.length ≤ 1000000) : Ct Try.prog 14 [.ptr 0 0, .d (ltD x)] (roadN acc) (fun r os => ∃ v, Hd (v, x.dat) ∧ r = i64 0 ∧ os = sent0 acc x v) := by
  refine Ct.introF (E := E 29 3 [.tmp 4] [] [] []) tab_ok Try.call14 Try.func14 rfl rfl rfl rfl rfl (fun hin => ?_)
  (conv => whnf); refine DrawI.mixF [⟨[(0, true, [0]), (1, true, [0]), (2, true, [17]), (3, true, [18]), (4, true, [19]), (5, true, [20]), (6, true, [3])], [], some (7, [22])⟩, ⟨[(0, false, [0]), (1, false, [0]), (2, false, [17]), (3, false, [18]), (4, false, [19]), (5, false, [20])], [], some (8, [23])⟩, ⟨[(0, false, [0]), (1, false, [0]), (2, false, [17]), (3, false, [18]), (4, false, [19]), (5, false, [20])], [], some (9, [21, 24])⟩, ⟨[(0, false, [0]), (10, true, [16]), (11, true, [26]), (12, true, [27])], [], some (13, [25, 28])⟩, ⟨[], [], none⟩] [] (by decide +kernel) ?_
  repeat (first | refine DrawO.mkF _ (And.intro rfl rfl) ?_ | refine DrawO.mkF _ (Idx.mk _ rfl (And.intro rfl rfl)) ?_ | refine And.intro rfl ?_)
  (conv => whnf)
  refine (own_new x (by omega) (inn []) acc).mono ?_
  rintro _ _ ⟨v, hv, rfl, rfl⟩
  (conv => whnf)
  repeat (first | refine DrawO.mkF _ (And.intro rfl rfl) ?_ | refine DrawO.mkF _ (Idx.mk _ rfl (And.intro rfl rfl)) ?_ | refine And.intro rfl ?_)
  repeat (first | refine DrawO.mkF _ (And.intro rfl rfl) ?_ | refine DrawO.mkF _ (Idx.mk _ rfl (And.intro rfl rfl)) ?_ | refine And.intro rfl ?_)
  (conv => whnf); refine And.intro ⟨show (0 + 1) * 40 ≤ 140737488355328 by decide, fun y hy => by rw [List.mem_singleton.1 hy]; rfl⟩ ?_
  repeat (first | refine DrawO.mkF _ (And.intro rfl rfl) ?_ | refine DrawO.mkF _ (Idx.mk _ rfl (And.intro rfl rfl)) ?_ | refine And.intro rfl ?_)
  (conv => whnf)
  exact ⟨v, hv, rfl, rfl⟩
/-- A letter of the road, sent once more. -/
theorem sendIn_ct (ps : List (Lt × Value)) (acc : List (Value × List UInt8)) (x : Lt) (v0 : Value) (hv0 : (v0, x.dat) ∈ inP ps) (hp : ps.length < 512) (hx : x.dat.length ≤ 1000000) : Ct Try.prog 14 [.ptr 0 0, .d (ltO x v0)] (roadO ps acc) (fun r os => ∃ v, Hd (v, x.dat) ∧ r = i64 0 ∧ os = sentO ps acc x v) := by
  refine Ct.introF (E := E 29 4 [.tmp 4] [] [] []) tab_ok Try.call14 Try.func14 rfl rfl rfl rfl rfl (fun hin => ?_)
  have hl := encP_len ps
  (conv => whnf); refine cond_d (fun h => ?_) (fun h => ?_)
  · exfalso; omega
  (conv => whnf); refine DrawI.mixF [⟨[(0, true, [0]), (1, true, [0]), (2, true, [17]), (3, true, [18]), (4, true, [19]), (5, true, [20]), (6, true, [3])], [], some (7, [22])⟩, ⟨[(0, false, [0]), (1, false, [0]), (2, false, [17]), (3, false, [18]), (4, false, [19]), (5, false, [20])], [], some (8, [23])⟩, ⟨[(0, false, [0]), (1, false, [0]), (2, false, [17]), (3, false, [18]), (4, false, [19]), (5, false, [20])], [], some (9, [21, 24])⟩, ⟨[(0, false, [0]), (10, true, [16]), (11, true, [26]), (12, true, [27])], [], some (13, [25, 28])⟩, ⟨[], [], none⟩] [] (by decide +kernel) ?_
  repeat (first | refine DrawO.mkF _ (And.intro rfl rfl) ?_ | refine DrawO.mkF _ (Idx.mk _ rfl (And.intro rfl rfl)) ?_ | refine And.intro rfl ?_)
  (conv => whnf)
  refine (own_inn x (by omega) (inP ps) acc v0 hv0).mono ?_
  rintro _ _ ⟨v, hv, rfl, rfl⟩
  (conv => whnf)
  repeat (first | refine DrawO.mkF _ (And.intro rfl rfl) ?_ | refine DrawO.mkF _ (Idx.mk _ rfl (And.intro rfl rfl)) ?_ | refine And.intro rfl ?_)
  repeat (first | refine DrawO.mkF _ (And.intro rfl rfl) ?_ | refine DrawO.mkF _ (Idx.mk _ rfl (And.intro rfl rfl)) ?_ | refine And.intro rfl ?_)
  (conv => whnf); refine And.intro ⟨show ((encP ps).length + 1) * 40 ≤ 140737488355328 by omega, fun y hy => by rw [List.mem_singleton.1 hy]; rfl⟩ ?_
  repeat (first | refine DrawO.mkF _ (And.intro rfl rfl) ?_ | refine DrawO.mkF _ (Idx.mk _ rfl (And.intro rfl rfl)) ?_ | refine And.intro rfl ?_)
  (conv => whnf)
  refine ⟨v, hv, rfl, ?_⟩
  show _ = [_, _, _, _, V.Obj.row _ _ (List.map _ (ps ++ [(x, v)]))]
  rw [List.map_append]; rfl
theorem encP_get {ps : List (Lt × Value)} {n : Int} {x : Lt} {v : Value} (h : ps[n.toNat]? = some (x, v)) : (encP ps)[n.toNat]? = some (ltO x v) := by
  show (List.map _ ps)[n.toNat]? = _
  rw [List.getElem?_map, h]; rfl
theorem twin_ct (ps : List (Lt × Value)) (acc : List (Value × List UInt8)) (n : Int) (x : Lt) (v0 : Value) (hn : inB n ps.length = true) (hg : ps[n.toNat]? = some (x, v0)) (hp : ps.length < 512) (hx : x.dat.length ≤ 1000000) :
    Ct Try.prog 17 [.ptr 0 0, i64 n] (roadO ps acc) (fun r os => ∃ v, Hd (v, x.dat) ∧ r = i64 0 ∧ os = sentO ps acc x v) := by
  have hA := at_ct ps acc n
  rw [if_pos hn] at hA
  have hl := encP_len ps
  have hb : 0 ≤ n ∧ n < ps.length := by unfold inB at hn; simpa using hn
  refine Ct.introF (E := E 22 4 [.tmp 4] [] [] []) tab_ok Try.call17 Try.func17 rfl rfl rfl rfl rfl (fun hin => ?_)
  (conv => whnf); refine (hA).use ?_
  (conv => whnf); refine And.intro (by omega) ?_
  (conv => whnf); refine Idx.mk _ (encP_get hg) ?_
  (conv => whnf)
  refine (sendIn_ct ps acc x v0 (List.mem_map.2 ⟨_, List.mem_of_getElem? hg, rfl⟩) hp hx).mono ?_
  rintro _ _ ⟨v, hv, rfl, rfl⟩
  (conv => whnf)
  exact ⟨v, hv, rfl, rfl⟩
theorem twinFull_ct (ps : List (Lt × Value)) (acc : List (Value × List UInt8)) (n : Int) (x : Lt) (v0 : Value) (hn : inB n ps.length = true) (hg : ps[n.toNat]? = some (x, v0)) (hp : ¬ ps.length < 512) :
    Ct Try.prog 17 [.ptr 0 0, i64 n] (roadO ps acc) (Is2 (i64 6) (roadO ps acc)) := by
  have hA := at_ct ps acc n
  rw [if_pos hn] at hA
  have hl := encP_len ps
  have hb : 0 ≤ n ∧ n < ps.length := by unfold inB at hn; simpa using hn
  refine Ct.introF (E := E 22 4 [.tmp 4] [] [] []) tab_ok Try.call17 Try.func17 rfl rfl rfl rfl rfl (fun hin => ?_)
  (conv => whnf); refine (hA).use ?_
  (conv => whnf); refine And.intro (by omega) ?_
  (conv => whnf); refine Idx.mk _ (encP_get hg) ?_
  (conv => whnf); refine (sendFull_ct ps acc (ltO x v0) hp ⟨_, _, _, _, rfl⟩).use ?_
  exact Is2.mk rfl
theorem twinNo_ct (ps : List (Lt × Value)) (acc : List (Value × List UInt8)) (n : Int) (hn : inB n ps.length = false) :
    Ct Try.prog 17 [.ptr 0 0, i64 n] (roadO ps acc) (Is2 (i64 7) (roadO ps acc)) := by
  have hA := at_ct ps acc n
  rw [hn, if_neg (by simp)] at hA
  refine Ct.introF (E := E 22 4 [.tmp 4] [] [] []) tab_ok Try.call17 Try.func17 rfl rfl rfl rfl rfl (fun hin => ?_)
  (conv => whnf); refine (hA).use ?_
  exact Is2.mk rfl
theorem twin0_ct (acc : List (Value × List UInt8)) (n : Int) : Ct Try.prog 17 [.ptr 0 0, i64 n] (roadN acc) (Is2 (i64 7) (roadN acc)) := by
  refine Ct.introF (E := E 22 3 [.tmp 4] [] [] []) tab_ok Try.call17 Try.func17 rfl rfl rfl rfl rfl (fun hin => ?_)
  (conv => whnf); refine (at0_ct acc n).use ?_
  exact Is2.mk rfl
theorem letters_ct (ps : List (Lt × Value)) (hp : ps.length ≤ 512) (hx : ∀ p ∈ ps, okP p) : Ct Try.prog 19 [.ptr 0 0] (roadO ps []) (fun r os => ∃ qs : List (Lt × Value), qs.map (·.1) = ps.map (·.1) ∧ (∀ q ∈ qs, okP q) ∧ r = .sl 4 ∧ os = [.vec 65 [.sl 3], .abs (inn (inP ps)), .abs (inn (inP qs)), .row 29 4 (encP ps), .row 29 4 (encP qs)]) := by
  have hl := encP_len ps
  refine Ct.introF (E := E 26 4 [.tmp 2] [] [(5, [3, 13, 14, 15])] []) tab_ok Try.call19 Try.func19 rfl rfl rfl rfl rfl (fun hin => ?_)
  (conv => whnf); refine LoopI.mk (fun q vs os => ∃ (i : Nat) (qs : List (Lt × Value)), vs = [.sl 4, .sl 3, i64 (encP ps).length, i64 i] ∧ os = [.vec 65 [.sl 3], .abs (inn (inP ps)), .abs (inn (inP qs)), .row 29 4 (encP ps), .row 29 4 (encP qs)] ∧
    qs.map (·.1) = (ps.take i).map (·.1) ∧ (∀ q ∈ qs, okP q) ∧ i ≤ ps.length ∧ q = ps.length - i) ps.length ⟨0, [], rfl, rfl, rfl, (fun q hq => by cases hq), Nat.zero_le _, rfl⟩ ?_
  rintro q _ _ ⟨i, qs, rfl, rfl, h1, h2, h3, rfl⟩
  have hql : (encP qs).length = i := by
    have := congrArg List.length h1
    rw [List.length_map, List.length_map, List.length_take] at this
    rw [encP_len]; omega
  (conv => whnf); refine cond_d (fun h4 => ?_) (fun h4 => ?_)
  · have hi : i < ps.length := by omega
    obtain ⟨⟨x, v0⟩, hg⟩ : ∃ p, ps[i]? = some p := ⟨_, List.getElem?_eq_getElem hi⟩
    have hmem := List.mem_of_getElem? hg
    have hxo := hx _ hmem
    have hg2 : (encP ps)[(i : Int).toNat]? = some (ltO x v0) := encP_get (by rw [show (i : Int).toNat = i by omega]; exact hg)
    (conv => whnf); refine And.intro (by omega) ?_
    (conv => whnf); refine Idx.mk _ hg2 ?_
    (conv => whnf)
    refine (own_inn x (by have h : x.dat.length ≤ 1000000 := hxo.2.2; omega) (inP ps) (inP qs) v0 (List.mem_map.2 ⟨_, hmem, rfl⟩)).mono ?_
    rintro _ _ ⟨v, hv, rfl, rfl⟩
    (conv => whnf)
    (conv => whnf); refine And.intro ⟨show ((encP qs).length + 1) * 40 ≤ 140737488355328 by omega, fun y hy => by rw [List.mem_singleton.1 hy]; rfl⟩ ?_
    (conv => whnf); refine And.intro (by first | omega | (dsimp only [List.length, cond]; omega) | (show (-9223372036854775808 : Int) ≤ _ ∧ _ ≤ (9223372036854775807 : Int); omega) | decide) ?_
    (conv => whnf)
    refine ⟨ps.length - (i + 1), by omega, i + 1, qs ++ [(x, v)], rfl, ?_, ?_, ?_, by omega, rfl⟩
    · show _ = [_, _, .abs (inn (List.map _ (qs ++ [(x, v)]))), _, V.Obj.row _ _ (List.map _ (qs ++ [(x, v)]))]
      rw [List.map_append, List.map_append]; rfl
    · rw [List.map_append, h1, List.take_add_one, hg, List.map_append]; rfl
    · intro q hq
      rcases List.mem_append.1 hq with hq | hq
      · exact h2 q hq
      · rw [List.mem_singleton.1 hq]; exact ⟨hxo.1, hv, hxo.2.2⟩
  · have hil : i = ps.length := by omega
    (conv => whnf)
    refine ⟨qs, ?_, h2, rfl, rfl⟩
    rw [h1, List.take_of_length_le (by omega)]
end Go.Proofs.Ytidelnccggfmgaa.Rod

/- Roads: the methods, of the road. -/
namespace Go.Proofs.Ytidelnccggfmgaa.Rod
open Go.V Go.Num
open Go.Eng (wr HS Imm Ent bytesV)
set_option maxRecDepth 100000
set_option maxHeartbeats 4000000
theorem pk {I : Imm} {ρ : Nat → Value} {k : Nat} {e0 e3 : List Ent} {ps : List (Lt × Value)} {ins ex : List (Value × List UInt8)} (hv : RelO I ρ 0 (.vec 65 [.sl k]) e0) (hr : RelO I ρ k (.row 29 4 (encP ps)) e3)
    (hl : ps.length ≤ 512) (hb : ∀ p ∈ ps, p.1.dat.length ≤ 1000000) (hins : ∀ p ∈ ins, Hd p) (hp : ins.Perm (inP ps ++ ex)) :
    ∃ es, (roadR (ps.map (·.1))).rel I (ρ 0) es ∧ (∀ p ∈ ex, Hd p) ∧ (e0 ++ (e3 ++ ins.map innEnt)).Perm (es ++ ex.map innEnt) := by
  obtain ⟨b, us, hb0, hus, _, rfl⟩ := hv
  obtain ⟨A, c, us3, hk, hz, hus3, _, rfl⟩ := hr
  obtain ⟨e1, e2⟩ := enc_us hus3
  rw [encP_len] at hk
  obtain ⟨u, us', rfl, hu, hn⟩ := hus.uncons
  obtain rfl := hn.unnil
  have hu2 : u = .slice A ps.length c := by
    cases hu with
    | sl h => rw [← h, hk]
  subst hu2
  refine ⟨roadE b (.slice A ps.length c) ps, ⟨b, hb0, .inr ⟨_, ps, rfl, hl, fun p hp' => ⟨e2 p hp', ?_, hb p hp'⟩, ⟨A, c, rfl⟩, List.Perm.refl _⟩⟩, ?_, ?_⟩
  · exact hins _ (hp.mem_iff.2 (List.mem_append_left _ (List.mem_map.2 ⟨p, hp', rfl⟩)))
  · exact fun p hp' => hins _ (hp.mem_iff.2 (List.mem_append_right _ hp'))
  · rw [encP_len, e1]
    unfold roadE
    show (_ :: _ :: ins.map innEnt).Perm (_ :: _ :: ((inP ps).map innEnt ++ ex.map innEnt))
    refine List.Perm.cons _ (List.Perm.cons _ ?_)
    rw [← List.map_append]
    exact hp.map _
theorem packs_sent {ps : List (Lt × Value)} {x : Lt} {v : Value} (hl : ps.length < 512) (hb : ∀ p ∈ ps, p.1.dat.length ≤ 1000000) (hx : x.dat.length ≤ 1000000) : Packs ((ps ++ [(x, v)]).map (·.1)) [] (sentO ps [] x v) := by
  refine ⟨by show 3 ≤ 5; decide, fun I ρ L h => ?_⟩
  cases h with
  | @cons _ _ _ e0 _ h0 h =>
    cases h with
    | @cons _ _ _ e1 _ h1 h =>
      cases h with
      | @cons _ _ _ e2 _ h2 h =>
        cases h with
        | @cons _ _ _ eg _ hg h =>
          cases h with
          | @cons _ _ _ e3 _ h3 h =>
            cases h with
            | nil g =>
              obtain ⟨_, i1, i2⟩ := h1
              obtain ⟨_, j1, j2⟩ := h2
              obtain rfl : eg = [] := hg
              obtain ⟨es, q1, q2, q3⟩ := pk (ins := inP ps ++ ([] ++ [(v, x.dat)])) (ex := []) h0 h3 (by rw [List.length_append]; show _ + 1 ≤ _; omega) (fun p hp => by
                  rcases List.mem_append.1 hp with hp | hp
                  · exact hb p hp
                  · rw [List.mem_singleton.1 hp]; exact hx)
                (fun p hp => by
                  rcases List.mem_append.1 hp with hp | hp
                  · exact i1 p hp
                  · exact j1 p hp)
                (by rw [List.append_nil]; unfold inP; rw [List.map_append]; exact List.Perm.refl _)
              refine ⟨es, q1, q2, List.Perm.trans ?_ q3⟩
              rw [i2, j2, List.map_append]
              refine List.Perm.append_left _ ?_
              have p1 := List.perm_append_comm (l₁ := (inP ps).map innEnt ++ ([] ++ [(v, x.dat)]).map innEnt) (l₂ := e3)
              simpa [List.append_assoc] using p1
theorem packs_sent0 {x : Lt} {v : Value} (hx : x.dat.length ≤ 1000000) : Packs [x] [] (sent0 [] x v) := by
  refine ⟨by show 3 ≤ 4; decide, fun I ρ L h => ?_⟩
  cases h with
  | @cons _ _ _ e0 _ h0 h =>
    cases h with
    | @cons _ _ _ e1 _ h1 h =>
      cases h with
      | @cons _ _ _ e2 _ h2 h =>
        cases h with
        | @cons _ _ _ e3 _ h3 h =>
          cases h with
          | nil g =>
            obtain ⟨_, i1, i2⟩ := h1
            obtain ⟨_, j1, j2⟩ := h2
            obtain ⟨es, q1, q2, q3⟩ := pk (ps := [(x, v)]) (ins := [] ++ [(v, x.dat)]) (ex := []) h0 h3 (show 1 ≤ 512 by decide) (fun p hp => by rw [List.mem_singleton.1 hp]; exact hx) j1 (List.Perm.refl _)
            refine ⟨es, q1, q2, List.Perm.trans ?_ q3⟩
            rw [i2, j2]
            refine List.Perm.append_left _ ?_
            have p1 := List.perm_append_comm (l₁ := ([] ++ [(v, x.dat)]).map innEnt) (l₂ := e3)
            simpa [List.append_assoc] using p1
theorem packs_same {ps : List (Lt × Value)} (hl : ps.length ≤ 512) (hb : ∀ p ∈ ps, p.1.dat.length ≤ 1000000) : Packs (ps.map (·.1)) [] (roadO ps []) := by
  refine ⟨by show 3 ≤ 4; decide, fun I ρ L h => ?_⟩
  cases h with
  | @cons _ _ _ e0 _ h0 h =>
    cases h with
    | @cons _ _ _ e1 _ h1 h =>
      cases h with
      | @cons _ _ _ e2 _ h2 h =>
        cases h with
        | @cons _ _ _ e3 _ h3 h =>
          cases h with
          | nil g =>
            obtain ⟨_, i1, i2⟩ := h1
            obtain ⟨_, j1, j2⟩ := h2
            obtain ⟨es, q1, q2, q3⟩ := pk (ins := inP ps) (ex := []) h0 h3 hl hb i1 (by rw [List.append_nil])
            refine ⟨es, q1, q2, List.Perm.trans ?_ q3⟩
            rw [i2, j2]
            refine List.Perm.append_left _ ?_
            have p1 := List.perm_append_comm (l₁ := (inP ps).map innEnt) (l₂ := e3)
            simpa [List.append_assoc] using p1
theorem packs_nil : Packs [] [] (roadN []) := by
  refine ⟨Nat.le_refl _, fun I ρ L h => ?_⟩
  cases h with
  | @cons _ _ _ e0 _ h0 h =>
    cases h with
    | @cons _ _ _ e1 _ h1 h =>
      cases h with
      | @cons _ _ _ e2 _ h2 h =>
        cases h with
        | nil g =>
          obtain ⟨b, us, hb0, hus, _, rfl⟩ := h0
          obtain ⟨_, _, rfl⟩ := h1
          obtain ⟨_, _, rfl⟩ := h2
          obtain ⟨u, us', rfl, hu, hn⟩ := hus.uncons
          obtain rfl := hn.unnil
          cases hu with
          | d hu =>
            cases hu
            exact ⟨_, ⟨b, hb0, .inl ⟨rfl, List.Perm.refl _⟩⟩, (fun p hp => by cases hp), by simp⟩
/-- Send: one more letter. -/
theorem Send_ct (ls : List Lt) (x : Lt) (hx : x.dat.length ≤ 1000000) (hl : ls.length < 512) : Ct Try.prog 14 [.ptr 0 0, .d (ltD x)] [.abs (roadR ls)] (Is2 (i64 0) [.abs (roadR (ls ++ [x]))]) := by
  refine Ct.road (ds := [ltD x]) Try.call14 (fun h0 => ?_) (fun ps h1 h2 h3 => ?_)
  · subst h0
    refine (send0_ct [] x hx).mono ?_
    rintro r os ⟨v, _, rfl, rfl⟩
    exact ⟨rfl, packs_sent0 hx⟩
  · subst h1
    rw [List.length_map] at hl
    refine (send_ct ps [] x hl hx).mono ?_
    rintro r os ⟨v, _, rfl, rfl⟩
    have := packs_sent (v := v) hl (fun p hp => (h3 p hp).2.2) hx
    rw [List.map_append] at this
    exact ⟨rfl, this⟩
theorem SendFull_ct (ls : List Lt) (x : Lt) (hl : ¬ ls.length < 512) : Ct Try.prog 14 [.ptr 0 0, .d (ltD x)] [.abs (roadR ls)] (Is2 (i64 6) [.abs (roadR ls)]) := by
  refine Ct.road (ds := [ltD x]) Try.call14 (fun h0 => ?_) (fun ps h1 h2 h3 => ?_)
  · exfalso; rw [h0] at hl; exact hl (by decide)
  · subst h1
    rw [List.length_map] at hl
    refine (sendFull_ct ps [] (ltD x) hl ⟨_, _, _, _, rfl⟩).mono ?_
    rintro r os ⟨rfl, rfl⟩
    exact ⟨rfl, packs_same h2 (fun p hp => (h3 p hp).2.2)⟩
theorem TwinNo_ct (ls : List Lt) (n : Int) (hn : inB n ls.length = false) : Ct Try.prog 17 [.ptr 0 0, i64 n] [.abs (roadR ls)] (Is2 (i64 7) [.abs (roadR ls)]) := by
  refine Ct.road (ds := [.int .i64 n]) Try.call17 (fun h0 => ?_) (fun ps h1 h2 h3 => ?_)
  · subst h0
    refine (twin0_ct [] n).mono ?_
    rintro r os ⟨rfl, rfl⟩
    exact ⟨rfl, packs_nil⟩
  · subst h1
    rw [List.length_map] at hn
    refine (twinNo_ct ps [] n hn).mono ?_
    rintro r os ⟨rfl, rfl⟩
    exact ⟨rfl, packs_same h2 (fun p hp => (h3 p hp).2.2)⟩
theorem Twin_ct (ls : List Lt) (n : Int) (x : Lt) (hn : inB n ls.length = true) (hg : ls[n.toNat]? = some x) (hl : ls.length < 512) : Ct Try.prog 17 [.ptr 0 0, i64 n] [.abs (roadR ls)] (Is2 (i64 0) [.abs (roadR (ls ++ [x]))]) := by
  refine Ct.road (ds := [.int .i64 n]) Try.call17 (fun h0 => ?_) (fun ps h1 h2 h3 => ?_)
  · subst h0; exact absurd hg (by simp)
  · subst h1
    rw [List.length_map] at hn hl
    rw [List.getElem?_map] at hg
    cases hq : ps[n.toNat]? with
    | none => rw [hq] at hg; cases hg
    | some q =>
      obtain ⟨y, v0⟩ := q
      rw [hq] at hg
      obtain rfl : y = x := by simpa using hg
      have hx := (h3 _ (List.mem_of_getElem? hq)).2.2
      refine (twin_ct ps [] n y v0 hn hq hl hx).mono ?_
      rintro r os ⟨v, _, rfl, rfl⟩
      have := packs_sent (v := v) hl (fun p hp => (h3 p hp).2.2) hx
      rw [List.map_append] at this
      exact ⟨rfl, this⟩
theorem TwinFull_ct (ls : List Lt) (n : Int) (hn : inB n ls.length = true) (hl : ¬ ls.length < 512) : Ct Try.prog 17 [.ptr 0 0, i64 n] [.abs (roadR ls)] (Is2 (i64 6) [.abs (roadR ls)]) := by
  refine Ct.road (ds := [.int .i64 n]) Try.call17 (fun h0 => ?_) (fun ps h1 h2 h3 => ?_)
  · exfalso; rw [h0] at hl; exact hl (by decide)
  · subst h1
    rw [List.length_map] at hn hl
    have hb : 0 ≤ n ∧ n < ps.length := by unfold inB at hn; simpa using hn
    obtain ⟨q, hq⟩ : ∃ q, ps[n.toNat]? = some q := ⟨_, List.getElem?_eq_getElem (by omega)⟩
    refine (twinFull_ct ps [] n q.1 q.2 hn hq hl).mono ?_
    rintro r os ⟨rfl, rfl⟩
    exact ⟨rfl, packs_same h2 (fun p hp => (h3 p hp).2.2)⟩
end Go.Proofs.Ytidelnccggfmgaa.Rod

/- Roads: results that hold rows of their own. -/
namespace Go.Proofs.Ytidelnccggfmgaa.Rod
open Go.V Go.Num
open Go.Eng (wr HS Imm Ent bytesV)
set_option maxRecDepth 100000
set_option maxHeartbeats 4000000
/-- What a method gives and leaves comes to such a result, and such a road. -/
def Fin (R : AV) (ls : List Lt) (r : AV) (os : List V.Obj) : Prop := 3 ≤ os.length ∧ ∀ I ρ v L F w, RelA I ρ v r → RelH I ρ (numb 0 os) L → HS I (L ++ F) w → ∃ I' es, I.le I' ∧ (∀ ρ2, RelA I' ρ2 v R) ∧ (roadR ls).rel I' (ρ 0) es ∧ HS I' (es ++ F) w
/-- A method's contract, of the road's parts, as one of the road. -/
theorem Ct.roadF {f : FuncId} {ds : List D} {R : AV} {ls ls' : List Lt} (hc : ∀ xs w, (callFunc f xs).run Try.prog w = .ok (.enter f xs) w)
    (h0 : ls = [] → Ct Try.prog f (.ptr 0 0 :: ds.map .d) (roadN []) (Fin R ls'))
    (h1 : ∀ ps, ps.map (·.1) = ls → ps.length ≤ 512 → (∀ p ∈ ps, okP p) → Ct Try.prog f (.ptr 0 0 :: ds.map .d) (roadO ps []) (Fin R ls')) :
    Ct Try.prog f (.ptr 0 0 :: ds.map .d) [.abs (roadR ls)] (Is2 R [.abs (roadR ls')]) := by
  refine ⟨hc, fun I ρ us L a b c w F hw => ?_⟩
  have hargs : ∀ ρ2 : Nat → Value, ρ2 0 = ρ 0 → All2 (RelA I ρ2) us (.ptr 0 0 :: ds.map .d) := by
    intro ρ2 h2
    obtain ⟨u, us', rfl, p1, p2⟩ := a.uncons
    refine .cons ?_ ⟨p2.1, fun j u y hu hy => ?_⟩
    · cases p1 with
      | ptr p1 => exact .ptr (by rw [h2]; exact p1)
    · have := p2.2 j u y hu hy
      rw [List.getElem?_map] at hy
      cases hd : ds[j]? with
      | none => rw [hd] at hy; cases hy
      | some x => rw [hd] at hy; simp at hy; subst hy; cases this with | d this => exact .d this
  have fin : ∀ {ρ2 : Nat → Value} {e : Ending} {w' : World}, ρ2 0 = ρ 0 → (ρ 0 ≠ .nilFunc) → (∃ v I' L', e = .returned v ∧ I.le I' ∧ (∃ ρ' r os', RelA I' ρ' v r ∧ RelH I' ρ' (numb 0 os') L' ∧ (∀ k, os'.length ≤ k → ρ' k = .nilFunc) ∧ 3 ≤ os'.length ∧ (∀ l, ρ2 l ≠ .nilFunc → ρ' l = ρ2 l) ∧ Fin R ls' r os') ∧ HS I' (L' ++ F) w') →
      ∃ v I' L', e = .returned v ∧ I.le I' ∧ (∃ ρ' r os', RelA I' ρ' v r ∧ RelH I' ρ' (numb 0 os') L' ∧ (∀ k, os'.length ≤ k → ρ' k = .nilFunc) ∧ 1 ≤ os'.length ∧ (∀ l, ρ l ≠ .nilFunc → ρ' l = ρ l) ∧ Is2 R [.abs (roadR ls')] r os') ∧ HS I' (L' ++ F) w' := by
    rintro ρ2 e w' e2 hne ⟨v, I', L', rfl, hle, ⟨ρ', r, os', r1, r2, r3, r4, r5, hp⟩, hs⟩
    obtain ⟨I2, es, g0, g1, g2, g3⟩ := hp.2 I' ρ' v L' F w' r1 r2 hs
    have e3 : ρ' 0 = ρ 0 := by rw [r5 0 (by rw [e2]; exact hne), e2]
    rw [e3] at g2
    exact ⟨v, I2, es ++ [], rfl, hle.trans g0, ⟨ρ, R, [.abs (roadR ls')], g1 ρ, .cons g2 (.nil (r2.glob.mono g0)), c, Nat.le_refl _, fun _ _ => rfl, rfl, rfl⟩, by simpa using g3⟩
  cases b with
  | @cons _ _ _ es _ h b =>
    cases b with
    | nil g =>
      have hne : ρ 0 ≠ .nilFunc := (roadR ls).ne h
      obtain ⟨b, hb, h⟩ := h
      rcases h with ⟨hl, hp⟩ | ⟨sl, ps, hps, h512, hok, ⟨A, cp, hsl⟩, hp⟩
      · refine ((h0 hl).run I (fun k => if k = 0 then ρ 0 else if k ≤ 2 then .bool true else .nilFunc) us ([.blk b 65 [.slice none 0 0]] ++ ([] ++ ([] ++ []))) (hargs _ rfl) ?_ ?_ w F ?_).mono (fun e w' h => fin (ρ2 := fun k => if k = 0 then ρ 0 else if k ≤ 2 then .bool true else .nilFunc) rfl hne h)
        · refine .cons ⟨b, [.slice none 0 0], hb, .one (.d .nils), .one rfl, rfl⟩ (.cons ⟨rfl, (fun p hp => by cases hp), rfl⟩ (.cons ⟨rfl, (fun p hp => by cases hp), rfl⟩ (.nil g)))
        · intro k hk
          have hk' : 3 ≤ k := hk
          show (if k = 0 then ρ 0 else if k ≤ 2 then .bool true else .nilFunc) = Value.nilFunc
          rw [if_neg (by omega), if_neg (by omega)]
        · refine hw.perm (List.Perm.append_right F ?_)
          simpa using hp
      · refine ((h1 ps hps h512 hok).run I (fun k => if k = 0 then ρ 0 else if k = 3 then sl else if k ≤ 3 then .bool true else .nilFunc) us ([.blk b 65 [sl]] ++ ((inP ps).map innEnt ++ ([] ++ ([.row sl 29 4 ps.length (ps.flatMap ltV)] ++ [])))) (hargs _ rfl) ?_ ?_ w F ?_).mono (fun e w' h => by
            refine fin (ρ2 := fun k => if k = 0 then ρ 0 else if k = 3 then sl else if k ≤ 3 then .bool true else .nilFunc) rfl hne ?_
            obtain ⟨v, I', L', h1, h2, ⟨ρ', r, os', r1, r2, r3, r4, r5⟩, h4⟩ := h
            exact ⟨v, I', L', h1, h2, ⟨ρ', r, os', r1, r2, r3, Nat.le_trans (show 3 ≤ 4 by decide) r4, r5⟩, h4⟩)
        · have h1 : (fun k => if k = 0 then ρ 0 else if k = 3 then sl else if k ≤ 3 then Value.bool true else .nilFunc) 3 = .slice A (encP ps).length cp := by rw [encP_len]; exact hsl
          obtain ⟨e1, e2⟩ := enc_rel (I := I) hok
          refine .cons ⟨b, [sl], hb, .one ?_, ?_, rfl⟩ (.cons ⟨rfl, fun p hp => ?_, rfl⟩ (.cons ⟨rfl, (fun p hp => by cases hp), rfl⟩ (.cons ⟨A, cp, ps.flatMap ltV, h1, encP_one ps, e1, e2, ?_⟩ (.nil g))))
          · rw [hsl]
            exact .sl (c := cp) rfl
          · exact .one (by rw [hsl]; rfl)
          · obtain ⟨q, hq, rfl⟩ := List.mem_map.1 hp
            exact (hok q hq).2.1
          · rw [encP_len, ← hsl]
        · intro k hk
          have hk' : 4 ≤ k := hk
          show (if k = 0 then ρ 0 else if k = 3 then sl else if k ≤ 3 then .bool true else .nilFunc) = Value.nilFunc
          rw [if_neg (by omega), if_neg (by omega), if_neg (by omega)]
        · refine hw.perm (List.Perm.append_right F ?_)
          have : (es ++ []).Perm (roadE b sl ps) := by simpa using hp
          refine this.trans ?_
          unfold roadE
          rw [List.append_nil, List.nil_append]
          show (_ :: _ :: _).Perm (_ :: _)
          refine List.Perm.cons _ ?_
          have p1 := List.perm_append_comm (l₁ := [Ent.row sl 29 4 ps.length (ps.flatMap ltV)]) (l₂ := (inP ps).map innEnt)
          simpa using p1
theorem ro_bytes {I : Imm} {A : Option Addr} {c : Nat} {bs : List UInt8} (h1 : ∀ (j : Nat) (u : Value), (bytesV bs)[j]? = some u → ∃ a, A = some a ∧ I.cell (a.add j) = some u) (h2 : bs.length ≤ c) (h3 : bs.length ≤ maxLen) : RelD I (.slice A bs.length c) (.ro (bytesD bs)) := by
  refine .ro (sz := 1) (us := bytesV bs) (bD_len _) h2 h3 (bD_one _) h1 (by rw [bytesD_cells, bD_len]; exact List.length_map _) ?_ ?_
  · intro y hy
    obtain ⟨b, _, rfl⟩ := List.mem_map.1 hy
    rfl
  · intro j u' y hj hy
    rw [bytesD_cells] at hy
    have hj' : (bs.map fun b : UInt8 => Value.int .u8 b.toNat)[j]? = some u' := hj
    have hy' : (bs.map fun b : UInt8 => D.int .u8 b.toNat)[j]? = some y := hy
    rw [List.getElem?_map] at hj' hy'
    cases hb : bs[j]? with
    | none => rw [hb] at hj'; cases hj'
    | some b =>
      rw [hb] at hj' hy'
      simp at hj' hy'
      subst hj'; subst hy'
      exact .int (inr_u8 b)
theorem freeze_rows : ∀ {ex : List (Value × List UInt8)} {I : Imm} {L : List Ent} {w : World}, HS I (ex.map innEnt ++ L) w → (∀ p ∈ ex, Hd p) → ∃ I', I.le I' ∧ (∀ p ∈ ex, RelD I' p.1 (.ro (bytesD p.2))) ∧ HS I' L w
  | [], I, L, w, hs, _ => ⟨I, Imm.le_refl _, (fun p hp => by cases hp), hs⟩
  | p :: ex, I, L, w, hs, hd => by
    obtain ⟨A, c, hA⟩ := hd p (List.mem_cons_self ..)
    have hs1 : HS I (.row (.slice A p.2.length c) 5 1 p.2.length (bytesV p.2) :: (ex.map innEnt ++ L)) w := by
      have e : innEnt p = .row (.slice A p.2.length c) 5 1 p.2.length (bytesV p.2) := by unfold innEnt; rw [hA]
      rw [← e]; exact hs
    obtain ⟨I1, hle1, hc, hn1, hn2, hs2⟩ := HS.freezeRow hs1
    obtain ⟨I2, hle2, h2, hs3⟩ := freeze_rows hs2 (fun q hq => hd q (List.mem_cons_of_mem _ hq))
    refine ⟨I2, hle1.trans hle2, fun q hq => ?_, hs3⟩
    rcases List.mem_cons.1 hq with rfl | hq
    · rw [hA]
      exact (ro_bytes hc hn1 hn2).mono hle2
    · exact h2 q hq
theorem lets_rel {I : Imm} : ∀ {qs : List (Lt × Value)}, (∀ q ∈ qs, okP q) → (∀ q ∈ qs, RelD I q.2 (.ro (bytesD q.1.dat))) → All2 (RelD I) (qs.flatMap ltV) (cellsOf ((qs.map (·.1)).map ltD)) ∧ Ones (qs.flatMap ltV)
  | [], _, _ => ⟨.nil, .nil⟩
  | q :: qs, h, hr => by
    obtain ⟨h1, h2⟩ := lets_rel (fun p hp => h p (List.mem_cons_of_mem _ hp)) (fun p hp => hr p (List.mem_cons_of_mem _ hp))
    obtain ⟨h3, h4, _⟩ := h q (List.mem_cons_self ..)
    refine ⟨?_, ?_⟩
    · show All2 (RelD I) (Value.int .i64 q.1.d :: Value.bool q.1.bk :: Value.bool q.1.bt :: q.2 :: qs.flatMap ltV) (D.int .i64 q.1.d :: D.bool q.1.bk :: D.bool q.1.bt :: D.ro (bytesD q.1.dat) :: cellsOf ((qs.map (·.1)).map ltD))
      exact .cons (.int h3) (.cons .bool (.cons .bool (.cons (hr q (List.mem_cons_self ..)) h1)))
    · intro u hu
      have hu' : u ∈ Value.int .i64 q.1.d :: Value.bool q.1.bk :: Value.bool q.1.bt :: q.2 :: qs.flatMap ltV := hu
      simp only [List.mem_cons] at hu'
      rcases hu' with rfl | rfl | rfl | rfl | hu'
      · rfl
      · rfl
      · rfl
      · exact h4.one.2
      · exact h2 u hu'
/-- A row of letters, and their bytes, that stay as they are from now on. -/
theorem lets_ro {I : Imm} {A : Option Addr} {c : Nat} {qs : List (Lt × Value)} {L : List Ent} {w : World} (hok : ∀ q ∈ qs, okP q)
    (hs : HS I (.row (.slice A qs.length c) 29 4 qs.length (qs.flatMap ltV) :: ((inP qs).map innEnt ++ L)) w) :
    ∃ I', I.le I' ∧ RelD I' (.slice A qs.length c) (.ro ((qs.map (·.1)).map ltD)) ∧ HS I' L w := by
  obtain ⟨I1, hle1, hc, hn1, hn2, hs1⟩ := HS.freezeRow hs
  obtain ⟨I2, hle2, hr, hs2⟩ := freeze_rows hs1 (fun p hp => by obtain ⟨q, hq, rfl⟩ := List.mem_map.1 hp; exact (hok q hq).2.1)
  obtain ⟨e1, e2⟩ := lets_rel (I := I2) hok (fun q hq => hr _ (List.mem_map.2 ⟨q, hq, rfl⟩))
  refine ⟨I2, hle1.trans hle2, .ro (sz := 4) (us := qs.flatMap ltV) (by rw [List.length_map, List.length_map]) hn1 hn2 (fun x hx => by obtain ⟨y, _, rfl⟩ := List.mem_map.1 hx; rfl) (fun j u hj => ?_) e1.1 e2 e1.2, hs2⟩
  obtain ⟨a, ha, hca⟩ := hc j u hj
  exact ⟨a, ha, hle2.cell hca⟩
theorem letters0_ct : Ct Try.prog 19 [.ptr 0 0] (roadN []) (Is2 (.sl 3) [.vec 65 [.d .nils], .abs (inn []), .abs (inn []), .row 29 4 []]) := by
  refine Ct.introF (E := E 26 3 [.tmp 2] [] [(5, [3, 13, 14, 15])] []) tab_ok Try.call19 Try.func19 rfl rfl rfl rfl rfl (fun hin => ?_)
  (conv => whnf); refine LoopI.mk (fun q vs os => vs = [.sl 3, .d .nils, i64 0, i64 0] ∧ os = [.vec 65 [.d .nils], .abs (inn []), .abs (inn []), .row 29 4 []] ∧ q = 0) 0 ⟨rfl, rfl, rfl⟩ ?_
  rintro q _ _ ⟨rfl, rfl, rfl⟩
  exact Is2.mk rfl
theorem Letters_ct (ls : List Lt) : Ct Try.prog 19 [.ptr 0 0] [.abs (roadR ls)] (Is2 (.d (.ro (ls.map ltD))) [.abs (roadR ls)]) := by
  refine Ct.roadF (ds := []) Try.call19 (fun h0 => ?_) (fun ps h1 h2 h3 => ?_)
  · subst h0
    refine letters0_ct.mono ?_
    rintro r os ⟨rfl, rfl⟩
    refine ⟨by show 3 ≤ 4; decide, fun I ρ v L F w hv h hw => ?_⟩
    cases h with
    | @cons _ _ _ e0 _ h0 h =>
      cases h with
      | @cons _ _ _ e1 _ h1 h =>
        cases h with
        | @cons _ _ _ e2 _ h2 h =>
          cases h with
          | @cons _ _ _ e3 _ h3 h =>
            cases h with
            | nil g =>
              obtain ⟨b, us, hb0, hus, _, rfl⟩ := h0
              obtain ⟨_, _, rfl⟩ := h1
              obtain ⟨_, _, rfl⟩ := h2
              obtain ⟨A, c, us3, hk, _, hus3, _, rfl⟩ := h3
              obtain ⟨u, us', rfl, hu, hn⟩ := hus.uncons
              obtain rfl := hn.unnil
              have h00 : us3 = [] := hus3.unnil
              subst h00
              cases hu with
              | d hu =>
                cases hu
                cases hv with
                | @sl _ A' n' c' hv =>
                  have e : Value.slice A' n' c' = .slice A 0 c := by rw [← hv]; exact hk
                  obtain ⟨I', hle, hr, hs⟩ := lets_ro (qs := []) (A := A) (c := c) (L := [.blk b 65 [.slice none 0 0]] ++ F) (fun q hq => by cases hq) (hw.perm (by simpa using List.Perm.swap _ _ _))
                  refine ⟨I', _, hle, fun ρ2 => ?_, ⟨b, hb0, .inl ⟨rfl, List.Perm.refl _⟩⟩, hs⟩
                  rw [e]
                  exact .d hr
  · subst h1
    refine (letters_ct ps h2 h3).mono ?_
    rintro r os ⟨qs, q1, q2, rfl, rfl⟩
    refine ⟨by show 3 ≤ 5; decide, fun I ρ v L F w hv h hw => ?_⟩
    cases h with
    | @cons _ _ _ e0 _ h0 h =>
      cases h with
      | @cons _ _ _ e1 _ h1 h =>
        cases h with
        | @cons _ _ _ e2 _ h2' h =>
          cases h with
          | @cons _ _ _ e3 _ h3' h =>
            cases h with
            | @cons _ _ _ e4 _ h4' h =>
              cases h with
              | nil g =>
                obtain ⟨_, i1, i2⟩ := h1
                obtain ⟨_, j1, j2⟩ := h2'
                obtain ⟨es, k1, _, k3⟩ := pk (ins := inP ps) (ex := []) h0 h3' h2 (fun p hp => (h3 p hp).2.2) i1 (by rw [List.append_nil])
                obtain ⟨A, c, us4, hk, _, hus4, _, rfl⟩ := h4'
                obtain ⟨d1, _⟩ := enc_us hus4
                rw [encP_len] at hk
                rw [encP_len, d1] at hw
                cases hv with
                | @sl _ A' n' c' hv =>
                  have e : Value.slice A' n' c' = .slice A qs.length c := by rw [← hv]; exact hk
                  have hperm : (e0 ++ (e1 ++ (e2 ++ (e3 ++ ([Ent.row (.slice A qs.length c) 29 4 qs.length (qs.flatMap ltV)] ++ [])))) ++ F).Perm (Ent.row (.slice A qs.length c) 29 4 qs.length (qs.flatMap ltV) :: ((inP qs).map innEnt ++ (es ++ F))) := by
                    rw [← j2]
                    have p1 : (e0 ++ (e3 ++ e1)).Perm es := by
                      have := k3
                      rw [← i2] at this
                      simpa using this
                    have p2 : (e0 ++ (e1 ++ (e2 ++ (e3 ++ [Ent.row (.slice A qs.length c) 29 4 qs.length (qs.flatMap ltV)])))).Perm (Ent.row (.slice A qs.length c) 29 4 qs.length (qs.flatMap ltV) :: (e2 ++ (e0 ++ (e3 ++ e1)))) := by
                      have a1 : (e1 ++ (e2 ++ e3)).Perm (e2 ++ (e3 ++ e1)) := by
                        have := List.perm_append_comm (l₁ := e1) (l₂ := e2 ++ e3)
                        simpa [List.append_assoc] using this
                      have a2 : (e0 ++ (e1 ++ (e2 ++ e3))).Perm (e2 ++ (e0 ++ (e3 ++ e1))) := (List.Perm.append_left e0 a1).trans (List.perm_append_comm_assoc _ _ _)
                      have a3 := List.perm_append_comm (l₁ := e0 ++ (e1 ++ (e2 ++ e3))) (l₂ := [Ent.row (.slice A qs.length c) 29 4 qs.length (qs.flatMap ltV)])
                      have a4 := a3.trans (List.Perm.append_left _ a2)
                      simpa [List.append_assoc] using a4
                    have p3 := (p2.trans (List.Perm.cons _ (List.Perm.append_left e2 p1))).append_right F
                    simpa [List.append_assoc] using p3
                  obtain ⟨I', hle, hr, hs⟩ := lets_ro q2 (hw.perm hperm)
                  refine ⟨I', es, hle, fun ρ2 => ?_, (roadR _).mono k1 hle, hs⟩
                  rw [e, ← q1]
                  exact .d hr
end Go.Proofs.Ytidelnccggfmgaa.Rod
