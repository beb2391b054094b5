
import Derived.Test.YtdecipfdbkpigaaProg
import Derived.Test.YtdecipfdbkpigaaLetO
namespace Go.Proofs.Ytdecipfdbkpigaa
open Go.Eng

theorem numB_inj : ∀ (a b : List UInt8), a.length = b.length → numB a = numB b → a = b
  | [], [], _, _ => rfl
  | [], _ :: _, h, _ => by simp at h
  | _ :: _, [], h, _ => by simp at h
  | x :: a, y :: b, h, e => by
    simp only [numB] at e
    have hx := u8_lt x
    have hy := u8_lt y
    have h1 : x.toNat = y.toNat := by omega
    have h2 : numB a = numB b := by omega
    rw [UInt8.toNat_inj.1 h1, numB_inj a b (by simpa using h) h2]
theorem numB_leB (n : Nat) : ∀ k, numB (leB n k) = n % 256 ^ k
  | 0 => by simp [leB, numB]; omega
  | k + 1 => by
    simp only [leB]
    rw [numB_app, numB_leB n k, leB_len]
    have e : (bt n k).toNat = n / 256 ^ k % 256 := by
      unfold bt
      have h1 : (n : Int) / 2 ^ (8 * k) % 256 = ((n / 256 ^ k % 256 : Nat) : Int) := by
        rw [Nat.pow_mul (a := 2) (m := 8) (n := k) |> fun h => (by rw [show (256 : Nat) ^ k = 2 ^ (8 * k) from by rw [Nat.pow_mul]] : (256 : Nat) ^ k = 2 ^ (8 * k))]
        simp
      rw [h1, Int.toNat_natCast, UInt8.toNat_ofNat_of_lt' (by show _ < 256; exact Nat.mod_lt _ (by decide))]
    rw [e, Nat.pow_succ, Nat.mod_mul, Nat.mul_comm (n / 256 ^ k % 256)]
theorem numB_crc (bs : List UInt8) : numB (leB (crc bs : Nat) 4) = crc bs := by
  rw [numB_leB, Nat.mod_eq_of_lt (by have h1 := crc_lt bs; have h2 : (256 : Nat) ^ 4 = 4294967296 := (by decide); omega)]
theorem crcBit_inj {x y : Nat} (hx : x < 4294967296) (hy : y < 4294967296) (h : crcBit x = crcBit y) : x = y := by
  have hb : ∀ z, z < 4294967296 → (crcBit z).testBit 31 = z.testBit 0 := fun z hz => by
    rw [crcBit_bits, Nat.testBit_lt_two_pow (x := z) (i := 31 + 1) hz, show (3988292384 : Nat).testBit 31 = true from by decide]; simp
  have h0 : x.testBit 0 = y.testBit 0 := by rw [← hb x hx, ← hb y hy, h]
  apply Nat.eq_of_testBit_eq
  intro i
  cases i with
  | zero => exact h0
  | succ i =>
    have h1 := crcBit_bits x i
    rw [h, crcBit_bits y i, h0] at h1
    generalize (y.testBit 0 && Nat.testBit 3988292384 i) = t at h1
    generalize x.testBit (i + 1) = a at *
    generalize y.testBit (i + 1) = b at *
    cases a <;> cases b <;> cases t <;> first | rfl | exact h1 | exact h1.symm
theorem crcIt_inj {x y : Nat} (hx : x < 4294967296) (hy : y < 4294967296) : ∀ k, crcIt k x = crcIt k y → x = y
  | 0, h => h
  | k + 1, h => crcIt_inj hx hy k (crcBit_inj (crcIt_lt hx k) (crcIt_lt hy k) h)
theorem crcStep_inj {x y : Nat} (hx : x < 4294967296) (hy : y < 4294967296) {c : UInt8} (h : crcStep x c = crcStep y c) : x = y := by
  have hc := u8_lt c
  have h2 := crcIt_inj (Nat.xor_lt_two_pow (n := 32) hx (by omega)) (Nat.xor_lt_two_pow (n := 32) hy (by omega)) 8 h
  have h3 := congrArg (fun q => q ^^^ c.toNat) h2
  simpa [Nat.xor_assoc] using h3
theorem crcStep_ne {x : Nat} (hx : x < 4294967296) {c d : UInt8} (h : crcStep x c = crcStep x d) : c = d := by
  have hc := u8_lt c
  have hd := u8_lt d
  have h2 := crcIt_inj (Nat.xor_lt_two_pow (n := 32) hx (by omega)) (Nat.xor_lt_two_pow (n := 32) hx (by omega)) 8 h
  have h3 := congrArg (fun q => x ^^^ q) h2
  simp only [← Nat.xor_assoc, Nat.xor_self, Nat.zero_xor] at h3
  exact UInt8.toNat_inj.1 h3
theorem foldl_inj : ∀ (l : List UInt8) {x y : Nat}, x < 4294967296 → y < 4294967296 → l.foldl crcStep x = l.foldl crcStep y → x = y
  | [], _, _, _, _, h => h
  | c :: l, _, _, hx, hy, h => crcStep_inj hx hy (foldl_inj l (crcStep_lt hx c) (crcStep_lt hy c) h)
theorem foldl_set : ∀ (l : List UInt8) (i : Nat) (y : UInt8) {s : Nat}, s < 4294967296 → i < l.length → (l.set i y).foldl crcStep s = l.foldl crcStep s → l[i]? = some y
  | [], _, _, _, _, h, _ => by simp at h
  | c :: l, 0, y, s, hs, _, h => by
    have := foldl_inj l (crcStep_lt hs y) (crcStep_lt hs c) h
    rw [crcStep_ne hs this]; rfl
  | c :: l, i + 1, y, s, hs, hi, h => by
    have := foldl_set l i y (crcStep_lt hs c) (by simpa using hi) h
    simpa using this
theorem crc_set {l : List UInt8} {i : Nat} {y : UInt8} (hi : i < l.length) (h : crc (l.set i y) = crc l) : l[i]? = some y := by
  have h1 := crcL_lt l
  have h2 := crcL_lt (l.set i y)
  unfold crc at h
  exact foldl_set l i y (by decide) hi (show crcL (l.set i y) = crcL l by omega)
/-- Sealed bytes of which one is another one are none. -/
theorem open_bent {p : List UInt8} {i : Nat} {y : UInt8} (hp : p.length ≤ 65536) (hi : i < p.length + 4) (hy : (sealB p)[i]? ≠ some y) : openB ((sealB p).set i y) = ([], 2) := by
  have hl : ((sealB p).set i y).length = p.length + 4 := by rw [List.length_set, sealB_len]
  unfold openB
  rw [if_neg (by omega), if_neg (by omega), if_pos]
  rw [hl, Nat.add_sub_cancel]
  rcases Nat.lt_or_ge i p.length with h | h
  · have e1 : ((sealB p).set i y).take p.length = p.set i y := by
      unfold sealB
      rw [List.set_append_left _ _ h, List.take_append_of_le_length (by simp), List.take_of_length_le (by simp)]
    have e2 : ((sealB p).set i y).drop p.length = leB (crc p : Nat) 4 := by
      unfold sealB
      rw [List.set_append_left _ _ h, List.drop_append, List.drop_of_length_le (by simp)]
      simp
    rw [e1, e2, numB_crc]
    intro hc
    apply hy
    unfold sealB
    rw [List.getElem?_append_left h]
    exact crc_set h hc
  · have e1 : ((sealB p).set i y).take p.length = p := by
      unfold sealB
      rw [List.set_append_right _ _ h, List.take_append_of_le_length (Nat.le_refl _), List.take_of_length_le (Nat.le_refl _)]
    have e2 : ((sealB p).set i y).drop p.length = (leB (crc p : Nat) 4).set (i - p.length) y := by
      unfold sealB
      rw [List.set_append_right _ _ h, List.drop_append, List.drop_of_length_le (Nat.le_refl _)]
      simp
    rw [e1, e2]
    intro hc
    apply hy
    have hc2 : numB ((leB (crc p : Nat) 4).set (i - p.length) y) = numB (leB (crc p : Nat) 4) := by rw [numB_crc]; exact hc.symm
    have e3 := numB_inj _ _ (by simp) hc2
    have hi4 : i - p.length < (leB (crc p : Nat) 4).length := by rw [leB_len]; omega
    unfold sealB
    rw [List.getElem?_append_right h, ← e3, List.getElem?_set_self hi4]
/-- A byte of which one bit is turned. -/
def flip (x : UInt8) (k : Nat) : UInt8 := UInt8.ofNat (x.toNat ^^^ 2 ^ k)
theorem flip_val {x : UInt8} {k : Nat} (hk : k < 8) : (((x.toNat : Int).toNat ^^^ (wr .u8 ((1 : Int) * 2 ^ (min (k : Int).toNat IntKind.u8.bits))).toNat : Nat) : Int) = ((flip x k).toNat : Int) := by
  have h8 : IntKind.u8.bits = 8 := rfl
  have hx := u8_lt x
  have e : min (k : Int).toNat IntKind.u8.bits = k := by rw [h8, Int.toNat_natCast]; omega
  have hp : 2 ^ k < 256 := Nat.lt_of_lt_of_le (Nat.pow_lt_pow_right (by decide) hk) (by decide)
  have e2 : (wr .u8 ((1 : Int) * 2 ^ k)).toNat = 2 ^ k := by
    have : ((1 : Int) * 2 ^ k) = ((2 ^ k : Nat) : Int) := by simp
    rw [this]
    simp only [wr]
    generalize 2 ^ k = z at *
    omega
  rw [e, e2, Int.toNat_natCast]
  unfold flip
  rw [UInt8.toNat_ofNat_of_lt' (Nat.xor_lt_two_pow (n := 8) hx hp)]
theorem flip_ne {x : UInt8} {k : Nat} (hk : k < 8) : x ≠ flip x k := by
  intro h
  have hx := u8_lt x
  have hp : 2 ^ k < 256 := Nat.lt_of_lt_of_le (Nat.pow_lt_pow_right (by decide) hk) (by decide)
  have h2 := congrArg UInt8.toNat h
  unfold flip at h2
  rw [UInt8.toNat_ofNat_of_lt' (Nat.xor_lt_two_pow (n := 8) hx hp)] at h2
  have h3 := congrArg (fun q => x.toNat ^^^ q) h2
  simp only [← Nat.xor_assoc, Nat.xor_self, Nat.zero_xor] at h3
  have := Nat.two_pow_pos k
  omega
theorem bytesV_set (l : List UInt8) (i : Nat) (y : UInt8) : (bytesV l).set i (.int .u8 y.toNat) = bytesV (l.set i y) := by simp [bytesV, List.map_set]


end Go.Proofs.Ytdecipfdbkpigaa
