/- The engine, part C: more rules for operations: numbers, slices, strings, structs; and what turns memory. No function of the program is proved here. -/
import Derived.Test.YtdecipfdbkpigaaEngB
namespace Go.Eng
section
variable {P : Program} {N : Nat} {all : Array Oper} {o : Oper} {rest : List Oper} {fr : Frm} {I : Imm} {L : List Ent}
variable {ty : TypeId} {pos : String} {aft : Array Edge} {gd : Option (Nat × Bool)} {d : Option Tmp} {x y z : Operand} {v vx vy : Value}

section
variable {t u : TypeId} {k k' : IntKind} {a b : Int}

theorem R.rem (hx : evF fr x = some (.int k a)) (hy : evF fr y = some (.int k b)) (h0 : 0 ≤ a) (h : b ≠ 0) : RunsTo P fr I L ⟨d, .binOp .rem t x y u, ty, pos, aft, gd⟩ (.int k (a % b)) :=
  R.bin hx hy (fun w => by simp [binOp, Op.intDiv, h, Int.tmod_eq_emod_of_nonneg h0])
theorem R.remT (hx : evF fr x = some (.int k a)) (hy : evF fr y = some (.int k b)) (h : b ≠ 0) : RunsTo P fr I L ⟨d, .binOp .rem t x y u, ty, pos, aft, gd⟩ (.int k (a.tmod b)) :=
  R.bin hx hy (fun w => by simp [binOp, Op.intDiv, h])
theorem R.quo (hx : evF fr x = some (.int k a)) (hy : evF fr y = some (.int k b)) (h0 : 0 ≤ a) (h : 0 < b) (hr : InR k a) : RunsTo P fr I L ⟨d, .binOp .quo t x y u, ty, pos, aft, gd⟩ (.int k (a / b)) :=
  R.bin hx hy (fun w => by
    have h1 : b ≠ 0 := by omega
    have e : a.tdiv b = a / b := Int.tdiv_eq_ediv_of_nonneg h0
    have h2 : 0 ≤ a / b := Int.ediv_nonneg h0 (by omega)
    have h3 : a / b ≤ a := Int.ediv_le_self b h0
    have h4 : loK k ≤ 0 := by cases k <;> decide
    have h5 : InR k (a / b) := ⟨Int.le_trans h4 h2, Int.le_trans h3 hr.2⟩
    simp [binOp, Op.intDiv, h1, e, wrap_in h5])
theorem R.quoT (hx : evF fr x = some (.int k a)) (hy : evF fr y = some (.int k b)) (h : b ≠ 0) : RunsTo P fr I L ⟨d, .binOp .quo t x y u, ty, pos, aft, gd⟩ (.int k (k.wrap (a.tdiv b))) :=
  R.bin hx hy (fun w => by simp [binOp, Op.intDiv, h])

def uns : IntKind → Bool
  | .u8 | .u16 | .u32 | .u64 => true
  | _ => false

theorem wr_uns {k : IntKind} (h : uns k = true) (n : Int) : 0 ≤ wr k n ∧ wr k n ≤ hiK k := by
  cases k <;> first | (simp [uns] at h; done) | (simp only [wr, hiK]; omega)
theorem wr_inR {k : IntKind} (h : uns k = true) (n : Int) : InR k (wr k n) := by
  have := wr_uns h n
  exact ⟨by cases k <;> first | (simp [uns] at h; done) | exact this.1, this.2⟩

theorem ofInt_toNat {w : Nat} {a : Int} (h0 : 0 ≤ a) (h1 : a < 2 ^ w) : (BitVec.ofInt w a).toNat = a.toNat := by
  obtain ⟨n, rfl⟩ := Int.eq_ofNat_of_zero_le h0
  have hn : n < 2 ^ w := by exact_mod_cast h1
  rw [show BitVec.ofInt w (n : Int) = BitVec.ofNat w n from by simp, BitVec.toNat_ofNat, Nat.mod_eq_of_lt hn]; rfl

theorem hi_lt (k : IntKind) {a : Int} (h : a ≤ hiK k) : a < 2 ^ k.bits := by
  cases k <;> simp only [hiK, IntKind.bits] at * <;> omega
theorem wrap_nat (k : IntKind) {n : Nat} (h : (n : Int) ≤ hiK k) : k.wrap n = n := wrap_in ⟨by cases k <;> simp only [loK] <;> omega, h⟩

theorem nat_le_hi (k : IntKind) {n : Nat} {a : Int} (h0 : 0 ≤ a) (ha : a ≤ hiK k) (h : n ≤ a.toNat) : (n : Int) ≤ hiK k := by omega
theorem hi_pow (k : IntKind) : ∃ m, hiK k = (2 ^ m : Nat) - 1 ∧ m ≤ k.bits := by
  cases k
  · exact ⟨7, by decide, by decide⟩
  · exact ⟨15, by decide, by decide⟩
  · exact ⟨31, by decide, by decide⟩
  · exact ⟨63, by decide, by decide⟩
  · exact ⟨8, by decide, by decide⟩
  · exact ⟨16, by decide, by decide⟩
  · exact ⟨32, by decide, by decide⟩
  · exact ⟨64, by decide, by decide⟩

theorem R.and (hx : evF fr x = some (.int k a)) (hy : evF fr y = some (.int k b)) (ha : 0 ≤ a ∧ a ≤ hiK k) (hb : 0 ≤ b ∧ b ≤ hiK k) :
    RunsTo P fr I L ⟨d, .binOp .and t x y u, ty, pos, aft, gd⟩ (.int k ((a.toNat &&& b.toNat : Nat) : Int)) :=
  R.bin hx hy (fun w => by
    have e1 := ofInt_toNat ha.1 (hi_lt k ha.2); have e2 := ofInt_toNat hb.1 (hi_lt k hb.2)
    have e3 : ((a.toNat &&& b.toNat : Nat) : Int) ≤ hiK k := nat_le_hi k ha.1 ha.2 Nat.and_le_left
    have e4 := wrap_nat k e3
    simp only [binOp, Op.intBits]
    simp [e1, e2, e4])
theorem R.or (hx : evF fr x = some (.int k a)) (hy : evF fr y = some (.int k b)) (ha : 0 ≤ a ∧ a ≤ hiK k) (hb : 0 ≤ b ∧ b ≤ hiK k) :
    RunsTo P fr I L ⟨d, .binOp .or t x y u, ty, pos, aft, gd⟩ (.int k ((a.toNat ||| b.toNat : Nat) : Int)) :=
  R.bin hx hy (fun w => by
    have e1 := ofInt_toNat ha.1 (hi_lt k ha.2); have e2 := ofInt_toNat hb.1 (hi_lt k hb.2)
    obtain ⟨m, hm, _⟩ := hi_pow k
    have e3 : ((a.toNat ||| b.toNat : Nat) : Int) ≤ hiK k := by
      have := Nat.or_lt_two_pow (x := a.toNat) (y := b.toNat) (n := m) (by omega) (by omega)
      omega
    have e4 := wrap_nat k e3
    simp only [binOp, Op.intBits]
    simp [e1, e2, e4])
theorem R.xor (hx : evF fr x = some (.int k a)) (hy : evF fr y = some (.int k b)) (ha : 0 ≤ a ∧ a ≤ hiK k) (hb : 0 ≤ b ∧ b ≤ hiK k) :
    RunsTo P fr I L ⟨d, .binOp .xor t x y u, ty, pos, aft, gd⟩ (.int k ((a.toNat ^^^ b.toNat : Nat) : Int)) :=
  R.bin hx hy (fun w => by
    have e1 := ofInt_toNat ha.1 (hi_lt k ha.2); have e2 := ofInt_toNat hb.1 (hi_lt k hb.2)
    obtain ⟨m, hm, _⟩ := hi_pow k
    have e3 : ((a.toNat ^^^ b.toNat : Nat) : Int) ≤ hiK k := by
      have := Nat.xor_lt_two_pow (x := a.toNat) (y := b.toNat) (n := m) (by omega) (by omega)
      omega
    have e4 := wrap_nat k e3
    simp only [binOp, Op.intBits]
    simp [e1, e2, e4])

/-- The lowest bits. -/
theorem R.mask {m : Int} (j : Nat) (hx : evF fr x = some (.int k a)) (hy : evF fr y = some (.int k b)) (hb : b = ((2 ^ j - 1 : Nat) : Int)) (hj : Nat.ble j (k.bits - 1) = true) (hm : ((2 ^ j : Nat) : Int) = m) (ha : 0 ≤ a ∧ a ≤ hiK k) :
    RunsTo P fr I L ⟨d, .binOp .and t x y u, ty, pos, aft, gd⟩ (.int k (a % m)) := by
  have hj' : j ≤ k.bits - 1 := Nat.le_of_ble_eq_true hj
  have hb2 : 0 ≤ b ∧ b ≤ hiK k := by
    subst hb
    refine ⟨by omega, ?_⟩
    obtain ⟨q, hq, _⟩ := hi_pow k
    have h1 : k.bits - 1 ≤ q := by
      have h2 : hiK k = ((2 ^ q : Nat) : Int) - 1 := hq
      cases k <;> simp only [hiK, IntKind.bits] at h2 ⊢ <;> (refine Nat.le_of_not_lt (fun h3 => ?_); have h4 : 2 ^ q ≤ 2 ^ _ := Nat.pow_le_pow_right (by decide) (Nat.le_sub_one_of_lt h3); simp only [Nat.add_one_sub_one, Nat.reduceSub, Nat.reducePow] at h4; omega)
    have h2 : 2 ^ j ≤ 2 ^ q := Nat.pow_le_pow_right (by decide) (Nat.le_trans hj' h1)
    have h3 := Nat.two_pow_pos j
    omega
  have h := R.and (P := P) (I := I) (L := L) (t := t) (u := u) (ty := ty) (pos := pos) (aft := aft) (gd := gd) (d := d) hx hy ha hb2
  have e : ((a.toNat &&& b.toNat : Nat) : Int) = a % m := by
    have e1 : b.toNat = 2 ^ j - 1 := by subst hb; rfl
    rw [e1, Nat.and_two_pow_sub_one_eq_mod, ← hm]
    obtain ⟨n, rfl⟩ := Int.eq_ofNat_of_zero_le ha.1
    rfl
  rw [e] at h; exact h

/-- x >> n of what is not below 0. -/
theorem R.shr (hx : evF fr x = some (.int k a)) (hy : evF fr y = some (.int k' b)) (hb : 0 ≤ b) :
    RunsTo P fr I L ⟨d, .binOp .shr t x y u, ty, pos, aft, gd⟩ (.int k (a / 2 ^ (min b.toNat k.bits))) :=
  R.bin hx hy (fun w => by
    show (Op.shift .shr k a k' b).run P w = _
    rw [shift_shr_any _ _ _ _ hb]; rfl)
theorem R.shrC {n : Nat} (hx : evF fr x = some (.int k a)) (hy : evF fr y = some (.int k' b)) (hb : Int.toNat b = n) (hn : Nat.ble n k.bits = true) (h0 : 0 ≤ b) {m : Int} (hm : (2 ^ n : Nat) = m) :
    RunsTo P fr I L ⟨d, .binOp .shr t x y u, ty, pos, aft, gd⟩ (.int k (a / m)) := by
  have e : (2 ^ (min b.toNat k.bits) : Int) = m := by
    rw [hb, Nat.min_eq_left (Nat.le_of_ble_eq_true hn), ← hm]; simp
  have := R.shr (P := P) (I := I) (L := L) (t := t) (u := u) (ty := ty) (pos := pos) (aft := aft) (gd := gd) (d := d) hx hy h0
  rw [e] at this; exact this
theorem R.shl (hx : evF fr x = some (.int k a)) (hy : evF fr y = some (.int k' b)) (hb : 0 ≤ b) :
    RunsTo P fr I L ⟨d, .binOp .shl t x y u, ty, pos, aft, gd⟩ (.int k (wr k (a * 2 ^ (min b.toNat k.bits)))) :=
  R.bin hx hy (fun w => by
    show (Op.shift .shl k a k' b).run P w = _
    rw [shift_shl_any _ _ _ _ hb, wrap_wr]; rfl)

theorem R.shlC {n : Nat} (hx : evF fr x = some (.int k a)) (hy : evF fr y = some (.int k' b)) (hb : Int.toNat b = n) (hn : Nat.ble n k.bits = true) (h0 : 0 ≤ b) {m : Int} (hm : (2 ^ n : Nat) = m) (hr : InR k (a * m)) :
    RunsTo P fr I L ⟨d, .binOp .shl t x y u, ty, pos, aft, gd⟩ (.int k (a * m)) := by
  have e : (2 ^ (min b.toNat k.bits) : Int) = m := by
    rw [hb, Nat.min_eq_left (Nat.le_of_ble_eq_true hn), ← hm]; simp
  have := R.shl (P := P) (I := I) (L := L) (t := t) (u := u) (ty := ty) (pos := pos) (aft := aft) (gd := gd) (d := d) hx hy h0
  rw [e, ← wrap_wr, wrap_in hr] at this; exact this
theorem R.shlCW {n : Nat} (hx : evF fr x = some (.int k a)) (hy : evF fr y = some (.int k' b)) (hb : Int.toNat b = n) (hn : Nat.ble n k.bits = true) (h0 : 0 ≤ b) {m : Int} (hm : (2 ^ n : Nat) = m) :
    RunsTo P fr I L ⟨d, .binOp .shl t x y u, ty, pos, aft, gd⟩ (.int k (wr k (a * m))) := by
  have e : (2 ^ (min b.toNat k.bits) : Int) = m := by
    rw [hb, Nat.min_eq_left (Nat.le_of_ble_eq_true hn), ← hm]; simp
  have := R.shl (P := P) (I := I) (L := L) (t := t) (u := u) (ty := ty) (pos := pos) (aft := aft) (gd := gd) (d := d) hx hy h0
  rw [e] at this; exact this

theorem R.neg (hx : evF fr x = some (.int k a)) : RunsTo P fr I L ⟨d, .unOp .neg t x, ty, pos, aft, gd⟩ (.int k (wr k (0 - a))) := fun ρ w hρ _ => by
  simp [execOp, hρ x _ hx, Op.unary, Op.intArith, wrap_wr]
theorem R.not {q : Bool} (hx : evF fr x = some (.bool q)) : RunsTo P fr I L ⟨d, .unOp .not t x, ty, pos, aft, gd⟩ (.bool !q) := fun ρ w hρ _ => by
  simp [execOp, hρ x _ hx, Op.unary]
/-- ^x of an unsigned number. -/
theorem R.com (hx : evF fr x = some (.int k a)) (hk : uns k = true) (ha : 0 ≤ a ∧ a ≤ hiK k) : RunsTo P fr I L ⟨d, .unOp .xor t x, ty, pos, aft, gd⟩ (.int k (hiK k - a)) := fun ρ w hρ _ => by
  have key : ∀ (m : Nat), hiK k = ((2 ^ m - 1 : Nat) : Int) → m = k.bits → k.signed = false → k.max = hiK k →
      (Op.unary .xor (.int k a)).run P w = .ok (.int k (hiK k - a)) w := by
    intro m hm hb hs hmax
    have e1 := ofInt_toNat ha.1 (hi_lt k ha.2)
    have e0 : 0 ≤ hiK k := by rw [hm]; omega
    have e2 := ofInt_toNat e0 (hi_lt k (Int.le_refl (hiK k)))
    have hlt : a.toNat < 2 ^ m := by have := Nat.two_pow_pos m; omega
    have e3 : ((hiK k).toNat ^^^ a.toNat : Nat) = 2 ^ m - 1 - a.toNat := by
      have : (hiK k).toNat = 2 ^ m - 1 := by omega
      rw [this]
      have h2 := BitVec.toNat_not (x := BitVec.ofNat m a.toNat)
      rw [BitVec.toNat_ofNat, Nat.mod_eq_of_lt hlt] at h2
      rw [← h2, ← BitVec.allOnes_xor, BitVec.toNat_xor, BitVec.toNat_allOnes, BitVec.toNat_ofNat, Nat.mod_eq_of_lt hlt]
    have e4 : (((hiK k).toNat ^^^ a.toNat : Nat) : Int) = hiK k - a := by
      rw [e3]; have := Nat.two_pow_pos m; omega
    have e5 : k.wrap (((hiK k).toNat ^^^ a.toNat : Nat) : Int) = hiK k - a := by
      rw [e4]; exact wrap_in ⟨by cases k <;> simp only [loK] <;> omega, by omega⟩
    simp only [Op.unary, Op.intBits, hs, hmax]
    simp [e1, e2, e5]
  have hr : (Op.unary .xor (.int k a)).run P w = .ok (.int k (hiK k - a)) w := by
    cases k <;> first | (simp [uns] at hk; done) | exact key _ (by decide) rfl rfl (by decide) | exact key 8 (by decide) rfl rfl (by decide) | exact key 16 (by decide) rfl rfl (by decide) | exact key 32 (by decide) rfl rfl (by decide) | exact key 64 (by decide) rfl rfl (by decide)
  simp only [execOp, hρ x _ hx]
  rw [Sem.run_bind, hr]; rfl

theorem run_und {t : TypeId} {td : TypeDesc} (h : P.underlying t = some td) (w : World) : (underlying t).run P w = .ok td w := by simp [underlying, h]

theorem run_conv {s t : TypeId} {td sd : TypeDesc} {w : World} (hs : P.underlying s = some sd) (h : P.underlying t = some (.int k)) : (convert s t (.int k' a)).run P w = .ok (.int k (k.wrap a)) w := by
  unfold convert
  rw [Sem.run_bind, run_und hs, Result.andThen_ok, Sem.run_bind, run_und h, Result.andThen_ok]
  have _ := td
  simp [Conv.intToInt]

theorem R.conv {s t : TypeId} {sd : TypeDesc} (hx : evF fr x = some (.int k' a)) (hs : P.underlying s = some sd) (h : P.underlying t = some (.int k)) (ha : InR k a) :
    RunsTo P fr I L ⟨d, .convert s t x, ty, pos, aft, gd⟩ (.int k a) := fun ρ w hρ _ => by
  simp only [execOp, hρ x _ hx]
  rw [Sem.run_bind, run_conv (td := sd) hs h, wrap_in ha]; rfl
theorem R.convW {s t : TypeId} {sd : TypeDesc} (hx : evF fr x = some (.int k' a)) (hs : P.underlying s = some sd) (h : P.underlying t = some (.int k)) :
    RunsTo P fr I L ⟨d, .convert s t x, ty, pos, aft, gd⟩ (.int k (wr k a)) := fun ρ w hρ _ => by
  simp only [execOp, hρ x _ hx]
  rw [Sem.run_bind, run_conv (td := sd) hs h, wrap_wr]; rfl
end

/-! ### Lengths, indices, pieces -/
theorem R.len {ts : Array TypeId} {t e : TypeId} {A : Option Addr} {n c : Nat} (hx : evF fr x = some (.slice A n c)) (ht : ts[0]? = some t) (h : P.underlying t = some (.slice e)) :
    RunsTo P fr I L ⟨d, .call ⟨.builtin .len, #[x], ts⟩, ty, pos, aft, gd⟩ (.int .i64 n) := fun ρ w hρ _ => by
  simp [execOp, resolve, invoke, builtin, Builtin.len_, ht, hρ x _ hx, run_und h, goInt]
theorem R.lenS {ts : Array TypeId} {t : TypeId} {s : ByteArray} (hx : evF fr x = some (.string s)) (ht : ts[0]? = some t) (h : P.underlying t = some .string) :
    RunsTo P fr I L ⟨d, .call ⟨.builtin .len, #[x], ts⟩, ty, pos, aft, gd⟩ (.int .i64 s.size) := fun ρ w hρ _ => by
  simp [execOp, resolve, invoke, builtin, Builtin.len_, ht, hρ x _ hx, run_und h, goInt]
theorem R.lenA {ts : Array TypeId} {t e : TypeId} {n : Nat} (hx : evF fr x = some v) (ht : ts[0]? = some t) (h : P.underlying t = some (.array n e)) :
    RunsTo P fr I L ⟨d, .call ⟨.builtin .len, #[x], ts⟩, ty, pos, aft, gd⟩ (.int .i64 n) := fun ρ w hρ _ => by
  simp [execOp, resolve, invoke, builtin, Builtin.len_, ht, hρ x _ hx, run_und h, goInt]
theorem R.cap {ts : Array TypeId} {t e : TypeId} {A : Option Addr} {n c : Nat} (hx : evF fr x = some (.slice A n c)) (ht : ts[0]? = some t) (h : P.underlying t = some (.slice e)) :
    RunsTo P fr I L ⟨d, .call ⟨.builtin .cap, #[x], ts⟩, ty, pos, aft, gd⟩ (.int .i64 c) := fun ρ w hρ _ => by
  simp [execOp, resolve, invoke, builtin, Builtin.cap_, ht, hρ x _ hx, run_und h, goInt]

theorem R.min2 {ts : Array TypeId} {k k' : IntKind} {a b : Int} (hx : evF fr x = some (.int k a)) (hy : evF fr y = some (.int k' b)) :
    RunsTo P fr I L ⟨d, .call ⟨.builtin .min, #[x, y], ts⟩, ty, pos, aft, gd⟩ (.int k (min a b)) := fun ρ w hρ _ => by
  simp [execOp, resolve, invoke, builtin, Builtin.min_, Builtin.min2, hρ x _ hx, hρ y _ hy]
  split <;> omega
theorem R.max2 {ts : Array TypeId} {k k' : IntKind} {a b : Int} (hx : evF fr x = some (.int k a)) (hy : evF fr y = some (.int k' b)) :
    RunsTo P fr I L ⟨d, .call ⟨.builtin .max, #[x, y], ts⟩, ty, pos, aft, gd⟩ (.int k (max a b)) := fun ρ w hρ _ => by
  simp [execOp, resolve, invoke, builtin, Builtin.max_, Builtin.max2, hρ x _ hx, hρ y _ hy]
  split <;> omega

theorem R.ixA {t e : TypeId} {ad : Addr} {n c : Nat} {k : IntKind} {i : Int} {info : TypeInfo} (hx : evF fr x = some (.slice (some ad) n c)) (hy : evF fr y = some (.int k i)) (ht : P.underlying t = some (.slice e)) (hi : ∀ w, (typeInfo e).run P w = .ok info w)
    (h : 0 ≤ i ∧ i < n) {sz : Nat} (hz : info.size = sz) : RunsTo P fr I L ⟨d, .indexAddr t x y, ty, pos, aft, gd⟩ (.pointer (some (ad.add (i.toNat * sz)))) := fun ρ w hρ _ => by
  subst hz
  simp [execOp, hρ x _ hx, hρ y _ hy, Instr.indexAt, asIntOf, run_und ht, sizeOf, hi, h.1, h.2]

/-- The same, of a slice whose address is told by a fact. -/
theorem R.ixO {t e : TypeId} {A : Option Addr} {ad : Addr} {n c : Nat} {k : IntKind} {i : Int} {info : TypeInfo} (hx : evF fr x = some (.slice A n c)) (hA : A = some ad) (hy : evF fr y = some (.int k i)) (ht : P.underlying t = some (.slice e)) (hi : ∀ w, (typeInfo e).run P w = .ok info w)
    (h : 0 ≤ i ∧ i < n) {sz : Nat} (hz : info.size = sz) : RunsTo P fr I L ⟨d, .indexAddr t x y, ty, pos, aft, gd⟩ (.pointer (some (ad.add (i.toNat * sz)))) := by
  subst hA; exact R.ixA hx hy ht hi h hz

/-- Into an array in a variable. -/
theorem R.ixArr {t e : TypeId} {b k0 n : Nat} {k : IntKind} {i : Int} {info : TypeInfo} (hx : evF fr x = some (.pointer (some ⟨b, k0, .none⟩))) (hy : evF fr y = some (.int k i)) (ht : P.underlying t = some (.array n e)) (hi : ∀ w, (typeInfo e).run P w = .ok info w)
    (h : 0 ≤ i ∧ i < n) {sz : Nat} (hz : info.size = sz) : RunsTo P fr I L ⟨d, .indexAddr t x y, ty, pos, aft, gd⟩ (.pointer (some ⟨b, k0 + i.toNat * sz, .none⟩)) := fun ρ w hρ _ => by
  subst hz
  have e : (⟨b, k0, .none⟩ : Addr).add (i.toNat * info.size) = ⟨b, k0 + i.toNat * info.size, .none⟩ := by
    unfold Addr.add; split <;> simp_all
  simp [execOp, hρ x _ hx, hρ y _ hy, Instr.indexAt, asIntOf, run_und ht, sizeOf, hi, h.1, h.2, Instr.sureAddr, e]

theorem R.ixS {t : TypeId} {s : ByteArray} {k : IntKind} {i : Int} {c : UInt8} (hx : evF fr x = some (.string s)) (hy : evF fr y = some (.int k i)) (ht : P.underlying t = some .string)
    (h0 : 0 ≤ i) (h : s.data[i.toNat]? = some c) : RunsTo P fr I L ⟨d, .index t x y, ty, pos, aft, gd⟩ (.int .u8 c.toNat) := fun ρ w hρ _ => by
  have e : s[i.toNat]? = some c := by
    obtain ⟨h1, h2⟩ := Array.getElem?_eq_some_iff.1 h
    have : i.toNat < s.size := h1
    rw [getElem?_pos s i.toNat this]; congr 1
  simp [execOp, hρ x _ hx, hρ y _ hy, Instr.index, asIntOf, run_und ht, h0, e]

theorem run_sl {t e : TypeId} {A : Option Addr} {n c l h m : Nat} {lw hw' mw : Option Value} {info : TypeInfo} {w : World} (ht : P.underlying t = some (.slice e)) (hi : ∀ w, (typeInfo e).run P w = .ok info w)
    (hb : (Instr.sliceBounds true n c lw hw' mw).run P w = .ok (l, h, m) w) : (Instr.sliceAt t (.slice A n c) lw hw' mw).run P w = .ok (.slice (if m = l then A else A.map (·.add (l * info.size))) (h - l) (m - l)) w := by
  unfold Instr.sliceAt
  rw [Sem.run_bind, run_und ht, Result.andThen_ok]
  simp only [Instr.slice]
  rw [Sem.run_bind, run_und ht, Result.andThen_ok]
  simp only [Sem.run_bind, hb, Result.andThen_ok, sizeOf, hi]
  split <;> rfl

theorem run_sb {k : IntKind} {i : Int} {y : Nat} {code : BoundsCode} {w : World} (h : 0 ≤ i ∧ i ≤ y) : (Instr.sliceBound (.int k i) y code).run P w = .ok i.toNat w := run_sliceBound _ k i y code h.1 h.2

/-- x[:h] of a slice. -/
theorem R.slH {t e : TypeId} {A : Option Addr} {n c : Nat} {k : IntKind} {i : Int} {info : TypeInfo} (hx : evF fr x = some (.slice A n c)) (hy : evF fr y = some (.int k i)) (ht : P.underlying t = some (.slice e)) (hi : ∀ w, (typeInfo e).run P w = .ok info w)
    (h : 0 ≤ i ∧ i ≤ c) : RunsTo P fr I L ⟨d, .slice t x .none (some y) .none, ty, pos, aft, gd⟩ (.slice A i.toNat c) := fun ρ w hρ _ => by
  have hb : (Instr.sliceBounds true n c .none (some (.int k i)) .none).run P w = .ok (0, i.toNat, c) w := by
    simp [Instr.sliceBounds, run_sb h]
  have := run_sl (A := A) ht hi hb
  simp [execOp, hρ x _ hx, hρ y _ hy, this]
  intro _; cases A <;> simp [Addr.add]
/-- x[l:] of a slice. -/
theorem R.slL {t e : TypeId} {A : Option Addr} {n c : Nat} {k : IntKind} {i : Int} {info : TypeInfo} (sz : Nat) (hx : evF fr x = some (.slice A n c)) (hy : evF fr y = some (.int k i)) (ht : P.underlying t = some (.slice e)) (hi : ∀ w, (typeInfo e).run P w = .ok info w)
    (hsz : info.size = sz) (h : 0 ≤ i ∧ i ≤ n) : RunsTo P fr I L ⟨d, .slice t x (some y) .none .none, ty, pos, aft, gd⟩ (.slice (if c = i.toNat then A else A.map (·.add (i.toNat * sz))) (n - i.toNat) (c - i.toNat)) := fun ρ w hρ _ => by
  subst hsz
  have hb : (Instr.sliceBounds true n c (some (.int k i)) .none .none).run P w = .ok (i.toNat, n, c) w := by
    simp [Instr.sliceBounds, run_sb h]
  have := run_sl (A := A) ht hi hb
  simp [execOp, hρ x _ hx, hρ y _ hy, this]
/-- x[l:h] of a slice. -/
theorem R.slLH {t e : TypeId} {A : Option Addr} {n c : Nat} {k k' : IntKind} {i j : Int} {info : TypeInfo} (sz : Nat) (hx : evF fr x = some (.slice A n c)) (hy : evF fr y = some (.int k i)) (hz : evF fr z = some (.int k' j)) (ht : P.underlying t = some (.slice e)) (hi : ∀ w, (typeInfo e).run P w = .ok info w)
    (hsz : info.size = sz) (h : 0 ≤ i ∧ i ≤ j ∧ j ≤ c) : RunsTo P fr I L ⟨d, .slice t x (some y) (some z) .none, ty, pos, aft, gd⟩ (.slice (if c = i.toNat then A else A.map (·.add (i.toNat * sz))) (j.toNat - i.toNat) (c - i.toNat)) := fun ρ w hρ _ => by
  subst hsz
  have hb : (Instr.sliceBounds true n c (some (.int k i)) (some (.int k' j)) .none).run P w = .ok (i.toNat, j.toNat, c) w := by
    simp [Instr.sliceBounds, run_sb (P := P) (w := w) (k := k') (i := j) (y := c) (code := .sliceAcap) ⟨by omega, by omega⟩, run_sb (P := P) (w := w) (k := k) (i := i) (y := j.toNat) (code := .sliceB) ⟨by omega, by omega⟩]
  have := run_sl (A := A) ht hi hb
  simp [execOp, hρ x _ hx, hρ y _ hy, hρ z _ hz, this]
/-- x[:h:m] of a slice. -/
theorem R.slHM {t e : TypeId} {A : Option Addr} {n c : Nat} {k k' : IntKind} {i j : Int} {info : TypeInfo} (hx : evF fr x = some (.slice A n c)) (hy : evF fr y = some (.int k i)) (hz : evF fr z = some (.int k' j)) (ht : P.underlying t = some (.slice e)) (hi : ∀ w, (typeInfo e).run P w = .ok info w)
    (h : 0 ≤ i ∧ i ≤ j ∧ j ≤ c) : RunsTo P fr I L ⟨d, .slice t x .none (some y) (some z), ty, pos, aft, gd⟩ (.slice A i.toNat j.toNat) := fun ρ w hρ _ => by
  have hb : (Instr.sliceBounds true n c .none (some (.int k i)) (some (.int k' j))).run P w = .ok (0, i.toNat, j.toNat) w := by
    simp [Instr.sliceBounds, run_sb (P := P) (w := w) (k := k') (i := j) (y := c) (code := .slice3Acap) ⟨by omega, by omega⟩, run_sb (P := P) (w := w) (k := k) (i := i) (y := j.toNat) (code := .slice3B) ⟨by omega, by omega⟩]
  have := run_sl (A := A) ht hi hb
  simp [execOp, hρ x _ hx, hρ y _ hy, hρ z _ hz, this]
  intro _; cases A <;> simp [Addr.add]

/-- Pieces of a string. -/
theorem R.stH {t : TypeId} {s : ByteArray} {k : IntKind} {i : Int} (hx : evF fr x = some (.string s)) (hy : evF fr y = some (.int k i)) (ht : P.underlying t = some .string) (h : 0 ≤ i ∧ i ≤ s.size) :
    RunsTo P fr I L ⟨d, .slice t x .none (some y) .none, ty, pos, aft, gd⟩ (.string (s.extract 0 i.toNat)) := fun ρ w hρ _ => by
  simp [execOp, hρ x _ hx, hρ y _ hy, Instr.sliceAt, Instr.slice, run_und ht, Instr.sliceBounds, run_sb h]
theorem R.stL {t : TypeId} {s : ByteArray} {k : IntKind} {i : Int} (hx : evF fr x = some (.string s)) (hy : evF fr y = some (.int k i)) (ht : P.underlying t = some .string) (h : 0 ≤ i ∧ i ≤ s.size) :
    RunsTo P fr I L ⟨d, .slice t x (some y) .none .none, ty, pos, aft, gd⟩ (.string (s.extract i.toNat s.size)) := fun ρ w hρ _ => by
  simp [execOp, hρ x _ hx, hρ y _ hy, Instr.sliceAt, Instr.slice, run_und ht, Instr.sliceBounds, run_sb h]

theorem R.ext {vs : Array Value} {i : Nat} (hx : evF fr x = some (.tuple vs)) (h : vs[i]? = some v) : RunsTo P fr I L ⟨d, .extract x i, ty, pos, aft, gd⟩ v := fun ρ w hρ _ => by
  simp [execOp, hρ x _ hx, Instr.extract, h]

/-- A field of a struct's value. -/
theorem R.fld {t : TypeId} {i : Nat} {fs : Array Field} {f : Field} {td : TypeDesc} {cs : Array Value} (hx : evF fr x = some (.agg cs)) (ht : P.underlying t = some (.struct fs)) (hf : fs[i]? = some f) (hu : P.underlying f.type = some td) (h1 : oneB td = true) (h : cs[f.offset]? = some v) :
    RunsTo P fr I L ⟨d, .field t x i, ty, pos, aft, gd⟩ v := fun ρ w hρ _ => by
  simp [execOp, hρ x _ hx, Instr.field, run_und ht, hf, asAgg, part, isAgg_one hu h1, h]
theorem R.fldA {t : TypeId} {i : Nat} {fs : Array Field} {f : Field} {td : TypeDesc} {info : TypeInfo} {cs cs' : Array Value} (hx : evF fr x = some (.agg cs)) (ht : P.underlying t = some (.struct fs)) (hf : fs[i]? = some f) (hu : P.underlying f.type = some td) (h1 : oneB td = false) (hi : ∀ w, (typeInfo f.type).run P w = .ok info w)
    (h : cs.extract f.offset (f.offset + info.size) = cs') : RunsTo P fr I L ⟨d, .field t x i, ty, pos, aft, gd⟩ (.agg cs') := fun ρ w hρ _ => by
  simp [execOp, hρ x _ hx, Instr.field, run_und ht, hf, asAgg, part, isAgg_agg hu h1, h, sizeOf, hi]

theorem R.func {fn : Fn} {first captured : Array Operand} {fs cs : Array Value} (hf : ∀ ρ, Agree fr ρ → first.map ρ = fs) (hc : ∀ ρ, Agree fr ρ → captured.map ρ = cs) :
    RunsTo P fr I L ⟨d, .makeFunc fn first captured, ty, pos, aft, gd⟩ (.func fn fs cs) := fun ρ w hρ _ => by
  simp [execOp, Instr.makeFunc, hf ρ hρ, hc ρ hρ]

/-! ### Comparing -/
theorem R.bin' {op : BinOp} {t u : TypeId} (hx : evF fr x = some vx) (hy : evF fr y = some vy) (hg : ∀ w, (eqGuard op t x y vx vy).run P w = .ok () w) (h : ∀ w, (binOp op t vx vy).run P w = .ok v w) :
    RunsTo P fr I L ⟨d, .binOp op t x y u, ty, pos, aft, gd⟩ v := fun ρ w hρ _ => by
  simp only [execOp, hρ x _ hx, hρ y _ hy]
  rw [Sem.run_bind, Sem.run_bind, hg, Result.andThen_ok, h]; rfl

theorem eql_run {t : TypeId} {w : World} {p : Bool} (hb : binOp .eql t vx vy = do pure (.bool (← Op.equal t vx vy))) (h : ∀ n, (Op.equalIn (n + 1) t vx vy).run P w = .ok p w) : (binOp .eql t vx vy).run P w = .ok (.bool p) w := by
  rw [hb, Sem.run_bind]
  show ((Op.equalIn (9999 + 1) t vx vy).run P w).andThen _ = _
  rw [h]; rfl
theorem neq_run {t : TypeId} {w : World} {p : Bool} (hb : binOp .neq t vx vy = do pure (.bool (!(← Op.equal t vx vy)))) (h : ∀ n, (Op.equalIn (n + 1) t vx vy).run P w = .ok p w) : (binOp .neq t vx vy).run P w = .ok (.bool !p) w := by
  rw [hb, Sem.run_bind]
  show ((Op.equalIn (9999 + 1) t vx vy).run P w).andThen _ = _
  rw [h]; rfl

theorem in_PN {t e : TypeId} {ad : Addr} {w : World} (ht : P.underlying t = some (.pointer e)) (n : Nat) : (Op.equalIn (n + 1) t (.pointer (some ad)) (.pointer .none)).run P w = .ok false w := by
  simp [Op.equalIn, run_und ht]
theorem in_NN {t e : TypeId} {w : World} (ht : P.underlying t = some (.pointer e)) (n : Nat) : (Op.equalIn (n + 1) t (.pointer .none) (.pointer .none)).run P w = .ok true w := by
  simp [Op.equalIn, run_und ht]
theorem in_SN {t e : TypeId} {A : Option Addr} {k c : Nat} {w : World} (ht : P.underlying t = some (.slice e)) (n : Nat) : (Op.equalIn (n + 1) t (.slice A k c) (.slice .none 0 0)).run P w = .ok A.isNone w := by
  cases A <;> simp [Op.equalIn, run_und ht]
theorem in_B {t : TypeId} {p q : Bool} {w : World} (ht : P.underlying t = some .bool) (n : Nat) : (Op.equalIn (n + 1) t (.bool p) (.bool q)).run P w = .ok (p == q) w := by
  simp [Op.equalIn, run_und ht]

theorem R.eqPN {t u e : TypeId} {ad : Addr} (hx : evF fr x = some (.pointer (some ad))) (hy : evF fr y = some (.pointer .none)) (ht : P.underlying t = some (.pointer e)) : RunsTo P fr I L ⟨d, .binOp .eql t x y u, ty, pos, aft, gd⟩ (.bool false) :=
  R.bin' hx hy (fun w => by simp [eqGuard]) (fun w => eql_run rfl (in_PN ht))
theorem R.nePN {t u e : TypeId} {ad : Addr} (hx : evF fr x = some (.pointer (some ad))) (hy : evF fr y = some (.pointer .none)) (ht : P.underlying t = some (.pointer e)) : RunsTo P fr I L ⟨d, .binOp .neq t x y u, ty, pos, aft, gd⟩ (.bool true) :=
  R.bin' hx hy (fun w => by simp [eqGuard]) (fun w => neq_run rfl (in_PN ht))
theorem R.eqNN {t u e : TypeId} (hx : evF fr x = some (.pointer .none)) (hy : evF fr y = some (.pointer .none)) (ht : P.underlying t = some (.pointer e)) : RunsTo P fr I L ⟨d, .binOp .eql t x y u, ty, pos, aft, gd⟩ (.bool true) :=
  R.bin' hx hy (fun w => by simp [eqGuard]) (fun w => eql_run rfl (in_NN ht))
theorem R.neNN {t u e : TypeId} (hx : evF fr x = some (.pointer .none)) (hy : evF fr y = some (.pointer .none)) (ht : P.underlying t = some (.pointer e)) : RunsTo P fr I L ⟨d, .binOp .neq t x y u, ty, pos, aft, gd⟩ (.bool false) :=
  R.bin' hx hy (fun w => by simp [eqGuard]) (fun w => neq_run rfl (in_NN ht))
theorem R.eqSN {t u e : TypeId} {A : Option Addr} {n c : Nat} (hx : evF fr x = some (.slice A n c)) (hy : evF fr y = some (.slice .none 0 0)) (ht : P.underlying t = some (.slice e)) : RunsTo P fr I L ⟨d, .binOp .eql t x y u, ty, pos, aft, gd⟩ (.bool A.isNone) :=
  R.bin' hx hy (fun w => by simp [eqGuard]) (fun w => eql_run rfl (in_SN ht))
theorem R.neSN {t u e : TypeId} {A : Option Addr} {n c : Nat} (hx : evF fr x = some (.slice A n c)) (hy : evF fr y = some (.slice .none 0 0)) (ht : P.underlying t = some (.slice e)) : RunsTo P fr I L ⟨d, .binOp .neq t x y u, ty, pos, aft, gd⟩ (.bool !A.isNone) :=
  R.bin' hx hy (fun w => by simp [eqGuard]) (fun w => neq_run rfl (in_SN ht))
theorem R.eqB {t u : TypeId} {p q : Bool} (hx : evF fr x = some (.bool p)) (hy : evF fr y = some (.bool q)) (ht : P.underlying t = some .bool) : RunsTo P fr I L ⟨d, .binOp .eql t x y u, ty, pos, aft, gd⟩ (.bool (p == q)) :=
  R.bin' hx hy (fun w => by simp [eqGuard]) (fun w => eql_run rfl (in_B ht))
theorem R.neB {t u : TypeId} {p q : Bool} (hx : evF fr x = some (.bool p)) (hy : evF fr y = some (.bool q)) (ht : P.underlying t = some .bool) : RunsTo P fr I L ⟨d, .binOp .neq t x y u, ty, pos, aft, gd⟩ (.bool !(p == q)) :=
  R.bin' hx hy (fun w => by simp [eqGuard]) (fun w => neq_run rfl (in_B ht))

theorem bytes_eq (s r : ByteArray) : (s.toList == r.toList) = decide (s.data.toList = r.data.toList) := by
  rw [ByteArray.toList_eq, ByteArray.toList_eq, Bool.eq_iff_iff]; simp
theorem R.eqStr {t u : TypeId} {s r : ByteArray} (hx : evF fr x = some (.string s)) (hy : evF fr y = some (.string r)) : RunsTo P fr I L ⟨d, .binOp .eql t x y u, ty, pos, aft, gd⟩ (.bool (decide (s.data.toList = r.data.toList))) :=
  R.bin' hx hy (fun w => by simp [eqGuard]) (fun w => by simp [binOp, Op.stringOp, bytes_eq])
theorem R.neStr {t u : TypeId} {s r : ByteArray} (hx : evF fr x = some (.string s)) (hy : evF fr y = some (.string r)) : RunsTo P fr I L ⟨d, .binOp .neq t x y u, ty, pos, aft, gd⟩ (.bool (decide (s.data.toList ≠ r.data.toList))) :=
  R.bin' hx hy (fun w => by simp [eqGuard]) (fun w => by simp [binOp, Op.stringOp, bytes_eq])
theorem R.cat {t u : TypeId} {s r : ByteArray} (hx : evF fr x = some (.string s)) (hy : evF fr y = some (.string r)) (h : s.size + r.size ≤ 9223372036854775807) : RunsTo P fr I L ⟨d, .binOp .add t x y u, ty, pos, aft, gd⟩ (.string (s ++ r)) :=
  R.bin' hx hy (fun w => by simp [eqGuard]) (fun w => by
    have : ¬ (((s.size + r.size : Nat) : Int) > IntKind.i64.max) := by
      rw [show IntKind.i64.max = 9223372036854775807 from by decide]; omega
    simp only [binOp, Op.stringOp]
    rw [if_neg this]; rfl)
end
end Go.Eng
