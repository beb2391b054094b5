
import Derived.Test.YtdecipfdbkpigaaProg
import Derived.Test.YtdecipfdbkpigaaEngH
namespace Go.Proofs.Ytdecipfdbkpigaa
open Go.Eng

/-- A byte of a number: the i-th from the lowest. -/
def bt (n : Int) (i : Nat) : UInt8 := UInt8.ofNat ((n / 2 ^ (8 * i)) % 256).toNat
/-- Its lowest bytes. -/
def leB (n : Int) : Nat → List UInt8
  | 0 => []
  | k + 1 => leB n k ++ [bt n k]
theorem leB_len (n : Int) (k : Nat) : (leB n k).length = k := by
  induction k with
  | zero => rfl
  | succ k ih => simp [leB, ih]
theorem bt_val {n : Int} {i : Nat} (hi : i < 8) : wr .u8 (n / 2 ^ (min (8 * (i : Int)).toNat IntKind.u64.bits)) = ((bt n i).toNat : Int) := by
  have e : min (8 * (i : Int)).toNat IntKind.u64.bits = 8 * i := by
    have : IntKind.u64.bits = 64 := rfl
    omega
  rw [e]
  simp only [bt, wr]
  have h := Int.emod_nonneg (n / 2 ^ (8 * i)) (show (256 : Int) ≠ 0 by decide)
  have h2 := Int.emod_lt_of_pos (n / 2 ^ (8 * i)) (show (0 : Int) < 256 by decide)
  rw [UInt8.toNat_ofNat_of_lt' (by show _ < 256; omega)]
  omega



set_option maxRecDepth 100000 in
set_option maxHeartbeats 400000 in
theorem Lay_spec {I : Imm} {b c : Nat} {A : Option Addr} {wide : Bool} (bs : List UInt8) (n : Int) (k : Nat) (hk : k ≤ 8) (hn : 0 ≤ n ∧ n ≤ 18446744073709551615) (hr : bs.length ≤ 140737488355000) :
    Meets Try.prog 43 #[.pointer (some ⟨b, 0, none⟩), .int .u64 n, .int .i64 k] I ([.blk b 89 [.slice A (bs.length) c, .bool wide], .row (.slice A (bs.length) c) 5 1 (bs.length) (bytesV bs)]) (fun v I' L' => ∃ A' c', .pointer (some ⟨b, 0, none⟩) = v ∧ I = I' ∧ [.blk b 89 [.slice A' (bs.length + k) c', .bool wide], .row (.slice A' (bs.length + k) c') 5 1 (bs.length + k) (bytesV (bs ++ leB n k))] = L') := by
  refine Meets.intro (args := [.pointer (some ⟨b, 0, none⟩), .int .u64 n, .int .i64 k]) (N := 28) (rs := [.tmp 6]) Try.func43 rfl rfl rfl rfl (fun F => ?_)
  change Cd _ _ _ [(0, .pointer (some ⟨b, 0, none⟩)), (1, .int .u64 n), (2, .int .i64 k)] I (.blk b 89 [.slice A (bs.length) c, .bool wide] :: .row (.slice A (bs.length) c) 5 1 (bs.length) (bytesV bs) :: F) _
  have hle := Imm.le_refl I
  refine Cd.seq ?_
  refine Cd.region ?_
  refine Opz.val (R.assign rfl) rfl rfl rfl ?_
  refine Opz.nil ?_
  refine seqQ.normal ?_
  refine Cd.seq ?_
  refine Cd.seq ?_
  refine Cd.region ?_
  refine Opz.val (R.move rfl) rfl rfl rfl ?_
  refine Opz.val (R.move rfl) rfl rfl rfl ?_
  refine Opz.nil ?_
  refine seqQ.normal ?_
  refine Cd.block ?_
  -- loop 1: turned [9], kept [0, 1, 8]
  refine Cd.loop [0, 1, 8] (fun nn vs I101 L1 => ∃ (i : Nat) (A1 : Option Addr) (c1 : Nat), [(9, .int .i64 i)] = vs ∧ (.blk b 89 [.slice A1 (bs.length + i) c1, .bool wide] :: .row (.slice A1 (bs.length + i) c1) 5 1 (bs.length + i) (bytesV (bs ++ leB n i)) :: F) = L1 ∧ I = I101 ∧ k - i = nn ∧ i ≤ k) (Pick.cons rfl (Pick.cons rfl (Pick.cons rfl (Pick.nil)))) ?_ ?_
  ·
    rw [show bytesV bs = bytesV (bs ++ leB n 0) from by simp [leB]]
    refine ⟨_, _, _, ⟨0, A, c, rfl, rfl, rfl, rfl, ?_⟩, ⟨rfl, trivial⟩, by repeat (first | exact Have.refl | (refine Have.cons (by repeat (first | exact Rem.head | apply Rem.tail | exact Rem.mid)) ?_) | refine Have.skip ?_ | refine Have.app ?_)⟩
    · first | assumption | omega | simp
  ·
    rintro nn1 _ I101 _ ⟨i, A1, c1, rfl, rfl, rfl, hn1, hi⟩
    refine Cd.seq ?_
    refine Cd.region ?_
    refine Opz.val (R.lss rfl rfl) rfl rfl rfl ?_
    refine Opz.nil ?_
    refine seqQ.normal ?_
    refine Cd.seq ?_
    first | refine Cd.condD rfl (fun hq1 => ?_) (fun hq1 => ?_) | refine Cd.cond rfl (fun hq1 => ?_) (fun hq1 => ?_)
    ·
      -- c1T
      try (first | contradiction | (exfalso; omega))
      all_goals
        refine Cd.skip ?_
        refine seqQ.normal ?_
        refine Cd.seq ?_
        refine Cd.block ?_
        refine Cd.seq ?_
        refine Cd.region ?_
        refine Opz.val (R.move rfl) rfl rfl rfl ?_
        refine Opz.val (R.assign rfl) rfl rfl rfl ?_
        refine Opz.nil ?_
        refine seqQ.normal ?_
        refine Cd.pick [0, 1, 7, 8, 9] (Pick.cons rfl (Pick.cons rfl (Pick.cons rfl (Pick.cons rfl (Pick.cons rfl (Pick.nil)))))) ?_
        refine Cd.draw (by kernel_rfl) ?_
        refine Pot.pure 0 (ts := [0]) rfl rfl rfl (Pick.cons rfl (Pick.nil)) rfl rfl rfl (fun _ _ _ => (R.move rfl)) rfl ?_
        refine Pot.pure 1 (ts := [0]) rfl rfl rfl (Pick.cons rfl (Pick.nil)) rfl rfl rfl (fun _ _ _ => (R.move rfl)) rfl ?_
        refine Pot.pure 2 (ts := [13]) rfl rfl rfl (Pick.cons rfl (Pick.nil)) rfl rfl rfl (fun _ _ _ => (by first | exact R.nilP rfl | exact R.nilF rfl)) rfl ?_
        refine Pot.pure 3 (ts := [14]) rfl rfl rfl (Pick.cons rfl (Pick.nil)) rfl rfl rfl (fun _ _ _ => (by first | exact R.field (off := 0) rfl Try.underlying89 rfl Try.typeInfo27 rfl rfl | exact R.fieldA rfl Try.underlying89 rfl Try.typeInfo27 rfl)) rfl ?_
        refine Pot.pure 5 (ts := [1]) rfl rfl rfl (Pick.cons rfl (Pick.nil)) rfl rfl rfl (fun _ _ _ => (R.move rfl)) rfl ?_
        refine Pot.pure 6 (ts := [7]) rfl rfl rfl (Pick.cons rfl (Pick.nil)) rfl rfl rfl (fun _ _ _ => (R.move rfl)) rfl ?_
        refine Pot.pure 7 (ts := [18]) rfl rfl rfl (Pick.cons rfl (Pick.nil)) rfl rfl rfl (fun _ _ _ => (by exact R.mul rfl rfl (by first | exact ⟨by simp only [loK]; omega, by simp only [hiK]; omega⟩ | exact wr_inR rfl _))) rfl ?_
        refine Pot.pure 8 (ts := [17, 19]) rfl rfl rfl (Pick.cons rfl (Pick.cons rfl (Pick.nil))) rfl rfl rfl (fun _ _ _ => (by first | exact R.shrC rfl rfl rfl rfl (by decide) rfl | exact R.shr rfl rfl (by omega))) rfl ?_
        refine Pot.pure 9 (ts := [20]) rfl rfl rfl (Pick.cons rfl (Pick.nil)) rfl rfl rfl (fun _ _ _ => (by first | exact R.conv rfl Try.underlying49 Try.underlying5 (by first | exact ⟨by simp only [loK]; omega, by simp only [hiK]; omega⟩ | exact wr_inR rfl _) | exact R.convW rfl Try.underlying49 Try.underlying5)) rfl ?_
        refine Pot.step [4, 10] rfl rfl rfl ⟨?_, ?_, trivial⟩
        ·
          refine ChainOK.op (ts := [15]) rfl rfl rfl (Pick.cons rfl (Pick.nil)) rfl rfl rfl (RunsTo.acts (by exact R.load rfl Try.underlying27 rfl (by first | exact cellL (by repeat (first | exact List.Mem.head _ | apply List.Mem.tail)) rfl | exact cellI (by assumption) | (exact cellRow (by repeat (first | exact List.Mem.head _ | apply List.Mem.tail)) (by assumption) (by assumption))))) ?_
          rintro _ _ _ ⟨rfl, rfl, rfl⟩
          refine ⟨Imm.le_refl _, ?_⟩
          refine Pot.step [10] rfl rfl rfl ⟨?_, trivial⟩
          rw [bt_val (by omega)]
          refine ChainOK.op (ts := [21]) rfl rfl rfl (Pick.cons rfl (Pick.nil)) rfl rfl rfl (by exact W.build1 (e := 5) Try.underlying27 Try.typeInfo5 rfl Try.zeroValue5 rfl rfl rfl (by omega) (by omega) (by simp [Value.cells])) ?_
          rintro _ _ _ ⟨b22, rfl, rfl, rfl⟩
          refine ⟨Imm.le_refl _, ?_⟩
          refine Pot.step [11] rfl rfl rfl ⟨?_, trivial⟩
          refine ChainOK.op (ts := [16, 22]) rfl rfl rfl (Pick.cons rfl (Pick.cons rfl (Pick.nil))) rfl rfl rfl (by exact W.append (e := 5) (sz := 1) (by' := 1) rfl rfl Try.underlying27 Try.type5 rfl rfl rfl rfl rfl (by repeat (first | exact Rem.head | apply Rem.tail | exact Rem.mid)) rfl (newsRow (by repeat (first | exact List.Mem.head _ | apply List.Mem.tail))) (by simp [Value.oneCell']) (by omega) rfl) ?_
          rintro _ _ _ ⟨A23, c23, rfl, rfl, rfl⟩
          refine ⟨Imm.le_refl _, ?_⟩
          refine Pot.pure 12 (ts := [12]) rfl rfl rfl (Pick.cons rfl (Pick.nil)) rfl rfl rfl (fun _ _ _ => (by first | exact R.nilP rfl | exact R.nilF rfl)) rfl ?_
          refine Pot.pure 13 (ts := [24]) rfl rfl rfl (Pick.cons rfl (Pick.nil)) rfl rfl rfl (fun _ _ _ => (by first | exact R.field (off := 0) rfl Try.underlying89 rfl Try.typeInfo27 rfl rfl | exact R.fieldA rfl Try.underlying89 rfl Try.typeInfo27 rfl)) rfl ?_
          refine Pot.step [14] rfl rfl rfl ⟨?_, trivial⟩
          refine ChainOK.opU (ts := [25, 23]) rfl rfl (Pick.cons rfl (Pick.cons rfl (Pick.nil))) rfl rfl (by exact W.store rfl rfl rfl rfl Try.typeInfo27 rfl (by repeat (first | exact Upd.head | apply Upd.tail)) (by repeat (first | exact SetAt.zero | apply SetAt.succ))) ?_
          rintro _ _ _ ⟨rfl, rfl, rfl⟩
          refine ⟨Imm.le_refl _, ?_⟩
          refine Pot.done rfl rfl ?_
          refine blkQ.normal ?_
          refine seqQ.normal ?_
          refine Cd.region ?_
          refine Opz.val (by exact R.add rfl rfl (by first | exact ⟨by simp only [loK]; omega, by simp only [hiK]; omega⟩ | exact wr_inR rfl _)) rfl rfl rfl ?_
          refine Opz.val (R.move rfl) rfl rfl rfl ?_
          refine Opz.nil ?_
          rw [show bytesV (bs ++ leB n i) ++ [Value.int .u8 ((bt n i).toNat : Int)] = bytesV (bs ++ leB n (i + 1)) from by simp [bytesV, leB]]
          refine loopQ.round ⟨i + 1, _, _, rfl, rfl, rfl, rfl, ?_⟩ ?_ ⟨(by first | rfl | (refine look_val rfl ?_; first | rfl | (refine int_congr ?_; first | omega | (simp; done)))), rfl, rfl, rfl, trivial⟩ (by repeat (first | exact Have.refl | (refine Have.cons (by repeat (first | exact Rem.head | apply Rem.tail | exact Rem.mid)) ?_) | refine Have.skip ?_ | refine Have.app ?_))
          · first | assumption | omega | simp
          · omega
        ·
          rw [bt_val (by omega)]
          refine ChainOK.op (ts := [21]) rfl rfl rfl (Pick.cons rfl (Pick.nil)) rfl rfl rfl (by exact W.build1 (e := 5) Try.underlying27 Try.typeInfo5 rfl Try.zeroValue5 rfl rfl rfl (by omega) (by omega) (by simp [Value.cells])) ?_
          rintro _ _ _ ⟨b22, rfl, rfl, rfl⟩
          refine ⟨Imm.le_refl _, ?_⟩
          refine Pot.step [4] rfl rfl rfl ⟨?_, trivial⟩
          refine ChainOK.op (ts := [15]) rfl rfl rfl (Pick.cons rfl (Pick.nil)) rfl rfl rfl (RunsTo.acts (by exact R.load rfl Try.underlying27 rfl (by first | exact cellL (by repeat (first | exact List.Mem.head _ | apply List.Mem.tail)) rfl | exact cellI (by assumption) | (exact cellRow (by repeat (first | exact List.Mem.head _ | apply List.Mem.tail)) (by assumption) (by assumption))))) ?_
          rintro _ _ _ ⟨rfl, rfl, rfl⟩
          refine ⟨Imm.le_refl _, ?_⟩
          refine Pot.step [11] rfl rfl rfl ⟨?_, trivial⟩
          refine ChainOK.op (ts := [16, 22]) rfl rfl rfl (Pick.cons rfl (Pick.cons rfl (Pick.nil))) rfl rfl rfl (by exact W.append (e := 5) (sz := 1) (by' := 1) rfl rfl Try.underlying27 Try.type5 rfl rfl rfl rfl rfl (by repeat (first | exact Rem.head | apply Rem.tail | exact Rem.mid)) rfl (newsRow (by repeat (first | exact List.Mem.head _ | apply List.Mem.tail))) (by simp [Value.oneCell']) (by omega) rfl) ?_
          rintro _ _ _ ⟨A23, c23, rfl, rfl, rfl⟩
          refine ⟨Imm.le_refl _, ?_⟩
          refine Pot.pure 12 (ts := [12]) rfl rfl rfl (Pick.cons rfl (Pick.nil)) rfl rfl rfl (fun _ _ _ => (by first | exact R.nilP rfl | exact R.nilF rfl)) rfl ?_
          refine Pot.pure 13 (ts := [24]) rfl rfl rfl (Pick.cons rfl (Pick.nil)) rfl rfl rfl (fun _ _ _ => (by first | exact R.field (off := 0) rfl Try.underlying89 rfl Try.typeInfo27 rfl rfl | exact R.fieldA rfl Try.underlying89 rfl Try.typeInfo27 rfl)) rfl ?_
          refine Pot.step [14] rfl rfl rfl ⟨?_, trivial⟩
          refine ChainOK.opU (ts := [25, 23]) rfl rfl (Pick.cons rfl (Pick.cons rfl (Pick.nil))) rfl rfl (by exact W.store rfl rfl rfl rfl Try.typeInfo27 rfl (by repeat (first | exact Upd.head | apply Upd.tail)) (by repeat (first | exact SetAt.zero | apply SetAt.succ))) ?_
          rintro _ _ _ ⟨rfl, rfl, rfl⟩
          refine ⟨Imm.le_refl _, ?_⟩
          refine Pot.done rfl rfl ?_
          refine blkQ.normal ?_
          refine seqQ.normal ?_
          refine Cd.region ?_
          refine Opz.val (by exact R.add rfl rfl (by first | exact ⟨by simp only [loK]; omega, by simp only [hiK]; omega⟩ | exact wr_inR rfl _)) rfl rfl rfl ?_
          refine Opz.val (R.move rfl) rfl rfl rfl ?_
          refine Opz.nil ?_
          rw [show bytesV (bs ++ leB n i) ++ [Value.int .u8 ((bt n i).toNat : Int)] = bytesV (bs ++ leB n (i + 1)) from by simp [bytesV, leB]]
          refine loopQ.round ⟨i + 1, _, _, rfl, rfl, rfl, rfl, ?_⟩ ?_ ⟨(by first | rfl | (refine look_val rfl ?_; first | rfl | (refine int_congr ?_; first | omega | (simp; done)))), rfl, rfl, rfl, trivial⟩ (by repeat (first | exact Have.refl | (refine Have.cons (by repeat (first | exact Rem.head | apply Rem.tail | exact Rem.mid)) ?_) | refine Have.skip ?_ | refine Have.app ?_))
          · first | assumption | omega | simp
          · omega
    ·
      -- c1F
      try (first | contradiction | (exfalso; omega))
      all_goals
        refine Cd.exit ?_
        refine seqQ.exit ?_
        refine loopQ.exit ?_
        refine blkQ.here ?_
        refine seqQ.normal ?_
        refine Cd.seq ?_
        refine Cd.region ?_
        refine Opz.val (R.move rfl) rfl rfl rfl ?_
        refine Opz.val (R.assign rfl) rfl rfl rfl ?_
        refine Opz.nil ?_
        refine seqQ.normal ?_
        refine Cd.ret ?_
        -- path c1F
        have hik : k = i := by omega
        subst hik
        refine fin.ret (L' := [.blk b 89 [.slice A1 (bs.length + k) c1, .bool wide], .row (.slice A1 (bs.length + k) c1) 5 1 (bs.length + k) (bytesV (bs ++ leB n k))]) (ResOK.tmp rfl ResOK.nil) (by first | exact hle | exact Imm.le_refl _) ?_ ?_
        · repeat (first | exact Have.refl | (refine Have.cons (by repeat (first | exact Rem.head | apply Rem.tail | exact Rem.mid)) ?_) | refine Have.skip ?_ | refine Have.app ?_)
        ·
          exact ⟨A1, c1, rfl, rfl, rfl⟩

end Go.Proofs.Ytdecipfdbkpigaa
