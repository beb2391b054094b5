
import Derived.Test.YtdecipfdbkpigaaProg
import Derived.Test.YtdecipfdbkpigaaLetI
namespace Go.Proofs.Ytdecipfdbkpigaa
open Go.Eng

theorem leB4 (n : Int) (h : 0 ≤ n) : ([Value.int .u8 (n % 256), Value.int .u8 (n / 256 % 256), Value.int .u8 (n / 65536 % 256), Value.int .u8 (n / 16777216 % 256)] : List Value) = bytesV (leB n 4) := by
  have key : ∀ (i : Nat) (m : Int), m = 2 ^ (8 * i) → Value.int .u8 (n / m % 256) = Value.int .u8 ((bt n i).toNat : Int) := by
    intro i m hm
    apply int_congr
    subst hm
    have h1 := Int.emod_nonneg (n / 2 ^ (8 * i)) (show (256 : Int) ≠ 0 by decide)
    have h2 := Int.emod_lt_of_pos (n / 2 ^ (8 * i)) (show (0 : Int) < 256 by decide)
    unfold bt
    rw [UInt8.toNat_ofNat_of_lt' (by show _ < 256; omega)]
    omega
  have k0 := key 0 1 (by decide); have k1 := key 1 256 (by decide); have k2 := key 2 65536 (by decide); have k3 := key 3 16777216 (by decide)
  rw [Int.ediv_one] at k0
  simp only [leB, bytesV, List.nil_append, List.cons_append, List.map_cons, List.map_nil, k0, k1, k2, k3]
theorem bt_mod (n : Int) (i : Nat) (hi : i < 4) : bt (n % 4294967296) i = bt n i := by
  have : i = 0 ∨ i = 1 ∨ i = 2 ∨ i = 3 := by omega
  unfold bt
  rcases this with rfl | rfl | rfl | rfl <;> (congr 2; simp only [Nat.mul_zero, Nat.reduceMul]; omega)
theorem bt_div (n : Int) (i : Nat) : bt (n / 4294967296) i = bt n (i + 4) := by
  unfold bt
  rw [Int.ediv_ediv_of_nonneg (by decide), show (2 : Int) ^ (8 * (i + 4)) = 4294967296 * 2 ^ (8 * i) from by rw [Nat.mul_add, Int.pow_add, Int.mul_comm]; rfl]
theorem leB8 (n : Int) : leB (n % 4294967296) 4 ++ leB (n / 4294967296) 4 = leB n 8 := by
  simp only [leB, List.nil_append, List.cons_append, bt_mod _ _ (show 0 < 4 by decide), bt_mod _ _ (show 1 < 4 by decide), bt_mod _ _ (show 2 < 4 by decide), bt_mod _ _ (show 3 < 4 by decide), bt_div]



set_option maxRecDepth 100000 in
set_option maxHeartbeats 400000 in
theorem RSmall_spec {I : Imm} (n : Int) (h0 : 0 ≤ n) (h1 : n ≤ 9223372036854775807) :
    Meets Try.prog 23 #[.int .i64 n] I ([]) (Ret I (.string (strOf (leB n 4)))) := by
  refine Meets.intro (args := [.int .i64 n]) (N := 20) (rs := [.tmp 2]) Try.func23 rfl rfl rfl rfl (fun F => ?_)
  change Cd _ _ _ [(0, .int .i64 n)] I (F) _
  have hle := Imm.le_refl I
  refine Cd.seq ?_
  refine Cd.region ?_
  refine Opz.val (R.assign rfl) rfl rfl rfl ?_
  refine Opz.nil ?_
  refine seqQ.normal ?_
  refine Cd.seq ?_
  refine Cd.region ?_
  refine Opz.val (R.move rfl) rfl rfl rfl ?_
  refine Opz.val (by first | exact R.rem rfl rfl (by omega) (by omega) | exact R.remT rfl rfl (by omega)) rfl rfl rfl ?_
  refine Opz.val (by first | exact R.conv rfl Try.underlying3 Try.underlying5 (by first | exact ⟨by simp only [loK]; omega, by simp only [hiK]; omega⟩ | exact wr_inR rfl _) | exact R.convW rfl Try.underlying3 Try.underlying5) rfl rfl rfl ?_
  refine Opz.val (R.move rfl) rfl rfl rfl ?_
  refine Opz.val (by first | exact R.quo rfl rfl (by omega) (by omega) (by first | exact ⟨by simp only [loK]; omega, by simp only [hiK]; omega⟩ | exact wr_inR rfl _) | exact R.quoT rfl rfl (by omega)) rfl rfl rfl ?_
  refine Opz.val (by first | exact R.rem rfl rfl (by omega) (by omega) | exact R.remT rfl rfl (by omega)) rfl rfl rfl ?_
  refine Opz.val (by first | exact R.conv rfl Try.underlying3 Try.underlying5 (by first | exact ⟨by simp only [loK]; omega, by simp only [hiK]; omega⟩ | exact wr_inR rfl _) | exact R.convW rfl Try.underlying3 Try.underlying5) rfl rfl rfl ?_
  refine Opz.val (R.move rfl) rfl rfl rfl ?_
  refine Opz.val (by first | exact R.quo rfl rfl (by omega) (by omega) (by first | exact ⟨by simp only [loK]; omega, by simp only [hiK]; omega⟩ | exact wr_inR rfl _) | exact R.quoT rfl rfl (by omega)) rfl rfl rfl ?_
  refine Opz.val (by first | exact R.rem rfl rfl (by omega) (by omega) | exact R.remT rfl rfl (by omega)) rfl rfl rfl ?_
  refine Opz.val (by first | exact R.conv rfl Try.underlying3 Try.underlying5 (by first | exact ⟨by simp only [loK]; omega, by simp only [hiK]; omega⟩ | exact wr_inR rfl _) | exact R.convW rfl Try.underlying3 Try.underlying5) rfl rfl rfl ?_
  refine Opz.val (R.move rfl) rfl rfl rfl ?_
  refine Opz.val (by first | exact R.quo rfl rfl (by omega) (by omega) (by first | exact ⟨by simp only [loK]; omega, by simp only [hiK]; omega⟩ | exact wr_inR rfl _) | exact R.quoT rfl rfl (by omega)) rfl rfl rfl ?_
  refine Opz.val (by first | exact R.rem rfl rfl (by omega) (by omega) | exact R.remT rfl rfl (by omega)) rfl rfl rfl ?_
  refine Opz.val (by first | exact R.conv rfl Try.underlying3 Try.underlying5 (by first | exact ⟨by simp only [loK]; omega, by simp only [hiK]; omega⟩ | exact wr_inR rfl _) | exact R.convW rfl Try.underlying3 Try.underlying5) rfl rfl rfl ?_
  refine Opz.op (by exact W.build1 (e := 5) Try.underlying27 Try.typeInfo5 rfl Try.zeroValue5 rfl rfl rfl (by omega) (by omega) (by simp [Value.cells])) rfl rfl rfl ?_
  rintro _ _ _ ⟨b18, rfl, rfl, rfl⟩
  rw [leB4 n h0]
  refine Opz.val (by exact R.bytesT (bs := leB n 4) rfl Try.underlying27 Try.underlying5 Try.underlying9 (leB_len n 4) (RdC.mem (by repeat (first | exact List.Mem.head _ | apply List.Mem.tail)))) rfl rfl rfl ?_
  refine Opz.val (R.assign rfl) rfl rfl rfl ?_
  refine Opz.nil ?_
  refine seqQ.normal ?_
  refine Cd.ret ?_
  -- path 
  refine fin.ret (L' := []) (ResOK.tmp rfl ResOK.nil) (by first | exact hle | exact Imm.le_refl _) ?_ ?_
  · repeat (first | exact Have.refl | (refine Have.cons (by repeat (first | exact Rem.head | apply Rem.tail | exact Rem.mid)) ?_) | refine Have.skip ?_ | refine Have.app ?_)
  ·
    exact Ret.mk rfl


set_option maxRecDepth 100000 in
set_option maxHeartbeats 400000 in
theorem RGreat_spec {I : Imm} (n : Int) (h0 : 0 ≤ n) (h1 : n ≤ 18446744073709551615) :
    Meets Try.prog 25 #[.int .u64 n] I ([]) (Ret I (.string (strOf (leB n 8)))) := by
  refine Meets.intro (args := [.int .u64 n]) (N := 12) (rs := [.tmp 2]) Try.func25 rfl rfl rfl rfl (fun F => ?_)
  change Cd _ _ _ [(0, .int .u64 n)] I (F) _
  have hle := Imm.le_refl I
  refine Cd.seq ?_
  refine Cd.region ?_
  refine Opz.val (R.assign rfl) rfl rfl rfl ?_
  refine Opz.nil ?_
  refine seqQ.normal ?_
  refine Cd.seq ?_
  refine Cd.region ?_
  refine Opz.val (R.move rfl) rfl rfl rfl ?_
  refine Opz.val (by first | exact R.rem rfl rfl (by omega) (by omega) | exact R.remT rfl rfl (by omega)) rfl rfl rfl ?_
  refine Opz.val (by first | exact R.conv rfl Try.underlying49 Try.underlying3 (by first | exact ⟨by simp only [loK]; omega, by simp only [hiK]; omega⟩ | exact wr_inR rfl _) | exact R.convW rfl Try.underlying49 Try.underlying3) rfl rfl rfl ?_
  refine Opz.op (by exact W.call rfl rfl Try.call23 (RSmall_spec (n % 4294967296) (by omega) (by omega)) rfl Take.nil) rfl rfl rfl ?_
  rintro v6 I6 _ ⟨hI6, M6, hp6, rfl⟩
  obtain ⟨rfl, rfl, rfl⟩ := hp6
  refine Opz.val (R.move rfl) rfl rfl rfl ?_
  refine Opz.val (by first | exact R.quo rfl rfl (by omega) (by omega) (by first | exact ⟨by simp only [loK]; omega, by simp only [hiK]; omega⟩ | exact wr_inR rfl _) | exact R.quoT rfl rfl (by omega)) rfl rfl rfl ?_
  refine Opz.val (by first | exact R.conv rfl Try.underlying49 Try.underlying3 (by first | exact ⟨by simp only [loK]; omega, by simp only [hiK]; omega⟩ | exact wr_inR rfl _) | exact R.convW rfl Try.underlying49 Try.underlying3) rfl rfl rfl ?_
  refine Opz.op (by exact W.call rfl rfl Try.call23 (RSmall_spec (n / 4294967296) (by omega) (by omega)) rfl Take.nil) rfl rfl rfl ?_
  rintro v10 I10 _ ⟨hI10, M10, hp10, rfl⟩
  obtain ⟨rfl, rfl, rfl⟩ := hp10
  refine Opz.val (by exact R.catT rfl rfl (by rw [leB_len, leB_len]; decide)) rfl rfl rfl ?_
  refine Opz.val (R.assign rfl) rfl rfl rfl ?_
  refine Opz.nil ?_
  refine seqQ.normal ?_
  refine Cd.ret ?_
  -- path 
  refine fin.ret (L' := []) (ResOK.tmp rfl ResOK.nil) (by first | exact hle | exact Imm.le_refl _) ?_ ?_
  · repeat (first | exact Have.refl | (refine Have.cons (by repeat (first | exact Rem.head | apply Rem.tail | exact Rem.mid)) ?_) | refine Have.skip ?_ | refine Have.app ?_)
  ·
    exact Ret.mk (by rw [← leB8]; rfl)


set_option maxRecDepth 100000 in
set_option maxHeartbeats 400000 in
theorem RBytes_spec {I : Imm} {A : Option Addr} {c : Nat} (bs : List UInt8) (hx : Rd eByte I A bs) (hb : bs.length ≤ 4611686018427387904) :
    Meets Try.prog 27 #[.slice A bs.length c] I ([]) (Ret I (.string (strOf (leB bs.length 4 ++ bs)))) := by
  refine Meets.intro (args := [.slice A bs.length c]) (N := 9) (rs := [.tmp 2]) Try.func27 rfl rfl rfl rfl (fun F => ?_)
  change Cd _ _ _ [(0, .slice A bs.length c)] I (F) _
  have hle := Imm.le_refl I
  refine Cd.seq ?_
  refine Cd.region ?_
  refine Opz.val (R.assign rfl) rfl rfl rfl ?_
  refine Opz.nil ?_
  refine seqQ.normal ?_
  refine Cd.seq ?_
  refine Cd.pick [0] (Pick.cons rfl (Pick.nil)) ?_
  refine Cd.draw (by kernel_rfl) ?_
  refine Pot.pure 0 (ts := [0]) rfl rfl rfl (Pick.cons rfl (Pick.nil)) rfl rfl rfl (fun _ _ _ => (R.move rfl)) rfl ?_
  refine Pot.pure 1 (ts := [3]) rfl rfl rfl (Pick.cons rfl (Pick.nil)) rfl rfl rfl (fun _ _ _ => (R.len rfl rfl Try.underlying27)) rfl ?_
  refine Pot.pure 3 (ts := [0]) rfl rfl rfl (Pick.cons rfl (Pick.nil)) rfl rfl rfl (fun _ _ _ => (R.move rfl)) rfl ?_
  refine Pot.pure 4 (ts := [6]) rfl rfl rfl (Pick.cons rfl (Pick.nil)) rfl rfl rfl (fun _ _ _ => (by exact R.bytesT rfl Try.underlying27 Try.underlying5 Try.underlying9 (by first | rfl | assumption | simp) (Rd.cells (hx.mono (by assumption))))) rfl ?_
  refine Pot.step [2] rfl rfl rfl ⟨?_, trivial⟩
  refine ChainOK.op (ts := [4]) rfl rfl rfl (Pick.cons rfl (Pick.nil)) rfl rfl rfl (by exact W.call rfl rfl Try.call23 (RSmall_spec bs.length (by omega) (by omega)) rfl Take.nil) ?_
  rintro v5 I5 _ ⟨hI5, M5, hp5, rfl⟩
  obtain ⟨rfl, rfl, rfl⟩ := hp5
  refine ⟨Imm.le_refl _, ?_⟩
  refine Pot.pure 5 (ts := [5, 7]) rfl rfl rfl (Pick.cons rfl (Pick.cons rfl (Pick.nil))) rfl rfl rfl (fun _ _ _ => (by exact R.catT rfl rfl (by rw [leB_len]; omega))) rfl ?_
  refine Pot.pure 6 (ts := [8]) rfl rfl rfl (Pick.cons rfl (Pick.nil)) rfl rfl rfl (fun _ _ _ => (R.assign rfl)) rfl ?_
  refine Pot.done rfl rfl ?_
  refine seqQ.normal ?_
  refine Cd.ret ?_
  -- path 
  refine fin.ret (L' := []) (ResOK.tmp rfl ResOK.nil) (by first | exact hle | exact Imm.le_refl _) ?_ ?_
  · repeat (first | exact Have.refl | (refine Have.cons (by repeat (first | exact Rem.head | apply Rem.tail | exact Rem.mid)) ?_) | refine Have.skip ?_ | refine Have.app ?_)
  ·
    exact Ret.mk rfl

end Go.Proofs.Ytdecipfdbkpigaa
