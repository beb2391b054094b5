
import Derived.Test.YtdecipfdbkpigaaProg
import Derived.Test.YtdecipfdbkpigaaLetP
namespace Go.Proofs.Ytdecipfdbkpigaa
open Go.Eng



set_option maxRecDepth 100000 in
set_option maxHeartbeats 400000 in
theorem LBent_spec {I : Imm} {A : Option Addr} {c : Nat} (bs : List UInt8) (bit : Int) (hr : Rd eByte I A bs) (hc : bs.length ≤ c) (hbit : InR .u16 bit) :
    Meets Try.prog 10 #[.slice A bs.length c, .int .u16 bit] I ([]) (fun v _ L' => .bool true = v ∧ [] = L') := by
  refine Meets.intro (args := [.slice A bs.length c, .int .u16 bit]) (N := 60) (rs := [.tmp 4]) Try.func10 rfl rfl rfl rfl (fun F => ?_)
  change Cd _ _ _ [(0, .slice A bs.length c), (1, .int .u16 bit)] I (F) _
  have hle := Imm.le_refl I
  obtain ⟨hbit0, hbit1⟩ := hbit
  simp only [loK, hiK] at hbit0 hbit1
  refine Cd.seq ?_
  refine Cd.region ?_
  refine Opz.val (R.assign rfl) rfl rfl rfl ?_
  refine Opz.nil ?_
  refine seqQ.normal ?_
  refine Cd.seq ?_
  refine Cd.seq ?_
  refine Cd.region ?_
  refine Opz.val (R.move rfl) rfl rfl rfl ?_
  refine Opz.val (R.len rfl rfl Try.underlying27) rfl rfl rfl ?_
  refine Opz.val (R.gtr rfl rfl) rfl rfl rfl ?_
  refine Opz.nil ?_
  refine seqQ.normal ?_
  first | refine Cd.condD rfl (fun hq1 => ?_) (fun hq1 => ?_) | refine Cd.cond rfl (fun hq1 => ?_) (fun hq1 => ?_)
  ·
    -- c1T
    try contradiction
    all_goals
      obtain ⟨q, hq⟩ : ∃ q : List UInt8, q = bs.take 3000 := ⟨_, rfl⟩
      have hql : q.length = 3000 := by rw [hq, List.length_take]; omega
      have hqr : Rd eByte I A q := by rw [hq]; exact hr.take 3000
      have hq5 : q.length ≤ 3000 := by omega
      refine Cd.region ?_
      refine Opz.val (R.move rfl) rfl rfl rfl ?_
      refine Opz.val (by exact R.slH rfl rfl Try.underlying27 Try.typeInfo5 ⟨by omega, by omega⟩) rfl rfl rfl ?_
      refine Opz.val (R.assign rfl) rfl rfl rfl ?_
      refine Opz.nil ?_
      refine seqQ.normal ?_
      refine Cd.seq ?_
      first | rw [show Int.toNat 3000 = q.length from by rw [hql]; rfl] | rw [show bs.length = q.length from hql.symm]
      refine Cd.region ?_
      refine Opz.op (by exact W.call rfl rfl Try.call20 (Blank_spec) rfl Take.nil) rfl rfl rfl ?_
      rintro v15 I15 _ ⟨hI15, M15, hp15, rfl⟩
      obtain ⟨b15, rfl, rfl, rfl⟩ := hp15
      refine Opz.val (R.move rfl) rfl rfl rfl ?_
      refine Opz.op (by exact W.call rfl rfl Try.call26 (PBytes_spec (b := b15) (wide := false) [] q (hqr.mono hle) (by simp; omega)) rfl (Take.cons (by repeat (first | exact Rem.head | apply Rem.tail | exact Rem.mid)) (Take.cons (by repeat (first | exact Rem.head | apply Rem.tail | exact Rem.mid)) Take.nil))) rfl rfl rfl ?_
      rintro v17 I17 _ ⟨hI17, M17, hp17, rfl⟩
      obtain ⟨A17, c17, rfl, rfl, rfl⟩ := hp17
      rw [show (false || decide ((4294967295 : Int) < (q.length : Int))) = false from by simp; omega, List.nil_append]
      obtain ⟨p, hp⟩ : ∃ p, p = leB (q.length : Nat) 4 ++ q := ⟨_, rfl⟩
      have hpl : p.length = 4 + q.length := by rw [hp, List.length_append, leB_len]
      rw [← hp]
      rw [show ([] : List UInt8).length + 4 + q.length = p.length from by rw [hpl]; simp]
      refine Opz.op (by exact W.call rfl rfl Try.call28 (PSealM_spec (b := b15) p rfl (by omega)) rfl (Take.cons (by repeat (first | exact Rem.head | apply Rem.tail | exact Rem.mid)) (Take.cons (by repeat (first | exact Rem.head | apply Rem.tail | exact Rem.mid)) Take.nil))) rfl rfl rfl ?_
      rintro v18 I18 _ ⟨hI18, M18, hp18, rfl⟩
      obtain ⟨g18, sp18, rfl, rfl, rfl⟩ := hp18
      refine Opz.val (R.move rfl) rfl rfl rfl ?_
      refine Opz.val (R.ext rfl rfl) rfl rfl rfl ?_
      refine Opz.val (R.ext rfl rfl) rfl rfl rfl ?_
      refine Opz.val (R.assign rfl) rfl rfl rfl ?_
      refine Opz.val (R.assign rfl) rfl rfl rfl ?_
      refine Opz.nil ?_
      refine seqQ.normal ?_
      refine Cd.seq ?_
      refine Cd.seq ?_
      refine Cd.region ?_
      refine Opz.op (by exact W.call rfl rfl Try.call21 awake_spec rfl Take.nil) rfl rfl rfl ?_
      rintro v21 I21 _ ⟨hI21, M21, hp21, rfl⟩
      obtain ⟨rfl, rfl⟩ := hp21
      have hsl := sealB_len p
      have hle := hle.trans hI21
      refine Opz.val (R.not rfl) rfl rfl rfl ?_
      refine Opz.val (R.move rfl) rfl rfl rfl ?_
      first | refine Opz.guardD 23 rfl (fun hq2 => ?_) (fun hq2 => ?_) | refine Opz.guard 23 rfl (fun hq2 => ?_) (fun hq2 => ?_)
      ·
        -- g23T
        exact absurd hq2 (by decide)
      ·
        -- g23F
        try contradiction
        all_goals
          refine Opz.val (R.move rfl) rfl rfl rfl ?_
          refine Opz.val (R.neq rfl rfl) rfl rfl rfl ?_
          refine Opz.val (R.pick rfl rfl) rfl rfl rfl ?_
          refine Opz.val (R.move rfl) rfl rfl rfl ?_
          first | refine Opz.guardD 27 rfl (fun hq3 => ?_) (fun hq3 => ?_) | refine Opz.guard 27 rfl (fun hq3 => ?_) (fun hq3 => ?_)
          ·
            -- g27T
            exact absurd hq3 (by simp)
          ·
            -- g27F
            try contradiction
            all_goals
              refine Opz.val (R.move rfl) rfl rfl rfl ?_
              refine Opz.val (R.len rfl rfl Try.underlying27) rfl rfl rfl ?_
              refine Opz.val (R.eql rfl rfl) rfl rfl rfl ?_
              refine Opz.val (R.pick rfl rfl) rfl rfl rfl ?_
              refine Opz.nil ?_
              refine seqQ.normal ?_
              first | refine Cd.condD rfl (fun hq4 => ?_) (fun hq4 => ?_) | refine Cd.cond rfl (fun hq4 => ?_) (fun hq4 => ?_)
              ·
                -- c2T
                exfalso; revert hq4; simp; try omega
              ·
                -- c2F
                try contradiction
                all_goals
                  refine Cd.skip ?_
                  refine seqQ.normal ?_
                  refine Cd.seq ?_
                  refine Cd.region ?_
                  refine Opz.val (R.move rfl) rfl rfl rfl ?_
                  refine Opz.val (by first | exact R.conv rfl Try.underlying42 Try.underlying3 (by first | exact ⟨by simp only [loK]; omega, by simp only [hiK]; omega⟩ | exact wr_inR rfl _) | exact R.convW rfl Try.underlying42 Try.underlying3) rfl rfl rfl ?_
                  refine Opz.val (R.move rfl) rfl rfl rfl ?_
                  refine Opz.val (R.len rfl rfl Try.underlying27) rfl rfl rfl ?_
                  refine Opz.val (by exact R.mul rfl rfl (by first | exact ⟨by simp only [loK]; omega, by simp only [hiK]; omega⟩ | exact wr_inR rfl _)) rfl rfl rfl ?_
                  refine Opz.val (by first | exact R.rem rfl rfl (by omega) (by omega) | exact R.remT rfl rfl (by omega)) rfl rfl rfl ?_
                  refine Opz.val (R.assign rfl) rfl rfl rfl ?_
                  refine Opz.nil ?_
                  refine seqQ.normal ?_
                  refine Cd.seq ?_
                  obtain ⟨kk, hkk⟩ : ∃ kk : Nat, (kk : Int) = bit % (8 * ((p.length + 4 : Nat) : Int)) := ⟨(bit % (8 * ((p.length + 4 : Nat) : Int))).toNat, Int.toNat_of_nonneg (Int.emod_nonneg _ (by omega))⟩
                  have hkl : kk < 8 * (p.length + 4) := by have := Int.emod_lt_of_pos bit (show (0 : Int) < 8 * ((p.length + 4 : Nat) : Int) by omega); omega
                  rw [← hkk]
                  refine Cd.region ?_
                  refine Opz.val (R.move rfl) rfl rfl rfl ?_
                  refine Opz.val (R.move rfl) rfl rfl rfl ?_
                  refine Opz.val (by first | exact R.quo rfl rfl (by omega) (by omega) (by first | exact ⟨by simp only [loK]; omega, by simp only [hiK]; omega⟩ | exact wr_inR rfl _) | exact R.quoT rfl rfl (by omega)) rfl rfl rfl ?_
                  refine Opz.val (by first | exact R.ixA rfl rfl Try.underlying27 Try.typeInfo5 ⟨by omega, by omega⟩ rfl | exact R.ixO rfl (by assumption) rfl Try.underlying27 Try.typeInfo5 ⟨by omega, by omega⟩ rfl) rfl rfl rfl ?_
                  obtain ⟨x42, hx42⟩ : ∃ x, (sealB p)[kk / 8]? = some x := ⟨(sealB p)[kk / 8]'(by omega), List.getElem?_eq_getElem _⟩
                  have h8 := u8_lt x42
                  have hx42' : (bytesV (sealB p) ++ sp18)[kk / 8]? = some (.int .u8 x42.toNat) := by rw [List.getElem?_append_left (by rw [bytesV_len]; omega), bytesV_get, hx42]; rfl
                  have hne : (sealB p)[kk / 8]? ≠ some (flip x42 (kk % 8)) := by rw [hx42]; exact fun h => flip_ne (Nat.mod_lt _ (by decide)) (Option.some.inj h)
                  have hka : (⟨g18, 0, none⟩ : Addr).add (((kk : Int) / 8).toNat * 1) = ⟨g18, kk / 8, none⟩ := by rw [add_blk]; simp
                  refine Opz.val (by exact R.load rfl Try.underlying5 rfl (fun w hs => (congrArg w.cell? hka).trans (cellL (by repeat (first | exact List.Mem.head _ | apply List.Mem.tail)) hx42' w hs))) rfl rfl rfl ?_
                  refine Opz.val (R.move rfl) rfl rfl rfl ?_
                  refine Opz.val (by first | exact R.rem rfl rfl (by omega) (by omega) | exact R.remT rfl rfl (by omega)) rfl rfl rfl ?_
                  refine Opz.val (by first | exact R.conv rfl Try.underlying3 Try.underlying39 (by first | exact ⟨by simp only [loK]; omega, by simp only [hiK]; omega⟩ | exact wr_inR rfl _) | exact R.convW rfl Try.underlying3 Try.underlying39) rfl rfl rfl ?_
                  refine Opz.val (by exact R.shl rfl rfl (by omega)) rfl rfl rfl ?_
                  refine Opz.val (by exact R.xor rfl rfl (by first | exact ⟨by omega, by simp only [hiK]; omega⟩ | exact wr_uns rfl _) (by first | exact ⟨by omega, by simp only [hiK]; omega⟩ | exact wr_uns rfl _)) rfl rfl rfl ?_
                  rw [show ((kk : Int) % 8) = ((kk % 8 : Nat) : Int) from by omega, flip_val (Nat.mod_lt _ (by decide))]
                  refine Opz.val (by first | exact R.ixA rfl rfl Try.underlying27 Try.typeInfo5 ⟨by omega, by omega⟩ rfl | exact R.ixO rfl (by assumption) rfl Try.underlying27 Try.typeInfo5 ⟨by omega, by omega⟩ rfl) rfl rfl rfl ?_
                  refine Opz.opU (by exact W.storeAt rfl hka rfl rfl rfl Try.typeInfo5 rfl (by repeat (first | exact Upd.head | apply Upd.tail)) (by simp [bytesV_len]; omega)) rfl rfl ?_
                  rintro _ _ _ ⟨rfl, rfl, rfl⟩
                  refine Opz.nil ?_
                  refine seqQ.normal ?_
                  refine Cd.seq ?_
                  rw [List.set_append_left _ _ (by rw [bytesV_len]; omega), bytesV_set]
                  refine Cd.region ?_
                  refine Opz.val (R.move rfl) rfl rfl rfl ?_
                  refine Opz.op (by exact W.call rfl rfl Try.call30 (Look_spec (L0 := [.blk g18 5 (bytesV ((sealB p).set (kk / 8) (flip x42 (kk % 8))) ++ sp18)]) ((sealB p).set (kk / 8) (flip x42 (kk % 8))) (RdC.blkApp List.mem_cons_self) (by rw [List.length_set, hsl]) (Nat.le_refl _) (by omega)) rfl (Take.cons (by repeat (first | exact Rem.head | apply Rem.tail | exact Rem.mid)) Take.nil)) rfl rfl rfl ?_
                  rintro v50 I50 _ ⟨hI50, M50, hp50, rfl⟩
                  obtain ⟨b50, A50, c50, rfl, rfl, hb50, hc50⟩ := hp50
                  rw [open_bent (by omega) (by omega) hne] at hb50 hc50
                  rw [open_bent (by omega) (by omega) hne]
                  have hle := hle.trans hI50
                  refine Opz.val (R.assign rfl) rfl rfl rfl ?_
                  refine Opz.nil ?_
                  refine seqQ.normal ?_
                  refine Cd.seq ?_
                  refine Cd.region ?_
                  refine Opz.val (R.move rfl) rfl rfl rfl ?_
                  refine Opz.op (by exact W.call rfl rfl Try.call36 (EBytes_spec (L0 := []) [] rfl (Rd.cells hb50) hc50) rfl (Take.cons (by repeat (first | exact Rem.head | apply Rem.tail | exact Rem.mid)) Take.nil)) rfl rfl rfl ?_
                  rintro v52 I52 _ ⟨hI52, M52, hp52, rfl⟩
                  obtain ⟨A152, c152, A252, c252, rfl, rfl, hb52, hcb52, hr52, hc52⟩ := hp52
                  rw [show bytesB [] 2 = ([], [], 2) from rfl]
                  have hle := hle.trans hI52
                  refine Opz.val (R.len rfl rfl Try.underlying27) rfl rfl rfl ?_
                  refine Opz.val (R.eql rfl rfl) rfl rfl rfl ?_
                  refine Opz.val (R.move rfl) rfl rfl rfl ?_
                  first | refine Opz.guardD 55 rfl (fun hq5 => ?_) (fun hq5 => ?_) | refine Opz.guard 55 rfl (fun hq5 => ?_) (fun hq5 => ?_)
                  ·
                    -- g55T
                    try contradiction
                    all_goals
                      refine Opz.val (R.move rfl) rfl rfl rfl ?_
                      refine Opz.op (by exact W.call rfl rfl Try.call37 EEnd_spec rfl (Take.cons (by repeat (first | exact Rem.head | apply Rem.tail | exact Rem.mid)) Take.nil)) rfl rfl rfl ?_
                      rintro v57 I57 _ ⟨hI57, M57, hp57, rfl⟩
                      obtain ⟨rfl, rfl, rfl⟩ := hp57
                      refine Opz.val (R.eql rfl rfl) rfl rfl rfl ?_
                      refine Opz.val (R.pick rfl rfl) rfl rfl rfl ?_
                      refine Opz.val (R.assign rfl) rfl rfl rfl ?_
                      refine Opz.nil ?_
                      refine seqQ.normal ?_
                      refine Cd.ret ?_
                      -- path c1T g23F g27F c2F g55T
                      refine fin.ret (L' := []) (ResOK.tmp rfl ResOK.nil) (by first | exact hle | exact Imm.le_refl _) ?_ ?_
                      · repeat (first | exact Have.refl | (refine Have.cons (by repeat (first | exact Rem.head | apply Rem.tail | exact Rem.mid)) ?_) | refine Have.skip ?_ | refine Have.app ?_)
                      ·
                        exact ⟨(bool_congr (by simp)).symm, rfl⟩
                  ·
                    -- g55F
                    exact absurd hq5 (by decide)
  ·
    -- c1F
    try contradiction
    all_goals
      obtain ⟨q, hq⟩ : ∃ q : List UInt8, q = bs := ⟨_, rfl⟩
      have hql : q.length = bs.length := by rw [hq]
      have hqr : Rd eByte I A q := by rw [hq]; exact hr
      have hq5 : q.length ≤ 3000 := by omega
      refine Cd.skip ?_
      refine seqQ.normal ?_
      refine Cd.seq ?_
      first | rw [show Int.toNat 3000 = q.length from by rw [hql]; rfl] | rw [show bs.length = q.length from hql.symm]
      refine Cd.region ?_
      refine Opz.op (by exact W.call rfl rfl Try.call20 (Blank_spec) rfl Take.nil) rfl rfl rfl ?_
      rintro v15 I15 _ ⟨hI15, M15, hp15, rfl⟩
      obtain ⟨b15, rfl, rfl, rfl⟩ := hp15
      refine Opz.val (R.move rfl) rfl rfl rfl ?_
      refine Opz.op (by exact W.call rfl rfl Try.call26 (PBytes_spec (b := b15) (wide := false) [] q (hqr.mono hle) (by simp; omega)) rfl (Take.cons (by repeat (first | exact Rem.head | apply Rem.tail | exact Rem.mid)) (Take.cons (by repeat (first | exact Rem.head | apply Rem.tail | exact Rem.mid)) Take.nil))) rfl rfl rfl ?_
      rintro v17 I17 _ ⟨hI17, M17, hp17, rfl⟩
      obtain ⟨A17, c17, rfl, rfl, rfl⟩ := hp17
      rw [show (false || decide ((4294967295 : Int) < (q.length : Int))) = false from by simp; omega, List.nil_append]
      obtain ⟨p, hp⟩ : ∃ p, p = leB (q.length : Nat) 4 ++ q := ⟨_, rfl⟩
      have hpl : p.length = 4 + q.length := by rw [hp, List.length_append, leB_len]
      rw [← hp]
      rw [show ([] : List UInt8).length + 4 + q.length = p.length from by rw [hpl]; simp]
      refine Opz.op (by exact W.call rfl rfl Try.call28 (PSealM_spec (b := b15) p rfl (by omega)) rfl (Take.cons (by repeat (first | exact Rem.head | apply Rem.tail | exact Rem.mid)) (Take.cons (by repeat (first | exact Rem.head | apply Rem.tail | exact Rem.mid)) Take.nil))) rfl rfl rfl ?_
      rintro v18 I18 _ ⟨hI18, M18, hp18, rfl⟩
      obtain ⟨g18, sp18, rfl, rfl, rfl⟩ := hp18
      refine Opz.val (R.move rfl) rfl rfl rfl ?_
      refine Opz.val (R.ext rfl rfl) rfl rfl rfl ?_
      refine Opz.val (R.ext rfl rfl) rfl rfl rfl ?_
      refine Opz.val (R.assign rfl) rfl rfl rfl ?_
      refine Opz.val (R.assign rfl) rfl rfl rfl ?_
      refine Opz.nil ?_
      refine seqQ.normal ?_
      refine Cd.seq ?_
      refine Cd.seq ?_
      refine Cd.region ?_
      refine Opz.op (by exact W.call rfl rfl Try.call21 awake_spec rfl Take.nil) rfl rfl rfl ?_
      rintro v21 I21 _ ⟨hI21, M21, hp21, rfl⟩
      obtain ⟨rfl, rfl⟩ := hp21
      have hsl := sealB_len p
      have hle := hle.trans hI21
      refine Opz.val (R.not rfl) rfl rfl rfl ?_
      refine Opz.val (R.move rfl) rfl rfl rfl ?_
      first | refine Opz.guardD 23 rfl (fun hq6 => ?_) (fun hq6 => ?_) | refine Opz.guard 23 rfl (fun hq6 => ?_) (fun hq6 => ?_)
      ·
        -- g23T
        exact absurd hq6 (by decide)
      ·
        -- g23F
        try contradiction
        all_goals
          refine Opz.val (R.move rfl) rfl rfl rfl ?_
          refine Opz.val (R.neq rfl rfl) rfl rfl rfl ?_
          refine Opz.val (R.pick rfl rfl) rfl rfl rfl ?_
          refine Opz.val (R.move rfl) rfl rfl rfl ?_
          first | refine Opz.guardD 27 rfl (fun hq7 => ?_) (fun hq7 => ?_) | refine Opz.guard 27 rfl (fun hq7 => ?_) (fun hq7 => ?_)
          ·
            -- g27T
            exact absurd hq7 (by simp)
          ·
            -- g27F
            try contradiction
            all_goals
              refine Opz.val (R.move rfl) rfl rfl rfl ?_
              refine Opz.val (R.len rfl rfl Try.underlying27) rfl rfl rfl ?_
              refine Opz.val (R.eql rfl rfl) rfl rfl rfl ?_
              refine Opz.val (R.pick rfl rfl) rfl rfl rfl ?_
              refine Opz.nil ?_
              refine seqQ.normal ?_
              first | refine Cd.condD rfl (fun hq8 => ?_) (fun hq8 => ?_) | refine Cd.cond rfl (fun hq8 => ?_) (fun hq8 => ?_)
              ·
                -- c2T
                exfalso; revert hq8; simp; try omega
              ·
                -- c2F
                try contradiction
                all_goals
                  refine Cd.skip ?_
                  refine seqQ.normal ?_
                  refine Cd.seq ?_
                  refine Cd.region ?_
                  refine Opz.val (R.move rfl) rfl rfl rfl ?_
                  refine Opz.val (by first | exact R.conv rfl Try.underlying42 Try.underlying3 (by first | exact ⟨by simp only [loK]; omega, by simp only [hiK]; omega⟩ | exact wr_inR rfl _) | exact R.convW rfl Try.underlying42 Try.underlying3) rfl rfl rfl ?_
                  refine Opz.val (R.move rfl) rfl rfl rfl ?_
                  refine Opz.val (R.len rfl rfl Try.underlying27) rfl rfl rfl ?_
                  refine Opz.val (by exact R.mul rfl rfl (by first | exact ⟨by simp only [loK]; omega, by simp only [hiK]; omega⟩ | exact wr_inR rfl _)) rfl rfl rfl ?_
                  refine Opz.val (by first | exact R.rem rfl rfl (by omega) (by omega) | exact R.remT rfl rfl (by omega)) rfl rfl rfl ?_
                  refine Opz.val (R.assign rfl) rfl rfl rfl ?_
                  refine Opz.nil ?_
                  refine seqQ.normal ?_
                  refine Cd.seq ?_
                  obtain ⟨kk, hkk⟩ : ∃ kk : Nat, (kk : Int) = bit % (8 * ((p.length + 4 : Nat) : Int)) := ⟨(bit % (8 * ((p.length + 4 : Nat) : Int))).toNat, Int.toNat_of_nonneg (Int.emod_nonneg _ (by omega))⟩
                  have hkl : kk < 8 * (p.length + 4) := by have := Int.emod_lt_of_pos bit (show (0 : Int) < 8 * ((p.length + 4 : Nat) : Int) by omega); omega
                  rw [← hkk]
                  refine Cd.region ?_
                  refine Opz.val (R.move rfl) rfl rfl rfl ?_
                  refine Opz.val (R.move rfl) rfl rfl rfl ?_
                  refine Opz.val (by first | exact R.quo rfl rfl (by omega) (by omega) (by first | exact ⟨by simp only [loK]; omega, by simp only [hiK]; omega⟩ | exact wr_inR rfl _) | exact R.quoT rfl rfl (by omega)) rfl rfl rfl ?_
                  refine Opz.val (by first | exact R.ixA rfl rfl Try.underlying27 Try.typeInfo5 ⟨by omega, by omega⟩ rfl | exact R.ixO rfl (by assumption) rfl Try.underlying27 Try.typeInfo5 ⟨by omega, by omega⟩ rfl) rfl rfl rfl ?_
                  obtain ⟨x42, hx42⟩ : ∃ x, (sealB p)[kk / 8]? = some x := ⟨(sealB p)[kk / 8]'(by omega), List.getElem?_eq_getElem _⟩
                  have h8 := u8_lt x42
                  have hx42' : (bytesV (sealB p) ++ sp18)[kk / 8]? = some (.int .u8 x42.toNat) := by rw [List.getElem?_append_left (by rw [bytesV_len]; omega), bytesV_get, hx42]; rfl
                  have hne : (sealB p)[kk / 8]? ≠ some (flip x42 (kk % 8)) := by rw [hx42]; exact fun h => flip_ne (Nat.mod_lt _ (by decide)) (Option.some.inj h)
                  have hka : (⟨g18, 0, none⟩ : Addr).add (((kk : Int) / 8).toNat * 1) = ⟨g18, kk / 8, none⟩ := by rw [add_blk]; simp
                  refine Opz.val (by exact R.load rfl Try.underlying5 rfl (fun w hs => (congrArg w.cell? hka).trans (cellL (by repeat (first | exact List.Mem.head _ | apply List.Mem.tail)) hx42' w hs))) rfl rfl rfl ?_
                  refine Opz.val (R.move rfl) rfl rfl rfl ?_
                  refine Opz.val (by first | exact R.rem rfl rfl (by omega) (by omega) | exact R.remT rfl rfl (by omega)) rfl rfl rfl ?_
                  refine Opz.val (by first | exact R.conv rfl Try.underlying3 Try.underlying39 (by first | exact ⟨by simp only [loK]; omega, by simp only [hiK]; omega⟩ | exact wr_inR rfl _) | exact R.convW rfl Try.underlying3 Try.underlying39) rfl rfl rfl ?_
                  refine Opz.val (by exact R.shl rfl rfl (by omega)) rfl rfl rfl ?_
                  refine Opz.val (by exact R.xor rfl rfl (by first | exact ⟨by omega, by simp only [hiK]; omega⟩ | exact wr_uns rfl _) (by first | exact ⟨by omega, by simp only [hiK]; omega⟩ | exact wr_uns rfl _)) rfl rfl rfl ?_
                  rw [show ((kk : Int) % 8) = ((kk % 8 : Nat) : Int) from by omega, flip_val (Nat.mod_lt _ (by decide))]
                  refine Opz.val (by first | exact R.ixA rfl rfl Try.underlying27 Try.typeInfo5 ⟨by omega, by omega⟩ rfl | exact R.ixO rfl (by assumption) rfl Try.underlying27 Try.typeInfo5 ⟨by omega, by omega⟩ rfl) rfl rfl rfl ?_
                  refine Opz.opU (by exact W.storeAt rfl hka rfl rfl rfl Try.typeInfo5 rfl (by repeat (first | exact Upd.head | apply Upd.tail)) (by simp [bytesV_len]; omega)) rfl rfl ?_
                  rintro _ _ _ ⟨rfl, rfl, rfl⟩
                  refine Opz.nil ?_
                  refine seqQ.normal ?_
                  refine Cd.seq ?_
                  rw [List.set_append_left _ _ (by rw [bytesV_len]; omega), bytesV_set]
                  refine Cd.region ?_
                  refine Opz.val (R.move rfl) rfl rfl rfl ?_
                  refine Opz.op (by exact W.call rfl rfl Try.call30 (Look_spec (L0 := [.blk g18 5 (bytesV ((sealB p).set (kk / 8) (flip x42 (kk % 8))) ++ sp18)]) ((sealB p).set (kk / 8) (flip x42 (kk % 8))) (RdC.blkApp List.mem_cons_self) (by rw [List.length_set, hsl]) (Nat.le_refl _) (by omega)) rfl (Take.cons (by repeat (first | exact Rem.head | apply Rem.tail | exact Rem.mid)) Take.nil)) rfl rfl rfl ?_
                  rintro v50 I50 _ ⟨hI50, M50, hp50, rfl⟩
                  obtain ⟨b50, A50, c50, rfl, rfl, hb50, hc50⟩ := hp50
                  rw [open_bent (by omega) (by omega) hne] at hb50 hc50
                  rw [open_bent (by omega) (by omega) hne]
                  have hle := hle.trans hI50
                  refine Opz.val (R.assign rfl) rfl rfl rfl ?_
                  refine Opz.nil ?_
                  refine seqQ.normal ?_
                  refine Cd.seq ?_
                  refine Cd.region ?_
                  refine Opz.val (R.move rfl) rfl rfl rfl ?_
                  refine Opz.op (by exact W.call rfl rfl Try.call36 (EBytes_spec (L0 := []) [] rfl (Rd.cells hb50) hc50) rfl (Take.cons (by repeat (first | exact Rem.head | apply Rem.tail | exact Rem.mid)) Take.nil)) rfl rfl rfl ?_
                  rintro v52 I52 _ ⟨hI52, M52, hp52, rfl⟩
                  obtain ⟨A152, c152, A252, c252, rfl, rfl, hb52, hcb52, hr52, hc52⟩ := hp52
                  rw [show bytesB [] 2 = ([], [], 2) from rfl]
                  have hle := hle.trans hI52
                  refine Opz.val (R.len rfl rfl Try.underlying27) rfl rfl rfl ?_
                  refine Opz.val (R.eql rfl rfl) rfl rfl rfl ?_
                  refine Opz.val (R.move rfl) rfl rfl rfl ?_
                  first | refine Opz.guardD 55 rfl (fun hq9 => ?_) (fun hq9 => ?_) | refine Opz.guard 55 rfl (fun hq9 => ?_) (fun hq9 => ?_)
                  ·
                    -- g55T
                    try contradiction
                    all_goals
                      refine Opz.val (R.move rfl) rfl rfl rfl ?_
                      refine Opz.op (by exact W.call rfl rfl Try.call37 EEnd_spec rfl (Take.cons (by repeat (first | exact Rem.head | apply Rem.tail | exact Rem.mid)) Take.nil)) rfl rfl rfl ?_
                      rintro v57 I57 _ ⟨hI57, M57, hp57, rfl⟩
                      obtain ⟨rfl, rfl, rfl⟩ := hp57
                      refine Opz.val (R.eql rfl rfl) rfl rfl rfl ?_
                      refine Opz.val (R.pick rfl rfl) rfl rfl rfl ?_
                      refine Opz.val (R.assign rfl) rfl rfl rfl ?_
                      refine Opz.nil ?_
                      refine seqQ.normal ?_
                      refine Cd.ret ?_
                      -- path c1F g23F g27F c2F g55T
                      refine fin.ret (L' := []) (ResOK.tmp rfl ResOK.nil) (by first | exact hle | exact Imm.le_refl _) ?_ ?_
                      · repeat (first | exact Have.refl | (refine Have.cons (by repeat (first | exact Rem.head | apply Rem.tail | exact Rem.mid)) ?_) | refine Have.skip ?_ | refine Have.app ?_)
                      ·
                        exact ⟨(bool_congr (by simp)).symm, rfl⟩
                  ·
                    -- g55F
                    exact absurd hq9 (by decide)

end Go.Proofs.Ytdecipfdbkpigaa
