/-
  No cell of these rows narrows 'for every input' (looked for: loops, veiled, ifaces, maps, wideKeys, modest, calm, conditions, laid).
  DERIVED. THE GIVEN ROWS OF THIS SEAT. 2 by the template 'for every input the law returns true; each argument reads behind the call as it read before'; 0 by the template 'total and deterministic' (their statements: YtofkdfodehfpdaaGreatTotals.lean).
  GIVEN WITH THE SEED: the statements are not yours to turn. If you find one false, say at which input.
  Laid BY PROGRAM, IN A SANDBOX (cutbox-rows.mjs): the forced cells as the released guide's own fill.sh prints them over the translation 74b6891951415a60… (all of the seat's roots in one cut). By AI agents, Wed Nov 11 2026. No macro, syntax, notation, axiom, sorry.
-/
import Derived.Test.YtofkdfodehfpdaaGreatChecked
import GoSem.Claim
import GoSem.ClaimJoined
import GoSem.ClaimMapViews
import Derived.JoinedTies
import Derived.KernelRfl
namespace Go.Proofs.YtofkdfodehfpdaaGreat
/- THE CELL 'sum', in the pinned program and in every row, IS THE sha256 OF THE DUMP (.gsa) THAT YtofkdfodehfpdaaGreatProg.lean LOADS. Nothing in Lean hashes anything: it is a label: what it is worth is what the hold of that sum in a sandbox is worth. -/
noncomputable def Tryz.pinned : Pinned := { name := "ytofkdfodehfpdaagreat", sum := "74b6891951415a60edba364deb1cce5f2d2c957ac066fddb33573358c3115f41", checked := Tryz.checked }
namespace Rows
def none {H : Type} : Left H := { results := [], args := [] }

/-- 'offertorylaw21.MendNumbers': WHATEVER THE INPUT: true; the input reads as it did. -/
def mendNumbersSpec : ChangeSpec := { name := "mendNumbers", fn := fun _ => fun
  | [d1, d2] => { results := [.lit (.bool true)], args := [d1, d2] }
  | _ => none }
def mendNumbersRow : OpenClaim := { program := "ytofkdfodehfpdaagreat", sum := "74b6891951415a60edba364deb1cce5f2d2c957ac066fddb33573358c3115f41", func := "offertory/offertorylaw21.MendNumbers", spec := "mendNumbers", unfollowed := true, recurses := true, apart := false }
def MendNumbersSaid : Prop := mendNumbersRow.holds Tryz.pinned (OpenSpec.ofChange mendNumbersSpec)

/-- ITS FALSE NEIGHBOUR: 'it returns false'. Refute it at one input. -/
def mendNumbersWrong : ChangeSpec := { name := "mendNumbers", fn := fun _ => fun
  | [d1, d2] => { results := [.lit (.bool false)], args := [d1, d2] }
  | _ => none }
def MendNumbersWrongFalsely : Prop := mendNumbersRow.holds Tryz.pinned (OpenSpec.ofChange mendNumbersWrong)

/-- 'offertorylaw21.MendRuns': WHATEVER THE INPUT: true; the input reads as it did. -/
def mendRunsSpec : ChangeSpec := { name := "mendRuns", fn := fun _ => fun
  | [d1, d2, d3, d4, d5, d6] => { results := [.lit (.bool true)], args := [d1, d2, d3, d4, d5, d6] }
  | _ => none }
def mendRunsRow : OpenClaim := { program := "ytofkdfodehfpdaagreat", sum := "74b6891951415a60edba364deb1cce5f2d2c957ac066fddb33573358c3115f41", func := "offertory/offertorylaw21.MendRuns", spec := "mendRuns", unfollowed := true, recurses := true, apart := false }
def MendRunsSaid : Prop := mendRunsRow.holds Tryz.pinned (OpenSpec.ofChange mendRunsSpec)

/-- ITS FALSE NEIGHBOUR: 'it returns false'. Refute it at one input. -/
def mendRunsWrong : ChangeSpec := { name := "mendRuns", fn := fun _ => fun
  | [d1, d2, d3, d4, d5, d6] => { results := [.lit (.bool false)], args := [d1, d2, d3, d4, d5, d6] }
  | _ => none }
def MendRunsWrongFalsely : Prop := mendRunsRow.holds Tryz.pinned (OpenSpec.ofChange mendRunsWrong)

/- THE SECOND FORM. 'bulk': how many values and letters a reading holds, each counted each time it is reached (what is shared counts as often as it is met; a slice's spare places count too). A statement '..UptoSaid' is the law's where the arguments, and the package variables that the reading takes, are together of bulk at most 1048576: NARROWER than '..Said'. Prove '..Said' where nothing that the law and all that it calls make is longer than what came in: it says more and counts as full. Else prove '..UptoSaid'. A law counts once. -/
mutual
def uptoBulk {H : Type} : DataW H → Nat
  | .lit (.string bytes) => bytes.length + 1
  | .lit _ => 1
  | .nil => 1
  | .ptr d => uptoBulk d + 1
  | .slice elems spare => uptoBulkAll elems + uptoBulkAll spare + 1
  | .agg parts => uptoBulkAll parts + 1
  | .iface _ d => uptoBulk d + 1
  | .map entries => uptoBulkEntries entries + 1
  | .held _ => 1
def uptoBulkAll {H : Type} : List (DataW H) → Nat
  | [] => 0
  | d :: r => uptoBulk d + uptoBulkAll r
def uptoBulkEntries {H : Type} : List (Lit × DataW H) → Nat
  | [] => 0
  | x :: r => uptoBulkEntry x + uptoBulkEntries r
def uptoBulkEntry {H : Type} : Lit × DataW H → Nat
  | (.string bytes, d) => bytes.length + uptoBulk d + 1
  | (_, d) => uptoBulk d + 1
 end
def uptoSmall : (H : Type) → List (DataW H) → Bool := fun _ ds => decide (uptoBulkAll ds ≤ 1048576)
def OpenSpec.upto (s : _root_.Go.ChangeSpec) : _root_.Go.OpenSpec := { _root_.Go.OpenSpec.ofChange s with cond := some uptoSmall }

/-- 'offertorylaw21.MendNumbers', WHERE WHAT IT READS IS OF BULK AT MOST 1048576: true; the input reads as it did. -/
def mendNumbersUptoRow : OpenClaim := { program := "ytofkdfodehfpdaagreat", sum := "74b6891951415a60edba364deb1cce5f2d2c957ac066fddb33573358c3115f41", func := "offertory/offertorylaw21.MendNumbers", spec := "mendNumbers", unfollowed := true, recurses := true, apart := false, narrowed := true }
def MendNumbersUptoSaid : Prop := mendNumbersUptoRow.holds Tryz.pinned (OpenSpec.upto mendNumbersSpec)

/-- 'offertorylaw21.MendRuns', WHERE WHAT IT READS IS OF BULK AT MOST 1048576: true; the input reads as it did. -/
def mendRunsUptoRow : OpenClaim := { program := "ytofkdfodehfpdaagreat", sum := "74b6891951415a60edba364deb1cce5f2d2c957ac066fddb33573358c3115f41", func := "offertory/offertorylaw21.MendRuns", spec := "mendRuns", unfollowed := true, recurses := true, apart := false, narrowed := true }
def MendRunsUptoSaid : Prop := mendRunsUptoRow.holds Tryz.pinned (OpenSpec.upto mendRunsSpec)

end Rows
end Go.Proofs.YtofkdfodehfpdaaGreat
